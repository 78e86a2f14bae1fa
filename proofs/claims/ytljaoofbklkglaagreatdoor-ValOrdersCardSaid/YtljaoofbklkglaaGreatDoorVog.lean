/-
  Proved here: plain functions that do what the program's functions do, each with its proof.
-/
import Derived.Test.YtljaoofbklkglaaGreatDoorVoe
namespace Go.Proofs.YtljaoofbklkglaaGreatDoor.Vo
open Go.EY Go.EX Go.SX Go.RowKit
open Tryz Vof
noncomputable section
def g157_k3 (ro : List HT) (y0 y4 y12 : AV) (T11 : HT) (n11 : Nat) : R :=
 gtK prog 3 (.tmp 160) (.const (.int .i64 (.ofNat 0))) 1570104 y4 (.lit (.int .i64 (.ofNat 0))) fun x46 =>
 condK 1570105 x46
 (
  bin0 prog .add 60 (.const (.int .u32 (.ofNat 48))) (.tmp 163) 1570108 (.lit (.int .u32 (.ofNat 48))) y12 fun x47 =>
  optK 1570109 (convV prog 60 5 x47) fun x48 =>
  iaK 1570110 y0 (.lit (.int .i64 (.ofNat 0))) 1 fun x49 =>
  stK 1570111 T11 x49 x48 fun T12 =>
  .ok (.val (.tup [])) T12 n11
 )
 (
  .ok (.val (.tup [])) T11 n11
 )
def g157_k2 (ro : List HT) (y0 y4 y12 : AV) (T10 : HT) (n10 : Nat) : R :=
 geK prog 3 (.tmp 138) (.const (.int .i64 (.ofNat 2))) 1570113 y4 (.lit (.int .i64 (.ofNat 2))) fun x50 =>
 condK 1570114 x50
 (
  bin0 prog .rem 60 (.tmp 140) (.const (.int .u32 (.ofNat 100))) 1570116 y12 (.lit (.int .u32 (.ofNat 100))) fun x51 =>
  bin0 prog .mul 60 (.tmp 141) (.const (.int .u32 (.ofNat 2))) 1570117 x51 (.lit (.int .u32 (.ofNat 2))) fun x52 =>
  bin0 prog .quo 60 (.tmp 143) (.const (.int .u32 (.ofNat 100))) 1570120 y12 (.lit (.int .u32 (.ofNat 100))) fun x53 =>
  subK prog 3 (.tmp 146) (.const (.int .i64 (.ofNat 1))) 1570124 y4 (.lit (.int .i64 (.ofNat 1))) fun x54 =>
  subK prog 3 (.tmp 149) (.const (.int .i64 (.ofNat 2))) 1570127 y4 (.lit (.int .i64 (.ofNat 2))) fun x55 =>
  bin0 prog .add 60 (.tmp 151) (.const (.int .u32 (.ofNat 1))) 1570129 x52 (.lit (.int .u32 (.ofNat 1))) fun x56 =>
  ixK 1570130 (.lit (.string ⟨⟨[48, 48, 48, 49, 48, 50, 48, 51, 48, 52, 48, 53, 48, 54, 48, 55, 48, 56, 48, 57, 49, 48, 49, 49, 49, 50, 49, 51, 49, 52, 49, 53, 49, 54, 49, 55, 49, 56, 49, 57, 50, 48, 50, 49, 50, 50, 50, 51, 50, 52, 50, 53, 50, 54, 50, 55, 50, 56, 50, 57, 51, 48, 51, 49, 51, 50, 51, 51, 51, 52, 51, 53, 51, 54, 51, 55, 51, 56, 51, 57, 52, 48, 52, 49, 52, 50, 52, 51, 52, 52, 52, 53, 52, 54, 52, 55, 52, 56, 52, 57, 53, 48, 53, 49, 53, 50, 53, 51, 53, 52, 53, 53, 53, 54, 53, 55, 53, 56, 53, 57, 54, 48, 54, 49, 54, 50, 54, 51, 54, 52, 54, 53, 54, 54, 54, 55, 54, 56, 54, 57, 55, 48, 55, 49, 55, 50, 55, 51, 55, 52, 55, 53, 55, 54, 55, 55, 55, 56, 55, 57, 56, 48, 56, 49, 56, 50, 56, 51, 56, 52, 56, 53, 56, 54, 56, 55, 56, 56, 56, 57, 57, 48, 57, 49, 57, 50, 57, 51, 57, 52, 57, 53, 57, 54, 57, 55, 57, 56, 57, 57]⟩⟩)) x56 fun x57 =>
  ixK 1570132 (.lit (.string ⟨⟨[48, 48, 48, 49, 48, 50, 48, 51, 48, 52, 48, 53, 48, 54, 48, 55, 48, 56, 48, 57, 49, 48, 49, 49, 49, 50, 49, 51, 49, 52, 49, 53, 49, 54, 49, 55, 49, 56, 49, 57, 50, 48, 50, 49, 50, 50, 50, 51, 50, 52, 50, 53, 50, 54, 50, 55, 50, 56, 50, 57, 51, 48, 51, 49, 51, 50, 51, 51, 51, 52, 51, 53, 51, 54, 51, 55, 51, 56, 51, 57, 52, 48, 52, 49, 52, 50, 52, 51, 52, 52, 52, 53, 52, 54, 52, 55, 52, 56, 52, 57, 53, 48, 53, 49, 53, 50, 53, 51, 53, 52, 53, 53, 53, 54, 53, 55, 53, 56, 53, 57, 54, 48, 54, 49, 54, 50, 54, 51, 54, 52, 54, 53, 54, 54, 54, 55, 54, 56, 54, 57, 55, 48, 55, 49, 55, 50, 55, 51, 55, 52, 55, 53, 55, 54, 55, 55, 55, 56, 55, 57, 56, 48, 56, 49, 56, 50, 56, 51, 56, 52, 56, 53, 56, 54, 56, 55, 56, 56, 56, 57, 57, 48, 57, 49, 57, 50, 57, 51, 57, 52, 57, 53, 57, 54, 57, 55, 57, 56, 57, 57]⟩⟩)) x52 fun x58 =>
  iaK 1570133 y0 x54 1 fun x59 =>
  stK 1570134 T10 x59 x57 fun T13 =>
  iaK 1570135 y0 x55 1 fun x60 =>
  stK 1570136 T13 x60 x58 fun T14 =>
  subK prog 3 (.tmp 158) (.const (.int .i64 (.ofNat 2))) 1570138 y4 (.lit (.int .i64 (.ofNat 2))) fun x61 =>
  g157_k3 ro y0 x61 x53 T14 n10
 )
 (
  g157_k3 ro y0 y4 y12 T10 n10
 )
def g157_b1 (ro : List HT) (lp1 : AV → AV → AV → HT → Nat → R) (y0 y1 y4 : AV) (T1 : HT) (n1 : Nat) : R :=
 geK prog 3 (.tmp 19) (.const (.int .i64 (.ofNat 8))) 1570006 y4 (.lit (.int .i64 (.ofNat 8))) fun x2 =>
 condK 1570007 x2
 (
  bin0 prog .rem 59 (.tmp 21) (.const (.int .u64 (.ofNat 100000000))) 1570009 y1 (.lit (.int .u64 (.ofNat 100000000))) fun x3 =>
  optK 1570010 (convV prog 59 60 x3) fun x4 =>
  bin0 prog .quo 59 (.tmp 24) (.const (.int .u64 (.ofNat 100000000))) 1570013 y1 (.lit (.int .u64 (.ofNat 100000000))) fun x5 =>
  bin0 prog .quo 60 (.tmp 26) (.const (.int .u32 (.ofNat 10000))) 1570016 x4 (.lit (.int .u32 (.ofNat 10000))) fun x6 =>
  bin0 prog .rem 60 (.tmp 28) (.const (.int .u32 (.ofNat 10000))) 1570018 x4 (.lit (.int .u32 (.ofNat 10000))) fun x7 =>
  bin0 prog .quo 60 (.tmp 30) (.const (.int .u32 (.ofNat 100))) 1570022 x7 (.lit (.int .u32 (.ofNat 100))) fun x8 =>
  bin0 prog .mul 60 (.tmp 31) (.const (.int .u32 (.ofNat 2))) 1570023 x8 (.lit (.int .u32 (.ofNat 2))) fun x9 =>
  bin0 prog .rem 60 (.tmp 33) (.const (.int .u32 (.ofNat 100))) 1570025 x7 (.lit (.int .u32 (.ofNat 100))) fun x10 =>
  bin0 prog .mul 60 (.tmp 34) (.const (.int .u32 (.ofNat 2))) 1570026 x10 (.lit (.int .u32 (.ofNat 2))) fun x11 =>
  bin0 prog .quo 60 (.tmp 36) (.const (.int .u32 (.ofNat 100))) 1570030 x6 (.lit (.int .u32 (.ofNat 100))) fun x12 =>
  bin0 prog .mul 60 (.tmp 37) (.const (.int .u32 (.ofNat 2))) 1570031 x12 (.lit (.int .u32 (.ofNat 2))) fun x13 =>
  bin0 prog .rem 60 (.tmp 39) (.const (.int .u32 (.ofNat 100))) 1570033 x6 (.lit (.int .u32 (.ofNat 100))) fun x14 =>
  bin0 prog .mul 60 (.tmp 40) (.const (.int .u32 (.ofNat 2))) 1570034 x14 (.lit (.int .u32 (.ofNat 2))) fun x15 =>
  subK prog 3 (.tmp 43) (.const (.int .i64 (.ofNat 1))) 1570039 y4 (.lit (.int .i64 (.ofNat 1))) fun x16 =>
  subK prog 3 (.tmp 46) (.const (.int .i64 (.ofNat 2))) 1570042 y4 (.lit (.int .i64 (.ofNat 2))) fun x17 =>
  bin0 prog .add 60 (.tmp 48) (.const (.int .u32 (.ofNat 1))) 1570044 x11 (.lit (.int .u32 (.ofNat 1))) fun x18 =>
  ixK 1570045 (.lit (.string ⟨⟨[48, 48, 48, 49, 48, 50, 48, 51, 48, 52, 48, 53, 48, 54, 48, 55, 48, 56, 48, 57, 49, 48, 49, 49, 49, 50, 49, 51, 49, 52, 49, 53, 49, 54, 49, 55, 49, 56, 49, 57, 50, 48, 50, 49, 50, 50, 50, 51, 50, 52, 50, 53, 50, 54, 50, 55, 50, 56, 50, 57, 51, 48, 51, 49, 51, 50, 51, 51, 51, 52, 51, 53, 51, 54, 51, 55, 51, 56, 51, 57, 52, 48, 52, 49, 52, 50, 52, 51, 52, 52, 52, 53, 52, 54, 52, 55, 52, 56, 52, 57, 53, 48, 53, 49, 53, 50, 53, 51, 53, 52, 53, 53, 53, 54, 53, 55, 53, 56, 53, 57, 54, 48, 54, 49, 54, 50, 54, 51, 54, 52, 54, 53, 54, 54, 54, 55, 54, 56, 54, 57, 55, 48, 55, 49, 55, 50, 55, 51, 55, 52, 55, 53, 55, 54, 55, 55, 55, 56, 55, 57, 56, 48, 56, 49, 56, 50, 56, 51, 56, 52, 56, 53, 56, 54, 56, 55, 56, 56, 56, 57, 57, 48, 57, 49, 57, 50, 57, 51, 57, 52, 57, 53, 57, 54, 57, 55, 57, 56, 57, 57]⟩⟩)) x18 fun x19 =>
  ixK 1570047 (.lit (.string ⟨⟨[48, 48, 48, 49, 48, 50, 48, 51, 48, 52, 48, 53, 48, 54, 48, 55, 48, 56, 48, 57, 49, 48, 49, 49, 49, 50, 49, 51, 49, 52, 49, 53, 49, 54, 49, 55, 49, 56, 49, 57, 50, 48, 50, 49, 50, 50, 50, 51, 50, 52, 50, 53, 50, 54, 50, 55, 50, 56, 50, 57, 51, 48, 51, 49, 51, 50, 51, 51, 51, 52, 51, 53, 51, 54, 51, 55, 51, 56, 51, 57, 52, 48, 52, 49, 52, 50, 52, 51, 52, 52, 52, 53, 52, 54, 52, 55, 52, 56, 52, 57, 53, 48, 53, 49, 53, 50, 53, 51, 53, 52, 53, 53, 53, 54, 53, 55, 53, 56, 53, 57, 54, 48, 54, 49, 54, 50, 54, 51, 54, 52, 54, 53, 54, 54, 54, 55, 54, 56, 54, 57, 55, 48, 55, 49, 55, 50, 55, 51, 55, 52, 55, 53, 55, 54, 55, 55, 55, 56, 55, 57, 56, 48, 56, 49, 56, 50, 56, 51, 56, 52, 56, 53, 56, 54, 56, 55, 56, 56, 56, 57, 57, 48, 57, 49, 57, 50, 57, 51, 57, 52, 57, 53, 57, 54, 57, 55, 57, 56, 57, 57]⟩⟩)) x11 fun x20 =>
  iaK 1570048 y0 x16 1 fun x21 =>
  stK 1570049 T1 x21 x19 fun T2 =>
  iaK 1570050 y0 x17 1 fun x22 =>
  stK 1570051 T2 x22 x20 fun T3 =>
  subK prog 3 (.tmp 56) (.const (.int .i64 (.ofNat 3))) 1570054 y4 (.lit (.int .i64 (.ofNat 3))) fun x23 =>
  subK prog 3 (.tmp 59) (.const (.int .i64 (.ofNat 4))) 1570057 y4 (.lit (.int .i64 (.ofNat 4))) fun x24 =>
  bin0 prog .add 60 (.tmp 61) (.const (.int .u32 (.ofNat 1))) 1570059 x9 (.lit (.int .u32 (.ofNat 1))) fun x25 =>
  ixK 1570060 (.lit (.string ⟨⟨[48, 48, 48, 49, 48, 50, 48, 51, 48, 52, 48, 53, 48, 54, 48, 55, 48, 56, 48, 57, 49, 48, 49, 49, 49, 50, 49, 51, 49, 52, 49, 53, 49, 54, 49, 55, 49, 56, 49, 57, 50, 48, 50, 49, 50, 50, 50, 51, 50, 52, 50, 53, 50, 54, 50, 55, 50, 56, 50, 57, 51, 48, 51, 49, 51, 50, 51, 51, 51, 52, 51, 53, 51, 54, 51, 55, 51, 56, 51, 57, 52, 48, 52, 49, 52, 50, 52, 51, 52, 52, 52, 53, 52, 54, 52, 55, 52, 56, 52, 57, 53, 48, 53, 49, 53, 50, 53, 51, 53, 52, 53, 53, 53, 54, 53, 55, 53, 56, 53, 57, 54, 48, 54, 49, 54, 50, 54, 51, 54, 52, 54, 53, 54, 54, 54, 55, 54, 56, 54, 57, 55, 48, 55, 49, 55, 50, 55, 51, 55, 52, 55, 53, 55, 54, 55, 55, 55, 56, 55, 57, 56, 48, 56, 49, 56, 50, 56, 51, 56, 52, 56, 53, 56, 54, 56, 55, 56, 56, 56, 57, 57, 48, 57, 49, 57, 50, 57, 51, 57, 52, 57, 53, 57, 54, 57, 55, 57, 56, 57, 57]⟩⟩)) x25 fun x26 =>
  ixK 1570062 (.lit (.string ⟨⟨[48, 48, 48, 49, 48, 50, 48, 51, 48, 52, 48, 53, 48, 54, 48, 55, 48, 56, 48, 57, 49, 48, 49, 49, 49, 50, 49, 51, 49, 52, 49, 53, 49, 54, 49, 55, 49, 56, 49, 57, 50, 48, 50, 49, 50, 50, 50, 51, 50, 52, 50, 53, 50, 54, 50, 55, 50, 56, 50, 57, 51, 48, 51, 49, 51, 50, 51, 51, 51, 52, 51, 53, 51, 54, 51, 55, 51, 56, 51, 57, 52, 48, 52, 49, 52, 50, 52, 51, 52, 52, 52, 53, 52, 54, 52, 55, 52, 56, 52, 57, 53, 48, 53, 49, 53, 50, 53, 51, 53, 52, 53, 53, 53, 54, 53, 55, 53, 56, 53, 57, 54, 48, 54, 49, 54, 50, 54, 51, 54, 52, 54, 53, 54, 54, 54, 55, 54, 56, 54, 57, 55, 48, 55, 49, 55, 50, 55, 51, 55, 52, 55, 53, 55, 54, 55, 55, 55, 56, 55, 57, 56, 48, 56, 49, 56, 50, 56, 51, 56, 52, 56, 53, 56, 54, 56, 55, 56, 56, 56, 57, 57, 48, 57, 49, 57, 50, 57, 51, 57, 52, 57, 53, 57, 54, 57, 55, 57, 56, 57, 57]⟩⟩)) x9 fun x27 =>
  iaK 1570063 y0 x23 1 fun x28 =>
  stK 1570064 T3 x28 x26 fun T4 =>
  iaK 1570065 y0 x24 1 fun x29 =>
  stK 1570066 T4 x29 x27 fun T5 =>
  subK prog 3 (.tmp 69) (.const (.int .i64 (.ofNat 5))) 1570069 y4 (.lit (.int .i64 (.ofNat 5))) fun x30 =>
  subK prog 3 (.tmp 72) (.const (.int .i64 (.ofNat 6))) 1570072 y4 (.lit (.int .i64 (.ofNat 6))) fun x31 =>
  bin0 prog .add 60 (.tmp 74) (.const (.int .u32 (.ofNat 1))) 1570074 x15 (.lit (.int .u32 (.ofNat 1))) fun x32 =>
  ixK 1570075 (.lit (.string ⟨⟨[48, 48, 48, 49, 48, 50, 48, 51, 48, 52, 48, 53, 48, 54, 48, 55, 48, 56, 48, 57, 49, 48, 49, 49, 49, 50, 49, 51, 49, 52, 49, 53, 49, 54, 49, 55, 49, 56, 49, 57, 50, 48, 50, 49, 50, 50, 50, 51, 50, 52, 50, 53, 50, 54, 50, 55, 50, 56, 50, 57, 51, 48, 51, 49, 51, 50, 51, 51, 51, 52, 51, 53, 51, 54, 51, 55, 51, 56, 51, 57, 52, 48, 52, 49, 52, 50, 52, 51, 52, 52, 52, 53, 52, 54, 52, 55, 52, 56, 52, 57, 53, 48, 53, 49, 53, 50, 53, 51, 53, 52, 53, 53, 53, 54, 53, 55, 53, 56, 53, 57, 54, 48, 54, 49, 54, 50, 54, 51, 54, 52, 54, 53, 54, 54, 54, 55, 54, 56, 54, 57, 55, 48, 55, 49, 55, 50, 55, 51, 55, 52, 55, 53, 55, 54, 55, 55, 55, 56, 55, 57, 56, 48, 56, 49, 56, 50, 56, 51, 56, 52, 56, 53, 56, 54, 56, 55, 56, 56, 56, 57, 57, 48, 57, 49, 57, 50, 57, 51, 57, 52, 57, 53, 57, 54, 57, 55, 57, 56, 57, 57]⟩⟩)) x32 fun x33 =>
  ixK 1570077 (.lit (.string ⟨⟨[48, 48, 48, 49, 48, 50, 48, 51, 48, 52, 48, 53, 48, 54, 48, 55, 48, 56, 48, 57, 49, 48, 49, 49, 49, 50, 49, 51, 49, 52, 49, 53, 49, 54, 49, 55, 49, 56, 49, 57, 50, 48, 50, 49, 50, 50, 50, 51, 50, 52, 50, 53, 50, 54, 50, 55, 50, 56, 50, 57, 51, 48, 51, 49, 51, 50, 51, 51, 51, 52, 51, 53, 51, 54, 51, 55, 51, 56, 51, 57, 52, 48, 52, 49, 52, 50, 52, 51, 52, 52, 52, 53, 52, 54, 52, 55, 52, 56, 52, 57, 53, 48, 53, 49, 53, 50, 53, 51, 53, 52, 53, 53, 53, 54, 53, 55, 53, 56, 53, 57, 54, 48, 54, 49, 54, 50, 54, 51, 54, 52, 54, 53, 54, 54, 54, 55, 54, 56, 54, 57, 55, 48, 55, 49, 55, 50, 55, 51, 55, 52, 55, 53, 55, 54, 55, 55, 55, 56, 55, 57, 56, 48, 56, 49, 56, 50, 56, 51, 56, 52, 56, 53, 56, 54, 56, 55, 56, 56, 56, 57, 57, 48, 57, 49, 57, 50, 57, 51, 57, 52, 57, 53, 57, 54, 57, 55, 57, 56, 57, 57]⟩⟩)) x15 fun x34 =>
  iaK 1570078 y0 x30 1 fun x35 =>
  stK 1570079 T5 x35 x33 fun T6 =>
  iaK 1570080 y0 x31 1 fun x36 =>
  stK 1570081 T6 x36 x34 fun T7 =>
  subK prog 3 (.tmp 82) (.const (.int .i64 (.ofNat 7))) 1570084 y4 (.lit (.int .i64 (.ofNat 7))) fun x37 =>
  subK prog 3 (.tmp 85) (.const (.int .i64 (.ofNat 8))) 1570087 y4 (.lit (.int .i64 (.ofNat 8))) fun x38 =>
  bin0 prog .add 60 (.tmp 87) (.const (.int .u32 (.ofNat 1))) 1570089 x13 (.lit (.int .u32 (.ofNat 1))) fun x39 =>
  ixK 1570090 (.lit (.string ⟨⟨[48, 48, 48, 49, 48, 50, 48, 51, 48, 52, 48, 53, 48, 54, 48, 55, 48, 56, 48, 57, 49, 48, 49, 49, 49, 50, 49, 51, 49, 52, 49, 53, 49, 54, 49, 55, 49, 56, 49, 57, 50, 48, 50, 49, 50, 50, 50, 51, 50, 52, 50, 53, 50, 54, 50, 55, 50, 56, 50, 57, 51, 48, 51, 49, 51, 50, 51, 51, 51, 52, 51, 53, 51, 54, 51, 55, 51, 56, 51, 57, 52, 48, 52, 49, 52, 50, 52, 51, 52, 52, 52, 53, 52, 54, 52, 55, 52, 56, 52, 57, 53, 48, 53, 49, 53, 50, 53, 51, 53, 52, 53, 53, 53, 54, 53, 55, 53, 56, 53, 57, 54, 48, 54, 49, 54, 50, 54, 51, 54, 52, 54, 53, 54, 54, 54, 55, 54, 56, 54, 57, 55, 48, 55, 49, 55, 50, 55, 51, 55, 52, 55, 53, 55, 54, 55, 55, 55, 56, 55, 57, 56, 48, 56, 49, 56, 50, 56, 51, 56, 52, 56, 53, 56, 54, 56, 55, 56, 56, 56, 57, 57, 48, 57, 49, 57, 50, 57, 51, 57, 52, 57, 53, 57, 54, 57, 55, 57, 56, 57, 57]⟩⟩)) x39 fun x40 =>
  ixK 1570092 (.lit (.string ⟨⟨[48, 48, 48, 49, 48, 50, 48, 51, 48, 52, 48, 53, 48, 54, 48, 55, 48, 56, 48, 57, 49, 48, 49, 49, 49, 50, 49, 51, 49, 52, 49, 53, 49, 54, 49, 55, 49, 56, 49, 57, 50, 48, 50, 49, 50, 50, 50, 51, 50, 52, 50, 53, 50, 54, 50, 55, 50, 56, 50, 57, 51, 48, 51, 49, 51, 50, 51, 51, 51, 52, 51, 53, 51, 54, 51, 55, 51, 56, 51, 57, 52, 48, 52, 49, 52, 50, 52, 51, 52, 52, 52, 53, 52, 54, 52, 55, 52, 56, 52, 57, 53, 48, 53, 49, 53, 50, 53, 51, 53, 52, 53, 53, 53, 54, 53, 55, 53, 56, 53, 57, 54, 48, 54, 49, 54, 50, 54, 51, 54, 52, 54, 53, 54, 54, 54, 55, 54, 56, 54, 57, 55, 48, 55, 49, 55, 50, 55, 51, 55, 52, 55, 53, 55, 54, 55, 55, 55, 56, 55, 57, 56, 48, 56, 49, 56, 50, 56, 51, 56, 52, 56, 53, 56, 54, 56, 55, 56, 56, 56, 57, 57, 48, 57, 49, 57, 50, 57, 51, 57, 52, 57, 53, 57, 54, 57, 55, 57, 56, 57, 57]⟩⟩)) x13 fun x41 =>
  iaK 1570093 y0 x37 1 fun x42 =>
  stK 1570094 T7 x42 x40 fun T8 =>
  iaK 1570095 y0 x38 1 fun x43 =>
  stK 1570096 T8 x43 x41 fun T9 =>
  subK prog 3 (.tmp 94) (.const (.int .i64 (.ofNat 8))) 1570098 y4 (.lit (.int .i64 (.ofNat 8))) fun x44 =>
  lp1 y0 x5 x44 T9 n1
 )
 (
  optK 1570101 (convV prog 59 60 y1) fun x45 =>
  geK prog 3 (.tmp 98) (.const (.int .i64 (.ofNat 4))) 1570141 y4 (.lit (.int .i64 (.ofNat 4))) fun x62 =>
  condK 1570142 x62
  (
   bin0 prog .rem 60 (.tmp 100) (.const (.int .u32 (.ofNat 10000))) 1570144 x45 (.lit (.int .u32 (.ofNat 10000))) fun x63 =>
   bin0 prog .quo 60 (.tmp 102) (.const (.int .u32 (.ofNat 10000))) 1570147 x45 (.lit (.int .u32 (.ofNat 10000))) fun x64 =>
   bin0 prog .quo 60 (.tmp 104) (.const (.int .u32 (.ofNat 100))) 1570150 x63 (.lit (.int .u32 (.ofNat 100))) fun x65 =>
   bin0 prog .mul 60 (.tmp 105) (.const (.int .u32 (.ofNat 2))) 1570151 x65 (.lit (.int .u32 (.ofNat 2))) fun x66 =>
   bin0 prog .rem 60 (.tmp 107) (.const (.int .u32 (.ofNat 100))) 1570153 x63 (.lit (.int .u32 (.ofNat 100))) fun x67 =>
   bin0 prog .mul 60 (.tmp 108) (.const (.int .u32 (.ofNat 2))) 1570154 x67 (.lit (.int .u32 (.ofNat 2))) fun x68 =>
   subK prog 3 (.tmp 111) (.const (.int .i64 (.ofNat 1))) 1570159 y4 (.lit (.int .i64 (.ofNat 1))) fun x69 =>
   subK prog 3 (.tmp 114) (.const (.int .i64 (.ofNat 2))) 1570162 y4 (.lit (.int .i64 (.ofNat 2))) fun x70 =>
   bin0 prog .add 60 (.tmp 116) (.const (.int .u32 (.ofNat 1))) 1570164 x68 (.lit (.int .u32 (.ofNat 1))) fun x71 =>
   ixK 1570165 (.lit (.string ⟨⟨[48, 48, 48, 49, 48, 50, 48, 51, 48, 52, 48, 53, 48, 54, 48, 55, 48, 56, 48, 57, 49, 48, 49, 49, 49, 50, 49, 51, 49, 52, 49, 53, 49, 54, 49, 55, 49, 56, 49, 57, 50, 48, 50, 49, 50, 50, 50, 51, 50, 52, 50, 53, 50, 54, 50, 55, 50, 56, 50, 57, 51, 48, 51, 49, 51, 50, 51, 51, 51, 52, 51, 53, 51, 54, 51, 55, 51, 56, 51, 57, 52, 48, 52, 49, 52, 50, 52, 51, 52, 52, 52, 53, 52, 54, 52, 55, 52, 56, 52, 57, 53, 48, 53, 49, 53, 50, 53, 51, 53, 52, 53, 53, 53, 54, 53, 55, 53, 56, 53, 57, 54, 48, 54, 49, 54, 50, 54, 51, 54, 52, 54, 53, 54, 54, 54, 55, 54, 56, 54, 57, 55, 48, 55, 49, 55, 50, 55, 51, 55, 52, 55, 53, 55, 54, 55, 55, 55, 56, 55, 57, 56, 48, 56, 49, 56, 50, 56, 51, 56, 52, 56, 53, 56, 54, 56, 55, 56, 56, 56, 57, 57, 48, 57, 49, 57, 50, 57, 51, 57, 52, 57, 53, 57, 54, 57, 55, 57, 56, 57, 57]⟩⟩)) x71 fun x72 =>
   ixK 1570167 (.lit (.string ⟨⟨[48, 48, 48, 49, 48, 50, 48, 51, 48, 52, 48, 53, 48, 54, 48, 55, 48, 56, 48, 57, 49, 48, 49, 49, 49, 50, 49, 51, 49, 52, 49, 53, 49, 54, 49, 55, 49, 56, 49, 57, 50, 48, 50, 49, 50, 50, 50, 51, 50, 52, 50, 53, 50, 54, 50, 55, 50, 56, 50, 57, 51, 48, 51, 49, 51, 50, 51, 51, 51, 52, 51, 53, 51, 54, 51, 55, 51, 56, 51, 57, 52, 48, 52, 49, 52, 50, 52, 51, 52, 52, 52, 53, 52, 54, 52, 55, 52, 56, 52, 57, 53, 48, 53, 49, 53, 50, 53, 51, 53, 52, 53, 53, 53, 54, 53, 55, 53, 56, 53, 57, 54, 48, 54, 49, 54, 50, 54, 51, 54, 52, 54, 53, 54, 54, 54, 55, 54, 56, 54, 57, 55, 48, 55, 49, 55, 50, 55, 51, 55, 52, 55, 53, 55, 54, 55, 55, 55, 56, 55, 57, 56, 48, 56, 49, 56, 50, 56, 51, 56, 52, 56, 53, 56, 54, 56, 55, 56, 56, 56, 57, 57, 48, 57, 49, 57, 50, 57, 51, 57, 52, 57, 53, 57, 54, 57, 55, 57, 56, 57, 57]⟩⟩)) x68 fun x73 =>
   iaK 1570168 y0 x69 1 fun x74 =>
   stK 1570169 T1 x74 x72 fun T15 =>
   iaK 1570170 y0 x70 1 fun x75 =>
   stK 1570171 T15 x75 x73 fun T16 =>
   subK prog 3 (.tmp 124) (.const (.int .i64 (.ofNat 3))) 1570174 y4 (.lit (.int .i64 (.ofNat 3))) fun x76 =>
   subK prog 3 (.tmp 127) (.const (.int .i64 (.ofNat 4))) 1570177 y4 (.lit (.int .i64 (.ofNat 4))) fun x77 =>
   bin0 prog .add 60 (.tmp 129) (.const (.int .u32 (.ofNat 1))) 1570179 x66 (.lit (.int .u32 (.ofNat 1))) fun x78 =>
   ixK 1570180 (.lit (.string ⟨⟨[48, 48, 48, 49, 48, 50, 48, 51, 48, 52, 48, 53, 48, 54, 48, 55, 48, 56, 48, 57, 49, 48, 49, 49, 49, 50, 49, 51, 49, 52, 49, 53, 49, 54, 49, 55, 49, 56, 49, 57, 50, 48, 50, 49, 50, 50, 50, 51, 50, 52, 50, 53, 50, 54, 50, 55, 50, 56, 50, 57, 51, 48, 51, 49, 51, 50, 51, 51, 51, 52, 51, 53, 51, 54, 51, 55, 51, 56, 51, 57, 52, 48, 52, 49, 52, 50, 52, 51, 52, 52, 52, 53, 52, 54, 52, 55, 52, 56, 52, 57, 53, 48, 53, 49, 53, 50, 53, 51, 53, 52, 53, 53, 53, 54, 53, 55, 53, 56, 53, 57, 54, 48, 54, 49, 54, 50, 54, 51, 54, 52, 54, 53, 54, 54, 54, 55, 54, 56, 54, 57, 55, 48, 55, 49, 55, 50, 55, 51, 55, 52, 55, 53, 55, 54, 55, 55, 55, 56, 55, 57, 56, 48, 56, 49, 56, 50, 56, 51, 56, 52, 56, 53, 56, 54, 56, 55, 56, 56, 56, 57, 57, 48, 57, 49, 57, 50, 57, 51, 57, 52, 57, 53, 57, 54, 57, 55, 57, 56, 57, 57]⟩⟩)) x78 fun x79 =>
   ixK 1570182 (.lit (.string ⟨⟨[48, 48, 48, 49, 48, 50, 48, 51, 48, 52, 48, 53, 48, 54, 48, 55, 48, 56, 48, 57, 49, 48, 49, 49, 49, 50, 49, 51, 49, 52, 49, 53, 49, 54, 49, 55, 49, 56, 49, 57, 50, 48, 50, 49, 50, 50, 50, 51, 50, 52, 50, 53, 50, 54, 50, 55, 50, 56, 50, 57, 51, 48, 51, 49, 51, 50, 51, 51, 51, 52, 51, 53, 51, 54, 51, 55, 51, 56, 51, 57, 52, 48, 52, 49, 52, 50, 52, 51, 52, 52, 52, 53, 52, 54, 52, 55, 52, 56, 52, 57, 53, 48, 53, 49, 53, 50, 53, 51, 53, 52, 53, 53, 53, 54, 53, 55, 53, 56, 53, 57, 54, 48, 54, 49, 54, 50, 54, 51, 54, 52, 54, 53, 54, 54, 54, 55, 54, 56, 54, 57, 55, 48, 55, 49, 55, 50, 55, 51, 55, 52, 55, 53, 55, 54, 55, 55, 55, 56, 55, 57, 56, 48, 56, 49, 56, 50, 56, 51, 56, 52, 56, 53, 56, 54, 56, 55, 56, 56, 56, 57, 57, 48, 57, 49, 57, 50, 57, 51, 57, 52, 57, 53, 57, 54, 57, 55, 57, 56, 57, 57]⟩⟩)) x66 fun x80 =>
   iaK 1570183 y0 x76 1 fun x81 =>
   stK 1570184 T16 x81 x79 fun T17 =>
   iaK 1570185 y0 x77 1 fun x82 =>
   stK 1570186 T17 x82 x80 fun T18 =>
   subK prog 3 (.tmp 136) (.const (.int .i64 (.ofNat 4))) 1570188 y4 (.lit (.int .i64 (.ofNat 4))) fun x83 =>
   g157_k2 ro y0 x83 x64 T18 n1
  )
  (
   g157_k2 ro y0 y4 x45 T1 n1
  )
 )
def g157 (ro : List HT) (a0 a1 : AV) (T : HT) (nx : Nat) : R :=
 lenSK 1570002 a0 fun x1 =>
 lpf3 1570004 (g157_b1 ro) 100000 a0 a1 x1 T nx
theorem g157_ok (ro : List HT) (a0 a1 : AV) (T : HT) (nx : Nat) : GOk prog envE 157 [a0, a1] ro T nx (g157 ro a0 a1 T nx) := by
 refine GOk.of_body func157 rfl ntmps157 (by kernel_rfl) rfl fun r T' n' h1 w0 base ρ0 its hS hP => ?_
 have X : CtxW envE ρ0 ro r T' n' := trivial
 unfold g157 at h1
 refine sr ?_
 refine mv ?_
 refine vy (V.lenS h1 rfl ls64) fun x1 h2 => ?_
 refine as_ ?_
 refine dn (CV.seq (CV.block ?_))
 refine cl3 X 0 1 4 [] hS h2 ⟨rfl, rfl, rfl, trivial⟩ ?_
 intro f1 y0 y1 y4 T1 n1 ρ its hS h3
 unfold g157_b1 at h3
 refine CV.seq (sr ?_)
 refine mv ?_
 refine vy (V.ge h3 rfl rfl) fun x2 h4 => ?_
 refine dn ?_
 refine CV.cond h4 rfl (fun e h5 => ?_) (fun e h5 => ?_)
 ·
  subst e
  refine CV.skip (PV.thenN (CV.block (sr ?_)))
  refine mv ?_
  refine vy (V.bin0 h5 rfl rfl) fun x3 h6 => ?_
  refine vy (V.conv h6 rfl) fun x4 h7 => ?_
  refine as_ ?_
  refine dn (sr ?_)
  refine mv ?_
  refine vy (V.bin0 h7 rfl rfl) fun x5 h8 => ?_
  refine as_ ?_
  refine dn (sr ?_)
  refine mv ?_
  refine vy (V.bin0 h8 rfl rfl) fun x6 h9 => ?_
  refine mv ?_
  refine vy (V.bin0 h9 rfl rfl) fun x7 h10 => ?_
  iterate 2 refine as_ ?_
  refine dn (sr ?_)
  refine mv ?_
  refine vy (V.bin0 h10 rfl rfl) fun x8 h11 => ?_
  refine vy (V.bin0 h11 rfl rfl) fun x9 h12 => ?_
  refine mv ?_
  refine vy (V.bin0 h12 rfl rfl) fun x10 h13 => ?_
  refine vy (V.bin0 h13 rfl rfl) fun x11 h14 => ?_
  iterate 2 refine as_ ?_
  refine dn (sr ?_)
  refine mv ?_
  refine vy (V.bin0 h14 rfl rfl) fun x12 h15 => ?_
  refine vy (V.bin0 h15 rfl rfl) fun x13 h16 => ?_
  refine mv ?_
  refine vy (V.bin0 h16 rfl rfl) fun x14 h17 => ?_
  refine vy (V.bin0 h17 rfl rfl) fun x15 h18 => ?_
  iterate 2 refine as_ ?_
  refine dn (CV.seq ?_)
  refine CV.regionM [(0, .anywhere), (1, .anywhere), (2, .anywhere), (3, .anywhere), (4, .anywhere), (5, .anywhere), (6, .anywhere), (7, .anywhere), (8, .anywhere), (9, .anywhere), (10, .anywhere), (11, .anywhere), (12, .alone), (13, .alone), (14, .alone)] rfl (fun c a a' w hd hq => PanicOk.root (P := prog) (fn := f157) (w0 := w0) (base := base) (E := envE) (ro := ro) (r := r) (T' := T') (n' := n') (ρ0 := ρ0) c a a' w hd hq) (by kernel_rfl) ?_
  refine MV.step0 (i := 0) rfl (VAL.move rfl) rfl rfl rfl ?_
  refine MV.step0 (i := 1) rfl (VAL.move rfl) rfl rfl rfl ?_
  refine MV.lift0 (i := 2) rfl (V.sub h18 rfl rfl) rfl rfl rfl fun x16 h19 => ?_
  refine MV.step0 (i := 3) rfl (VAL.move rfl) rfl rfl rfl ?_
  refine MV.step0 (i := 4) rfl (VAL.move rfl) rfl rfl rfl ?_
  refine MV.lift0 (i := 5) rfl (V.sub h19 rfl rfl) rfl rfl rfl fun x17 h20 => ?_
  refine MV.step0 (i := 6) rfl (VAL.move rfl) rfl rfl rfl ?_
  refine MV.lift0 (i := 7) rfl (V.bin0 h20 rfl rfl) rfl rfl rfl fun x18 h21 => ?_
  refine MV.lift0 (i := 8) rfl (V.ix h21 rfl rfl st9) rfl rfl rfl fun x19 h22 => ?_
  refine MV.step0 (i := 9) rfl (VAL.move rfl) rfl rfl rfl ?_
  refine MV.lift0 (i := 10) rfl (V.ix h22 rfl rfl st9) rfl rfl rfl fun x20 h23 => ?_
  refine MV.lift0 (i := 11) rfl (V.ia h23 rfl rfl el64) rfl rfl rfl fun x21 h24 => ?_
  refine MV.force (i := 12) rfl ?_
  refine LV.st hS h24 rfl rfl rfl siz5 rfl rfl fun T2 its h25 hS => ?_
  refine LV.nextM [] (by kernel_rfl) (fun z => absurd rfl z) ?_
  refine MV.force (i := 13) rfl ?_
  refine vy (V.ia h25 rfl rfl el64) fun x22 h26 => ?_
  refine LV.nextM [] (by kernel_rfl) (fun z => absurd rfl z) ?_
  refine MV.force (i := 14) rfl ?_
  refine LV.st hS h26 rfl rfl rfl siz5 rfl rfl fun T3 its h27 hS => ?_
  refine LV.nextM [] (by kernel_rfl) (fun z => absurd rfl z) ?_
  refine mdn (CV.seq ?_)
  refine CV.regionM [(0, .anywhere), (1, .anywhere), (2, .anywhere), (3, .anywhere), (4, .anywhere), (5, .anywhere), (6, .anywhere), (7, .anywhere), (8, .anywhere), (9, .anywhere), (10, .anywhere), (11, .anywhere), (12, .alone), (13, .alone), (14, .alone)] rfl (fun c a a' w hd hq => PanicOk.root (P := prog) (fn := f157) (w0 := w0) (base := base) (E := envE) (ro := ro) (r := r) (T' := T') (n' := n') (ρ0 := ρ0) c a a' w hd hq) (by kernel_rfl) ?_
  refine MV.step0 (i := 0) rfl (VAL.move rfl) rfl rfl rfl ?_
  refine MV.step0 (i := 1) rfl (VAL.move rfl) rfl rfl rfl ?_
  refine MV.lift0 (i := 2) rfl (V.sub h27 rfl rfl) rfl rfl rfl fun x23 h28 => ?_
  refine MV.step0 (i := 3) rfl (VAL.move rfl) rfl rfl rfl ?_
  refine MV.step0 (i := 4) rfl (VAL.move rfl) rfl rfl rfl ?_
  refine MV.lift0 (i := 5) rfl (V.sub h28 rfl rfl) rfl rfl rfl fun x24 h29 => ?_
  refine MV.step0 (i := 6) rfl (VAL.move rfl) rfl rfl rfl ?_
  refine MV.lift0 (i := 7) rfl (V.bin0 h29 rfl rfl) rfl rfl rfl fun x25 h30 => ?_
  refine MV.lift0 (i := 8) rfl (V.ix h30 rfl rfl st9) rfl rfl rfl fun x26 h31 => ?_
  refine MV.step0 (i := 9) rfl (VAL.move rfl) rfl rfl rfl ?_
  refine MV.lift0 (i := 10) rfl (V.ix h31 rfl rfl st9) rfl rfl rfl fun x27 h32 => ?_
  refine MV.lift0 (i := 11) rfl (V.ia h32 rfl rfl el64) rfl rfl rfl fun x28 h33 => ?_
  refine MV.force (i := 12) rfl ?_
  refine LV.st hS h33 rfl rfl rfl siz5 rfl rfl fun T4 its h34 hS => ?_
  refine LV.nextM [] (by kernel_rfl) (fun z => absurd rfl z) ?_
  refine MV.force (i := 13) rfl ?_
  refine vy (V.ia h34 rfl rfl el64) fun x29 h35 => ?_
  refine LV.nextM [] (by kernel_rfl) (fun z => absurd rfl z) ?_
  refine MV.force (i := 14) rfl ?_
  refine LV.st hS h35 rfl rfl rfl siz5 rfl rfl fun T5 its h36 hS => ?_
  refine LV.nextM [] (by kernel_rfl) (fun z => absurd rfl z) ?_
  refine mdn (CV.seq ?_)
  refine CV.regionM [(0, .anywhere), (1, .anywhere), (2, .anywhere), (3, .anywhere), (4, .anywhere), (5, .anywhere), (6, .anywhere), (7, .anywhere), (8, .anywhere), (9, .anywhere), (10, .anywhere), (11, .anywhere), (12, .alone), (13, .alone), (14, .alone)] rfl (fun c a a' w hd hq => PanicOk.root (P := prog) (fn := f157) (w0 := w0) (base := base) (E := envE) (ro := ro) (r := r) (T' := T') (n' := n') (ρ0 := ρ0) c a a' w hd hq) (by kernel_rfl) ?_
  refine MV.step0 (i := 0) rfl (VAL.move rfl) rfl rfl rfl ?_
  refine MV.step0 (i := 1) rfl (VAL.move rfl) rfl rfl rfl ?_
  refine MV.lift0 (i := 2) rfl (V.sub h36 rfl rfl) rfl rfl rfl fun x30 h37 => ?_
  refine MV.step0 (i := 3) rfl (VAL.move rfl) rfl rfl rfl ?_
  refine MV.step0 (i := 4) rfl (VAL.move rfl) rfl rfl rfl ?_
  refine MV.lift0 (i := 5) rfl (V.sub h37 rfl rfl) rfl rfl rfl fun x31 h38 => ?_
  refine MV.step0 (i := 6) rfl (VAL.move rfl) rfl rfl rfl ?_
  refine MV.lift0 (i := 7) rfl (V.bin0 h38 rfl rfl) rfl rfl rfl fun x32 h39 => ?_
  refine MV.lift0 (i := 8) rfl (V.ix h39 rfl rfl st9) rfl rfl rfl fun x33 h40 => ?_
  refine MV.step0 (i := 9) rfl (VAL.move rfl) rfl rfl rfl ?_
  refine MV.lift0 (i := 10) rfl (V.ix h40 rfl rfl st9) rfl rfl rfl fun x34 h41 => ?_
  refine MV.lift0 (i := 11) rfl (V.ia h41 rfl rfl el64) rfl rfl rfl fun x35 h42 => ?_
  refine MV.force (i := 12) rfl ?_
  refine LV.st hS h42 rfl rfl rfl siz5 rfl rfl fun T6 its h43 hS => ?_
  refine LV.nextM [] (by kernel_rfl) (fun z => absurd rfl z) ?_
  refine MV.force (i := 13) rfl ?_
  refine vy (V.ia h43 rfl rfl el64) fun x36 h44 => ?_
  refine LV.nextM [] (by kernel_rfl) (fun z => absurd rfl z) ?_
  refine MV.force (i := 14) rfl ?_
  refine LV.st hS h44 rfl rfl rfl siz5 rfl rfl fun T7 its h45 hS => ?_
  refine LV.nextM [] (by kernel_rfl) (fun z => absurd rfl z) ?_
  refine mdn (CV.seq ?_)
  refine CV.regionM [(0, .anywhere), (1, .anywhere), (2, .anywhere), (3, .anywhere), (4, .anywhere), (5, .anywhere), (6, .anywhere), (7, .anywhere), (8, .anywhere), (9, .anywhere), (10, .anywhere), (11, .anywhere), (12, .alone), (13, .alone), (14, .alone)] rfl (fun c a a' w hd hq => PanicOk.root (P := prog) (fn := f157) (w0 := w0) (base := base) (E := envE) (ro := ro) (r := r) (T' := T') (n' := n') (ρ0 := ρ0) c a a' w hd hq) (by kernel_rfl) ?_
  refine MV.step0 (i := 0) rfl (VAL.move rfl) rfl rfl rfl ?_
  refine MV.step0 (i := 1) rfl (VAL.move rfl) rfl rfl rfl ?_
  refine MV.lift0 (i := 2) rfl (V.sub h45 rfl rfl) rfl rfl rfl fun x37 h46 => ?_
  refine MV.step0 (i := 3) rfl (VAL.move rfl) rfl rfl rfl ?_
  refine MV.step0 (i := 4) rfl (VAL.move rfl) rfl rfl rfl ?_
  refine MV.lift0 (i := 5) rfl (V.sub h46 rfl rfl) rfl rfl rfl fun x38 h47 => ?_
  refine MV.step0 (i := 6) rfl (VAL.move rfl) rfl rfl rfl ?_
  refine MV.lift0 (i := 7) rfl (V.bin0 h47 rfl rfl) rfl rfl rfl fun x39 h48 => ?_
  refine MV.lift0 (i := 8) rfl (V.ix h48 rfl rfl st9) rfl rfl rfl fun x40 h49 => ?_
  refine MV.step0 (i := 9) rfl (VAL.move rfl) rfl rfl rfl ?_
  refine MV.lift0 (i := 10) rfl (V.ix h49 rfl rfl st9) rfl rfl rfl fun x41 h50 => ?_
  refine MV.lift0 (i := 11) rfl (V.ia h50 rfl rfl el64) rfl rfl rfl fun x42 h51 => ?_
  refine MV.force (i := 12) rfl ?_
  refine LV.st hS h51 rfl rfl rfl siz5 rfl rfl fun T8 its h52 hS => ?_
  refine LV.nextM [] (by kernel_rfl) (fun z => absurd rfl z) ?_
  refine MV.force (i := 13) rfl ?_
  refine vy (V.ia h52 rfl rfl el64) fun x43 h53 => ?_
  refine LV.nextM [] (by kernel_rfl) (fun z => absurd rfl z) ?_
  refine MV.force (i := 14) rfl ?_
  refine LV.st hS h53 rfl rfl rfl siz5 rfl rfl fun T9 its h54 hS => ?_
  refine LV.nextM [] (by kernel_rfl) (fun z => absurd rfl z) ?_
  refine mdn (CV.region ?_)
  refine mv ?_
  refine vy (V.sub h54 rfl rfl) fun x44 h55 => ?_
  refine as_ ?_
  refine LV.done (PV.blockN ?_)
  exact pb3 hS h55 ⟨rfl, rfl, rfl, trivial⟩
 subst e
 refine CV.exit (PV.thenE (PV.thenE (PV.blockE (PV.thenN (sr ?_)))))
 refine mv ?_
 refine vy (V.conv h5 rfl) fun x45 h56 => ?_
 refine as_ ?_
 refine dn ?_
 refine cs3 X 0 4 12 [] (g157_k2 ro) ?_ ?_
 ·
  refine sr ?_
  refine mv ?_
  refine vy (V.ge h56 rfl rfl) fun x62 h80 => ?_
  refine dn ?_
  refine CV.cond h80 rfl (fun e h81 => ?_) (fun e h81 => ?_)
  ·
   subst e
   refine sr ?_
   refine mv ?_
   refine vy (V.bin0 h81 rfl rfl) fun x63 h82 => ?_
   refine as_ ?_
   refine dn (sr ?_)
   refine mv ?_
   refine vy (V.bin0 h82 rfl rfl) fun x64 h83 => ?_
   refine as_ ?_
   refine dn (sr ?_)
   refine mv ?_
   refine vy (V.bin0 h83 rfl rfl) fun x65 h84 => ?_
   refine vy (V.bin0 h84 rfl rfl) fun x66 h85 => ?_
   refine mv ?_
   refine vy (V.bin0 h85 rfl rfl) fun x67 h86 => ?_
   refine vy (V.bin0 h86 rfl rfl) fun x68 h87 => ?_
   iterate 2 refine as_ ?_
   refine dn (CV.seq ?_)
   refine CV.regionM [(0, .anywhere), (1, .anywhere), (2, .anywhere), (3, .anywhere), (4, .anywhere), (5, .anywhere), (6, .anywhere), (7, .anywhere), (8, .anywhere), (9, .anywhere), (10, .anywhere), (11, .anywhere), (12, .alone), (13, .alone), (14, .alone)] rfl (fun c a a' w hd hq => PanicOk.root (P := prog) (fn := f157) (w0 := w0) (base := base) (E := envE) (ro := ro) (r := r) (T' := T') (n' := n') (ρ0 := ρ0) c a a' w hd hq) (by kernel_rfl) ?_
   refine MV.step0 (i := 0) rfl (VAL.move rfl) rfl rfl rfl ?_
   refine MV.step0 (i := 1) rfl (VAL.move rfl) rfl rfl rfl ?_
   refine MV.lift0 (i := 2) rfl (V.sub h87 rfl rfl) rfl rfl rfl fun x69 h88 => ?_
   refine MV.step0 (i := 3) rfl (VAL.move rfl) rfl rfl rfl ?_
   refine MV.step0 (i := 4) rfl (VAL.move rfl) rfl rfl rfl ?_
   refine MV.lift0 (i := 5) rfl (V.sub h88 rfl rfl) rfl rfl rfl fun x70 h89 => ?_
   refine MV.step0 (i := 6) rfl (VAL.move rfl) rfl rfl rfl ?_
   refine MV.lift0 (i := 7) rfl (V.bin0 h89 rfl rfl) rfl rfl rfl fun x71 h90 => ?_
   refine MV.lift0 (i := 8) rfl (V.ix h90 rfl rfl st9) rfl rfl rfl fun x72 h91 => ?_
   refine MV.step0 (i := 9) rfl (VAL.move rfl) rfl rfl rfl ?_
   refine MV.lift0 (i := 10) rfl (V.ix h91 rfl rfl st9) rfl rfl rfl fun x73 h92 => ?_
   refine MV.lift0 (i := 11) rfl (V.ia h92 rfl rfl el64) rfl rfl rfl fun x74 h93 => ?_
   refine MV.force (i := 12) rfl ?_
   refine LV.st hS h93 rfl rfl rfl siz5 rfl rfl fun T15 its h94 hS => ?_
   refine LV.nextM [] (by kernel_rfl) (fun z => absurd rfl z) ?_
   refine MV.force (i := 13) rfl ?_
   refine vy (V.ia h94 rfl rfl el64) fun x75 h95 => ?_
   refine LV.nextM [] (by kernel_rfl) (fun z => absurd rfl z) ?_
   refine MV.force (i := 14) rfl ?_
   refine LV.st hS h95 rfl rfl rfl siz5 rfl rfl fun T16 its h96 hS => ?_
   refine LV.nextM [] (by kernel_rfl) (fun z => absurd rfl z) ?_
   refine mdn (CV.seq ?_)
   refine CV.regionM [(0, .anywhere), (1, .anywhere), (2, .anywhere), (3, .anywhere), (4, .anywhere), (5, .anywhere), (6, .anywhere), (7, .anywhere), (8, .anywhere), (9, .anywhere), (10, .anywhere), (11, .anywhere), (12, .alone), (13, .alone), (14, .alone)] rfl (fun c a a' w hd hq => PanicOk.root (P := prog) (fn := f157) (w0 := w0) (base := base) (E := envE) (ro := ro) (r := r) (T' := T') (n' := n') (ρ0 := ρ0) c a a' w hd hq) (by kernel_rfl) ?_
   refine MV.step0 (i := 0) rfl (VAL.move rfl) rfl rfl rfl ?_
   refine MV.step0 (i := 1) rfl (VAL.move rfl) rfl rfl rfl ?_
   refine MV.lift0 (i := 2) rfl (V.sub h96 rfl rfl) rfl rfl rfl fun x76 h97 => ?_
   refine MV.step0 (i := 3) rfl (VAL.move rfl) rfl rfl rfl ?_
   refine MV.step0 (i := 4) rfl (VAL.move rfl) rfl rfl rfl ?_
   refine MV.lift0 (i := 5) rfl (V.sub h97 rfl rfl) rfl rfl rfl fun x77 h98 => ?_
   refine MV.step0 (i := 6) rfl (VAL.move rfl) rfl rfl rfl ?_
   refine MV.lift0 (i := 7) rfl (V.bin0 h98 rfl rfl) rfl rfl rfl fun x78 h99 => ?_
   refine MV.lift0 (i := 8) rfl (V.ix h99 rfl rfl st9) rfl rfl rfl fun x79 h100 => ?_
   refine MV.step0 (i := 9) rfl (VAL.move rfl) rfl rfl rfl ?_
   refine MV.lift0 (i := 10) rfl (V.ix h100 rfl rfl st9) rfl rfl rfl fun x80 h101 => ?_
   refine MV.lift0 (i := 11) rfl (V.ia h101 rfl rfl el64) rfl rfl rfl fun x81 h102 => ?_
   refine MV.force (i := 12) rfl ?_
   refine LV.st hS h102 rfl rfl rfl siz5 rfl rfl fun T17 its h103 hS => ?_
   refine LV.nextM [] (by kernel_rfl) (fun z => absurd rfl z) ?_
   refine MV.force (i := 13) rfl ?_
   refine vy (V.ia h103 rfl rfl el64) fun x82 h104 => ?_
   refine LV.nextM [] (by kernel_rfl) (fun z => absurd rfl z) ?_
   refine MV.force (i := 14) rfl ?_
   refine LV.st hS h104 rfl rfl rfl siz5 rfl rfl fun T18 its h105 hS => ?_
   refine LV.nextM [] (by kernel_rfl) (fun z => absurd rfl z) ?_
   refine mdn (CV.region ?_)
   refine mv ?_
   refine vy (V.sub h105 rfl rfl) fun x83 h106 => ?_
   refine as_ ?_
   refine LV.done ?_
   exact pa3 hS h106 ⟨rfl, rfl, rfl, trivial⟩
  subst e
  refine CV.skip ?_
  exact pa3 hS h81 ⟨rfl, rfl, rfl, trivial⟩
 intro y0 y4 y12 T10 n10 ρ its hS h57
 unfold g157_k2 at h57
 refine cs3 X 0 4 12 [] (g157_k3 ro) ?_ ?_
 ·
  refine sr ?_
  refine mv ?_
  refine vy (V.ge h57 rfl rfl) fun x50 h65 => ?_
  refine dn ?_
  refine CV.cond h65 rfl (fun e h66 => ?_) (fun e h66 => ?_)
  ·
   subst e
   refine sr ?_
   refine mv ?_
   refine vy (V.bin0 h66 rfl rfl) fun x51 h67 => ?_
   refine vy (V.bin0 h67 rfl rfl) fun x52 h68 => ?_
   refine as_ ?_
   refine dn (sr ?_)
   refine mv ?_
   refine vy (V.bin0 h68 rfl rfl) fun x53 h69 => ?_
   refine as_ ?_
   refine dn (CV.seq ?_)
   refine CV.regionM [(0, .anywhere), (1, .anywhere), (2, .anywhere), (3, .anywhere), (4, .anywhere), (5, .anywhere), (6, .anywhere), (7, .anywhere), (8, .anywhere), (9, .anywhere), (10, .anywhere), (11, .anywhere), (12, .alone), (13, .alone), (14, .alone)] rfl (fun c a a' w hd hq => PanicOk.root (P := prog) (fn := f157) (w0 := w0) (base := base) (E := envE) (ro := ro) (r := r) (T' := T') (n' := n') (ρ0 := ρ0) c a a' w hd hq) (by kernel_rfl) ?_
   refine MV.step0 (i := 0) rfl (VAL.move rfl) rfl rfl rfl ?_
   refine MV.step0 (i := 1) rfl (VAL.move rfl) rfl rfl rfl ?_
   refine MV.lift0 (i := 2) rfl (V.sub h69 rfl rfl) rfl rfl rfl fun x54 h70 => ?_
   refine MV.step0 (i := 3) rfl (VAL.move rfl) rfl rfl rfl ?_
   refine MV.step0 (i := 4) rfl (VAL.move rfl) rfl rfl rfl ?_
   refine MV.lift0 (i := 5) rfl (V.sub h70 rfl rfl) rfl rfl rfl fun x55 h71 => ?_
   refine MV.step0 (i := 6) rfl (VAL.move rfl) rfl rfl rfl ?_
   refine MV.lift0 (i := 7) rfl (V.bin0 h71 rfl rfl) rfl rfl rfl fun x56 h72 => ?_
   refine MV.lift0 (i := 8) rfl (V.ix h72 rfl rfl st9) rfl rfl rfl fun x57 h73 => ?_
   refine MV.step0 (i := 9) rfl (VAL.move rfl) rfl rfl rfl ?_
   refine MV.lift0 (i := 10) rfl (V.ix h73 rfl rfl st9) rfl rfl rfl fun x58 h74 => ?_
   refine MV.lift0 (i := 11) rfl (V.ia h74 rfl rfl el64) rfl rfl rfl fun x59 h75 => ?_
   refine MV.force (i := 12) rfl ?_
   refine LV.st hS h75 rfl rfl rfl siz5 rfl rfl fun T13 its h76 hS => ?_
   refine LV.nextM [] (by kernel_rfl) (fun z => absurd rfl z) ?_
   refine MV.force (i := 13) rfl ?_
   refine vy (V.ia h76 rfl rfl el64) fun x60 h77 => ?_
   refine LV.nextM [] (by kernel_rfl) (fun z => absurd rfl z) ?_
   refine MV.force (i := 14) rfl ?_
   refine LV.st hS h77 rfl rfl rfl siz5 rfl rfl fun T14 its h78 hS => ?_
   refine LV.nextM [] (by kernel_rfl) (fun z => absurd rfl z) ?_
   refine mdn (CV.region ?_)
   refine mv ?_
   refine vy (V.sub h78 rfl rfl) fun x61 h79 => ?_
   refine as_ ?_
   refine LV.done ?_
   exact pa3 hS h79 ⟨rfl, rfl, rfl, trivial⟩
  subst e
  refine CV.skip ?_
  exact pa3 hS h66 ⟨rfl, rfl, rfl, trivial⟩
 intro y0 y4 y12 T11 n11 ρ its hS h58
 unfold g157_k3 at h58
 refine sr ?_
 refine mv ?_
 refine vy (V.gt h58 rfl rfl) fun x46 h59 => ?_
 refine dn ?_
 refine CV.cond h59 rfl (fun e h60 => ?_) (fun e h60 => ?_)
 ·
  subst e
  refine CV.region ?_
  iterate 2 refine mv ?_
  refine vy (V.bin0 h60 rfl rfl) fun x47 h61 => ?_
  refine vy (V.conv h61 rfl) fun x48 h62 => ?_
  refine vy (V.ia h62 rfl rfl el64) fun x49 h63 => ?_
  refine LV.st hS h63 rfl rfl rfl siz5 rfl rfl fun T12 its h64 hS => ?_
  refine LV.done ?_
  cases h64
  exact PV.ret (by simp) results157 hS RS.nil rfl
 subst e
 refine CV.skip ?_
 cases h60
 exact PV.ret (by simp) results157 hS RS.nil rfl
def g158 (ro : List HT) (a0 a1 a2 a3 a4 : AV) (T : HT) (nx : Nat) : R :=
 .bad 1580001
theorem g158_ok (ro : List HT) (a0 a1 a2 a3 a4 : AV) (T : HT) (nx : Nat) : GOk prog envE 158 [a0, a1, a2, a3, a4] ro T nx (g158 ro a0 a1 a2 a3 a4 T nx) := by
 refine GOk.of_body func158 rfl ntmps158 (by kernel_rfl) rfl fun r T' n' h1 w0 base ρ0 its hS hP => ?_
 have X : CtxW envE ρ0 ro r T' n' := trivial
 unfold g158 at h1
 cases h1
def g153 (ro : List HT) (a0 a1 a2 : AV) (T : HT) (nx : Nat) : R :=
 eqK prog 3 (.tmp 9) (.const (.int .i64 (.ofNat 10))) 1530003 a2 (.lit (.int .i64 (.ofNat 10))) fun x1 =>
 condK 1530004 x1
 (
  ltK prog 59 (.tmp 11) (.const (.int .u64 (.ofNat 100))) 1530006 a1 (.lit (.int .u64 (.ofNat 100))) fun x2 =>
  condK 1530007 x2
  (
   optK 1530010 (convV prog 59 3 a1) fun x3 =>
   callK (g155 ro x3 T nx) fun x4 T1 n1 =>
   shrK 1530013 T1 a0 fun T2 =>
   appTK 1530012 T2 n1 5 a0 x4 fun x5 T3 n3 =>
   .ok (.val x5) T3 n3
  )
  (
   newK T nx (.obj [.lit (.int .u8 0), .lit (.int .u8 0), .lit (.int .u8 0), .lit (.int .u8 0), .lit (.int .u8 0), .lit (.int .u8 0), .lit (.int .u8 0), .lit (.int .u8 0), .lit (.int .u8 0), .lit (.int .u8 0), .lit (.int .u8 0), .lit (.int .u8 0), .lit (.int .u8 0), .lit (.int .u8 0), .lit (.int .u8 0), .lit (.int .u8 0), .lit (.int .u8 0), .lit (.int .u8 0), .lit (.int .u8 0), .lit (.int .u8 0), .lit (.int .u8 0), .lit (.int .u8 0), .lit (.int .u8 0), .lit (.int .u8 0)] 228) fun x6 T4 n4 =>
   callK (g156 ro a1 T4 n4) fun x7 T5 n5 =>
   .bad 1530021
  )
 )
 (
  callK (g158 ro a0 a1 a2 (.lit (.bool false)) (.lit (.bool true)) T nx) fun x8 T6 n6 =>
  exK 1530027 x8 0 fun x9 =>
  exK 1530028 x8 1 fun x10 =>
  .ok (.val x9) T6 n6
 )
theorem g153_ok (ro : List HT) (a0 a1 a2 : AV) (T : HT) (nx : Nat) : GOk prog envE 153 [a0, a1, a2] ro T nx (g153 ro a0 a1 a2 T nx) := by
 refine GOk.of_body func153 rfl ntmps153 (by kernel_rfl) rfl fun r T' n' h1 w0 base ρ0 its hS hP => ?_
 have X : CtxW envE ρ0 ro r T' n' := trivial
 unfold g153 at h1
 refine sr ?_
 refine as_ ?_
 refine dn (CV.seq (sr ?_))
 refine mv ?_
 refine vy (V.eq h1 rfl rfl) fun x1 h2 => ?_
 refine dn ?_
 refine CV.cond h2 rfl (fun e h3 => ?_) (fun e h3 => ?_)
 ·
  subst e
  refine CV.seq (sr ?_)
  refine mv ?_
  refine vy (V.lt h3 rfl rfl) fun x2 h4 => ?_
  refine dn ?_
  refine CV.cond h4 rfl (fun e h5 => ?_) (fun e h5 => ?_)
  ·
   subst e
   refine sr ?_
   iterate 2 refine mv ?_
   refine vy (V.conv h5 rfl) fun x3 h6 => ?_
   refine LV.call hS h6 (g155_ok _ _ _ _ ) hP rfl rfl rfl rfl fun x4 T1 n1 h7 ρ its hS => ?_
   obtain ⟨T2, its1, h8, hS, hW⟩ := shrK_inv hS h7
   refine LV.world hW ?_
   refine LV.appT hS h8 rfl rfl rfl rfl el64 st9 rfl rfl rfl fun x5 T3 n3 h9 ρ its hS => ?_
   refine as_ ?_
   refine dn (CV.ret (PV.thenR (PV.thenR ?_)))
   cases h9
   exact PV.ret (by simp) results153 hS (RS.tmp rfl RS.nil) rfl
  subst e
  refine CV.skip (PV.thenN (sr ?_))
  refine LV.alloc hS h5 rfl zr228 rfl rfl rfl fun x6 T4 n4 h10 ρ its hS hdr => ?_
  refine dn (sr ?_)
  refine mv ?_
  refine LV.call hS h10 (g156_ok _ _ _ _ ) hP rfl rfl rfl rfl fun x7 T5 n5 h11 ρ its hS => ?_
  refine as_ ?_
  refine dn (sr ?_)
  refine mv ?_
  cases h11
 subst e
 refine CV.skip (PV.thenN (sr ?_))
 iterate 3 refine mv ?_
 refine LV.call hS h3 (g158_ok _ _ _ _ _ _ _ _ ) hP rfl rfl rfl rfl fun x8 T6 n6 h12 ρ its hS => ?_
 refine mv ?_
 refine vy (V.ex h12 rfl) fun x9 h13 => ?_
 refine vy (V.ex h13 rfl) fun x10 h14 => ?_
 refine as_ ?_
 refine dn (sr ?_)
 refine mv ?_
 refine as_ ?_
 refine dn (CV.ret ?_)
 cases h14
 exact PV.ret (by simp) results153 hS (RS.tmp rfl RS.nil) rfl
def g151_k1 (ro : List HT) (y0 y2 y6 y7 : AV) (T1 : HT) (n1 : Nat) : R :=
 callK (g153 ro y0 y7 y2 T1 n1) fun x2 T2 n2 =>
 .ok (.val x2) T2 n2
def g151 (ro : List HT) (a0 a1 a2 : AV) (T : HT) (nx : Nat) : R :=
 optK 1510003 (convV prog 2 59 a1) fun x1 =>
 ltK prog 2 (.tmp 10) (.const (.int .i64 (.ofNat 0))) 1510011 a1 (.lit (.int .i64 (.ofNat 0))) fun x3 =>
 condK 1510012 x3
 (
  bsK 1510014 T nx 1 5 1 [(0, (.lit (.int .u8 (.ofNat 45))))] fun x4 T3 n3 =>
  shrK 1510016 T3 a0 fun T4 =>
  appEK 1510015 T4 ro n3 5 1 1 a0 x4 fun x5 T5 n5 =>
  optK 1510019 (unV prog .neg x1) fun x6 =>
  g151_k1 ro x5 a2 (.lit (.slice none 0 0)) x6 T5 n5
 )
 (
  g151_k1 ro a0 a2 (.lit (.slice none 0 0)) x1 T nx
 )
theorem g151_ok (ro : List HT) (a0 a1 a2 : AV) (T : HT) (nx : Nat) : GOk prog envE 151 [a0, a1, a2] ro T nx (g151 ro a0 a1 a2 T nx) := by
 refine GOk.of_body func151 rfl ntmps151 (by kernel_rfl) rfl fun r T' n' h1 w0 base ρ0 its hS hP => ?_
 have X : CtxW envE ρ0 ro r T' n' := trivial
 unfold g151 at h1
 refine sr ?_
 refine as_ ?_
 refine dn (sr ?_)
 refine mv ?_
 refine vy (V.conv h1 rfl) fun x1 h2 => ?_
 refine as_ ?_
 refine dn ?_
 refine cs4 X 0 2 6 7 [] (g151_k1 ro) ?_ ?_
 ·
  refine sr ?_
  refine mv ?_
  refine vy (V.lt h2 rfl rfl) fun x3 h5 => ?_
  refine dn ?_
  refine CV.cond h5 rfl (fun e h6 => ?_) (fun e h6 => ?_)
  ·
   subst e
   refine sr ?_
   refine mv ?_
   refine LV.bslice hS h6 rfl rfl el64 rfl rfl rfl rfl fun x4 T3 n3 h7 ρ its hS hdr => ?_
   obtain ⟨T4, its1, h8, hS, hW⟩ := shrK_inv hS h7
   refine LV.world hW ?_
   refine LV.appE hS h8 rfl rfl rfl rfl el64 rfl rfl rfl fun x5 T5 n5 h9 ρ its hS => ?_
   refine as_ ?_
   refine dn (CV.region ?_)
   refine mv ?_
   refine vy (V.un h9 rfl) fun x6 h10 => ?_
   refine as_ ?_
   refine LV.done ?_
   exact pa4 hS h10 ⟨rfl, rfl, rfl, rfl, trivial⟩
  subst e
  refine CV.skip ?_
  exact pa4 hS h6 ⟨rfl, rfl, rfl, rfl, trivial⟩
 intro y0 y2 y6 y7 T1 n1 ρ its hS h3
 unfold g151_k1 at h3
 refine sr ?_
 iterate 3 refine mv ?_
 refine LV.call hS h3 (g153_ok _ _ _ _ _ _ ) hP rfl rfl rfl rfl fun x2 T2 n2 h4 ρ its hS => ?_
 refine as_ ?_
 refine dn (CV.ret ?_)
 cases h4
 exact PV.ret (by simp) results151 hS (RS.tmp rfl RS.nil) rfl
def g146 (ro : List HT) (a0 a1 a2 : AV) (T : HT) (nx : Nat) : R :=
 callK (g151 ro a0 a1 a2 T nx) fun x1 T1 n1 =>
 .ok (.val x1) T1 n1
theorem g146_ok (ro : List HT) (a0 a1 a2 : AV) (T : HT) (nx : Nat) : GOk prog envE 146 [a0, a1, a2] ro T nx (g146 ro a0 a1 a2 T nx) := by
 refine GOk.of_body func146 rfl ntmps146 (by kernel_rfl) rfl fun r T' n' h1 w0 base ρ0 its hS hP => ?_
 have X : CtxW envE ρ0 ro r T' n' := trivial
 unfold g146 at h1
 refine sr ?_
 refine as_ ?_
 refine dn (sr ?_)
 iterate 3 refine mv ?_
 refine LV.call hS h1 (g151_ok _ _ _ _ _ _ ) hP rfl rfl rfl rfl fun x1 T1 n1 h2 ρ its hS => ?_
 refine as_ ?_
 refine dn (CV.ret ?_)
 cases h2
 exact PV.ret (by simp) results146 hS (RS.tmp rfl RS.nil) rfl
def g137_k1 (ih : FuncId → List HT → List AV → HT → Nat → R) (ro : List HT) (y0 y6 : AV) (T2 : HT) (n2 : Nat) : R :=
 fldK 1370014 T2 ro y0 0 fun x6 =>
 bsK 1370015 T2 n2 1 5 1 [(0, (.lit (.int .u8 (.ofNat 59))))] fun x7 T3 n3 =>
 shrK 1370017 T3 x6 fun T4 =>
 appEK 1370016 T4 ro n3 5 1 1 x6 x7 fun x8 T5 n5 =>
 faK 1370018 y0 0 fun x9 =>
 stK 1370019 T5 x9 x8 fun T6 =>
 .ok (.val (.lit (.nilIface))) T6 n5
def g137_b2 (ih : FuncId → List HT → List AV → HT → Nat → R) (ro : List HT) (lp2 : AV → AV → AV → AV → AV → AV → HT → Nat → R) (y0 y2 y6 y145 y146 y147 : AV) (T45 : HT) (n45 : Nat) : R :=
 ltK prog 3 (.tmp 147) (.tmp 146) 1370143 y147 y146 fun x73 =>
 condK 1370144 x73
 (
  iaK 1370145 y145 y147 1 fun x74 =>
  ldK 1370146 T45 ro x74 fun x75 =>
  addK prog 3 (.tmp 153) (.const (.int .i64 (.ofNat 1))) 1370151 y2 (.lit (.int .i64 (.ofNat 1))) fun x76 =>
  callK (ih 137 ro [y0, x75, x76] T45 n45) fun x77 T46 n46 =>
  bin0 prog .neq 28 (.tmp 156) (.const (.nilIface)) 1370155 x77 (.lit (.nilIface)) fun x78 =>
  condK 1370156 x78
  (
   .bad 1370157
  )
  (
   addK prog 3 (.tmp 147) (.const (.int .i64 (.ofNat 1))) 1370158 y147 (.lit (.int .i64 (.ofNat 1))) fun x79 =>
   lp2 y0 y2 y6 y145 y146 x79 T46 n46
  )
 )
 (
  fldK 1370162 T45 ro y0 0 fun x80 =>
  bsK 1370163 T45 n45 1 5 1 [(0, (.lit (.int .u8 (.ofNat 69))))] fun x81 T47 n47 =>
  shrK 1370165 T47 x80 fun T48 =>
  appEK 1370164 T48 ro n47 5 1 1 x80 x81 fun x82 T49 n49 =>
  faK 1370166 y0 0 fun x83 =>
  stK 1370167 T49 x83 x82 fun T50 =>
  g137_k1 ih ro y0 y6 T50 n49
 )
def g137 (ih : FuncId → List HT → List AV → HT → Nat → R) (ro : List HT) (a0 a1 a2 : AV) (T : HT) (nx : Nat) : R :=
 fldK 1370003 T ro a0 1 fun x1 =>
 subK prog 3 (.tmp 19) (.const (.int .i64 (.ofNat 1))) 1370004 x1 (.lit (.int .i64 (.ofNat 1))) fun x2 =>
 faK 1370005 a0 1 fun x3 =>
 stK 1370006 T x3 x2 fun T1 =>
 fldK 1370008 T1 ro a0 1 fun x4 =>
 ltK prog 3 (.tmp 26) (.const (.int .i64 (.ofNat 0))) 1370009 x4 (.lit (.int .i64 (.ofNat 0))) fun x5 =>
 condK 1370010 x5
 (
  .bad 1370011
 )
 (
  asK 1370022 a1 84 (.tup [.lit (.agg #[]), .lit (.bool false)]) fun x10 =>
  exK 1370023 x10 1 fun x11 =>
  exK 1370024 x10 0 fun x12 =>
  condK 1370025 x11
  (
   newK T1 nx (.obj [] 84) fun x13 T7 n7 =>
   st0K 1370027 x13 x12 <|
   fldK 1370030 T7 ro a0 0 fun x14 =>
   bsK 1370031 T7 n7 1 5 1 [(0, (.lit (.int .u8 (.ofNat 78))))] fun x15 T8 n8 =>
   shrK 1370033 T8 x14 fun T9 =>
   appEK 1370032 T9 ro n8 5 1 1 x14 x15 fun x16 T10 n10 =>
   faK 1370034 a0 0 fun x17 =>
   stK 1370035 T10 x17 x16 fun T11 =>
   g137_k1 ih ro a0 (.lit (.nilIface)) T11 n10
  )
  (
   asK 1370036 a1 77 (.tup [.lit (.bool false), .lit (.bool false)]) fun x18 =>
   exK 1370037 x18 1 fun x19 =>
   exK 1370038 x18 0 fun x20 =>
   condK 1370039 x19
   (
    fldK 1370043 T1 ro a0 0 fun x21 =>
    bsK 1370044 T1 nx 1 5 1 [(0, (.lit (.int .u8 (.ofNat 66))))] fun x22 T12 n12 =>
    shrK 1370046 T12 x21 fun T13 =>
    appEK 1370045 T13 ro n12 5 1 1 x21 x22 fun x23 T14 n14 =>
    faK 1370047 a0 0 fun x24 =>
    stK 1370048 T14 x24 x23 fun T15 =>
    fldK 1370051 T15 ro a0 0 fun x25 =>
    callK (g145 ro x25 x20 T15 n14) fun x26 T16 n16 =>
    faK 1370054 a0 0 fun x27 =>
    stK 1370055 T16 x27 x26 fun T17 =>
    g137_k1 ih ro a0 (.lit (.nilIface)) T17 n16
   )
   (
    asK 1370056 a1 58 (.tup [.lit (.agg #[.bool false, .slice none 0 0]), .lit (.bool false)]) fun x28 =>
    exK 1370057 x28 1 fun x29 =>
    exK 1370058 x28 0 fun x30 =>
    condK 1370059 x29
    (
     newK T1 nx (.obj [.lit (.bool false), .lit (.slice none 0 0)] 58) fun x31 T18 n18 =>
     stAK 1370061 T18 x31 x30 2 fun T19 =>
     fldK 1370064 T19 ro a0 0 fun x32 =>
     bsK 1370065 T19 n18 1 5 1 [(0, (.lit (.int .u8 (.ofNat 73))))] fun x33 T20 n20 =>
     shrK 1370067 T20 x32 fun T21 =>
     appEK 1370066 T21 ro n20 5 1 1 x32 x33 fun x34 T22 n22 =>
     faK 1370068 a0 0 fun x35 =>
     stK 1370069 T22 x35 x34 fun T23 =>
     ncK 1370072 a0 fun x36 =>
     faK 1370073 x36 0 fun x37 =>
     ldQK 1370074 T23 ro [(a0, 0, 1), (x31, 0, 2)] x37 fun x38 =>
     faK 1370075 x31 0 fun x39 =>
     ldAQK 1370076 T23 ro [(a0, 0, 1), (x31, 0, 2)] x39 2 fun x40 =>
     callK (g43 ro x40 T23 n22) fun x41 T24 n24 =>
     keepK 1370078 T23 T24 [(a0, 0, 1), (x31, 0, 2)] <|
     shrK 1370080 T24 x38 fun T25 =>
     appTK 1370079 T25 n24 5 x38 x41 fun x42 T26 n26 =>
     ncK 1370081 a0 fun x43 =>
     faK 1370082 x43 0 fun x44 =>
     stK 1370083 T26 x44 x42 fun T27 =>
     g137_k1 ih ro a0 (.lit (.nilIface)) T27 n26
    )
    (
     asK 1370084 a1 62 (.tup [.lit (.string ⟨#[]⟩), .lit (.bool false)]) fun x45 =>
     exK 1370085 x45 1 fun x46 =>
     exK 1370086 x45 0 fun x47 =>
     condK 1370087 x46
     (
      fldK 1370091 T1 ro a0 0 fun x48 =>
      bsK 1370092 T1 nx 1 5 1 [(0, (.lit (.int .u8 (.ofNat 83))))] fun x49 T28 n28 =>
      shrK 1370094 T28 x48 fun T29 =>
      appEK 1370093 T29 ro n28 5 1 1 x48 x49 fun x50 T30 n30 =>
      faK 1370095 a0 0 fun x51 =>
      stK 1370096 T30 x51 x50 fun T31 =>
      fldK 1370099 T31 ro a0 0 fun x52 =>
      lenTK 1370101 x47 fun x53 =>
      callK (g146 ro x52 x53 (.lit (.int .i64 (.ofNat 10))) T31 n30) fun x54 T32 n32 =>
      faK 1370103 a0 0 fun x55 =>
      stK 1370104 T32 x55 x54 fun T33 =>
      fldK 1370107 T33 ro a0 0 fun x56 =>
      bsK 1370108 T33 n32 1 5 1 [(0, (.lit (.int .u8 (.ofNat 58))))] fun x57 T34 n34 =>
      shrK 1370110 T34 x56 fun T35 =>
      appEK 1370109 T35 ro n34 5 1 1 x56 x57 fun x58 T36 n36 =>
      faK 1370111 a0 0 fun x59 =>
      stK 1370112 T36 x59 x58 fun T37 =>
      fldK 1370115 T37 ro a0 0 fun x60 =>
      shrK 1370118 T37 x60 fun T38 =>
      appTK 1370117 T38 n36 5 x60 x47 fun x61 T39 n39 =>
      faK 1370119 a0 0 fun x62 =>
      stK 1370120 T39 x62 x61 fun T40 =>
      g137_k1 ih ro a0 (.lit (.nilIface)) T40 n39
     )
     (
      asK 1370121 a1 80 (.tup [.lit (.pointer none), .lit (.bool false)]) fun x63 =>
      exK 1370122 x63 1 fun x64 =>
      exK 1370123 x63 0 fun x65 =>
      condK 1370124 x64
      (
       geK prog 3 (.tmp 130) (.const (.int .i64 (.ofNat 60))) 1370127 a2 (.lit (.int .i64 (.ofNat 60))) fun x66 =>
       condK 1370128 x66
       (
        .bad 1370129
       )
       (
        fldK 1370132 T1 ro a0 0 fun x67 =>
        bsK 1370133 T1 nx 1 5 1 [(0, (.lit (.int .u8 (.ofNat 84))))] fun x68 T41 n41 =>
        shrK 1370135 T41 x67 fun T42 =>
        appEK 1370134 T42 ro n41 5 1 1 x67 x68 fun x69 T43 n43 =>
        faK 1370136 a0 0 fun x70 =>
        stK 1370137 T43 x70 x69 fun T44 =>
        fldK 1370139 T44 ro x65 0 fun x71 =>
        lenSK 1370140 x71 fun x72 =>
        lpf6 1370142 (g137_b2 ih ro) 100000 a0 a2 (.lit (.nilIface)) x71 x72 (.lit (.int .i64 (.ofNat 0))) T44 n43
       )
      )
      (
       .ok (.val (.iface 241 (.opq 3))) T1 nx
      )
     )
    )
   )
  )
 )
theorem g137_ok (ih : FuncId → List HT → List AV → HT → Nat → R) (hI : ∀ f ro args T nx, GOk prog envE f args ro T nx (ih f ro args T nx)) (ro : List HT) (a0 a1 a2 : AV) (T : HT) (nx : Nat) : GOk prog envE 137 [a0, a1, a2] ro T nx (g137 ih ro a0 a1 a2 T nx) := by
 refine GOk.of_body func137 rfl ntmps137 (by kernel_rfl) rfl fun r T' n' h1 w0 base ρ0 its hS hP => ?_
 have X : CtxW envE ρ0 ro r T' n' := trivial
 unfold g137 at h1
 refine sr ?_
 refine as_ ?_
 refine dn (CV.seq (sr ?_))
 refine mv ?_
 refine fl hS h1 fo218_1 one3 fun x1 h2 => ?_
 refine vy (V.sub h2 rfl rfl) fun x2 h3 => ?_
 refine fa2 h3 fo218_1 fun x3 h4 => ?_
 refine LV.st hS h4 rfl rfl rfl siz3 rfl rfl fun T1 its h5 hS => ?_
 refine dn (sr ?_)
 refine mv ?_
 refine fl hS h5 fo218_1 one3 fun x4 h6 => ?_
 refine vy (V.lt h6 rfl rfl) fun x5 h7 => ?_
 refine dn ?_
 refine CV.cond h7 rfl (fun e h8 => ?_) (fun e h8 => ?_)
 ·
  subst e
  cases h8
 subst e
 refine CV.skip (PV.thenN ?_)
 refine cs2 X 0 6 [] (g137_k1 ih ro) ?_ ?_
 ·
  refine sr ?_
  refine mv ?_
  refine dn (CV.block (sr ?_))
  refine vy (V.as h8 rfl ni84 za84) fun x10 h16 => ?_
  refine vy (V.ex h16 rfl) fun x11 h17 => ?_
  refine vy (V.ex h17 rfl) fun x12 h18 => ?_
  refine dn ?_
  refine CV.cond h18 rfl (fun e h19 => ?_) (fun e h19 => ?_)
  ·
   subst e
   refine sr ?_
   refine LV.alloc hS h19 rfl zr84 rfl rfl rfl fun x13 T7 n7 h20 ρ its hS hdr => ?_
   refine LV.st0 h20 rfl rfl rfl agg84 rfl rfl fun h21 => ?_
   refine dn (CV.region ?_)
   iterate 2 refine mv ?_
   refine fl hS h21 fo218_0 one64 fun x14 h22 => ?_
   refine LV.bslice hS h22 rfl rfl el64 rfl rfl rfl rfl fun x15 T8 n8 h23 ρ its hS hdr => ?_
   obtain ⟨T9, its1, h24, hS, hW⟩ := shrK_inv hS h23
   refine LV.world hW ?_
   refine LV.appE hS h24 rfl rfl rfl rfl el64 rfl rfl rfl fun x16 T10 n10 h25 ρ its hS => ?_
   refine fa2 h25 fo218_0 fun x17 h26 => ?_
   refine LV.st hS h26 rfl rfl rfl siz64 rfl rfl fun T11 its h27 hS => ?_
   refine LV.done (PV.blockN ?_)
   exact pa2 hS h27 ⟨rfl, rfl, trivial⟩
  subst e
  refine sr ?_
  refine vy (V.as h19 rfl ni77 za77) fun x18 h28 => ?_
  refine vy (V.ex h28 rfl) fun x19 h29 => ?_
  refine vy (V.ex h29 rfl) fun x20 h30 => ?_
  refine dn ?_
  refine CV.cond h30 rfl (fun e h31 => ?_) (fun e h31 => ?_)
  ·
   subst e
   refine sr ?_
   refine as_ ?_
   refine dn (sr ?_)
   iterate 2 refine mv ?_
   refine fl hS h31 fo218_0 one64 fun x21 h32 => ?_
   refine LV.bslice hS h32 rfl rfl el64 rfl rfl rfl rfl fun x22 T12 n12 h33 ρ its hS hdr => ?_
   obtain ⟨T13, its1, h34, hS, hW⟩ := shrK_inv hS h33
   refine LV.world hW ?_
   refine LV.appE hS h34 rfl rfl rfl rfl el64 rfl rfl rfl fun x23 T14 n14 h35 ρ its hS => ?_
   refine fa2 h35 fo218_0 fun x24 h36 => ?_
   refine LV.st hS h36 rfl rfl rfl siz64 rfl rfl fun T15 its h37 hS => ?_
   refine dn (CV.region ?_)
   iterate 2 refine mv ?_
   refine fl hS h37 fo218_0 one64 fun x25 h38 => ?_
   refine mv ?_
   refine LV.call hS h38 (g145_ok _ _ _ _ _ ) hP rfl rfl rfl rfl fun x26 T16 n16 h39 ρ its hS => ?_
   refine fa2 h39 fo218_0 fun x27 h40 => ?_
   refine LV.st hS h40 rfl rfl rfl siz64 rfl rfl fun T17 its h41 hS => ?_
   refine LV.done (PV.blockN ?_)
   exact pa2 hS h41 ⟨rfl, rfl, trivial⟩
  subst e
  refine sr ?_
  refine vy (V.as h31 rfl ni58 za58) fun x28 h42 => ?_
  refine vy (V.ex h42 rfl) fun x29 h43 => ?_
  refine vy (V.ex h43 rfl) fun x30 h44 => ?_
  refine dn ?_
  refine CV.cond h44 rfl (fun e h45 => ?_) (fun e h45 => ?_)
  ·
   subst e
   refine sr ?_
   refine LV.alloc hS h45 rfl zr58 rfl rfl rfl fun x31 T18 n18 h46 ρ its hS hdr => ?_
   refine LV.stA hS h46 rfl rfl rfl agg58 rfl rfl rfl fun T19 its h47 hS => ?_
   refine dn (sr ?_)
   iterate 2 refine mv ?_
   refine fl hS h47 fo218_0 one64 fun x32 h48 => ?_
   refine LV.bslice hS h48 rfl rfl el64 rfl rfl rfl rfl fun x33 T20 n20 h49 ρ its hS hdr => ?_
   obtain ⟨T21, its1, h50, hS, hW⟩ := shrK_inv hS h49
   refine LV.world hW ?_
   refine LV.appE hS h50 rfl rfl rfl rfl el64 rfl rfl rfl fun x34 T22 n22 h51 ρ its hS => ?_
   refine fa2 h51 fo218_0 fun x35 h52 => ?_
   refine LV.st hS h52 rfl rfl rfl siz64 rfl rfl fun T23 its h53 hS => ?_
   refine dn ?_
   refine CV.regionMS hS [(a0, 0, 1), (x31, 0, 2)] [(0, .anywhere), (1, .anywhere), (2, .anywhere), (3, .anywhere), (4, .held), (5, .anywhere), (6, .held), (7, .alone), (8, .alone), (9, .alone), (10, .alone), (11, .alone)] rfl (fun c a a' w hd hq => PanicOk.root (P := prog) (fn := f137) (w0 := w0) (base := base) (E := envE) (ro := ro) (r := r) (T' := T') (n' := n') (ρ0 := ρ0) c a a' w hd hq) (by kernel_rfl) ?_
   have hK := KeepS.start [(a0, 0, 1), (x31, 0, 2)] hS
   have hR := hS
   have hP0 := hP
   replace hP := PK.up hR hP
   replace hS := hR.root
   refine MV.step0 (i := 0) rfl (VAL.move rfl) rfl rfl rfl ?_
   refine MV.step0 (i := 1) rfl (VAL.move rfl) rfl rfl rfl ?_
   refine MV.lift0 (i := 2) rfl (V.nc h53 rfl) rfl rfl rfl fun x36 h54 => ?_
   refine MV.lift0 (i := 3) rfl (V.fa h54 rfl fo218_0) rfl rfl rfl fun x37 h55 => ?_
   refine MV.lift1 (i := 4) rfl hK (V.ldQ hS h55 rfl one64) rfl rfl rfl [] (by kernel_rfl) fun x38 h56 => ?_
   refine MV.lift0 (i := 5) rfl (V.fa h56 rfl fo58_1) rfl rfl rfl fun x39 h57 => ?_
   refine MV.lift1 (i := 6) rfl hK (V.ldAQ hS h57 rfl agg37) rfl rfl rfl [4] (by kernel_rfl) fun x40 h58 => ?_
   refine MV.force (i := 7) rfl ?_
   refine LV.call hS h58 (g43_ok _ _ _ _ ) hP rfl rfl rfl rfl fun x41 T24 n24 h59 ρ its hS => ?_
   obtain ⟨hK, h60⟩ := KeepS.step hR hS h59
   refine LV.nextM [4] (by kernel_rfl) (fun _ => hK) ?_
   refine MV.force (i := 8) rfl ?_
   obtain ⟨T25, its1, h61, hS, hW⟩ := shrK_inv hS h60
   refine LV.world hW ?_
   refine LV.appT hS h61 rfl rfl rfl rfl el64 st9 rfl rfl rfl fun x42 T26 n26 h62 ρ its hS => ?_
   refine LV.nextM [] (by kernel_rfl) (fun z => absurd rfl z) ?_
   refine MV.force (i := 9) rfl ?_
   refine vy (V.nc h62 rfl) fun x43 h63 => ?_
   refine LV.nextM [] (by kernel_rfl) (fun z => absurd rfl z) ?_
   refine MV.force (i := 10) rfl ?_
   refine vy (V.fa h63 rfl fo218_0) fun x44 h64 => ?_
   refine LV.nextM [] (by kernel_rfl) (fun z => absurd rfl z) ?_
   refine MV.force (i := 11) rfl ?_
   refine LV.st hS h64 rfl rfl rfl siz64 rfl rfl fun T27 its h65 hS => ?_
   refine LV.nextM [] (by kernel_rfl) (fun z => absurd rfl z) ?_
   replace hS := hR.up hS
   replace hP := hP0
   refine MV.done (PV.blockN ?_)
   exact pa2 hS h65 ⟨rfl, rfl, trivial⟩
  subst e
  refine sr ?_
  refine vy (V.as h45 rfl ni62 za62) fun x45 h66 => ?_
  refine vy (V.ex h66 rfl) fun x46 h67 => ?_
  refine vy (V.ex h67 rfl) fun x47 h68 => ?_
  refine dn ?_
  refine CV.cond h68 rfl (fun e h69 => ?_) (fun e h69 => ?_)
  ·
   subst e
   refine sr ?_
   refine as_ ?_
   refine dn (sr ?_)
   iterate 2 refine mv ?_
   refine fl hS h69 fo218_0 one64 fun x48 h70 => ?_
   refine LV.bslice hS h70 rfl rfl el64 rfl rfl rfl rfl fun x49 T28 n28 h71 ρ its hS hdr => ?_
   obtain ⟨T29, its1, h72, hS, hW⟩ := shrK_inv hS h71
   refine LV.world hW ?_
   refine LV.appE hS h72 rfl rfl rfl rfl el64 rfl rfl rfl fun x50 T30 n30 h73 ρ its hS => ?_
   refine fa2 h73 fo218_0 fun x51 h74 => ?_
   refine LV.st hS h74 rfl rfl rfl siz64 rfl rfl fun T31 its h75 hS => ?_
   refine dn (sr ?_)
   iterate 2 refine mv ?_
   refine fl hS h75 fo218_0 one64 fun x52 h76 => ?_
   refine mv ?_
   refine vy (V.lenT h76 rfl ls62) fun x53 h77 => ?_
   refine LV.call hS h77 (g146_ok _ _ _ _ _ _ ) hP rfl rfl rfl rfl fun x54 T32 n32 h78 ρ its hS => ?_
   refine fa2 h78 fo218_0 fun x55 h79 => ?_
   refine LV.st hS h79 rfl rfl rfl siz64 rfl rfl fun T33 its h80 hS => ?_
   refine dn (sr ?_)
   iterate 2 refine mv ?_
   refine fl hS h80 fo218_0 one64 fun x56 h81 => ?_
   refine LV.bslice hS h81 rfl rfl el64 rfl rfl rfl rfl fun x57 T34 n34 h82 ρ its hS hdr => ?_
   obtain ⟨T35, its1, h83, hS, hW⟩ := shrK_inv hS h82
   refine LV.world hW ?_
   refine LV.appE hS h83 rfl rfl rfl rfl el64 rfl rfl rfl fun x58 T36 n36 h84 ρ its hS => ?_
   refine fa2 h84 fo218_0 fun x59 h85 => ?_
   refine LV.st hS h85 rfl rfl rfl siz64 rfl rfl fun T37 its h86 hS => ?_
   refine dn (CV.region ?_)
   iterate 2 refine mv ?_
   refine fl hS h86 fo218_0 one64 fun x60 h87 => ?_
   refine mv ?_
   obtain ⟨T38, its1, h88, hS, hW⟩ := shrK_inv hS h87
   refine LV.world hW ?_
   refine LV.appT hS h88 rfl rfl rfl rfl el64 st62 rfl rfl rfl fun x61 T39 n39 h89 ρ its hS => ?_
   refine fa2 h89 fo218_0 fun x62 h90 => ?_
   refine LV.st hS h90 rfl rfl rfl siz64 rfl rfl fun T40 its h91 hS => ?_
   refine LV.done (PV.blockN ?_)
   exact pa2 hS h91 ⟨rfl, rfl, trivial⟩
  subst e
  refine sr ?_
  refine vy (V.as h69 rfl ni80 za80) fun x63 h92 => ?_
  refine vy (V.ex h92 rfl) fun x64 h93 => ?_
  refine vy (V.ex h93 rfl) fun x65 h94 => ?_
  refine dn ?_
  refine CV.cond h94 rfl (fun e h95 => ?_) (fun e h95 => ?_)
  ·
   subst e
   refine sr ?_
   refine as_ ?_
   refine dn (CV.seq (sr ?_))
   refine mv ?_
   refine vy (V.ge h95 rfl rfl) fun x66 h96 => ?_
   refine dn ?_
   refine CV.cond h96 rfl (fun e h97 => ?_) (fun e h97 => ?_)
   ·
    subst e
    cases h97
   subst e
   refine CV.skip (PV.thenN (sr ?_))
   iterate 2 refine mv ?_
   refine fl hS h97 fo218_0 one64 fun x67 h98 => ?_
   refine LV.bslice hS h98 rfl rfl el64 rfl rfl rfl rfl fun x68 T41 n41 h99 ρ its hS hdr => ?_
   obtain ⟨T42, its1, h100, hS, hW⟩ := shrK_inv hS h99
   refine LV.world hW ?_
   refine LV.appE hS h100 rfl rfl rfl rfl el64 rfl rfl rfl fun x69 T43 n43 h101 ρ its hS => ?_
   refine fa2 h101 fo218_0 fun x70 h102 => ?_
   refine LV.st hS h102 rfl rfl rfl siz64 rfl rfl fun T44 its h103 hS => ?_
   refine dn (CV.seq (sr ?_))
   refine mv ?_
   refine fl hS h103 fo82_1 one42 fun x71 h104 => ?_
   refine vy (V.lenS h104 rfl ls42) fun x72 h105 => ?_
   refine mv ?_
   refine dn (CV.block ?_)
   refine cl6 X 0 2 6 145 146 147 [] hS h105 ⟨rfl, rfl, rfl, rfl, rfl, rfl, trivial⟩ ?_
   intro f2 y0 y2 y6 y145 y146 y147 T45 n45 ρ its hS h106
   unfold g137_b2 at h106
   refine sr ?_
   refine vy (V.lt h106 rfl rfl) fun x73 h107 => ?_
   refine dn (CV.seq ?_)
   refine CV.cond h107 rfl (fun e h108 => ?_) (fun e h108 => ?_)
   ·
    subst e
    refine CV.skip (PV.thenN (CV.seq (CV.block (sr ?_))))
    refine vy (V.ia h108 rfl rfl el42) fun x74 h109 => ?_
    refine vy (V.ld hS h109 rfl one25) fun x75 h110 => ?_
    refine as_ ?_
    refine dn (sr ?_)
    iterate 3 refine mv ?_
    refine vy (V.add h110 rfl rfl) fun x76 h111 => ?_
    refine LV.call hS h111 (hI _ _ _ _ _) hP rfl rfl rfl rfl fun x77 T46 n46 h112 ρ its hS => ?_
    refine as_ ?_
    refine dn (sr ?_)
    refine mv ?_
    refine vy (V.bin0 h112 rfl rfl) fun x78 h113 => ?_
    refine dn ?_
    refine CV.cond h113 rfl (fun e h114 => ?_) (fun e h114 => ?_)
    ·
     subst e
     cases h114
    subst e
    refine CV.skip (PV.blockN (PV.thenN (CV.region ?_)))
    refine vy (V.add h114 rfl rfl) fun x79 h115 => ?_
    refine mv ?_
    refine LV.done ?_
    exact pb6 hS h115 ⟨rfl, rfl, rfl, rfl, rfl, rfl, trivial⟩
   subst e
   refine CV.exit (PV.thenE (PV.thenE (PV.blockE (PV.thenN (CV.region ?_)))))
   iterate 2 refine mv ?_
   refine fl hS h108 fo218_0 one64 fun x80 h116 => ?_
   refine LV.bslice hS h116 rfl rfl el64 rfl rfl rfl rfl fun x81 T47 n47 h117 ρ its hS hdr => ?_
   obtain ⟨T48, its1, h118, hS, hW⟩ := shrK_inv hS h117
   refine LV.world hW ?_
   refine LV.appE hS h118 rfl rfl rfl rfl el64 rfl rfl rfl fun x82 T49 n49 h119 ρ its hS => ?_
   refine fa2 h119 fo218_0 fun x83 h120 => ?_
   refine LV.st hS h120 rfl rfl rfl siz64 rfl rfl fun T50 its h121 hS => ?_
   refine LV.done (PV.blockN ?_)
   exact pa2 hS h121 ⟨rfl, rfl, trivial⟩
  subst e
  refine sr ?_
  refine as_ ?_
  refine dn (sr ?_)
  refine sv (VAL.ldG hS (by rfl) one28) ?_
  refine as_ ?_
  refine dn (CV.ret (PV.blockR (PV.thenR ?_)))
  cases h95
  exact PV.ret (by simp) results137 hS (RS.tmp rfl RS.nil) rfl
 intro y0 y6 T2 n2 ρ its hS h9
 unfold g137_k1 at h9
 refine sr ?_
 iterate 2 refine mv ?_
 refine fl hS h9 fo218_0 one64 fun x6 h10 => ?_
 refine LV.bslice hS h10 rfl rfl el64 rfl rfl rfl rfl fun x7 T3 n3 h11 ρ its hS hdr => ?_
 obtain ⟨T4, its1, h12, hS, hW⟩ := shrK_inv hS h11
 refine LV.world hW ?_
 refine LV.appE hS h12 rfl rfl rfl rfl el64 rfl rfl rfl fun x8 T5 n5 h13 ρ its hS => ?_
 refine fa2 h13 fo218_0 fun x9 h14 => ?_
 refine LV.st hS h14 rfl rfl rfl siz64 rfl rfl fun T6 its h15 hS => ?_
 refine dn (sr ?_)
 refine as_ ?_
 refine dn (CV.ret ?_)
 cases h15
 exact PV.ret (by simp) results137 hS (RS.tmp rfl RS.nil) rfl
def ap5 (ih : FuncId → List HT → List AV → HT → Nat → R) (f : FuncId) (ro : List HT) (args : List AV) (T : HT) (nx : Nat) : R :=
  Bool.rec (motive := fun _ => R) (.bad 2) (List.rec (motive := fun _ => R) (.bad 1) (fun a0 l0 _ => List.rec (motive := fun _ => R) (.bad 1) (fun a1 l1 _ => List.rec (motive := fun _ => R) (.bad 1) (fun a2 l2 _ => List.rec (motive := fun _ => R) (g137 ih ro a0 a1 a2 T nx) (fun _ _ _ => .bad 1) l2) l1) l0) args) (Nat.beq f 137)
def scc5 (fuel : Nat) : FuncId → List HT → List AV → HT → Nat → R :=
  Nat.rec (motive := fun _ => FuncId → List HT → List AV → HT → Nat → R) (fun _ _ _ _ _ => .bad 3) (fun _ ih => ap5 ih) fuel
theorem ap5_ok (ih : FuncId → List HT → List AV → HT → Nat → R) (hI : ∀ f ro args T nx, GOk prog envE f args ro T nx (ih f ro args T nx)) (f : FuncId) (ro : List HT) (args : List AV) (T : HT) (nx : Nat) : GOk prog envE f args ro T nx (ap5 ih f ro args T nx) := by
  unfold ap5
  refine recb_go (fun hb => ?_) (fun _ => ?_)
  · obtain rfl := beqT hb
    rcases args with _ | ⟨a0, l0⟩
    · exact GOk.bad
    rcases l0 with _ | ⟨a1, l1⟩
    · exact GOk.bad
    rcases l1 with _ | ⟨a2, l2⟩
    · exact GOk.bad
    rcases l2 with _ | ⟨_, _⟩
    · exact g137_ok _ hI _ _ _ _ _ _ 
    · exact GOk.bad
  · exact GOk.bad
theorem scc5_ok : ∀ (fuel : Nat) (f : FuncId) (ro : List HT) (args : List AV) (T : HT) (nx : Nat), GOk prog envE f args ro T nx (scc5 fuel f ro args T nx)
  | 0, _, _, _, _, _ => GOk.bad
  | fuel + 1, f, ro, args, T, nx => ap5_ok (scc5 fuel) (scc5_ok fuel) f ro args T nx
def g121 (ro : List HT) (a0 : AV) (T : HT) (nx : Nat) : R :=
 optK 1210003 (bld218 [(1, (.lit (.int .i64 (.ofNat 4096))))]) fun x1 =>
 boxK 1210004 T nx x1 218 fun x2 T1 n1 =>
 callK (scc5 4000 137 ro [x2, a0, (.lit (.int .i64 (.ofNat 0)))] T1 n1) fun x3 T2 n2 =>
 bin0 prog .neq 28 (.tmp 11) (.const (.nilIface)) 1210011 x3 (.lit (.nilIface)) fun x4 =>
 condK 1210012 x4
 (
  .bad 1210013
 )
 (
  fldK 1210015 T2 ro x2 0 fun x5 =>
  strBK 1210016 T2 5 x5 fun x6 =>
  .ok (.val (.tup [x6, (.lit (.nilIface))])) T2 n2
 )
theorem g121_ok (ro : List HT) (a0 : AV) (T : HT) (nx : Nat) : GOk prog envE 121 [a0] ro T nx (g121 ro a0 T nx) := by
 refine GOk.of_body func121 rfl ntmps121 (by kernel_rfl) rfl fun r T' n' h1 w0 base ρ0 its hS hP => ?_
 have X : CtxW envE ρ0 ro r T' n' := trivial
 unfold g121 at h1
 refine sr ?_
 iterate 2 refine as_ ?_
 refine dn (sr ?_)
 refine vy (V.bld h1 rfl) fun x1 h2 => ?_
 refine LV.box hS h2 rfl rfl rfl rfl rfl fun x2 T1 n1 h3 ρ its hS hdr => ?_
 refine as_ ?_
 refine dn (CV.seq (sr ?_))
 iterate 2 refine mv ?_
 refine LV.call hS h3 (scc5_ok _ _ _ _ _ _) hP rfl rfl rfl rfl fun x3 T2 n2 h4 ρ its hS => ?_
 refine as_ ?_
 refine dn (sr ?_)
 refine mv ?_
 refine vy (V.bin0 h4 rfl rfl) fun x4 h5 => ?_
 refine dn ?_
 refine CV.cond h5 rfl (fun e h6 => ?_) (fun e h6 => ?_)
 ·
  subst e
  cases h6
 subst e
 refine CV.skip (PV.thenN (sr ?_))
 refine mv ?_
 refine fl hS h6 fo218_0 one64 fun x5 h7 => ?_
 refine vy (V.strB hS h7 rfl slt64 u8t5 st9) fun x6 h8 => ?_
 iterate 2 refine as_ ?_
 refine dn (CV.ret ?_)
 cases h8
 exact PV.ret (by simp) results121 hS (RS.tmp rfl (RS.tmp rfl RS.nil)) rfl
def g90 (ro : List HT) (a0 a1 : AV) (T : HT) (nx : Nat) : R :=
 callK (g121 ro a1 T nx) fun x1 T1 n1 =>
 exK 900007 x1 0 fun x2 =>
 exK 900008 x1 1 fun x3 =>
 bin0 prog .neq 28 (.tmp 15) (.const (.nilIface)) 900012 x3 (.lit (.nilIface)) fun x4 =>
 condK 900013 x4
 (
  .bad 900014
 )
 (
  fldK 900016 T1 ro a0 1 fun x5 =>
  lkSK 900018 T1 ro x5 x2 (.lit (.pointer none)) false fun x6 =>
  bin0 prog .eql 129 (.tmp 24) (.const (.pointer none)) 900021 x6 (.lit (.pointer none)) fun x7 =>
  condK 900022 x7
  (
   .ok (.val (.tup [(.lit (.nilIface)), (.lit (.bool false)), (.lit (.nilIface))])) T1 n1
  )
  (
   fldK 900027 T1 ro x6 2 fun x8 =>
   .ok (.val (.tup [x8, (.lit (.bool true)), (.lit (.nilIface))])) T1 n1
  )
 )
theorem g90_ok (ro : List HT) (a0 a1 : AV) (T : HT) (nx : Nat) : GOk prog envE 90 [a0, a1] ro T nx (g90 ro a0 a1 T nx) := by
 refine GOk.of_body func90 rfl ntmps90 (by kernel_rfl) rfl fun r T' n' h1 w0 base ρ0 its hS hP => ?_
 have X : CtxW envE ρ0 ro r T' n' := trivial
 unfold g90 at h1
 refine sr ?_
 iterate 3 refine as_ ?_
 refine dn (sr ?_)
 refine mv ?_
 refine LV.call hS h1 (g121_ok _ _ _ _ ) hP rfl rfl rfl rfl fun x1 T1 n1 h2 ρ its hS => ?_
 refine mv ?_
 refine vy (V.ex h2 rfl) fun x2 h3 => ?_
 refine vy (V.ex h3 rfl) fun x3 h4 => ?_
 iterate 2 refine as_ ?_
 refine dn (CV.seq (sr ?_))
 refine mv ?_
 refine vy (V.bin0 h4 rfl rfl) fun x4 h5 => ?_
 refine dn ?_
 refine CV.cond h5 rfl (fun e h6 => ?_) (fun e h6 => ?_)
 ·
  subst e
  cases h6
 subst e
 refine CV.skip (PV.thenN (sr ?_))
 refine mv ?_
 refine fl hS h6 fo128_2 one126 fun x5 h7 => ?_
 refine mv ?_
 refine vy (V.lkS hS h7 rfl rfl map126 ud9 zw129) fun x6 h8 => ?_
 refine as_ ?_
 refine dn (CV.seq (sr ?_))
 refine mv ?_
 refine vy (V.bin0 h8 rfl rfl) fun x7 h9 => ?_
 refine dn ?_
 refine CV.cond h9 rfl (fun e h10 => ?_) (fun e h10 => ?_)
 ·
  subst e
  refine sr ?_
  iterate 3 refine as_ ?_
  refine dn (CV.ret (PV.thenR ?_))
  cases h10
  exact PV.ret (by simp) results90 hS (RS.tmp rfl (RS.tmp rfl (RS.tmp rfl RS.nil))) rfl
 subst e
 refine CV.skip (PV.thenN (sr ?_))
 refine mv ?_
 refine fl hS h10 fo131_2 one25 fun x8 h11 => ?_
 iterate 3 refine as_ ?_
 refine dn (CV.ret ?_)
 cases h11
 exact PV.ret (by simp) results90 hS (RS.tmp rfl (RS.tmp rfl (RS.tmp rfl RS.nil))) rfl
def g122_k1 (ro : List HT) (y14 : AV) (T1 : HT) (n1 : Nat) : R :=
 .ok (.val y14) T1 n1
def g122 (ro : List HT) (a0 : AV) (T : HT) (nx : Nat) : R :=
 fldK 1220003 T ro a0 2 fun x1 =>
 notK 1220004 x1 fun x2 =>
 condK 1220007 x2
 (
  ncK 1220009 a0 fun x3 =>
  faK 1220010 x3 3 fun x4 =>
  ldK 1220011 T ro x4 fun x5 =>
  eqK prog 3 (.tmp 12) (.const (.int .i64 (.ofNat 0))) 1220012 x5 (.lit (.int .i64 (.ofNat 0))) fun x6 =>
  g122_k1 ro x6 T nx
 )
 (
  g122_k1 ro (.lit (.bool false)) T nx
 )
theorem g122_ok (ro : List HT) (a0 : AV) (T : HT) (nx : Nat) : GOk prog envE 122 [a0] ro T nx (g122 ro a0 T nx) := by
 refine GOk.of_body func122 rfl ntmps122 (by kernel_rfl) rfl fun r T' n' h1 w0 base ρ0 its hS hP => ?_
 have X : CtxW envE ρ0 ro r T' n' := trivial
 unfold g122 at h1
 refine sr ?_
 refine as_ ?_
 refine dn (sr ?_)
 refine mv ?_
 refine fl hS h1 fo128_3 one4 fun x1 h2 => ?_
 refine vy (V.not h2 rfl) fun x2 h3 => ?_
 refine mv ?_
 refine ls1 X 14 [(2, (.lit (.bool false)))] (g122_k1 ro) 6 ?_ ?_
 ·
  rcases condK_inv h3 with ⟨e, h5⟩ | ⟨e, h5⟩
  ·
   subst e
   refine mv ?_
   refine vy (V.nc h5 rfl) fun x3 h6 => ?_
   refine vy (V.fa h6 rfl fo128_4) fun x4 h7 => ?_
   refine vy (V.ld hS h7 rfl one3) fun x5 h8 => ?_
   refine vy (V.eq h8 rfl rfl) fun x6 h9 => ?_
   refine pu ?_
   exact la1 hS h9 ⟨rfl, rfl, trivial⟩
  subst e
  iterate 5 refine sk ?_
  refine pu ?_
  exact la1 hS h5 ⟨rfl, rfl, trivial⟩
 intro y14 T1 n1 ρ its hS h4
 unfold g122_k1 at h4
 refine as_ ?_
 refine dn (CV.ret ?_)
 cases h4
 exact PV.ret (by simp) results122 hS (RS.tmp rfl RS.nil) rfl
def g91 (ro : List HT) (a0 a1 a2 : AV) (T : HT) (nx : Nat) : R :=
 callK (g121 ro a1 T nx) fun x1 T1 n1 =>
 exK 910005 x1 0 fun x2 =>
 exK 910006 x1 1 fun x3 =>
 bin0 prog .neq 28 (.tmp 16) (.const (.nilIface)) 910010 x3 (.lit (.nilIface)) fun x4 =>
 condK 910011 x4
 (
  .bad 910012
 )
 (
  callK (g122 ro a0 T1 n1) fun x5 T2 n2 =>
  notK 910015 x5 fun x6 =>
  condK 910016 x6
  (
   .bad 910017
  )
  (
   fldK 910019 T2 ro a0 1 fun x7 =>
   lkSK 910021 T2 ro x7 x2 (.lit (.pointer none)) false fun x8 =>
   bin0 prog .neq 129 (.tmp 29) (.const (.pointer none)) 910024 x8 (.lit (.pointer none)) fun x9 =>
   condK 910025 x9
   (
    .bad 910026
   )
   (
    optK 910030 (bld131 [(0, x2), (1, a1), (2, a2)]) fun x10 =>
    boxK 910031 T2 n2 x10 131 fun x11 T3 n3 =>
    fldK 910034 T3 ro a0 1 fun x12 =>
    msSK 910037 T3 x12 x2 x11 fun T4 =>
    fldK 910040 T4 ro a0 0 fun x13 =>
    bsK 910042 T4 n3 1 129 1 [(0, x11)] fun x14 T5 n5 =>
    shrK 910044 T5 x13 fun T6 =>
    appEK 910043 T6 ro n5 129 1 8 x13 x14 fun x15 T7 n7 =>
    faK 910045 a0 0 fun x16 =>
    stK 910046 T7 x16 x15 fun T8 =>
    .ok (.val (.lit (.nilIface))) T8 n7
   )
  )
 )
theorem g91_ok (ro : List HT) (a0 a1 a2 : AV) (T : HT) (nx : Nat) : GOk prog envE 91 [a0, a1, a2] ro T nx (g91 ro a0 a1 a2 T nx) := by
 refine GOk.of_body func91 rfl ntmps91 (by kernel_rfl) rfl fun r T' n' h1 w0 base ρ0 its hS hP => ?_
 have X : CtxW envE ρ0 ro r T' n' := trivial
 unfold g91 at h1
 refine sr ?_
 refine as_ ?_
 refine dn (sr ?_)
 refine mv ?_
 refine LV.call hS h1 (g121_ok _ _ _ _ ) hP rfl rfl rfl rfl fun x1 T1 n1 h2 ρ its hS => ?_
 refine mv ?_
 refine vy (V.ex h2 rfl) fun x2 h3 => ?_
 refine vy (V.ex h3 rfl) fun x3 h4 => ?_
 iterate 2 refine as_ ?_
 refine dn (CV.seq (sr ?_))
 refine mv ?_
 refine vy (V.bin0 h4 rfl rfl) fun x4 h5 => ?_
 refine dn ?_
 refine CV.cond h5 rfl (fun e h6 => ?_) (fun e h6 => ?_)
 ·
  subst e
  cases h6
 subst e
 refine CV.skip (PV.thenN (CV.seq (sr ?_)))
 refine mv ?_
 refine LV.call hS h6 (g122_ok _ _ _ _ ) hP rfl rfl rfl rfl fun x5 T2 n2 h7 ρ its hS => ?_
 refine vy (V.not h7 rfl) fun x6 h8 => ?_
 refine dn ?_
 refine CV.cond h8 rfl (fun e h9 => ?_) (fun e h9 => ?_)
 ·
  subst e
  cases h9
 subst e
 refine CV.skip (PV.thenN (CV.seq (sr ?_)))
 refine mv ?_
 refine fl hS h9 fo128_2 one126 fun x7 h10 => ?_
 refine mv ?_
 refine vy (V.lkS hS h10 rfl rfl map126 ud9 zw129) fun x8 h11 => ?_
 refine as_ ?_
 refine dn (sr ?_)
 refine mv ?_
 refine vy (V.bin0 h11 rfl rfl) fun x9 h12 => ?_
 refine dn ?_
 refine CV.cond h12 rfl (fun e h13 => ?_) (fun e h13 => ?_)
 ·
  subst e
  cases h13
 subst e
 refine CV.skip (PV.thenN (sr ?_))
 iterate 3 refine mv ?_
 refine vy (V.bld h13 rfl) fun x10 h14 => ?_
 refine LV.box hS h14 rfl rfl rfl rfl rfl fun x11 T3 n3 h15 ρ its hS hdr => ?_
 refine as_ ?_
 refine dn (sr ?_)
 refine mv ?_
 refine fl hS h15 fo128_2 one126 fun x12 h16 => ?_
 iterate 2 refine mv ?_
 refine LV.msS hS h16 rfl rfl rfl (.inl rfl) map126 ud9 rfl rfl fun T4 its h17 hS => ?_
 refine dn (sr ?_)
 iterate 2 refine mv ?_
 refine fl hS h17 fo128_1 one125 fun x13 h18 => ?_
 refine mv ?_
 refine LV.bslice hS h18 rfl rfl el125 rfl rfl rfl rfl fun x14 T5 n5 h19 ρ its hS hdr => ?_
 obtain ⟨T6, its1, h20, hS, hW⟩ := shrK_inv hS h19
 refine LV.world hW ?_
 refine LV.appE hS h20 rfl rfl rfl rfl el125 rfl rfl rfl fun x15 T7 n7 h21 ρ its hS => ?_
 refine fa2 h21 fo128_1 fun x16 h22 => ?_
 refine LV.st hS h22 rfl rfl rfl siz125 rfl rfl fun T8 its h23 hS => ?_
 refine dn (sr ?_)
 refine as_ ?_
 refine dn (CV.ret ?_)
 cases h23
 exact PV.ret (by simp) results91 hS (RS.tmp rfl RS.nil) rfl
def g67_b1 (ro : List HT) (lp1 : AV → AV → AV → AV → AV → HT → Nat → R) (y0 y2 y3 y4 y5 : AV) (T2 : HT) (n2 : Nat) : R :=
 lenSK 670009 y0 fun x2 =>
 ltK prog 3 (.tmp 10) (.tmp 12) 670010 y5 x2 fun x3 =>
 condK 670011 x3
 (
  iaK 670015 y0 y5 1 fun x4 =>
  ldK 670016 T2 ro x4 fun x5 =>
  callK (g90 ro y4 x5 T2 n2) fun x6 T3 n3 =>
  exK 670019 x6 0 fun x7 =>
  exK 670020 x6 1 fun x8 =>
  exK 670021 x6 2 fun x9 =>
  bin0 prog .neq 28 (.tmp 26) (.const (.nilIface)) 670026 x9 (.lit (.nilIface)) fun x10 =>
  condK 670027 x10
  (
   .bad 670028
  )
  (
   condK 670030 x8
   (
    .bad 670031
   )
   (
    iaK 670035 y0 y5 1 fun x11 =>
    ldK 670036 T3 ro x11 fun x12 =>
    addK prog 3 (.tmp 37) (.const (.int .i64 (.ofNat 1))) 670039 y5 (.lit (.int .i64 (.ofNat 1))) fun x13 =>
    iaK 670040 y0 x13 1 fun x14 =>
    ldK 670041 T3 ro x14 fun x15 =>
    callK (g91 ro y4 x12 x15 T3 n3) fun x16 T4 n4 =>
    addK prog 3 (.tmp 14) (.const (.int .i64 (.ofNat 2))) 670044 y5 (.lit (.int .i64 (.ofNat 2))) fun x17 =>
    lp1 y0 y2 y3 y4 x17 T4 n4
   )
  )
 )
 (
  .ok (.val (.tup [(.iface 85 y4), (.lit (.nilIface))])) T2 n2
 )
def g67 (ro : List HT) (a0 : AV) (T : HT) (nx : Nat) : R :=
 callK (g89 ro T nx) fun x1 T1 n1 =>
 lpf5 670006 (g67_b1 ro) 100000 a0 (.lit (.nilIface)) (.lit (.nilIface)) x1 (.lit (.int .i64 (.ofNat 0))) T1 n1
theorem g67_ok (ro : List HT) (a0 : AV) (T : HT) (nx : Nat) : GOk prog envE 67 [a0] ro T nx (g67 ro a0 T nx) := by
 refine GOk.of_body func67 rfl ntmps67 (by kernel_rfl) rfl fun r T' n' h1 w0 base ρ0 its hS hP => ?_
 have X : CtxW envE ρ0 ro r T' n' := trivial
 unfold g67 at h1
 refine sr ?_
 iterate 2 refine as_ ?_
 refine dn (sr ?_)
 refine LV.call hS h1 (g89_ok _ _ _ ) hP rfl rfl rfl rfl fun x1 T1 n1 h2 ρ its hS => ?_
 refine as_ ?_
 refine dn (CV.seq (sr ?_))
 refine as_ ?_
 refine dn (CV.block ?_)
 refine cl5 X 0 2 3 4 5 [] hS h2 ⟨rfl, rfl, rfl, rfl, rfl, trivial⟩ ?_
 intro f1 y0 y2 y3 y4 y5 T2 n2 ρ its hS h3
 unfold g67_b1 at h3
 refine CV.seq (sr ?_)
 iterate 2 refine mv ?_
 refine vy (V.lenS h3 rfl ls42) fun x2 h4 => ?_
 refine vy (V.lt h4 rfl rfl) fun x3 h5 => ?_
 refine dn ?_
 refine CV.cond h5 rfl (fun e h6 => ?_) (fun e h6 => ?_)
 ·
  subst e
  refine CV.skip (PV.thenN (CV.seq (CV.block (sr ?_))))
  iterate 3 refine mv ?_
  refine vy (V.ia h6 rfl rfl el42) fun x4 h7 => ?_
  refine vy (V.ld hS h7 rfl one25) fun x5 h8 => ?_
  refine LV.call hS h8 (g90_ok _ _ _ _ _ ) hP rfl rfl rfl rfl fun x6 T3 n3 h9 ρ its hS => ?_
  refine mv ?_
  refine vy (V.ex h9 rfl) fun x7 h10 => ?_
  refine vy (V.ex h10 rfl) fun x8 h11 => ?_
  refine vy (V.ex h11 rfl) fun x9 h12 => ?_
  iterate 3 refine as_ ?_
  refine dn (CV.seq (sr ?_))
  refine mv ?_
  refine vy (V.bin0 h12 rfl rfl) fun x10 h13 => ?_
  refine dn ?_
  refine CV.cond h13 rfl (fun e h14 => ?_) (fun e h14 => ?_)
  ·
   subst e
   cases h14
  subst e
  refine CV.skip (PV.thenN (CV.seq (sr ?_)))
  refine mv ?_
  refine dn ?_
  refine CV.cond h14 rfl (fun e h15 => ?_) (fun e h15 => ?_)
  ·
   subst e
   cases h15
  subst e
  refine CV.skip (PV.thenN ?_)
  refine CV.regionM [(0, .anywhere), (1, .anywhere), (2, .anywhere), (3, .anywhere), (4, .held), (5, .anywhere), (6, .anywhere), (7, .anywhere), (8, .anywhere), (9, .held), (10, .alone)] rfl (fun c a a' w hd hq => PanicOk.root (P := prog) (fn := f67) (w0 := w0) (base := base) (E := envE) (ro := ro) (r := r) (T' := T') (n' := n') (ρ0 := ρ0) c a a' w hd hq) (by kernel_rfl) ?_
  refine MV.step0 (i := 0) rfl (VAL.move rfl) rfl rfl rfl ?_
  refine MV.step0 (i := 1) rfl (VAL.move rfl) rfl rfl rfl ?_
  refine MV.step0 (i := 2) rfl (VAL.move rfl) rfl rfl rfl ?_
  refine MV.lift0 (i := 3) rfl (V.ia h15 rfl rfl el42) rfl rfl rfl fun x11 h16 => ?_
  refine MV.lift1 (i := 4) rfl (fun _ z => z) (V.ld hS h16 rfl one25) rfl rfl rfl [] (by kernel_rfl) fun x12 h17 => ?_
  refine MV.step0 (i := 5) rfl (VAL.move rfl) rfl rfl rfl ?_
  refine MV.step0 (i := 6) rfl (VAL.move rfl) rfl rfl rfl ?_
  refine MV.lift0 (i := 7) rfl (V.add h17 rfl rfl) rfl rfl rfl fun x13 h18 => ?_
  refine MV.lift0 (i := 8) rfl (V.ia h18 rfl rfl el42) rfl rfl rfl fun x14 h19 => ?_
  refine MV.lift1 (i := 9) rfl (fun _ z => z) (V.ld hS h19 rfl one25) rfl rfl rfl [4] (by kernel_rfl) fun x15 h20 => ?_
  refine MV.force (i := 10) rfl ?_
  refine LV.call hS h20 (g91_ok _ _ _ _ _ _ ) hP rfl rfl rfl rfl fun x16 T4 n4 h21 ρ its hS => ?_
  refine LV.nextM [] (by kernel_rfl) (fun z => absurd rfl z) ?_
  refine MV.done (PV.blockN (PV.thenN (CV.region ?_)))
  refine mv ?_
  refine vy (V.add h21 rfl rfl) fun x17 h22 => ?_
  refine as_ ?_
  refine LV.done ?_
  exact pb5 hS h22 ⟨rfl, rfl, rfl, rfl, rfl, trivial⟩
 subst e
 refine CV.exit (PV.thenE (PV.thenE (PV.blockE (PV.thenN (sr ?_)))))
 refine mv ?_
 refine sv (VAL.mkI rfl ni85) ?_
 iterate 2 refine as_ ?_
 refine dn (CV.ret ?_)
 cases h6
 exact PV.ret (by simp) results67 hS (RS.tmp rfl (RS.tmp rfl RS.nil)) rfl
def g68 (ro : List HT) (T : HT) (nx : Nat) : R :=
 optK 680002 (bld84 []) fun x1 =>
 .ok (.val (.iface 84 x1)) T nx
theorem g68_ok (ro : List HT) (T : HT) (nx : Nat) : GOk prog envE 68 [] ro T nx (g68 ro T nx) := by
 refine GOk.of_body func68 rfl ntmps68 (by kernel_rfl) rfl fun r T' n' h1 w0 base ρ0 its hS hP => ?_
 have X : CtxW envE ρ0 ro r T' n' := trivial
 unfold g68 at h1
 refine sr ?_
 refine as_ ?_
 refine dn (sr ?_)
 refine vy (V.bld h1 rfl) fun x1 h2 => ?_
 refine sv (VAL.mkI rfl ni84) ?_
 refine as_ ?_
 refine dn (CV.ret ?_)
 cases h2
 exact PV.ret (by simp) results68 hS (RS.tmp rfl RS.nil) rfl
def g39_k2 (ih : FuncId → List HT → List AV → HT → Nat → R) (ro : List HT) (y4 y5 y6 y7 y47 y48 : AV) (T9 : HT) (n9 : Nat) : R :=
 condK 390048 y48
 (
  .bad 390049
 )
 (
  eqK prog 3 (.tmp 47) (.const (.int .i64 (.ofNat 4))) 390050 y47 (.lit (.int .i64 (.ofNat 4))) fun x22 =>
  condK 390052 x22
  (
   faK 390053 y6 3 fun x23 =>
   ldK 390054 T9 ro x23 fun x24 =>
   callK (g63 ro x24 T9 n9) fun x25 T10 n10 =>
   exK 390057 x25 0 fun x26 =>
   exK 390058 x25 1 fun x27 =>
   newK T10 n10 (.obj [.lit (.bool false), .lit (.slice none 0 0)] 37) fun x28 T11 n11 =>
   stAK 390060 T11 x28 x26 2 fun T12 =>
   ldAK 390062 T12 ro x28 2 fun x29 =>
   callK (g9 ro x29 T12 n11) fun x30 T13 n13 =>
   .ok (.val (.tup [x30, (.lit (.nilIface))])) T13 n13
  )
  (
   eqK prog 3 (.tmp 47) (.const (.int .i64 (.ofNat 5))) 390066 y47 (.lit (.int .i64 (.ofNat 5))) fun x31 =>
   condK 390068 x31
   (
    faK 390069 y6 3 fun x32 =>
    ldK 390070 T9 ro x32 fun x33 =>
    callK (g11 ro x33 T9 n9) fun x34 T14 n14 =>
    .ok (.val (.tup [x34, (.lit (.nilIface))])) T14 n14
   )
   (
    eqK prog 3 (.tmp 47) (.const (.int .i64 (.ofNat 16))) 390074 y47 (.lit (.int .i64 (.ofNat 16))) fun x35 =>
    condK 390076 x35
    (
     .bad 390077
    )
    (
     eqK prog 3 (.tmp 47) (.const (.int .i64 (.ofNat 7))) 390078 y47 (.lit (.int .i64 (.ofNat 7))) fun x36 =>
     condK 390080 x36
     (
      callK (g15 ro y7 T9 n9) fun x37 T15 n15 =>
      .ok (.val (.tup [(.iface 44 x37), (.lit (.nilIface))])) T15 n15
     )
     (
      eqK prog 3 (.tmp 47) (.const (.int .i64 (.ofNat 8))) 390086 y47 (.lit (.int .i64 (.ofNat 8))) fun x38 =>
      condK 390088 x38
      (
       callK (g66 ro y7 T9 n9) fun x39 T16 n16 =>
       .ok (.val (.tup [x39, (.lit (.nilIface))])) T16 n16
      )
      (
       eqK prog 3 (.tmp 47) (.const (.int .i64 (.ofNat 9))) 390093 y47 (.lit (.int .i64 (.ofNat 9))) fun x40 =>
       condK 390095 x40
       (
        callK (g67 ro y7 T9 n9) fun x41 T17 n17 =>
        exK 390098 x41 0 fun x42 =>
        exK 390099 x41 1 fun x43 =>
        .ok (.val (.tup [x42, x43])) T17 n17
       )
       (
        callK (g68 ro T9 n9) fun x44 T18 n18 =>
        .ok (.val (.tup [x44, (.lit (.nilIface))])) T18 n18
       )
      )
     )
    )
   )
  )
 )
def g39_b1 (ih : FuncId → List HT → List AV → HT → Nat → R) (ro : List HT) (lp1 : AV → AV → AV → AV → AV → AV → AV → AV → HT → Nat → R) (y0 y4 y5 y6 y7 y21 y22 y23 : AV) (T3 : HT) (n3 : Nat) : R :=
 ltK prog 3 (.tmp 23) (.tmp 22) 390015 y23 y22 fun x7 =>
 condK 390016 x7
 (
  iaK 390017 y21 y23 1 fun x8 =>
  ldK 390018 T3 ro x8 fun x9 =>
  callK (ih 39 ro [y0, x9] T3 n3) fun x10 T4 n4 =>
  exK 390024 x10 0 fun x11 =>
  exK 390025 x10 1 fun x12 =>
  bin0 prog .neq 28 (.tmp 33) (.const (.nilIface)) 390029 x12 (.lit (.nilIface)) fun x13 =>
  condK 390030 x13
  (
   .bad 390031
  )
  (
   bsK 390034 T4 n4 1 25 1 [(0, x11)] fun x14 T5 n5 =>
   shrK 390036 T5 y7 fun T6 =>
   appEK 390035 T6 ro n5 25 1 16 y7 x14 fun x15 T7 n7 =>
   addK prog 3 (.tmp 23) (.const (.int .i64 (.ofNat 1))) 390038 y23 (.lit (.int .i64 (.ofNat 1))) fun x16 =>
   lp1 y0 y4 y5 y6 x15 y21 y22 x16 T7 n7
  )
 )
 (
  ldAK 390041 T3 ro y6 5 fun x17 =>
  callK (g61 ro y0 x17 T3 n3) fun x18 T8 n8 =>
  notK 390043 x18 fun x19 =>
  condK 390044 x19
  (
   .bad 390045
  )
  (
   faK 390046 y6 0 fun x20 =>
   ldK 390047 T8 ro x20 fun x21 =>
   eqK prog 3 (.tmp 47) (.const (.int .i64 (.ofNat 2))) 390105 x21 (.lit (.int .i64 (.ofNat 2))) fun x45 =>
   condK 390107 x45
   (
    g39_k2 ih ro y4 y5 y6 y7 x21 (.lit (.bool true)) T8 n8
   )
   (
    eqK prog 3 (.tmp 47) (.const (.int .i64 (.ofNat 3))) 390108 x21 (.lit (.int .i64 (.ofNat 3))) fun x46 =>
    g39_k2 ih ro y4 y5 y6 y7 x21 x46 T8 n8
   )
  )
 )
def g39 (ih : FuncId → List HT → List AV → HT → Nat → R) (ro : List HT) (a0 a1 : AV) (T : HT) (nx : Nat) : R :=
 iaK 390005 a0 a1 5 fun x1 =>
 ldAK 390006 T ro x1 5 fun x2 =>
 newK T nx (.obj [.lit (.int .i64 0), .lit (.int .i64 0), .lit (.int .i64 0), .lit (.string ⟨#[]⟩), .lit (.slice none 0 0)] 105) fun x3 T1 n1 =>
 stAK 390008 T1 x3 x2 5 fun T2 =>
 faK 390010 x3 4 fun x4 =>
 ldK 390011 T2 ro x4 fun x5 =>
 lenSK 390012 x5 fun x6 =>
 lpf8 390014 (g39_b1 ih ro) 100000 a0 (.lit (.nilIface)) (.lit (.nilIface)) x3 (.lit (.slice none 0 0)) x5 x6 (.lit (.int .i64 (.ofNat 0))) T2 n1
theorem g39_ok (ih : FuncId → List HT → List AV → HT → Nat → R) (hI : ∀ f ro args T nx, GOk prog envE f args ro T nx (ih f ro args T nx)) (ro : List HT) (a0 a1 : AV) (T : HT) (nx : Nat) : GOk prog envE 39 [a0, a1] ro T nx (g39 ih ro a0 a1 T nx) := by
 refine GOk.of_body func39 rfl ntmps39 (by kernel_rfl) rfl fun r T' n' h1 w0 base ρ0 its hS hP => ?_
 have X : CtxW envE ρ0 ro r T' n' := trivial
 unfold g39 at h1
 refine sr ?_
 iterate 2 refine as_ ?_
 refine dn (sr ?_)
 iterate 2 refine mv ?_
 refine vy (V.ia h1 rfl rfl el50) fun x1 h2 => ?_
 refine vy (V.ldA hS h2 rfl agg105) fun x2 h3 => ?_
 refine LV.alloc hS h3 rfl zr105 rfl rfl rfl fun x3 T1 n1 h4 ρ its hS hdr => ?_
 refine LV.stA hS h4 rfl rfl rfl agg105 rfl rfl rfl fun T2 its h5 hS => ?_
 refine dn (sr ?_)
 refine as_ ?_
 refine dn (CV.seq (sr ?_))
 refine vy (V.fa h5 rfl fo105_4) fun x4 h6 => ?_
 refine vy (V.ld hS h6 rfl one22) fun x5 h7 => ?_
 refine vy (V.lenS h7 rfl ls22) fun x6 h8 => ?_
 refine mv ?_
 refine dn (CV.block ?_)
 refine cl8 X 0 4 5 6 7 21 22 23 [] hS h8 ⟨rfl, rfl, rfl, rfl, rfl, rfl, rfl, rfl, trivial⟩ ?_
 intro f1 y0 y4 y5 y6 y7 y21 y22 y23 T3 n3 ρ its hS h9
 unfold g39_b1 at h9
 refine sr ?_
 refine vy (V.lt h9 rfl rfl) fun x7 h10 => ?_
 refine dn (CV.seq ?_)
 refine CV.cond h10 rfl (fun e h11 => ?_) (fun e h11 => ?_)
 ·
  subst e
  refine CV.skip (PV.thenN (CV.seq (CV.block (sr ?_))))
  refine vy (V.ia h11 rfl rfl el22) fun x8 h12 => ?_
  refine vy (V.ld hS h12 rfl one3) fun x9 h13 => ?_
  refine as_ ?_
  refine dn (sr ?_)
  iterate 2 refine mv ?_
  refine LV.call hS h13 (hI _ _ _ _ _) hP rfl rfl rfl rfl fun x10 T4 n4 h14 ρ its hS => ?_
  refine mv ?_
  refine vy (V.ex h14 rfl) fun x11 h15 => ?_
  refine vy (V.ex h15 rfl) fun x12 h16 => ?_
  iterate 2 refine as_ ?_
  refine dn (CV.seq (sr ?_))
  refine mv ?_
  refine vy (V.bin0 h16 rfl rfl) fun x13 h17 => ?_
  refine dn ?_
  refine CV.cond h17 rfl (fun e h18 => ?_) (fun e h18 => ?_)
  ·
   subst e
   cases h18
  subst e
  refine CV.skip (PV.thenN (CV.region ?_))
  iterate 2 refine mv ?_
  refine LV.bslice hS h18 rfl rfl el42 rfl rfl rfl rfl fun x14 T5 n5 h19 ρ its hS hdr => ?_
  obtain ⟨T6, its1, h20, hS, hW⟩ := shrK_inv hS h19
  refine LV.world hW ?_
  refine LV.appE hS h20 rfl rfl rfl rfl el42 rfl rfl rfl fun x15 T7 n7 h21 ρ its hS => ?_
  refine as_ ?_
  refine LV.done (PV.blockN (PV.thenN (CV.region ?_)))
  refine vy (V.add h21 rfl rfl) fun x16 h22 => ?_
  refine mv ?_
  refine LV.done ?_
  exact pb8 hS h22 ⟨rfl, rfl, rfl, rfl, rfl, rfl, rfl, rfl, trivial⟩
 subst e
 refine CV.exit (PV.thenE (PV.thenE (PV.blockE (PV.thenN (CV.seq (sr ?_))))))
 refine mv ?_
 refine vy (V.ldA hS h11 rfl agg105) fun x17 h23 => ?_
 refine LV.call hS h23 (g61_ok _ _ _ _ _ ) hP rfl rfl rfl rfl fun x18 T8 n8 h24 ρ its hS => ?_
 refine vy (V.not h24 rfl) fun x19 h25 => ?_
 refine dn ?_
 refine CV.cond h25 rfl (fun e h26 => ?_) (fun e h26 => ?_)
 ·
  subst e
  cases h26
 subst e
 refine CV.skip (PV.thenN (CV.seq (sr ?_)))
 refine vy (V.fa h26 rfl fo105_0) fun x20 h27 => ?_
 refine vy (V.ld hS h27 rfl one3) fun x21 h28 => ?_
 refine dn (CV.block ?_)
 refine cs6 X 4 5 6 7 47 48 [] (g39_k2 ih ro) ?_ ?_
 ·
  refine sr ?_
  refine vy (V.eq h28 rfl rfl) fun x45 h61 => ?_
  refine as_ ?_
  refine dn ?_
  refine CV.cond h61 rfl (fun e h62 => ?_) (fun e h62 => ?_)
  ·
   subst e
   refine CV.skip ?_
   exact pa6 hS h62 ⟨rfl, rfl, rfl, rfl, rfl, rfl, trivial⟩
  subst e
  refine CV.region ?_
  refine vy (V.eq h62 rfl rfl) fun x46 h63 => ?_
  refine as_ ?_
  refine LV.done ?_
  exact pa6 hS h63 ⟨rfl, rfl, rfl, rfl, rfl, rfl, trivial⟩
 intro y4 y5 y6 y7 y47 y48 T9 n9 ρ its hS h29
 unfold g39_k2 at h29
 refine CV.cond h29 rfl (fun e h30 => ?_) (fun e h30 => ?_)
 ·
  subst e
  cases h30
 subst e
 refine sr ?_
 refine vy (V.eq h30 rfl rfl) fun x22 h31 => ?_
 refine as_ ?_
 refine dn ?_
 refine CV.cond h31 rfl (fun e h32 => ?_) (fun e h32 => ?_)
 ·
  subst e
  refine sr ?_
  refine vy (V.fa h32 rfl fo105_3) fun x23 h33 => ?_
  refine vy (V.ld hS h33 rfl one9) fun x24 h34 => ?_
  refine LV.call hS h34 (g63_ok _ _ _ _ ) hP rfl rfl rfl rfl fun x25 T10 n10 h35 ρ its hS => ?_
  refine mv ?_
  refine vy (V.ex h35 rfl) fun x26 h36 => ?_
  refine vy (V.ex h36 rfl) fun x27 h37 => ?_
  refine LV.alloc hS h37 rfl zr37 rfl rfl rfl fun x28 T11 n11 h38 ρ its hS hdr => ?_
  refine LV.stA hS h38 rfl rfl rfl agg37 rfl rfl rfl fun T12 its h39 hS => ?_
  refine as_ ?_
  refine dn (sr ?_)
  refine vy (V.ldA hS h39 rfl agg37) fun x29 h40 => ?_
  refine LV.call hS h40 (g9_ok _ _ _ _ ) hP rfl rfl rfl rfl fun x30 T13 n13 h41 ρ its hS => ?_
  iterate 2 refine as_ ?_
  refine dn (CV.ret (PV.blockR (PV.thenR ?_)))
  cases h41
  exact PV.ret (by simp) results39 hS (RS.tmp rfl (RS.tmp rfl RS.nil)) rfl
 subst e
 refine sr ?_
 refine vy (V.eq h32 rfl rfl) fun x31 h42 => ?_
 refine as_ ?_
 refine dn ?_
 refine CV.cond h42 rfl (fun e h43 => ?_) (fun e h43 => ?_)
 ·
  subst e
  refine sr ?_
  refine vy (V.fa h43 rfl fo105_3) fun x32 h44 => ?_
  refine vy (V.ld hS h44 rfl one9) fun x33 h45 => ?_
  refine LV.call hS h45 (g11_ok _ _ _ _ ) hP rfl rfl rfl rfl fun x34 T14 n14 h46 ρ its hS => ?_
  iterate 2 refine as_ ?_
  refine dn (CV.ret (PV.blockR (PV.thenR ?_)))
  cases h46
  exact PV.ret (by simp) results39 hS (RS.tmp rfl (RS.tmp rfl RS.nil)) rfl
 subst e
 refine sr ?_
 refine vy (V.eq h43 rfl rfl) fun x35 h47 => ?_
 refine as_ ?_
 refine dn ?_
 refine CV.cond h47 rfl (fun e h48 => ?_) (fun e h48 => ?_)
 ·
  subst e
  cases h48
 subst e
 refine sr ?_
 refine vy (V.eq h48 rfl rfl) fun x36 h49 => ?_
 refine as_ ?_
 refine dn ?_
 refine CV.cond h49 rfl (fun e h50 => ?_) (fun e h50 => ?_)
 ·
  subst e
  refine sr ?_
  refine mv ?_
  refine LV.call hS h50 (g15_ok _ _ _ _ ) hP rfl rfl rfl rfl fun x37 T15 n15 h51 ρ its hS => ?_
  refine sv (VAL.mkI rfl ni44) ?_
  iterate 2 refine as_ ?_
  refine dn (CV.ret (PV.blockR (PV.thenR ?_)))
  cases h51
  exact PV.ret (by simp) results39 hS (RS.tmp rfl (RS.tmp rfl RS.nil)) rfl
 subst e
 refine sr ?_
 refine vy (V.eq h50 rfl rfl) fun x38 h52 => ?_
 refine as_ ?_
 refine dn ?_
 refine CV.cond h52 rfl (fun e h53 => ?_) (fun e h53 => ?_)
 ·
  subst e
  refine sr ?_
  refine mv ?_
  refine LV.call hS h53 (g66_ok _ _ _ _ ) hP rfl rfl rfl rfl fun x39 T16 n16 h54 ρ its hS => ?_
  iterate 2 refine as_ ?_
  refine dn (CV.ret (PV.blockR (PV.thenR ?_)))
  cases h54
  exact PV.ret (by simp) results39 hS (RS.tmp rfl (RS.tmp rfl RS.nil)) rfl
 subst e
 refine sr ?_
 refine vy (V.eq h53 rfl rfl) fun x40 h55 => ?_
 refine as_ ?_
 refine dn ?_
 refine CV.cond h55 rfl (fun e h56 => ?_) (fun e h56 => ?_)
 ·
  subst e
  refine sr ?_
  refine mv ?_
  refine LV.call hS h56 (g67_ok _ _ _ _ ) hP rfl rfl rfl rfl fun x41 T17 n17 h57 ρ its hS => ?_
  refine vy (V.ex h57 rfl) fun x42 h58 => ?_
  refine vy (V.ex h58 rfl) fun x43 h59 => ?_
  iterate 2 refine as_ ?_
  refine dn (CV.ret (PV.blockR (PV.thenR ?_)))
  cases h59
  exact PV.ret (by simp) results39 hS (RS.tmp rfl (RS.tmp rfl RS.nil)) rfl
 subst e
 refine CV.skip (PV.blockN (PV.thenN (sr ?_)))
 refine LV.call hS h56 (g68_ok _ _ _ ) hP rfl rfl rfl rfl fun x44 T18 n18 h60 ρ its hS => ?_
 iterate 2 refine as_ ?_
 refine dn (CV.ret ?_)
 cases h60
 exact PV.ret (by simp) results39 hS (RS.tmp rfl (RS.tmp rfl RS.nil)) rfl
def ap6 (ih : FuncId → List HT → List AV → HT → Nat → R) (f : FuncId) (ro : List HT) (args : List AV) (T : HT) (nx : Nat) : R :=
  Bool.rec (motive := fun _ => R) (.bad 2) (List.rec (motive := fun _ => R) (.bad 1) (fun a0 l0 _ => List.rec (motive := fun _ => R) (.bad 1) (fun a1 l1 _ => List.rec (motive := fun _ => R) (g39 ih ro a0 a1 T nx) (fun _ _ _ => .bad 1) l1) l0) args) (Nat.beq f 39)
def scc6 (fuel : Nat) : FuncId → List HT → List AV → HT → Nat → R :=
  Nat.rec (motive := fun _ => FuncId → List HT → List AV → HT → Nat → R) (fun _ _ _ _ _ => .bad 3) (fun _ ih => ap6 ih) fuel
theorem ap6_ok (ih : FuncId → List HT → List AV → HT → Nat → R) (hI : ∀ f ro args T nx, GOk prog envE f args ro T nx (ih f ro args T nx)) (f : FuncId) (ro : List HT) (args : List AV) (T : HT) (nx : Nat) : GOk prog envE f args ro T nx (ap6 ih f ro args T nx) := by
  unfold ap6
  refine recb_go (fun hb => ?_) (fun _ => ?_)
  · obtain rfl := beqT hb
    rcases args with _ | ⟨a0, l0⟩
    · exact GOk.bad
    rcases l0 with _ | ⟨a1, l1⟩
    · exact GOk.bad
    rcases l1 with _ | ⟨_, _⟩
    · exact g39_ok _ hI _ _ _ _ _ 
    · exact GOk.bad
  · exact GOk.bad
theorem scc6_ok : ∀ (fuel : Nat) (f : FuncId) (ro : List HT) (args : List AV) (T : HT) (nx : Nat), GOk prog envE f args ro T nx (scc6 fuel f ro args T nx)
  | 0, _, _, _, _, _ => GOk.bad
  | fuel + 1, f, ro, args, T, nx => ap6_ok (scc6 fuel) (scc6_ok fuel) f ro args T nx
def g19 (ro : List HT) (a0 : AV) (T : HT) (nx : Nat) : R :=
 lenSK 190004 a0 fun x1 =>
 callK (g37 ro a0 T nx) fun x2 T1 n1 =>
 subK prog 3 (.tmp 10) (.const (.int .i64 (.ofNat 1))) 190009 x1 (.lit (.int .i64 (.ofNat 1))) fun x3 =>
 bsK 190010 T1 n1 1 3 1 [(0, x3)] fun x4 T2 n2 =>
 optK 190011 (bld105 [(0, (.lit (.int .i64 (.ofNat 35)))), (4, x4)]) fun x5 =>
 bsK 190013 T2 n2 1 3 1 [(0, x1)] fun x6 T3 n3 =>
 optK 190014 (bld105 [(0, (.lit (.int .i64 (.ofNat 47)))), (4, x6)]) fun x7 =>
 bsK 190015 T3 n3 2 105 5 [(0, x5), (1, x7)] fun x8 T4 n4 =>
 shrK 190017 T4 x2 fun T5 =>
 appEK 190016 T5 ro n4 105 5 64 x2 x8 fun x9 T6 n6 =>
 callK (g38 ro x9 T6 n6) fun x10 T7 n7 =>
 bin0 prog .neq 28 (.tmp 20) (.const (.nilIface)) 190021 x10 (.lit (.nilIface)) fun x11 =>
 condK 190022 x11
 (
  .bad 190023
 )
 (
  subK prog 3 (.tmp 24) (.const (.int .i64 (.ofNat 1))) 190026 x1 (.lit (.int .i64 (.ofNat 1))) fun x12 =>
  callK (scc6 4000 39 ro [a0, x12] T7 n7) fun x13 T8 n8 =>
  exK 190028 x13 0 fun x14 =>
  exK 190029 x13 1 fun x15 =>
  .ok (.val (.tup [x14, x15])) T8 n8
 )
theorem g19_ok (ro : List HT) (a0 : AV) (T : HT) (nx : Nat) : GOk prog envE 19 [a0] ro T nx (g19 ro a0 T nx) := by
 refine GOk.of_body func19 rfl ntmps19 (by kernel_rfl) rfl fun r T' n' h1 w0 base ρ0 its hS hP => ?_
 have X : CtxW envE ρ0 ro r T' n' := trivial
 unfold g19 at h1
 refine sr ?_
 iterate 2 refine as_ ?_
 refine dn (sr ?_)
 refine mv ?_
 refine vy (V.lenS h1 rfl ls50) fun x1 h2 => ?_
 refine as_ ?_
 refine dn (sr ?_)
 refine mv ?_
 refine LV.call hS h2 (g37_ok _ _ _ _ ) hP rfl rfl rfl rfl fun x2 T1 n1 h3 ρ its hS => ?_
 refine mv ?_
 refine vy (V.sub h3 rfl rfl) fun x3 h4 => ?_
 refine LV.bslice hS h4 rfl rfl el22 rfl rfl rfl rfl fun x4 T2 n2 h5 ρ its hS hdr => ?_
 refine vy (V.bld h5 rfl) fun x5 h6 => ?_
 refine mv ?_
 refine LV.bslice hS h6 rfl rfl el22 rfl rfl rfl rfl fun x6 T3 n3 h7 ρ its hS hdr => ?_
 refine vy (V.bld h7 rfl) fun x7 h8 => ?_
 refine LV.bslice hS h8 rfl rfl el50 rfl rfl rfl rfl fun x8 T4 n4 h9 ρ its hS hdr => ?_
 obtain ⟨T5, its1, h10, hS, hW⟩ := shrK_inv hS h9
 refine LV.world hW ?_
 refine LV.appE hS h10 rfl rfl rfl rfl el50 rfl rfl rfl fun x9 T6 n6 h11 ρ its hS => ?_
 refine as_ ?_
 refine dn (CV.seq (sr ?_))
 refine mv ?_
 refine LV.call hS h11 (g38_ok _ _ _ _ ) hP rfl rfl rfl rfl fun x10 T7 n7 h12 ρ its hS => ?_
 refine vy (V.bin0 h12 rfl rfl) fun x11 h13 => ?_
 refine dn ?_
 refine CV.cond h13 rfl (fun e h14 => ?_) (fun e h14 => ?_)
 ·
  subst e
  cases h14
 subst e
 refine CV.skip (PV.thenN (sr ?_))
 iterate 2 refine mv ?_
 refine vy (V.sub h14 rfl rfl) fun x12 h15 => ?_
 refine LV.call hS h15 (scc6_ok _ _ _ _ _ _) hP rfl rfl rfl rfl fun x13 T8 n8 h16 ρ its hS => ?_
 refine vy (V.ex h16 rfl) fun x14 h17 => ?_
 refine vy (V.ex h17 rfl) fun x15 h18 => ?_
 iterate 2 refine as_ ?_
 refine dn (CV.ret ?_)
 cases h18
 exact PV.ret (by simp) results19 hS (RS.tmp rfl (RS.tmp rfl RS.nil)) rfl

end
end Go.Proofs.YtljaoofbklkglaaGreatDoor.Vo
