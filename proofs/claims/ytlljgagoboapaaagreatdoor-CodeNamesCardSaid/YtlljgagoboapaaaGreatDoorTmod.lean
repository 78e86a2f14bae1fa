/-
  Proved here: numbers brought into a range, as a machine of mine takes them.
-/
import Derived.Test.YtlljgagoboapaaaGreatDoorEyI
namespace Go.EY
open Go.EX Go.SX Go.RowKit
def numI (m : Int) (q : Nat) : Int := (m.tmod (q : Int) + (q : Int)).tmod (q : Int)
theorem tmod_in (m : Int) {q : Nat} (h0 : 0 < q) : -(q : Int) < m.tmod (q : Int) ∧ m.tmod (q : Int) < (q : Int) := by
  have h1 := Int.emod_lt_of_pos m (b := (q : Int)) (by omega)
  have h2 := Int.emod_nonneg m (b := (q : Int)) (by omega)
  rw [Int.tmod_eq_emod]
  split <;> constructor <;> omega
theorem numI_ok (m : Int) {q : Nat} (h0 : 0 < q) : ∃ k : Nat, k < q ∧ numI m q = (k : Int) := by
  obtain ⟨h1, h2⟩ := tmod_in m h0
  unfold numI
  refine ⟨(m.tmod (q : Int) + (q : Int)).toNat % q, Nat.mod_lt _ h0, ?_⟩
  obtain ⟨z, hz⟩ := Int.eq_ofNat_of_zero_le (show (0 : Int) ≤ m.tmod (q : Int) + (q : Int) by omega)
  rw [hz]
  simp
  exact Int.tmod_eq_emod_of_nonneg (by omega)
section
variable {P : Program} {W : World → Prop} {ρ : Rho} {af : AF} {x : Operand} {t t2 : TypeId} {b k : Nat} {n : Int}
end
/-- a value, where another one is a number -/
def isK (z : AV) (m : Nat) (v : AV) (T : HT) (nx : Nat) : R :=
  match z with
  | .lit (.int .i64 (.ofNat k)) => bif Nat.beq k m then .ok (.val v) T nx else .bad 5
  | _ => .bad 5
end Go.EY
