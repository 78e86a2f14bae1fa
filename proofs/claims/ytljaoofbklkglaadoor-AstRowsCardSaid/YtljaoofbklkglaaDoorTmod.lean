/-
  Proved here: numbers brought into a range, as a machine of mine takes them.
-/
import Derived.Test.YtljaoofbklkglaaDoorEyI
namespace Go.EY
open Go.EX Go.SX Go.RowKit
def numI (m : Int) (q : Nat) : Int := (m.tmod (q : Int) + (q : Int)).tmod (q : Int)
theorem tmod_in (m : Int) {q : Nat} (h0 : 0 < q) : -(q : Int) < m.tmod (q : Int) ∧ m.tmod (q : Int) < (q : Int) := by
  have h1 := Int.emod_lt_of_pos m (b := (q : Int)) (by omega)
  have h2 := Int.emod_nonneg m (b := (q : Int)) (by omega)
  rw [Int.tmod_eq_emod]
  split <;> constructor <;> omega
theorem numI_ok (m : Int) {q : Nat} (h0 : 0 < q) : ∃ k : Nat, k < q ∧ numI m q = (k : Int) := by
  obtain ⟨h1, h2⟩ := tmod_in m h0
  unfold numI
  refine ⟨(m.tmod (q : Int) + (q : Int)).toNat % q, Nat.mod_lt _ h0, ?_⟩
  obtain ⟨z, hz⟩ := Int.eq_ofNat_of_zero_le (show (0 : Int) ≤ m.tmod (q : Int) + (q : Int) by omega)
  rw [hz]
  simp
  exact Int.tmod_eq_emod_of_nonneg (by omega)
section
variable {P : Program} {W : World → Prop} {ρ : Rho} {af : AF} {x : Operand} {t t2 : TypeId} {b k : Nat} {n : Int}
theorem remA (hx : evalA af x = some (.lit (.int .i64 n))) (_n : Int) (h0 : 0 < b) : VAL P W ρ af (.binOp .rem t x (.const (.int .i64 (.ofNat b))) t2) (.lit (.int .i64 (n.tmod (Int.ofNat b)))) :=
  VAL.yy (v := .int .i64 (n.tmod (Int.ofNat b))) fun l hf ty => Y.rem (evlit hf hx) (evlit hf rfl) (by simp; omega)
theorem addA (hx : evalA af x = some (.lit (.int .i64 (n.tmod (Int.ofNat b))))) (_n : Int) (h0 : 0 < b) (h1 : b ≤ 1000) : VAL P W ρ af (.binOp .add t x (.const (.int .i64 (.ofNat b))) t2) (.lit (.int .i64 (n.tmod (Int.ofNat b) + Int.ofNat b))) := by
  have h2 := tmod_in n h0
  exact VAL.yy (v := .int .i64 (n.tmod (Int.ofNat b) + Int.ofNat b)) fun l hf ty => Y.add (evlit hf hx) (evlit hf rfl) (by simp only [Int.ofNat_eq_natCast]; omega)
theorem remB (hx : evalA af x = some (.lit (.int .i64 (n.tmod (Int.ofNat b) + Int.ofNat b)))) (e : numI n b = (k : Int)) (h0 : 0 < b) : VAL P W ρ af (.binOp .rem t x (.const (.int .i64 (.ofNat b))) t2) (.lit (.int .i64 (.ofNat k))) := by
  have h3 : (Int.ofNat k) = (n.tmod (Int.ofNat b) + Int.ofNat b).tmod (Int.ofNat b) := e.symm
  rw [h3]
  exact VAL.yy (v := .int .i64 ((n.tmod (Int.ofNat b) + Int.ofNat b).tmod (Int.ofNat b))) fun l hf ty => Y.rem (evlit hf hx) (evlit hf rfl) (by simp; omega)
end
/-- a value, where another one is a number -/
def isK (z : AV) (m : Nat) (v : AV) (T : HT) (nx : Nat) : R :=
  match z with
  | .lit (.int .i64 (.ofNat k)) => bif Nat.beq k m then .ok (.val v) T nx else .bad 5
  | _ => .bad 5
end Go.EY
