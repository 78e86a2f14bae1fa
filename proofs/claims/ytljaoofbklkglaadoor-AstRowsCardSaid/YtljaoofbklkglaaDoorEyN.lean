/-
  Proved here: more steps of a machine of mine: bits of numbers that are not looked at.
-/
import Derived.Test.YtljaoofbklkglaaDoorEyM
namespace Go.EY
open Go.SX Go.EX Go.RowKit
section
variable {P : Program} {w0 : World} {base : Nat} {ρ0 ρ : Rho} {T : HT} {ro : List HT} {nx : Nat} {its : List It} {E : List (Nat × AV)} {af : AF} {l : Fr}
variable {W : World → Prop} {r : AR} {T' : HT} {n' c : Nat} {x y : Operand} {a b v : AV} {t t2 : TypeId}
def andI (m n : Int) : Int := IntKind.i64.wrap ((BitVec.ofInt 64 m &&& BitVec.ofInt 64 n).toNat)
theorem V.lzAnd {k : AV → R} (h : lzK c andI a b k = .ok r T' n') (hx : evalA af x = some a) (hy : evalA af y = some b) : ∃ v, k v = .ok r T' n' ∧ VAL P W ρ af (.binOp .and t x y t2) v := by
  obtain ⟨m, q, rfl, rfl, h1⟩ := lzK_inv h
  refine ⟨_, h1, VAL.yy fun l hf ty => Y.bin (evlit hf hx) (evlit hf hy) fun w _ => ?_⟩
  simp only [eqGuard_and, binOp_and, Op.intBits, pure_bind]
  rfl
noncomputable def shr1K (c : Nat) (a b : AV) (k : AV → R) : R :=
  match a, b with
  | .lit (.int .i64 m), .lit (.int _ (.ofNat 1)) => k (.lit (.int .i64 (m.fdiv 2)))
  | _, _ => .bad c
theorem V.shr1 {k : AV → R} (h : shr1K c a b k = .ok r T' n') (hx : evalA af x = some a) (hy : evalA af y = some b) : ∃ v, k v = .ok r T' n' ∧ VAL P W ρ af (.binOp .shr t x y t2) v := by
  unfold shr1K at h
  split at h
  · rename_i m kk
    refine ⟨_, h, VAL.yy fun l hf ty => Y.bin (evlit hf hx) (evlit hf hy) fun w _ => ?_⟩
    simp only [eqGuard_shr, binOp_shr, Op.shift, pure_bind]
    rfl
  · cases h
end
end Go.EY
