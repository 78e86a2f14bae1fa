/-
  Proved here: numbers of 64 bits without a sign, as operations compute them; numbers folded to one side. No program stands here.
-/
import Derived.Test.YtgijpgkckiknjaaGreatDoorSx
namespace Go.SX
open Go.RowKit
variable {P : Program} {l : Fr} {W : World → Prop} {ty t ty2 : TypeId} {x y : Operand} {a b : Nat}
theorem wrap_u64 {n : Nat} (h : n < 18446744073709551616) : IntKind.u64.wrap (n : Int) = (n : Int) := by
  simp [IntKind.wrap, IntKind.bits, IntKind.signed]; omega
theorem bits64 {op : BinOp} (h : op = .or ∨ op = .and ∨ op = .xor) (ha : a < 18446744073709551616) (hb : b < 18446744073709551616) : Go.bits op .u64 (a : Int) (b : Int) = ((match op with | .or => a ||| b | .and => a &&& b | _ => a ^^^ b : Nat) : Int) := by
  have ea : BitVec.ofInt 64 (a : Int) = BitVec.ofNat 64 a := by simp
  have eb : BitVec.ofInt 64 (b : Int) = BitVec.ofNat 64 b := by simp
  have h8 : (18446744073709551616 : Nat) = 2 ^ 64 := rfl
  have o1 : a ||| b < 18446744073709551616 := by rw [h8]; exact Nat.or_lt_two_pow (by omega) (by omega)
  have o2 : a &&& b < 18446744073709551616 := by rw [h8]; exact Nat.and_lt_two_pow a (by omega)
  have o3 : a ^^^ b < 18446744073709551616 := by rw [h8]; exact Nat.xor_lt_two_pow (by omega) (by omega)
  have ma : a % 18446744073709551616 = a := Nat.mod_eq_of_lt ha
  have mb : b % 18446744073709551616 = b := Nat.mod_eq_of_lt hb
  rcases h with rfl | rfl | rfl
  · have t : (BitVec.ofNat 64 a ||| BitVec.ofNat 64 b).toNat = a ||| b := by
      rw [BitVec.toNat_or, BitVec.toNat_ofNat, BitVec.toNat_ofNat]
      simp only [Nat.reducePow, ma, mb]
    show IntKind.u64.wrap (((BitVec.ofInt 64 (a : Int) ||| BitVec.ofInt 64 (b : Int)).toNat : Nat) : Int) = _
    rw [ea, eb, t]
    exact wrap_u64 o1
  · have t : (BitVec.ofNat 64 a &&& BitVec.ofNat 64 b).toNat = a &&& b := by
      rw [BitVec.toNat_and, BitVec.toNat_ofNat, BitVec.toNat_ofNat]
      simp only [Nat.reducePow, ma, mb]
    show IntKind.u64.wrap (((BitVec.ofInt 64 (a : Int) &&& BitVec.ofInt 64 (b : Int)).toNat : Nat) : Int) = _
    rw [ea, eb, t]
    exact wrap_u64 o2
  · have t : (BitVec.ofNat 64 a ^^^ BitVec.ofNat 64 b).toNat = a ^^^ b := by
      rw [BitVec.toNat_xor, BitVec.toNat_ofNat, BitVec.toNat_ofNat]
      simp only [Nat.reducePow, ma, mb]
    show IntKind.u64.wrap (((BitVec.ofInt 64 (a : Int) ^^^ BitVec.ofInt 64 (b : Int)).toNat : Nat) : Int) = _
    rw [ea, eb, t]
    exact wrap_u64 o3
theorem Y.or64 (hx : evl l x = some (.int .u64 (a : Int))) (hy : evl l y = some (.int .u64 (b : Int))) (ha : a < 18446744073709551616) (hb : b < 18446744073709551616) : Y P l W (.binOp .or t x y ty2) ty (.int .u64 ((a ||| b : Nat) : Int)) := by
  refine Y.bin hx hy fun w _ => ?_
  have := bits64 (op := .or) (.inl rfl) ha hb
  simp [eqGuard_or, binOp_or, intBits_or, this]
theorem Y.and64 (hx : evl l x = some (.int .u64 (a : Int))) (hy : evl l y = some (.int .u64 (b : Int))) (ha : a < 18446744073709551616) (hb : b < 18446744073709551616) : Y P l W (.binOp .and t x y ty2) ty (.int .u64 ((a &&& b : Nat) : Int)) := by
  refine Y.bin hx hy fun w _ => ?_
  have := bits64 (op := .and) (.inr (.inl rfl)) ha hb
  simp [eqGuard_and, binOp_and, intBits_and, this]
theorem Y.xor64 (hx : evl l x = some (.int .u64 (a : Int))) (hy : evl l y = some (.int .u64 (b : Int))) (ha : a < 18446744073709551616) (hb : b < 18446744073709551616) : Y P l W (.binOp .xor t x y ty2) ty (.int .u64 ((a ^^^ b : Nat) : Int)) := by
  refine Y.bin hx hy fun w _ => ?_
  have := bits64 (op := .xor) (.inr (.inr rfl)) ha hb
  simp [eqGuard_xor, binOp_xor, intBits_xor, this]
theorem Y.shl64 {k : IntKind} (hx : evl l x = some (.int .u64 (a : Int))) (hy : evl l y = some (.int k (b : Int))) (hb : b ≤ 64) : Y P l W (.binOp .shl t x y ty2) ty (.int .u64 (((a * 2 ^ b) % 18446744073709551616 : Nat) : Int)) := by
  refine Y.bin hx hy fun w _ => ?_
  have h1 := shift_shl .u64 k (a : Int) (b : Int) (by omega) (by simp [IntKind.bits]; omega)
  have h2 : IntKind.u64.wrap ((a : Int) * 2 ^ (b : Int).toNat) = (((a * 2 ^ b) % 18446744073709551616 : Nat) : Int) := by
    simp [IntKind.wrap, IntKind.bits, IntKind.signed]
  simp only [eqGuard_shl, binOp_shl, h1, h2, pure_bind, Sem.run_pure]
theorem Y.shr64 {k : IntKind} (hx : evl l x = some (.int .u64 (a : Int))) (hy : evl l y = some (.int k (b : Int))) (hb : b ≤ 64) : Y P l W (.binOp .shr t x y ty2) ty (.int .u64 ((a / 2 ^ b : Nat) : Int)) := by
  refine Y.bin hx hy fun w _ => ?_
  have h1 := shift_shr .u64 k (a : Int) (b : Int) (by omega) (by simp [IntKind.bits]; omega)
  have h2 : (a : Int) / 2 ^ (b : Int).toNat = ((a / 2 ^ b : Nat) : Int) := by simp
  simp only [eqGuard_shr, binOp_shr, h1, h2, pure_bind, Sem.run_pure]
theorem Y.shrI {k : IntKind} {n : Int} (hx : evl l x = some (.int .i64 n)) (hy : evl l y = some (.int k (b : Int))) (hb : b ≤ 64) : Y P l W (.binOp .shr t x y ty2) ty (.int .i64 (n / 2 ^ b)) := by
  refine Y.bin hx hy fun w _ => ?_
  have h1 := shift_shr .i64 k n (b : Int) (by omega) (by simp [IntKind.bits]; omega)
  simp only [eqGuard_shr, binOp_shr, h1, pure_bind, Sem.run_pure, Int.toNat_natCast]
theorem Y.conv {n : Int} {k k' : IntKind} {t' : TypeId} (hx : evl l x = some (.int k n)) (h1 : P.underlying t = some (.int k)) (h2 : P.underlying t' = some (.int k')) : Y P l W (.convert t t' x) ty (.int k' (k'.wrap n)) := by
  intro σ hσ o' ho _ w _
  simp [execOp, ho, hσ _ _ hx, convert, run_underlying h1, run_underlying h2, Conv.intToInt]
theorem Y.convU8 (hx : evl l x = some (.int .u64 (a : Int))) {t' : TypeId} (h1 : P.underlying t = some (.int .u64)) (h2 : P.underlying t' = some (.int .u8)) : Y P l W (.convert t t' x) ty (.int .u8 ((a % 256 : Nat) : Int)) := by
  have h := Y.conv (W := W) (ty := ty) hx h1 h2
  rw [show IntKind.u8.wrap (a : Int) = ((a % 256 : Nat) : Int) by simp [IntKind.wrap, IntKind.bits, IntKind.signed]] at h
  exact h
/-- a number, as its last 64 bits -/
def low (n : Int) : Nat := (n % 18446744073709551616).toNat
theorem low_lt (n : Int) : low n < 18446744073709551616 := by unfold low; omega
theorem Y.convU64 {n : Int} (hx : evl l x = some (.int .i64 n)) {t' : TypeId} (h1 : P.underlying t = some (.int .i64)) (h2 : P.underlying t' = some (.int .u64)) : Y P l W (.convert t t' x) ty (.int .u64 ((low n : Nat) : Int)) := by
  have h := Y.conv (W := W) (ty := ty) hx h1 h2
  rw [show IntKind.u64.wrap n = ((low n : Nat) : Int) by simp [IntKind.wrap, IntKind.bits, IntKind.signed, low]; omega] at h
  exact h
theorem b8_of {n : Nat} (h : n < 256) : Value.int .u8 ((n : Nat) : Int) = b8 n.toUInt8 := by
  unfold b8
  rw [show n.toUInt8.toNat = n by simp; omega]
theorem or_128 (v : Nat) (h : v < 256) : v ||| 128 = v % 128 + 128 :=
  (show ∀ w : Fin 256, w.val ||| 128 = w.val % 128 + 128 by decide +kernel) ⟨v, h⟩
/-- numbers folded to one side -/
def zig (n : Int) : Nat := if 0 ≤ n then 2 * n.toNat else (-(2 * n) - 1).toNat
def unzig (u : Nat) : Int := if u % 2 = 0 then ((u / 2 : Nat) : Int) else -((u / 2 : Nat) : Int) - 1
theorem unzig_zig (n : Int) : unzig (zig n) = n := by
  unfold unzig zig
  split <;> split <;> omega
theorem zig_lt {n : Int} (h1 : -9223372036854775808 ≤ n) (h2 : n ≤ 9223372036854775807) : zig n < 18446744073709551616 := by
  unfold zig
  split <;> omega
theorem xor_ones {a : Nat} (h : a < 18446744073709551616) : a ^^^ 18446744073709551615 = 18446744073709551615 - a := by
  have h1 : BitVec.ofNat 64 a ^^^ BitVec.allOnes 64 = ~~~BitVec.ofNat 64 a := BitVec.xor_allOnes
  have h2 := congrArg BitVec.toNat h1
  rw [BitVec.toNat_xor, BitVec.toNat_not, BitVec.toNat_ofNat, Nat.mod_eq_of_lt (by simpa using h)] at h2
  simpa using h2
theorem zig_eq {n : Int} (h1 : -9223372036854775808 ≤ n) (h2 : n ≤ 9223372036854775807) : (low n * 2 ^ 1 % 18446744073709551616) ^^^ low (n / 2 ^ 63) = zig n := by
  unfold zig
  split
  · rename_i h
    have e1 : n / 2 ^ 63 = 0 := by omega
    have e2 : low n = n.toNat := by unfold low; omega
    rw [e1, e2, show low 0 = 0 from rfl, Nat.xor_zero]
    omega
  · rename_i h
    have e1 : n / 2 ^ 63 = -1 := by omega
    have e2 : low n * 2 ^ 1 % 18446744073709551616 = (2 * n + 18446744073709551616).toNat := by unfold low; omega
    rw [e1, e2, show low (-1) = 18446744073709551615 from rfl, xor_ones (by omega)]
    omega
end Go.SX
