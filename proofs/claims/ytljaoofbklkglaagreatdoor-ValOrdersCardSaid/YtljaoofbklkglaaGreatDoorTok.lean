/-
  Proved here: values that a run does not look into, and what they stand for: a list's numbers, names made of them, those names in order, and each once.
-/
import Derived.Test.YtljaoofbklkglaaGreatDoorEyA
import Derived.Lib.SlicesCompact
namespace Go.EY
open Go.SX Go.EX Go.RowKit
/-- a number of any, from nothing to below eight -/
def nmI (x : Int) : Int := (x.tmod 8 + 8).tmod 8
def letL (x : Int) : List UInt8 := [(97 + (nmI x).toNat).toUInt8]
def nameL (x : Int) : List UInt8 := 118 :: letL x
def namesL (z : Nat → Int) (n : Nat) : List (List UInt8) := (List.range n).map fun i => nameL (z i)
def srtL (z : Nat → Int) (n : Nat) : List (List UInt8) := (namesL z n).mergeSort fun x y => decide (x ≤ y)
def dstL (z : Nat → Int) (n : Nat) : List (List UInt8) := Lib.compact (srtL z n)
@[reducible] def bytV (l : List UInt8) : Value := .string ⟨l.toArray⟩
structure TK (z : Nat → Int) (n m : Nat) (o : Nat → Value) : Prop where
  tl : ∀ i, i < 60 → o (100 + i) = .int .i64 (z i)
  tk : ∀ i, i < 60 → o (200 + i) = .int .i64 (nmI (z i))
  tk1 : ∀ i, i < 60 → o (300 + i) = .int .i64 (nmI (z i) + 1)
  tc : ∀ i, i < 60 → o (400 + i) = bytV (letL (z i))
  ts : ∀ i, i < 60 → o (500 + i) = bytV (nameL (z i))
  to : ∀ j x, (srtL z n)[j]? = some x → o (600 + j) = bytV x
  td : ∀ j, j < 60 → ∃ x, o (700 + j) = bytV x ∧ ∀ y, (dstL z n)[j]? = some y → x = y
  tm : n ≠ 0 → (dstL z n).length = m
/-- what a list's last entry tells of them, where it is a pointer -/
def TKE (w0 : World) (base : Nat) (E : List (Nat × AV)) (o : Nat → Value) : Prop :=
  ∀ g n m, E.getLast? = some (g, .ptr n m) → n ≤ 60 ∧ ∃ a0 cap z, o 90 = .slice a0 (bif Nat.beq n 0 then m else n) cap ∧ TK z n m o ∧ ∀ i, i < n → ∃ a : Addr, a0 = some a ∧ o (800 + i) = .pointer (some (a.add i)) ∧ (a.add i).block < base ∧ w0.cell? (a.add i) = some (.int .i64 (z i))
theorem TKE.push {w0 w : World} {base : Nat} {E : List (Nat × AV)} {o : Nat → Value} {its : List It} (h : TKE w0 base E o) (hw : WA w0 base its w) : TKE w w.heap.size E o := fun g n m he => by
  obtain ⟨hn, a0, cap, z, h0, h2, h3⟩ := h g n m he
  refine ⟨hn, a0, cap, z, h0, h2, fun i hi => ?_⟩
  obtain ⟨a, e0, e1, e2, e3⟩ := h3 i hi
  exact ⟨a, e0, e1, Nat.lt_of_lt_of_le e2 hw.fits, hw.old e2 e3⟩
theorem TKE.none {w0 : World} {base : Nat} {E : List (Nat × AV)} {o : Nat → Value} (h : (match E.getLast? with | some (_, .ptr _ _) => false | _ => true) = true) : TKE w0 base E o := fun g n m he => by
  rw [he] at h; cases h
end Go.EY
