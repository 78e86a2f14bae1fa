/-
  Proved here: more steps of a machine of mine: a field of a value.
-/
import Derived.Test.YtljaoofbklkglaaGreatDoorEyI
namespace Go.EY
open Go.SX Go.EX Go.RowKit
section
variable {P : Program} {w0 : World} {base : Nat} {ρ0 ρ : Rho} {T : HT} {ro : List HT} {nx : Nat} {its : List It} {E : List (Nat × AV)} {af : AF} {l : Fr}
variable {W : World → Prop} {r : AR} {T' : HT} {n' c : Nat} {k : AV → R} {x y : Operand} {a b : AV} {t t2 s f d : Nat}
/-! a field that is read, in one -/
variable {n : Nat} {D : List Deferred} {ops : Array Oper} {m : SX.Mode} {rest : List Oper} {o1 o2 o3 : Oper} {d1 d2 d3 : Nat}
theorem FRel.dropV {w v : AV} (hn : getA af d1 = none) (h : FRel ρ ((d2, v) :: (d1, w) :: af) l) : FRel ρ ((d2, v) :: af) l := fun i z hi => by
  by_cases hi2 : d2 = i
  · subst hi2
    rw [getA_same] at hi
    cases hi
    exact h _ _ (getA_same _ _ _)
  · rw [getA_ne _ _ hi2] at hi
    by_cases hi3 : d1 = i
    · subst hi3; rw [hn] at hi; cases hi
    · exact h i z (by rw [getA_ne _ _ hi2, getA_ne _ _ hi3]; exact hi)
theorem fa2 {dd : Nat} (h : faK c a dd k = .ok r T' n') (hf : fieldOff P s f = some dd) (hk : ∀ v, k v = .ok r T' n' → LV P ops n D m w0 base ρ its ((d2, v) :: af) rest)
    (ho1 : o1.op = .nilCheck x := by rfl) (ho2 : o2.op = .fieldAddr s (.tmp d1) f := by rfl) (hx : evalA af x = some a := by rfl) (g1 : o1.guard = none := by rfl) (g2 : o2.guard = none := by rfl)
    (hd1 : o1.dst = some d1 := by rfl) (hd2 : o2.dst = some d2 := by rfl) (hb1 : Nat.blt d1 n = true := by rfl) (hb2 : Nat.blt d2 n = true := by rfl) (hn : getA af d1 = none := by rfl) : LV P ops n D m w0 base ρ its af (o1 :: o2 :: rest) := by
  obtain ⟨id, off, rfl, h2⟩ := ptrK_inv h
  refine LV.step (v := .ptr id off) (by rw [ho1]; exact VAL.pure (by show nilckA af x = _; unfold nilckA; rw [hx])) (by rw [g1]; rfl) hd1 hb1 ?_
  refine LV.step (v := .ptr id (Nat.add off dd)) (by rw [ho2]; exact VAL.pure (by show fieldA P _ s (.tmp d1) f = _; unfold fieldA; rw [show evalA ((d1, .ptr id off) :: af) (.tmp d1) = some (.ptr id off) from getA_same _ _ _, hf]; rfl)) (by rw [g2]; rfl) hd2 hb2 ?_
  exact fun l hf' => hk _ h2 l (FRel.dropV hn hf')
noncomputable def fldK (c : Nat) (T : HT) (ro : List HT) (a : AV) (d : Nat) (k : AV → R) : R := ptrK c a fun id off => lookK T ro id (fun m => m.cellK c (Nat.add off d) k) (.bad c)
theorem fl {dd : Nat} (hS : ST w0 base E ρ0 ρ T ro nx its) (h : fldK c T ro a dd k = .ok r T' n') (hf : fieldOff P s f = some dd) (ht : oneT P t = true) (hk : ∀ v, k v = .ok r T' n' → LV P ops n D m w0 base ρ its ((d3, v) :: af) rest)
    (ho1 : o1.op = .nilCheck x := by rfl) (ho2 : o2.op = .fieldAddr s (.tmp d1) f := by rfl) (ho3 : o3.op = .load t (.tmp d2) := by rfl) (hx : evalA af x = some a := by rfl) (g1 : o1.guard = none := by rfl) (g2 : o2.guard = none := by rfl) (g3 : o3.guard = none := by rfl)
    (hd1 : o1.dst = some d1 := by rfl) (hd2 : o2.dst = some d2 := by rfl) (hd3 : o3.dst = some d3 := by rfl) (hb1 : Nat.blt d1 n = true := by rfl) (hb2 : Nat.blt d2 n = true := by rfl) (hb3 : Nat.blt d3 n = true := by rfl) (hn : getA af d1 = none := by rfl) (hn2 : getA af d2 = none := by rfl) : LV P ops n D m w0 base ρ its af (o1 :: o2 :: o3 :: rest) := by
  obtain ⟨id, off, rfl, h2⟩ := ptrK_inv h
  refine fa2 (k := fun v => ldK c T ro v k) (c := c) (dd := dd) (a := .ptr id off) h2 hf (fun v hv => ?_) ho1 ho2 hx g1 g2 hd1 hd2 hb1 hb2 hn
  obtain ⟨u, q1, q2⟩ := V.ld hS hv (x := .tmp d2) (af := (d2, v) :: af) (getA_same _ _ _) ht
  refine LV.step (v := u) (by rw [ho3]; exact q2) (by rw [g3]; rfl) hd3 hb3 fun l hf' => hk _ q1 l (FRel.dropV hn2 hf')
end
theorem recb_go {P : Program} {E : List (Nat × AV)} {p : Bool} {f : FuncId} {args : List AV} {ro : List HT} {T : HT} {nx : Nat} {X Z : R} (hT : p = true → GOk P E f args ro T nx X) (hF : p = false → GOk P E f args ro T nx Z) : GOk P E f args ro T nx (Bool.rec (motive := fun _ => R) Z X p) := by
  cases p with
  | true => exact hT rfl
  | false => exact hF rfl
end Go.EY
