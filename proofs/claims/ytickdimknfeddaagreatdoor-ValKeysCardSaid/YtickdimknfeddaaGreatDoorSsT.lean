/-
  Proved here: numbers where they lie in memory; a few more steps of a walk.
-/
import Derived.Test.YtickdimknfeddaaGreatDoorBd
import Derived.Test.YtickdimknfeddaaGreatDoorAt
import Derived.Test.YtickdimknfeddaaGreatDoorVoP
namespace Go.SX
open Go.RowKit Go.EX Go.EB
section
variable {P : Program} {ops : Array Oper} {n d : Nat} {D : List Deferred} {l : Fr} {W : World → Prop} {rest : List Oper} {o : Oper} {u v : Value} {x y : Operand} {t ty : TypeId} {Q : Exit → Act → World → Prop}
theorem Y.field {s f : Nat} (hx : evl l x = some u) (hr : ∀ w, (Instr.field s u f).run P w = .ok v w) : Y P l W (.field s x f) ty v := by
  intro ρ hρ o' ho ht w hW
  simp [execOp, ho, hρ _ _ hx, hr w]
theorem Y.assert1 {k s : TypeId} (hn : NotIface P k) (hx : evl l x = some (.iface k u)) : Y P l W (.typeAssert x s k false) ty u := by
  intro ρ hρ o' ho ht w hW
  obtain ⟨d, hu, hd⟩ := hn.un
  have h1 := run_underlying hu w
  cases d <;> first
    | exact absurd rfl (hd _)
    | simp [execOp, ho, hρ _ _ hx, Instr.typeAssert, h1]
theorem Y.remK {a b : Nat} {k : IntKind} {ty2 : TypeId} (hx : evl l x = some (.int k (a : Int))) (hy : evl l y = some (.int k (b : Int))) (hb : 0 < b) : Y P l W (.binOp .rem t x y ty2) ty (.int k ((a % b : Nat) : Int)) := by
  refine Y.bin hx hy fun w _ => ?_
  have hb' : b ≠ 0 := by omega
  simp [eqGuard_rem, binOp_rem, Op.intDiv, hb', Int.tmod_eq_emod_of_nonneg]
theorem Y.quoK {a b : Nat} {k : IntKind} {ty2 : TypeId} (hx : evl l x = some (.int k (a : Int))) (hy : evl l y = some (.int k (b : Int))) (hb : 0 < b) (hw : k.wrap ((a / b : Nat) : Int) = ((a / b : Nat) : Int)) : Y P l W (.binOp .quo t x y ty2) ty (.int k ((a / b : Nat) : Int)) := by
  refine Y.bin hx hy fun w _ => ?_
  have hb' : (b : Int) ≠ 0 := by omega
  have e : (a : Int).tdiv b = ((a / b : Nat) : Int) := by rw [Int.tdiv_eq_ediv_of_nonneg (by omega), Int.natCast_ediv]
  simp only [eqGuard_quo, binOp_quo, Op.intDiv, hb', e, hw]
  simp
theorem Y.eqSlNil {e : TypeId} {g : Option Addr} {m c : Nat} {ty2 : TypeId} (h : P.underlying t = some (.slice e)) (hx : evl l x = some (.slice g m c)) : Y P l W (.binOp .eql t x (.const (.slice none 0 0)) ty2) ty (.bool g.isNone) := by
  refine Y.bin2 hx rfl fun w _ => ?_
  have h1 := run_underlying h w
  have h2 : ∀ d : Nat, (Op.equalIn (d + 1) t (.slice g m c) (.slice none 0 0)).run P w = .ok g.isNone w := fun d => by cases g <;> simp [Op.equalIn, h1]
  have e : binOp .eql t (.slice g m c) (.slice none 0 0) = (do pure (.bool (← Op.equalIn 10000 t (.slice g m c) (.slice none 0 0)))) := rfl
  simp [eqGuard, e, h2 9999]
/-- a method by an interface -/
theorem LX.invC {τ : Type} {vv : τ → Value} {W' : τ → World → Prop} {z : Value} {tt : TypeId} {name : String} {recv : Operand} {g : FuncId} {ats : Array TypeId} (hc : FnC P g #[z] W vv W') (hx : evl l recv = some (.iface tt z))
    (hi : ∀ w, (invoke (.fn (.method name) #[]) #[.iface tt z]).run P w = .ok (.enter g #[z]) w)
    (ho : o.op = .call { callee := .invoke recv name, args := #[], argTypes := ats }) (hg : o.guard = none) (hd : o.dst = some d) (hdn : Nat.blt d n = true)
    (h : ∀ q, LX P ops n D (.plain Q) ((d, vv q) :: l) (W' q) rest) : LX P ops n D (.plain Q) l W (o :: rest) := by
  refine Go.EX.LX.callE (k := g) (vs := [z]) (R := fun e w' => ∃ q, e = .returned (vv q) ∧ W' q w') (fun _ _ => wanted_none hg) (fun σ hσ w => ?_) hd hdn (fun w hW => hc w hW) fun e w' he => ?_
  · exact (Go.EB.run_invokeB (us := []) ho rfl hσ hx rfl w).trans (hi w)
  · obtain ⟨q, rfl, hw⟩ := he
    exact .inl ⟨vv q, rfl, fun a ha => h q a w' ha hw⟩
theorem Y.idxR1 (j : Nat) {w0 : World} {base : Nat} {its : List It} {cap k e i : Nat} {g : Option Nat} {xs : List Value} {kk : IntKind} (ht : P.underlying t = some (.slice e)) (hs : SizeIs P e 1) (hx : evl l x = some (rv g k cap)) (hy : evl l y = some (.int kk (i : Int)))
    (hj : its[j]? = some (.row g cap k e 1 xs)) (hi : i < k) : Y P l (WA w0 base its) (.indexAddr t x y) ty (.pointer (some ⟨g.getD 0, i, none⟩)) := by
  have := Y.idxR j (w0 := w0) (base := base) (ty := ty) ht hs hx hy hj hi
  rwa [Nat.mul_one] at this
theorem It.holds.mono {it : It} {base base' : Nat} {w : World} (h : it.holds base w) (hb : base' ≤ base) : it.holds base' w := by
  cases it with
  | obj b o => exact ⟨Nat.le_trans hb h.1, h.2⟩
  | row g cap n e size xs =>
    obtain ⟨h1, h2⟩ := h
    exact ⟨h1, h2.imp id fun ⟨g, cap, cur, e1, e2, r⟩ => ⟨g, cap, cur, e1, Nat.le_trans hb e2, r⟩⟩
/-- all that a call leaves, laid on what was owned -/
theorem WA.onto {w0 w w' : World} {base : Nat} {its its' : List It} (h : WA w0 base its w) (h' : WA w w.heap.size its' w') : WA w0 base (its' ++ its) w' := by
  have h0 := Stab.st w w' h h'.below
  refine ⟨h0.below, h0.fits, fun x hx => ?_, List.pairwise_append.2 ⟨h'.apart, h0.apart, fun x hx y hy k hk hk' => ?_⟩⟩
  · rcases List.mem_append.1 hx with hx | hx
    · exact (h'.all x hx).mono h.fits
    · exact h0.all x hx
  · have h1 := ((h'.all x hx).lt k hk).1
    have h2 := ((h.all y hy).lt k hk').2
    omega
end
end Go.SX
namespace Go.Vo
open Go.SX Go.RowKit
/-! values where they lie -/
structure RowAt (w0 : World) (base : Nat) (g : Option Nat) (xs : List Value) : Prop where
  at_ : ∀ i v, xs[i]? = some v → ∃ b, g = some b ∧ b < base ∧ w0.cell? ⟨b, i, none⟩ = some v
theorem RowAt.push {w0 w : World} {base : Nat} {its : List It} {g : Option Nat} {xs : List Value} (h : RowAt w0 base g xs) (hw : WA w0 base its w) : RowAt w w.heap.size g xs := ⟨fun i v hi => by
  obtain ⟨b, rfl, h1, h2⟩ := h.at_ i v hi
  exact ⟨b, rfl, Nat.lt_of_lt_of_le h1 hw.fits, hw.old h1 h2⟩⟩
def dv (l : List Nat) : List Value := l.map fun (d : Nat) => .int .u32 (d : Int)
/-- a number -/
@[reducible] def numV (z : Int) (g : Option Nat) (c : Nat) : Value := .agg #[.bool (decide (z < 0)), rv g (digs z.natAbs).length c]
structure NumV (w0 : World) (base : Nat) (z : Int) (v : Value) : Prop where
  ex : ∃ g c, v = numV z g c ∧ RowAt w0 base g (dv (digs z.natAbs))
  small : z.natAbs < 18446744073709551616
theorem NumV.push {w0 w : World} {base : Nat} {its : List It} {z : Int} {v : Value} (h : NumV w0 base z v) (hw : WA w0 base its w) : NumV w w.heap.size z v := by
  obtain ⟨⟨g, c, rfl, h1⟩, h2⟩ := h
  exact ⟨⟨g, c, rfl, h1.push hw⟩, h2⟩
@[reducible] def NumW (z : Int) (v : Value) (w : World) : Prop := NumV w w.heap.size z v
theorem WA.from {w w' : World} (h : Below w.heap.size w w') : WA w w.heap.size [] w' := ⟨h, h.size, (fun _ h => by cases h), List.Pairwise.nil⟩
instance {z : Int} {v : Value} : Stab (NumW z v) where
  st _ _ h hb := h.push (WA.from hb)
theorem wrap_u32 {n : Nat} (h : n < 4294967296) : IntKind.u32.wrap (n : Int) = (n : Int) := by
  simp [IntKind.wrap, IntKind.bits, IntKind.signed]; omega
theorem row_at {w0 w : World} {base : Nat} {its : List It} {g : Option Nat} {c n e : Nat} {xs : List Value} (hw : WA w0 base its w) (hm : It.row g c n e 1 xs ∈ its) : RowAt w w.heap.size g xs := ⟨fun i v hi => by
  obtain ⟨j, hj⟩ := List.mem_iff_getElem?.1 hm
  obtain ⟨h1, _, h3⟩ := hw.rowCell hj hi
  exact ⟨g.getD 0, h3, World.block_lt_of_cell? _ _ h1, h1⟩⟩
end Go.Vo
