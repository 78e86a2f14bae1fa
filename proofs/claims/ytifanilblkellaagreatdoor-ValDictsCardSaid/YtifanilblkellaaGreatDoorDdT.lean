/-
  Proved here: what a number below a thousand is called, as it is computed; a slice turned round, as it is computed; further steps.
-/
import Derived.Test.YtifanilblkellaaGreatDoorSsR
import Derived.Test.YtifanilblkellaaGreatDoorMg
namespace Go.SX
open Go.RowKit
section
variable {P : Program} {ops : Array Oper} {n d : Nat} {D : List Deferred} {l : Fr} {W : World → Prop} {rest : List Oper} {o : Oper} {x y z : Operand} {t ty : TypeId} {w0 : World} {base : Nat} {its : List It} {Q : Exit → Act → World → Prop} {v : Value}
theorem MX.gT1 {l : Fr} {W S : World → Prop} {Q : Exit → Act → World → Prop} {r : List (Nat × Kd)} {pend : List Nat} {i : Nat} {v : Value} {o : Oper} {d j s : Nat} {b want : Bool} (hi : ops[i]? = some o) (hWS : ∀ w, W w → S w) (hg : o.guard = some (j, want)) (hj : (ops[j]?).bind (·.dst) = some s) (hs : get l s = some (.bool b)) (hb : b = want)
    (hy : Y P l S o.op o.type v) (hd : o.dst = some d) (hdn : Nat.blt d n = true)
    (pend' : List Nat) (hp : still ops .any pend i = pend') (h : MX P ops n D Q S ((d, v) :: l) W r (i :: pend')) : MX P ops n D Q S l W ((i, .held) :: r) pend := by
  intro a w ha hW
  subst hp
  refine ⟨hWS w hW, o, v, hi, .inl ⟨by simp [Region.wanted, hg, ha.yielded hj hs, hb], fun w hw => hy a.eval ha.eval o rfl rfl w hw⟩, ?_⟩
  rw [hd]; exact h _ _ (ha.put hdn v) hW
theorem Y.addK {a b : Nat} {k : IntKind} {ty2 : TypeId} (hx : evl l x = some (.int k (a : Int))) (hy : evl l y = some (.int k (b : Int))) (hw : k.wrap ((a + b : Nat) : Int) = ((a + b : Nat) : Int)) : Y P l W (.binOp .add t x y ty2) ty (.int k ((a + b : Nat) : Int)) := by
  refine Y.bin hx hy fun w _ => ?_
  have e : (a : Int) + (b : Int) = ((a + b : Nat) : Int) := by omega
  simp only [eqGuard_add, binOp_add, Op.intArith, e, hw]
  rfl
theorem PX.retA2 {n : Nat} {R : Ending → World → Prop} {fn : Func} {r s b T k i : Nat} {cs : List Value} {u : Value} {e : Exit} (he : e = .ret ∨ e = .normal) (hr : fn.results = #[.cell r t, .tmp s]) (ht : AggT P t k) (hv : get l r = some (.pointer (some ⟨b, 0, none⟩))) (hu : get l s = some u) (hi : its[i]? = some (blk b cs T)) (hk : cs.length = k)
    (h : ∀ w, WA w0 base its w → R (.returned (.tuple #[.agg cs.toArray, u])) w) : PX n [] (bodyPost P fn R) l (WA w0 base its) e := by
  intro a w ha hW
  obtain ⟨d, hd1, hd⟩ := ht.un
  have hp : a.tmps[r]?.getD undef = .pointer (some ⟨b, 0, none⟩) := by simpa using getD_of ha hv
  have hq : a.tmps[s]?.getD undef = u := by simpa using getD_of ha hu
  have h1 : (results fn a.tmps).run P w = .ok (.tuple #[.agg cs.toArray, u]) w := by
    have hl := run_loadVar_row w b T t cs.toArray (0, 0) d (hW.get hi).2 hd1 (by cases d <;> first | rfl | cases hd) (by rw [ht.info]; simp [hk])
    simp [results, hr, hp, hq, asAddr, hl]
  rcases he with rfl | rfl
  · exact ⟨ha.defs, _, h1, h w hW⟩
  · exact ⟨ha.defs, _, h1, h w hW⟩
end
end Go.SX
namespace Go.Ss
open Go.SX Go.RowKit Go.Vo
/-- a number's letters, the lowest first -/
def dg (u : Nat) : List UInt8 := if _h : u = 0 then [] else (48 + u % 10).toUInt8 :: dg (u / 10)
termination_by u
decreasing_by exact Nat.div_lt_self (by omega) (by decide)
theorem dg_0 : dg 0 = [] := by unfold dg; simp
theorem dg_pos {u : Nat} (h : 0 < u) : dg u = (48 + u % 10).toUInt8 :: dg (u / 10) := by
  rw [dg]
  rw [dif_neg (by omega)]
theorem dg_len {u : Nat} (h : u < 1000) : (dg u).length ≤ 3 := by
  have h1 : ∀ u, u < 10 → (dg u).length ≤ 1 := fun u hu => by
    rcases Nat.eq_zero_or_pos u with rfl | hp
    · rw [dg_0]; simp
    · rw [dg_pos hp, show u / 10 = 0 by omega, dg_0]; simp
  have h2 : ∀ u, u < 100 → (dg u).length ≤ 2 := fun u hu => by
    rcases Nat.eq_zero_or_pos u with rfl | hp
    · rw [dg_0]; simp
    · have := h1 (u / 10) (by omega)
      rw [dg_pos hp]; simp; omega
  rcases Nat.eq_zero_or_pos u with rfl | hp
  · rw [dg_0]; simp
  · have := h2 (u / 10) (by omega)
    rw [dg_pos hp]; simp; omega
theorem dg_some {u : Nat} (h : 0 < u) : 1 ≤ (dg u).length := by rw [dg_pos h]; simp
theorem b8_nat {n : Nat} (h : n < 256) : (Value.int .u8 (n : Int)) = b8 n.toUInt8 := by
  show Value.int .u8 (n : Int) = Value.int .u8 ((n.toUInt8.toNat : Nat) : Int)
  rw [show n.toUInt8.toNat = n from by simp; omega]
/-- so many letters exchanged, from both ends -/
def swp (n : Nat) : Nat → List UInt8 → List UInt8
  | 0, xs => xs
  | i + 1, xs => ((swp n i xs).set i ((swp n i xs).getD (n - 1 - i) 0)).set (n - 1 - i) ((swp n i xs).getD i 0)
theorem swp_len (n : Nat) (xs : List UInt8) : ∀ i, (swp n i xs).length = xs.length
  | 0 => rfl
  | i + 1 => by
    unfold swp
    rw [List.length_set, List.length_set, swp_len n xs i]
theorem b8_at {bs : List UInt8} {i : Nat} (h : i < bs.length) : (bs.map b8)[i]? = some (b8 (bs.getD i 0)) := by
  rw [List.getElem?_map, List.getElem?_eq_getElem h, List.getD_eq_getElem?_getD, List.getElem?_eq_getElem h]; rfl
def turned (bs : List UInt8) : List UInt8 := swp bs.length (bs.length / 2) bs
def txtN (ng : Bool) (u : Nat) : T := turned (dg u ++ (match ng with | true => [45] | false => []))
def txtZ (z : Int) : T := match z.natAbs with
  | 0 => [48]
  | u + 1 => txtN (decide (z < 0)) (u + 1)
theorem digs_one {u : Nat} (h : 0 < u) (h2 : u < 1000) : digs u = [u] := by
  rw [digs_pos h, show u % B = u from Nat.mod_eq_of_lt (by unfold B; omega), show u / B = 0 from Nat.div_eq_of_lt (by unfold B; omega), digs_0]
theorem Sl.take {w0 : World} {base : Nat} {av : Option Addr} {vs : List Value} (h : Sl w0 base av vs) (k : Nat) : Sl w0 base av (vs.take k) := ⟨fun i v hi => h.at_ i v (by
  rw [List.getElem?_take] at hi
  split at hi
  · exact hi
  · cases hi)⟩
end Go.Ss
