/-
  Proved here: further steps: a part of a row that is put behind another, numbers shifted; texts in a row that is sorted.
-/
import Derived.Test.YtifanilblkellaaGreatDoorSsS
namespace Go.SX
open Go.RowKit Go.EX Go.EB Go.Ss
section
variable {P : Program} {ops : Array Oper} {n d : Nat} {D : List Deferred} {l : Fr} {W : World → Prop} {rest : List Oper} {o : Oper} {x y z : Operand} {t ty : TypeId} {w0 : World} {base : Nat} {its : List It} {Q : Exit → Act → World → Prop}
theorem LX.appendPart (i j : Nat) {lo m k cap e bytes k2 cap2 C : Nat} {g g2 : Option Nat} {xs ys : List Value} {A : Option Addr} {ats : Array TypeId} (he : Elem P t e 1 bytes)
    (ho : o.op = .call { callee := .builtin .append, args := #[x, y], argTypes := ats }) (hat : ats = #[t, t])
    (hx : evl l x = some (rv g k cap)) (hy : evl l y = some (.slice A m C)) (hi : its[i]? = some (.row g cap k e 1 xs)) (hj : its[j]? = some (.row g2 cap2 k2 e 1 ys))
    (hA : A = if cap2 = lo then (g2.map fun b => (⟨b, 0, none⟩ : Addr)) else (g2.map fun b => (⟨b, 0, none⟩ : Addr)).map (·.add (lo * 1))) (hC : C ≤ cap2) (hm : lo + m ≤ k2) (h1 : ys.all (·.oneCell') = true)
    (hbytes : (k + m) * bytes ≤ 140737488355328) (h63 : k + m ≤ 9223372036854775807)
    (hg : o.guard = none) (hd : o.dst = some d) (hdn : Nat.blt d n = true)
    (h : ∀ g' cap', LX P ops n D (.plain Q) ((d, rv g' (k + m) cap') :: l) (WA w0 base (its.set i (.row g' cap' (k + m) e 1 (xs ++ (ys.drop lo).take m)))) rest) :
    LX P ops n D (.plain Q) l (WA w0 base its) (o :: rest) := by
  refine LX.effx (τ := Option Nat × Nat) (v := fun p => rv p.1 (k + m) p.2) (W' := fun p => WA w0 base (its.set i (.row p.1 p.2 (k + m) e 1 (xs ++ (ys.drop lo).take m)))) (fun ρ hρ w hW => ?_) hg hd hdn (fun p => h p.1 p.2)
  have hr1 := row_len (hW.get hi)
  have hr2 := hW.get hj
  have hlen := row_len hr2
  rcases Nat.eq_zero_or_pos m with rfl | h0
  · have hux : (Value.slice A 0 C) = .slice none 0 0 ∨ ∃ ad cp', Value.slice A 0 C = .slice (some ad) 0 cp' := by
      cases A with
      | none =>
        have hg2 : g2 = none := by cases g2 with
          | none => rfl
          | some b => simp at hA; split at hA <;> cases hA
        subst hg2
        have := (row_none2 hr2).2
        left; rw [show C = 0 by omega]
      | some ad => exact .inr ⟨ad, C, rfl⟩
    refine ⟨(g, cap), w, ?_, ?_⟩
    · obtain ⟨inf, z, e1, _⟩ := he.ex
      have h2 := run_append0 (P := P) he.ht ⟨inf, e1⟩ hat (g := g.map fun b => ⟨b, 0, none⟩) (m := k) (cp := cap) hux hr1.2 o.type w
      simp only [execOp, ho, resolve, invoke, builtin, Sem.run_bind, Sem.run_pure, Result.andThen_ok, List.map_toArray, List.map_cons, List.map_nil, hρ _ _ hx, hρ _ _ hy, h2, Nat.add_zero]
    · have e1 : its.set i (.row g cap (k + 0) e 1 (xs ++ (ys.drop lo).take 0)) = its := by
        rw [List.take_zero, List.append_nil, Nat.add_zero]
        obtain ⟨hlt, hget⟩ := List.getElem?_eq_some_iff.1 hi
        rw [← hget]; exact List.set_getElem_self hlt
      show WA w0 base (its.set i (.row g cap (k + 0) e 1 (xs ++ (ys.drop lo).take 0))) w
      rw [e1]; exact hW
  · obtain ⟨b, cur, rfl, _⟩ := row_some hr2 (by omega)
    have hA' : A = some ⟨b, lo, none⟩ := by
      rw [hA, if_neg (by omega)]
      simp [Addr.add]
      try omega
    subst hA'
    have hy1 : ys.length = k2 := by omega
    have hl : ((ys.drop lo).take m).length = m * 1 := by simp; omega
    obtain ⟨g', cap', w', r1, r2⟩ := hW.append he hi ⟨b, lo, none⟩ m C ((ys.drop lo).take m) hl (fun q u hu => by
      have hq : q < m := by have := (List.getElem?_eq_some_iff.1 hu).1; omega
      rw [List.getElem?_take_of_lt hq, List.getElem?_drop] at hu
      have := (hW.rowCell hj hu).1
      rw [Addr.add_lit]
      simpa using this) (fun u hu => List.all_eq_true.1 h1 u (List.mem_of_mem_drop (List.mem_of_mem_take hu))) hbytes (by unfold maxLen; omega) o.type
    refine ⟨(g', cap'), w', ?_, r2⟩
    subst hat
    simp only [execOp, ho, resolve, invoke, builtin, Sem.run_bind, Sem.run_pure, Result.andThen_ok, List.map_toArray, List.map_cons, List.map_nil, hρ _ _ hx, hρ _ _ hy, r1]
theorem Y.shr1U {a : Nat} {k : IntKind} {ty2 : TypeId} (hx : evl l x = some (.int .u64 (a : Int))) (hy : evl l y = some (.int k 1)) : Y P l W (.binOp .shr t x y ty2) ty (.int .u64 ((a / 2 : Nat) : Int)) := by
  refine Y.bin hx hy fun w _ => ?_
  have h1 := shift_shr .u64 k (a : Int) 1 (by omega) (by simp [IntKind.bits])
  simp only [eqGuard_shr, binOp_shr, h1, pure_bind, Sem.run_pure]
  rfl
end
end Go.SX
namespace Go.Ss
open Go.SX
theorem inc_lt {S : List T} (h : Inc S) {a b : Nat} (hab : a < b) (hb : b < S.length) : S.getD a [] < S.getD b [] := by
  rw [List.getD_eq_getElem?_getD, List.getD_eq_getElem?_getD, List.getElem?_eq_getElem (by omega), List.getElem?_eq_getElem hb]
  exact List.pairwise_iff_getElem.1 h a b (by omega) hb hab
theorem find_lo {S : List T} (h : Inc S) {m k : Nat} (hm : m < S.length) (hk : k < S.length) (hl : S.getD k [] < S.getD m []) : k < m := by
  rcases Nat.lt_trichotomy k m with h1 | h1 | h1
  · exact h1
  · subst h1; exact absurd hl (List.lt_irrefl _)
  · exact (lt_no hl (inc_lt h h1 hk)).elim
theorem find_hi {S : List T} (h : Inc S) {m k : Nat} (hm : m < S.length) (hl : ¬S.getD k [] < S.getD m []) : m ≤ k := by
  rcases Nat.lt_or_ge k m with h1 | h1
  · exact absurd (inc_lt h h1 hm) hl
  · exact h1
theorem strs_one (l : List T) : (l.map str).all (·.oneCell') = true := List.all_eq_true.2 fun v hv => by
  obtain ⟨x, _, rfl⟩ := List.mem_map.1 hv
  rfl
theorem put_row {O : List T} {x : T} (h : cut x O < O.length → O.getD (cut x O) [] ≠ x) : (((O.map str).drop 0).take (cut x O) ++ [str x]) ++ ((O.map str).drop (cut x O)).take (O.length - cut x O) = (ins x O).map str := by
  rw [ins_put h, List.take_of_length_le (l := (O.map str).drop (cut x O)) (by simp), List.drop_zero]
  simp
theorem put_len {O : List T} {x : T} (h : cut x O < O.length → O.getD (cut x O) [] ≠ x) : (ins x O).length = O.length + 1 := by
  have := cut_le x O
  rw [ins_put h]
  simp
  omega
end Go.Ss
