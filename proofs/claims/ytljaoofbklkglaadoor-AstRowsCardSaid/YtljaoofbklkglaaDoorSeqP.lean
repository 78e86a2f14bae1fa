/-
  Proved here: rules for a part of a row that is put behind another; and what putting a number into its place gives.
-/
import Derived.Test.YtljaoofbklkglaaDoorEyV
import Derived.Test.YtljaoofbklkglaaDoorMk
namespace Go.EY
open Go.SX Go.EX Go.RowKit Go.Sort
open Go.Proofs (encStr)
section
variable {P : Program} {ops : Array Oper} {n : Nat} {D : List Deferred} {l l' : Fr} {rest : List Oper} {o : Oper} {d : Nat}
  {x y : Operand} {t ty : TypeId} {w0 : World} {base : Nat} {its : List It} {Q : Exit → Act → World → Prop}
theorem row_none {w : World} {base e size n cap : Nat} {xs : List Value} (h : w.ownsRow base e size (rv none n cap) n xs) : n = 0 ∧ cap = 0 := by
  obtain ⟨_, h | ⟨g, cap', cur, h1, _⟩⟩ := h
  · have h1 := h.1
    simp [rv] at h1
    exact h1
  · simp [rv] at h1
theorem LX.appendPart (i j : Nat) {lo m k cap e bytes k2 cap2 C : Nat} {g g2 : Option Nat} {xs ys : List Value} {A : Option Addr} {ats : Array TypeId} (he : Elem P t e 1 bytes)
    (ho : o.op = .call { callee := .builtin .append, args := #[x, y], argTypes := ats }) (hat : ats = #[t, t])
    (hx : evl l x = some (rv g k cap)) (hy : evl l y = some (.slice A m C)) (hi : its[i]? = some (.row g cap k e 1 xs)) (hj : its[j]? = some (.row g2 cap2 k2 e 1 ys))
    (hA : A = if cap2 = lo then (g2.map fun b => (⟨b, 0, none⟩ : Addr)) else (g2.map fun b => (⟨b, 0, none⟩ : Addr)).map (·.add (lo * 1))) (hC : C ≤ cap2) (hm : lo + m ≤ k2) (h1 : ys.all (·.oneCell') = true)
    (hbytes : (k + m) * bytes ≤ 140737488355328) (h63 : k + m ≤ 9223372036854775807)
    (hg : o.guard = none) (hd : o.dst = some d) (hdn : Nat.blt d n = true)
    (h : ∀ g' cap', LX P ops n D (.plain Q) ((d, rv g' (k + m) cap') :: l) (WA w0 base (its.set i (.row g' cap' (k + m) e 1 (xs ++ (ys.drop lo).take m)))) rest) :
    LX P ops n D (.plain Q) l (WA w0 base its) (o :: rest) := by
  refine LX.effx (τ := Option Nat × Nat) (v := fun p => rv p.1 (k + m) p.2) (W' := fun p => WA w0 base (its.set i (.row p.1 p.2 (k + m) e 1 (xs ++ (ys.drop lo).take m)))) (fun ρ hρ w hW => ?_) hg hd hdn (fun p => h p.1 p.2)
  have hr1 := row_len (hW.get hi)
  have hr2 := hW.get hj
  have hlen := row_len hr2
  rcases Nat.eq_zero_or_pos m with rfl | h0
  · have hux : (Value.slice A 0 C) = .slice none 0 0 ∨ ∃ ad cp', Value.slice A 0 C = .slice (some ad) 0 cp' := by
      cases A with
      | none =>
        have hg2 : g2 = none := by cases g2 with
          | none => rfl
          | some b => simp at hA; split at hA <;> cases hA
        subst hg2
        have := (row_none hr2).2
        left; rw [show C = 0 by omega]
      | some ad => exact .inr ⟨ad, C, rfl⟩
    refine ⟨(g, cap), w, ?_, ?_⟩
    · obtain ⟨inf, z, e1, _⟩ := he.ex
      have h2 := run_append0 (P := P) he.ht ⟨inf, e1⟩ hat (g := g.map fun b => ⟨b, 0, none⟩) (m := k) (cp := cap) hux hr1.2 o.type w
      simp only [execOp, ho, resolve, invoke, builtin, Sem.run_bind, Sem.run_pure, Result.andThen_ok, List.map_toArray, List.map_cons, List.map_nil, hρ _ _ hx, hρ _ _ hy, h2, Nat.add_zero]
    · have e1 : its.set i (.row g cap (k + 0) e 1 (xs ++ (ys.drop lo).take 0)) = its := by
        rw [List.take_zero, List.append_nil, Nat.add_zero]
        obtain ⟨hlt, hget⟩ := List.getElem?_eq_some_iff.1 hi
        rw [← hget]; exact List.set_getElem_self hlt
      show WA w0 base (its.set i (.row g cap (k + 0) e 1 (xs ++ (ys.drop lo).take 0))) w
      rw [e1]; exact hW
  · obtain ⟨b, cur, rfl, _⟩ := row_some hr2 (by omega)
    have hA' : A = some ⟨b, lo, none⟩ := by
      rw [hA, if_neg (by omega)]
      simp [Addr.add]
      try omega
    subst hA'
    have hy1 : ys.length = k2 := by omega
    have hl : ((ys.drop lo).take m).length = m * 1 := by simp; omega
    obtain ⟨g', cap', w', r1, r2⟩ := hW.append he hi ⟨b, lo, none⟩ m C ((ys.drop lo).take m) hl (fun q u hu => by
      have hq : q < m := by have := (List.getElem?_eq_some_iff.1 hu).1; omega
      rw [List.getElem?_take_of_lt hq, List.getElem?_drop] at hu
      have := (hW.rowCell hj hu).1
      rw [Addr.add_lit]
      simpa using this) (fun u hu => List.all_eq_true.1 h1 u (List.mem_of_mem_drop (List.mem_of_mem_take hu))) hbytes (by unfold maxLen; omega) o.type
    refine ⟨(g', cap'), w', ?_, r2⟩
    subst hat
    simp only [execOp, ho, resolve, invoke, builtin, Sem.run_bind, Sem.run_pure, Result.andThen_ok, List.map_toArray, List.map_cons, List.map_nil, hρ _ _ hx, hρ _ _ hy, r1]
end
/-! numbers in their places -/
def seen (ks : List Nat) (i : Nat) : Nat → Bool := fun k => (ks.take i).contains k
def outK (ks : List Nat) (i : Nat) : List Nat := canon (seen ks i)
def ctK (ks : List Nat) (i : Nat) : Nat := ((List.range (ks.getD i 0)).filter (seen ks i)).length
theorem outK_zero (ks : List Nat) : outK ks 0 = [] := by
  unfold outK canon seen
  exact List.filter_eq_nil_iff.2 fun k _ => by simp
theorem outK_len (ks : List Nat) (i : Nat) : (outK ks i).length ≤ 8 := canon_len _
theorem seen_succ {ks : List Nat} {i : Nat} (hi : i < ks.length) : seen ks (i + 1) = fun k => seen ks i k || k == ks.getD i 0 := by
  funext k
  have e := List.take_succ_eq_append_getElem hi
  have hd : ks.getD i 0 = ks[i] := by simp [List.getD, hi]
  unfold seen
  rw [Bool.eq_iff_iff]
  simp only [List.contains_eq_mem, decide_eq_true_eq, e, List.mem_append, List.mem_singleton, Bool.or_eq_true, beq_iff_eq, hd]
theorem outK_split {ks : List Nat} {i : Nat} (hq : ks.getD i 0 < 8) : ∃ B, outK ks i = (List.range (ks.getD i 0)).filter (seen ks i) ++ ((if seen ks i (ks.getD i 0) then [ks.getD i 0] else []) ++ B) ∧ (∀ x ∈ B, ks.getD i 0 < x ∧ x < 8) := by
  refine ⟨_, canon_split _ hq, fun x hx => ?_⟩
  obtain ⟨j, hj, rfl⟩ := List.mem_range'.1 (List.mem_filter.1 hx).1
  omega
theorem ctK_le {ks : List Nat} {i : Nat} (hq : ks.getD i 0 < 8) : ctK ks i ≤ (outK ks i).length := by
  obtain ⟨B, h, _⟩ := outK_split hq
  rw [h, List.length_append]
  exact Nat.le_add_right _ _
theorem outK_at {ks : List Nat} {i k : Nat} (hq : ks.getD i 0 < 8) (hk : k < (outK ks i).length) : (outK ks i).getD k 0 < 8 ∧ ((outK ks i).getD k 0 < ks.getD i 0 ↔ k < ctK ks i) ∧ (k = ctK ks i → ((outK ks i).getD k 0 = ks.getD i 0 ↔ seen ks i (ks.getD i 0) = true)) := by
  obtain ⟨B, h, hB⟩ := outK_split hq
  have hA : ∀ x ∈ (List.range (ks.getD i 0)).filter (seen ks i), x < ks.getD i 0 := fun x hx => by simpa using (List.mem_filter.1 hx).1
  unfold ctK
  rw [h] at hk ⊢
  generalize (List.range (ks.getD i 0)).filter (seen ks i) = A at *
  generalize ks.getD i 0 = q at *
  by_cases hkA : k < A.length
  · have e : (A ++ ((if seen ks i q = true then [q] else []) ++ B)).getD k 0 = A[k] := by simp [List.getD, List.getElem?_append_left hkA, hkA]
    have := hA _ (List.getElem_mem hkA)
    rw [e]
    exact ⟨by omega, by omega, by omega⟩
  · by_cases hs : seen ks i q = true
    · rw [if_pos hs] at *
      by_cases hk2 : k = A.length
      · subst hk2
        have e : (A ++ ([q] ++ B)).getD A.length 0 = q := by simp [List.getD]
        rw [e]
        exact ⟨hq, by omega, fun _ => ⟨fun _ => hs, fun _ => rfl⟩⟩
      · have hkB : k - A.length - 1 < B.length := by simp at hk; omega
        have e : (A ++ ([q] ++ B)).getD k 0 = B[k - A.length - 1] := by
          obtain ⟨r, rfl⟩ : ∃ r, k = A.length + 1 + r := ⟨k - A.length - 1, by omega⟩
          have h1 : A.length + 1 + r - A.length - 1 = r := by omega
          simp only [h1] at hkB ⊢
          have h2 : (A ++ ([q] ++ B))[A.length + 1 + r]? = B[r]? := by
            rw [List.getElem?_append_right (by omega), show A.length + 1 + r - A.length = r + 1 by omega]
            rfl
          rw [List.getD, h2, List.getElem?_eq_getElem hkB]
          rfl
        have := hB _ (List.getElem_mem hkB)
        rw [e]
        exact ⟨by omega, by omega, by omega⟩
    · rw [if_neg hs] at *
      have hkB : k - A.length < B.length := by simp at hk; omega
      have e : (A ++ ([] ++ B)).getD k 0 = B[k - A.length] := by
        simp [List.getD, List.getElem?_append_right (Nat.le_of_not_lt hkA), hkB]
      have := hB _ (List.getElem_mem hkB)
      rw [e]
      exact ⟨by omega, by omega, fun _ => ⟨fun h => by omega, fun h => absurd h hs⟩⟩
theorem outK_not {ks : List Nat} {i : Nat} (hq : ks.getD i 0 < 8) (hk : ctK ks i = (outK ks i).length) : seen ks i (ks.getD i 0) = false := by
  obtain ⟨B, h, hB⟩ := outK_split hq
  cases hs : seen ks i (ks.getD i 0) with
  | false => rfl
  | true =>
    rw [h, hs, if_pos rfl] at hk
    unfold ctK at hk
    simp at hk
theorem outK_same {ks : List Nat} {i : Nat} (hi : i < ks.length) (hs : seen ks i (ks.getD i 0) = true) : outK ks (i + 1) = outK ks i := by
  unfold outK
  rw [seen_succ hi]
  refine canon_congr fun k _ => ?_
  by_cases h : k = ks.getD i 0
  · subst h; rw [hs]; rfl
  · have : (k == ks.getD i 0) = false := by simpa using h
    rw [this, Bool.or_false]
theorem outK_put {ks : List Nat} {i : Nat} (hi : i < ks.length) (hq : ks.getD i 0 < 8) (hs : seen ks i (ks.getD i 0) = false) : outK ks (i + 1) = (outK ks i).take (ctK ks i) ++ ([ks.getD i 0] ++ (outK ks i).drop (ctK ks i)) := by
  have h1 := canon_split (seen ks i) hq
  rw [hs] at h1
  have h2 : outK ks i = (List.range (ks.getD i 0)).filter (seen ks i) ++ (List.range' (ks.getD i 0 + 1) (7 - ks.getD i 0)).filter (seen ks i) := by
    unfold outK; rw [h1]; simp
  have h3 : outK ks (i + 1) = canon fun k => seen ks i k || k == ks.getD i 0 := by unfold outK; rw [seen_succ hi]
  rw [h3, canon_put _ hq, h2]
  unfold ctK
  rw [List.take_left, List.drop_left]
  rfl
theorem keyAt {ks : List Nat} {i : Nat} (hi : i < ks.length) (h8 : ∀ k ∈ ks, k < 8) : ks.getD i 0 < 8 := by
  have hd : ks.getD i 0 = ks[i] := by simp [List.getD, hi]
  rw [hd]; exact h8 _ (List.getElem_mem hi)
def atK (l : List Nat) (k : Nat) : Nat := l.getD k 0
theorem outK_atK {ks : List Nat} {i k : Nat} (hq : atK ks i < 8) (hk : k < (outK ks i).length) : atK (outK ks i) k < 8 ∧ (atK (outK ks i) k < atK ks i ↔ k < ctK ks i) ∧ (k = ctK ks i → (atK (outK ks i) k = atK ks i ↔ seen ks i (atK ks i) = true)) := outK_at hq hk
theorem keyAtK {ks : List Nat} {i : Nat} (hi : i < ks.length) (h8 : ∀ k ∈ ks, k < 8) : atK ks i < 8 := keyAt hi h8
def rowK8 (l : List Nat) : List Value := (l.map nmB).map encStr
theorem rowK8_at {l : List Nat} {k : Nat} (hk : k < l.length) : (rowK8 l)[k * 1]? = some (str (nmB (l.getD k 0))) := by
  unfold rowK8
  rw [Nat.mul_one, List.getElem?_map, List.getElem?_map, List.getElem?_eq_getElem hk]
  simp [List.getD, hk, encStr, str]
theorem rowK8_one (l : List Nat) : (rowK8 l).all (·.oneCell') = true := by
  unfold rowK8
  rw [List.all_map]
  exact List.all_eq_true.2 fun _ _ => rfl
theorem rowK8_len (l : List Nat) : (rowK8 l).length = l.length := by simp [rowK8]
theorem rowK8_put {ks : List Nat} {i : Nat} (hi : i < ks.length) (hq : ks.getD i 0 < 8) (hs : seen ks i (ks.getD i 0) = false) :
    rowK8 (outK ks (i + 1)) = (rowK8 (outK ks i)).take (ctK ks i) ++ ([str (nmB (ks.getD i 0))] ++ (rowK8 (outK ks i)).drop (ctK ks i)) := by
  rw [outK_put hi hq hs]
  unfold rowK8
  simp only [List.map_append, List.map_take, List.map_drop, List.map_cons, List.map_nil]
  rfl
theorem outK_put_len {ks : List Nat} {i : Nat} (hi : i < ks.length) (hq : ks.getD i 0 < 8) (hs : seen ks i (ks.getD i 0) = false) : (outK ks (i + 1)).length = (outK ks i).length + 1 := by
  rw [outK_put hi hq hs]
  have := ctK_le hq
  simp; omega
end Go.EY
