/-
  Proved here: names in order, and each once: what sorting and taking out twins gives, and what putting each into its place gives, are one list. No program stands here.
-/
import Derived.Test.YtljaoofbklkglaaDoorEyT
namespace Go.EY
open Go.SX Go.EX Go.RowKit
def nmB (k : Nat) : List UInt8 := [118, (97 + k).toUInt8]
def keyL (z : Nat → Int) (n : Nat) : List Nat := (List.range n).map fun i => (nmI (z i)).toNat
theorem nameL_eq (x : Int) : nameL x = nmB (nmI x).toNat := rfl
theorem namesL_eq (z : Nat → Int) (n : Nat) : namesL z n = (keyL z n).map nmB := by
  unfold namesL keyL
  rw [List.map_map]
  rfl
theorem key_lt {z : Nat → Int} {n k : Nat} (h : k ∈ keyL z n) : k < 8 := by
  unfold keyL at h
  obtain ⟨i, _, rfl⟩ := List.mem_map.1 h
  have := nmI_in (z i)
  omega
theorem nmB_le : ∀ a, a < 8 → ∀ b, b < 8 → decide (a ≤ b) = decide (nmB a ≤ nmB b) := by decide +kernel
theorem nmB_lt : ∀ a, a < 8 → ∀ b, b < 8 → Op.bytesLess (nmB a) (nmB b) = decide (a < b) := by decide +kernel
theorem nmB_inj : ∀ a, a < 8 → ∀ b, b < 8 → nmB a = nmB b → a = b := by decide +kernel
/-- numbers below eight, in order, each once -/
def canon (p : Nat → Bool) : List Nat := (List.range 8).filter p
theorem range8 : ∀ q, q < 8 → List.range 8 = List.range q ++ q :: List.range' (q + 1) (7 - q) := by decide +kernel
theorem canon_split (p : Nat → Bool) {q : Nat} (hq : q < 8) : canon p = (List.range q).filter p ++ ((if p q then [q] else []) ++ (List.range' (q + 1) (7 - q)).filter p) := by
  unfold canon
  rw [range8 q hq, List.filter_append, List.filter_cons]
  cases p q <;> rfl
theorem canon_congr {p p' : Nat → Bool} (h : ∀ k, k < 8 → p k = p' k) : canon p = canon p' := List.filter_congr fun k hk => h k (by simpa using hk)
/-- one more, that was not there -/
theorem canon_put (p : Nat → Bool) {q : Nat} (hq : q < 8) : canon (fun k => p k || k == q) = (List.range q).filter p ++ q :: (List.range' (q + 1) (7 - q)).filter p := by
  rw [canon_split _ hq]
  have h1 : (List.range q).filter (fun k => p k || k == q) = (List.range q).filter p := List.filter_congr fun k hk => by
    have : k < q := by simpa using hk
    have h : (k == q) = false := by simp; omega
    simp [h]
  have h2 : (List.range' (q + 1) (7 - q)).filter (fun k => p k || k == q) = (List.range' (q + 1) (7 - q)).filter p := List.filter_congr fun k hk => by
    obtain ⟨i, _, rfl⟩ := List.mem_range'.1 hk
    have h : (q + 1 + 1 * i == q) = false := beq_eq_false_iff_ne.2 (by omega)
    show (p _ || (q + 1 + 1 * i == q)) = p _
    rw [h, Bool.or_false]
  rw [h1, h2]
  simp
theorem canon_end {p : Nat → Bool} {q : Nat} (hq : q < 8) (h : ∀ k, p k = true → k < q) : canon (fun k => p k || k == q) = canon p ++ [q] := by
  have h2 : (List.range' (q + 1) (7 - q)).filter p = [] := List.filter_eq_nil_iff.2 fun k hk hp => by
    obtain ⟨i, _, rfl⟩ := List.mem_range'.1 hk
    have := h _ hp
    omega
  have h3 : p q = false := by
    cases hp : p q with
    | false => rfl
    | true => exact absurd (h q hp) (by omega)
  rw [canon_put p hq, canon_split p hq, h2, h3]
  simp
theorem canon_len (p : Nat → Bool) : (canon p).length ≤ 8 := by
  have := List.length_filter_le p (List.range 8)
  unfold canon
  simpa using this
theorem srtL_eq (z : Nat → Int) (n : Nat) : srtL z n = ((keyL z n).mergeSort fun a b => decide (a ≤ b)).map nmB := by
  unfold srtL
  rw [namesL_eq]
  exact (List.map_mergeSort fun a ha b hb => nmB_le a (key_lt ha) b (key_lt hb)).symm
theorem compact_keys {ks : List Nat} (h8 : ∀ k ∈ ks, k < 8) (hs : ks.Pairwise (· ≤ ·)) : ∀ m, m ≤ ks.length → Lib.compactUpTo (ks.map nmB).toArray m = (canon fun k => (ks.take m).contains k).map nmB := by
  intro m
  induction m with
  | zero => intro _; rfl
  | succ m ih =>
    intro hm
    have hlt : m < ks.length := hm
    have hq8 : ks[m] < 8 := h8 _ (List.getElem_mem hlt)
    have hget : ∀ j, (hj : j < ks.length) → (ks.map nmB).toArray[j]! = nmB ks[j] := fun j hj => by
      rw [getElem!_pos _ j (by simpa using hj)]; simp
    have hct : (canon fun k => (ks.take (m + 1)).contains k) = canon fun k => (ks.take m).contains k || k == ks[m] := canon_congr fun k _ => by
      have e := List.take_succ_eq_append_getElem hlt
      rw [Bool.eq_iff_iff]
      simp only [List.contains_eq_mem, decide_eq_true_eq, e, List.mem_append, List.mem_singleton, Bool.or_eq_true, beq_iff_eq]
    rw [Lib.compactUpTo_succ, ih (by omega), hct, hget m hlt]
    have hle : ∀ k, (ks.take m).contains k = true → k ≤ ks[m] := fun k hk => by
      have hk : k ∈ ks.take m := by simpa using hk
      obtain ⟨j, hj, rfl⟩ := List.mem_iff_getElem.1 hk
      have hj' : j < m := by simp at hj; omega
      rw [List.getElem_take]
      exact List.pairwise_iff_getElem.1 hs j m (by omega) hlt hj'
    by_cases hin : (ks.take m).contains ks[m] = true
    · -- it was there: it is the one ahead
      have hm0 : m ≠ 0 := by rintro rfl; simp at hin
      have hpm : m - 1 < ks.length := by omega
      have heq : ks[m - 1] = ks[m] := by
        have hk : ks[m] ∈ ks.take m := by simpa using hin
        obtain ⟨j, hj, hj2⟩ := List.mem_iff_getElem.1 hk
        rw [List.getElem_take] at hj2
        have hj' : j < m := by simp at hj; omega
        have h1 : ks[m - 1] ≤ ks[m] := List.pairwise_iff_getElem.1 hs (m - 1) m hpm hlt (by omega)
        have h2 : ks[j] ≤ ks[m - 1] := by
          by_cases h : j = m - 1
          · subst h; exact Nat.le_refl _
          · exact List.pairwise_iff_getElem.1 hs j (m - 1) (by omega) hpm (by omega)
        omega
      have hk : Lib.keeps (ks.map nmB).toArray m = false := Lib.keeps_neg (by omega) (by rw [hget m hlt, hget (m - 1) hpm, heq])
      rw [hk]
      have : (canon fun k => (ks.take m).contains k || k == ks[m]) = canon fun k => (ks.take m).contains k := canon_congr fun k _ => by
        by_cases h : k = ks[m]
        · subst h; rw [hin]; rfl
        · have : (k == ks[m]) = false := by simpa using h
          rw [this, Bool.or_false]
      rw [this]; simp
    · have hk : Lib.keeps (ks.map nmB).toArray m = true := by
        by_cases hm0 : m = 0
        · subst hm0; simp [Lib.keeps]
        · have hpm : m - 1 < ks.length := by omega
          refine Lib.keeps_pos ?_
          rw [hget m hlt, hget (m - 1) hpm]
          intro h
          have h := nmB_inj _ hq8 _ (h8 _ (List.getElem_mem hpm)) h
          refine hin ?_
          rw [h]
          have : ks[m - 1] ∈ ks.take m := List.mem_iff_getElem.2 ⟨m - 1, by simp; omega, by rw [List.getElem_take]⟩
          simpa using this
      rw [hk, canon_end hq8 fun k hk => ?_]
      · rw [if_pos rfl, List.map_append]; rfl
      · have h1 := hle k hk
        have h2 : k ≠ ks[m] := by rintro rfl; exact hin hk
        omega
theorem dstL_eq (z : Nat → Int) (n : Nat) : dstL z n = (canon fun k => (keyL z n).contains k).map nmB := by
  unfold dstL
  rw [srtL_eq]
  have hp := List.mergeSort_perm (keyL z n) fun a b => decide (a ≤ b)
  have hs : ((keyL z n).mergeSort fun a b => decide (a ≤ b)).Pairwise (· ≤ ·) := by
    have := List.pairwise_mergeSort (le := fun a b => decide (a ≤ b)) (fun a b c h1 h2 => by simp at *; omega) (fun a b => by simp; omega) (keyL z n)
    exact this.imp fun h => by simpa using h
  have h8 : ∀ k ∈ (keyL z n).mergeSort fun a b => decide (a ≤ b), k < 8 := fun k hk => key_lt (hp.mem_iff.1 hk)
  have := compact_keys h8 hs _ (Nat.le_refl _)
  unfold Lib.compact
  rw [List.length_map, this, List.take_length]
  congr 1
  exact canon_congr fun k _ => by rw [List.contains_eq_mem, List.contains_eq_mem]; simp [hp.mem_iff]
theorem dstL_len (z : Nat → Int) (n : Nat) : (dstL z n).length ≤ 8 := by rw [dstL_eq, List.length_map]; exact canon_len _
theorem srtL_len (z : Nat → Int) (n : Nat) : (srtL z n).length = n := by rw [srtL_eq]; simp [keyL, List.length_mergeSort]
end Go.EY
