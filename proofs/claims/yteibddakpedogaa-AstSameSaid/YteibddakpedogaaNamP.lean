/-
  Proved here: plain: which texts are names.
-/
import Derived.Test.YteibddakpedogaaLexP
namespace Go.Lex
open Go.SX
def okN (s : List UInt8) (i : Nat) : Prop := isLet (bt s i) = true ∨ (¬ i = 0 ∧ isDig (bt s i) = true)
instance (s : List UInt8) (i : Nat) : Decidable (okN s i) := inferInstanceAs (Decidable (_ ∨ _))
def plainB (s : List UInt8) : Bool := decide (¬ s = []) && decide (∀ i, i < s.length → okN s i)
def nameB (s : List UInt8) : Bool := plainB s && !decide (s ∈ wordsList)
theorem plainB_no {s : List UInt8} {k : Nat} (h : k < s.length) (hk : ¬ okN s k) : plainB s = false := by
  unfold plainB
  rw [decide_eq_false (p := ∀ i, i < s.length → okN s i) (fun h' => hk (h' k h)), Bool.and_false]
theorem plainB_end {s : List UInt8} (h : ∀ i, i < s.length → okN s i) : plainB s = !decide (s = []) := by
  unfold plainB
  rw [decide_eq_true h, Bool.and_true, decide_not]
theorem okN_next {s : List UInt8} {k : Nat} (h : ∀ i, i < k → okN s i) (hk : okN s k) : ∀ i, i < k + 1 → okN s i := fun i hi => by
  rcases Nat.lt_or_ge i k with h1 | h1
  · exact h i h1
  · obtain rfl : i = k := by omega
    exact hk
theorem words_len : ∀ k, k < 17 → (wordsList.getD k []).length ≤ 8 := by decide
theorem words_no : ∀ k, k < 17 → nameB (wordsList.getD k []) = false := by decide
theorem eqT_next {xs ys : List (List UInt8)} {k : Nat} (h : ∀ i, i < k → xs.getD i [] = ys.getD i []) (hk : xs.getD k [] = ys.getD k []) : ∀ i, i < k + 1 → xs.getD i [] = ys.getD i [] := fun i hi => by
  rcases Nat.lt_or_ge i k with h1 | h1
  · exact h i h1
  · obtain rfl : i = k := by omega
    exact hk
theorem eqT_all {xs ys : List (List UInt8)} (hl : xs.length = ys.length) (h : ∀ i, i < xs.length → xs.getD i [] = ys.getD i []) : xs = ys := by
  refine List.ext_getElem hl fun i h1 h2 => ?_
  have := h i h1
  simpa [List.getD, h1, h2] using this
theorem idx_dec (s : List UInt8) : decide (idxI s wordsList 0 < 0) = !decide (s ∈ wordsList) := by
  rw [← decide_not]
  exact decide_eq_decide.2 (by rw [← (idxI_ge s wordsList 0).1]; omega)
end Go.Lex
