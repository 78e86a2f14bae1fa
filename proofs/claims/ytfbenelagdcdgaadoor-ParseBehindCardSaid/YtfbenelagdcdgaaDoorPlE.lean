/-
  Proved here: plain: a text, parsed: it has an answer, and what is parsed is a tree that may be. No program stands here.
-/
import Derived.Test.YtfbenelagdcdgaaDoorPlD
namespace Go.Pa
open Go.Lex (scan tkP nameB scan_tks)
/-- the parser's state at the beginning -/
@[reducible] def st0 : St := ⟨0, [], 0, false, 0⟩
def fuel (n : Nat) : Nat := n * 2000000000000 + 29
theorem fuel_var (n K : Nat) : n * K + 30 = n * K + 29 + 1 := rfl
theorem fuel_ge (n : Nat) : n * 2000000000000 + 30 ≤ fuel n + 1 := Nat.le_of_eq (fuel_var n 2000000000000)
/-- how the parser ended -/
def endP : Option (Rs Unit) → Except (Int × Nat) (List Nd)
  | some (.ok _ s') => .ok s'.out
  | some (.stop p l) => .error (p, if l then 2 else 1)
  | none => .error (0, 3)
/-- a text's nodes, or where it is wrong, and how: 0 the tokens, 1 the parser, 2 a bound -/
def parseP (s : List UInt8) : Except (Int × Nat) (List Nd) :=
  match scan s with
  | .error p => .error (p, 0)
  | .ok ts => endP (run (ts.map tkP) nameB (fuel ts.length + 1) .file st0)
theorem parse_bad {s : List UInt8} {p : Nat} (h : scan s = .error p) : parseP s = .error ((p : Int), 0) := by
  unfold parseP
  rw [h]
theorem parse_run {s : List UInt8} {ts : List Go.Lex.Tok} (h : scan s = .ok ts) : parseP s = endP (run (ts.map tkP) nameB (fuel ts.length + 1) .file st0) := by
  unfold parseP
  rw [h]
theorem end_of {x : M Unit} {s0 : St} {Q : St → Prop} (h : wp x s0 fun _ s' => Q s') : (∃ p l, x s0 = some (.stop p l) ∧ endP (x s0) = .error (p, if l then 2 else 1)) ∨ ∃ s', x s0 = some (.ok () s') ∧ endP (x s0) = .ok s'.out ∧ Q s' := by
  unfold wp at h
  generalize x s0 = o at h ⊢
  cases o with
  | none => exact h.elim
  | some r =>
    cases r with
    | stop p l => exact .inl ⟨p, l, rfl, rfl⟩
    | ok a s' => exact .inr ⟨s', rfl, rfl, h⟩
/-- a parsed text: its tokens, and how the parser came to its end -/
theorem parse_cases (s : List UInt8) (hl : s.length ≤ 100000) : (∃ p, scan s = .error p ∧ parseP s = .error ((p : Int), 0)) ∨ ∃ ts, scan s = .ok ts ∧ Tks (ts.map tkP) nameB (fun p => 0 ≤ p ∧ p ≤ (s.length : Int)) ∧
    ((∃ p l, run (ts.map tkP) nameB (fuel ts.length + 1) .file st0 = some (.stop p l) ∧ parseP s = .error (p, if l then 2 else 1)) ∨
     ∃ s', run (ts.map tkP) nameB (fuel ts.length + 1) .file st0 = some (.ok () s') ∧ parseP s = .ok s'.out ∧ Go.Tr.valid s'.out nameB = none ∧ s'.out.length ≤ 2 * ts.length ∧ ∀ x ∈ s'.out, (0 ≤ x.pos ∧ x.pos ≤ (s.length : Int)) ∧ x.s.length < 1000000 ∧ x.kids.length ≤ s'.out.length) := by
  cases hs : scan s with
  | error p => exact .inl ⟨p, rfl, parse_bad hs⟩
  | ok ts =>
    have hT := scan_tks hs hl
    refine .inr ⟨ts, rfl, hT, ?_⟩
    obtain ⟨N, hN⟩ : ∃ N, N = fuel ts.length + 1 := ⟨_, rfl⟩
    have h := file_ok hT N (by rw [hN, List.length_map]; exact fuel_ge _)
    rw [parse_run hs, ← hN]
    rw [List.length_map] at h
    exact end_of h
end Go.Pa
