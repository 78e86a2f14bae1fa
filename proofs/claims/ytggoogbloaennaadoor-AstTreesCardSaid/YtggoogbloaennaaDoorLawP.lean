/-
  Proved here: plain facts on tokens and lists of integers that the laws' walks read.
-/
import Derived.Test.YtggoogbloaennaaDoorLexC
import Derived.Test.YtggoogbloaennaaDoorBlkP
namespace Go.Lex
open Go.SX
def tok0 : Tok := ⟨0, [], 0⟩
theorem flat3 {α : Type} (f : α → List Value) (hf : ∀ a, (f a).length = 3) : ∀ (l : List α) (k j : Nat) (d : α), k < l.length → j < 3 → (l.flatMap f)[k * 3 + j]? = (f (l.getD k d))[j]?
  | [], k, j, d, h, _ => by cases h
  | a :: r, 0, j, d, _, hj => by
    rw [List.flatMap_cons, Nat.zero_mul, Nat.zero_add, List.getElem?_append_left (by rw [hf]; exact hj)]; rfl
  | a :: r, k + 1, j, d, h, hj => by
    rw [List.flatMap_cons, List.getElem?_append_right (by rw [hf]; omega), hf, show (k + 1) * 3 + j - 3 = k * 3 + j by omega]
    simpa using flat3 f hf r k j d (by simpa using h) hj
/-- the words' cells of a list of integers -/
theorem int_cell {f : Nat → Value} {l : List Nat} {k : Nat} (h : k < l.length) : (l.map f)[k * 1]? = some (f (l.getD k 0)) := by
  rw [Nat.mul_one, List.getElem?_map, List.getElem?_eq_getElem h]; simp [List.getD, h]
end Go.Lex
namespace Go.Proofs.YtggoogbloaennaaDoor
open Go.SX Go.RowKit Go.Lex
theorem tok_cell0 {ts : List Tok} {k : Nat} (h : k < ts.length) : (ts.flatMap tokC)[k * 3]? = some (.int .i64 ((ts.getD k tok0).kind : Int)) := by
  have := flat3 tokC (fun _ => rfl) ts k 0 tok0 h (by decide)
  simpa [tokC] using this
theorem tok_cell1 {ts : List Tok} {k : Nat} (h : k < ts.length) : (ts.flatMap tokC)[k * 3 + 1]? = some (str (ts.getD k tok0).text) := by
  have := flat3 tokC (fun _ => rfl) ts k 1 tok0 h (by decide)
  simpa [tokC] using this
theorem tok_cell2 {ts : List Tok} {k : Nat} (h : k < ts.length) : (ts.flatMap tokC)[k * 3 + 2]? = some (.int .i64 ((ts.getD k tok0).pos : Int)) := by
  have := flat3 tokC (fun _ => rfl) ts k 2 tok0 h (by decide)
  simpa [tokC] using this
theorem scan_ok_c {w0 : World} {base : Nat} {fr : List It} {eLex eLim : Value} (hE : EnvLex w0 base eLex) (hM : EnvLim w0 base eLim) {s : List UInt8} {ts : List Tok} (h : s.length ≤ 65536) (hs : scan s = .ok ts) :
    FnC Tryd.prog 20 #[str s] (WA w0 base fr) (fun t : Option Nat × Nat => .tuple #[rv t.1 ts.length t.2, .nilIface]) (fun t => WA w0 base (.row t.1 t.2 ts.length 46 3 (ts.flatMap tokC) :: fr)) := by
  intro w hw
  refine (scan_c hE hM s (by omega) w hw).mono fun e w' ⟨x, he, hx⟩ => ?_
  rcases x with ⟨g, n, c⟩ | (_ | b)
  · obtain ⟨ts', ⟨_, h2, h3⟩, h4⟩ := hx
    rw [hs] at h2
    cases h2
    simp only at h3 h4
    subst h3
    exact ⟨(g, c), he, h4⟩
  · exact absurd hx.1 (by omega)
  · obtain ⟨pos, ⟨_, h2⟩, _⟩ := hx
    rw [hs] at h2; cases h2
theorem scan_bad_c {w0 : World} {base : Nat} {fr : List It} {eLex eLim : Value} (hE : EnvLex w0 base eLex) (hM : EnvLim w0 base eLim) {s : List UInt8} {pos : Nat} (h : s.length ≤ 65536) (hs : scan s = .error pos) :
    FnC Tryd.prog 20 #[str s] (WA w0 base fr) (fun b : Nat => .tuple #[.slice none 0 0, atV b]) (fun b => WA w0 base (atI b pos eLex :: fr)) := by
  intro w hw
  refine (scan_c hE hM s (by omega) w hw).mono fun e w' ⟨x, he, hx⟩ => ?_
  rcases x with ⟨g, n, c⟩ | (_ | b)
  · obtain ⟨ts', ⟨_, h2, h3⟩, h4⟩ := hx
    rw [hs] at h2; cases h2
  · exact absurd hx.1 (by omega)
  · obtain ⟨p2, ⟨_, h2⟩, h4⟩ := hx
    rw [hs] at h2
    cases h2
    exact ⟨b, he, h4⟩
/-- a row of numbers -/
@[reducible] def nrow (g : Option Nat) (c : Nat) (ns : List Nat) : It := .row g c ns.length 3 1 (ns.map natV)
theorem nrow_cut {w0 w : World} {base : Nat} {g : Option Nat} {c m : Nat} {ns : List Nat} {its : List It} (h : WA w0 base (nrow g c ns :: its) w) (hm : m ≤ ns.length) : WA w0 base (nrow g c (ns.take m) :: its) w := by
  have h1 := h.cut (i := 0) rfl hm
  have e : (ns.take m).length = m := by rw [List.length_take]; omega
  simpa [nrow, List.map_take, e] using h1
/-- a token's kind -/
def kd (ts : List Tok) (k : Nat) : Nat := (ts.getD k tok0).kind
theorem kd_map (ts : List Tok) (k : Nat) : (ts.map (·.kind)).getD k 0 = kd ts k := by
  simp only [kd, List.getD, List.getElem?_map]
  cases ts[k]? <;> rfl
def firstText : List UInt8 := [105, 102, 32, 120, 58, 10, 32, 32, 121]
def firstToks : List Tok := [⟨4, [105, 102], 0⟩, ⟨1, [120], 3⟩, ⟨4, [58], 4⟩, ⟨5, [], 5⟩, ⟨6, [], 8⟩, ⟨1, [121], 8⟩, ⟨5, [], 9⟩, ⟨7, [], 9⟩, ⟨8, [], 9⟩]
def wantL : List Nat := [4, 1, 4, 5, 6, 1, 5, 7, 8]
theorem first_scan : scan firstText = .ok firstToks := by kernel_rfl
theorem want_eq : ∀ k, k < 9 → (firstToks.getD k tok0).kind = wantL.getD k 0 := by decide
theorem want_cell {k : Nat} (h : k < 9) : (wantL.map natV)[k * 1]? = some (natV (wantL.getD k 0)) := int_cell h
end Go.Proofs.YtggoogbloaennaaDoor
