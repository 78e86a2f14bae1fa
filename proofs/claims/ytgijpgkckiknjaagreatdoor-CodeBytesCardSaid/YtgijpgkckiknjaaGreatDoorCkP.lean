/-
  Proved here: which ways through code may be gone: two ways of looking at it come to the same. No program stands here.
-/
import Derived.Test.YtgijpgkckiknjaaGreatDoorAgg
import Derived.Test.YtgijpgkckiknjaaGreatDoorTrP
namespace Go.Ck
open Go.SX
structure Ins where
  op : Int
  a : Int
  b : Int
  pos : Int
structure Fc where
  name : List UInt8
  params : Int
  given : Int
  slots : Int
  names : List (List UInt8)
  code : List Ins
abbrev Nd := Go.Tr.Nd
structure Pg where
  funcs : List Fc
  consts : List Nd
  globals : List (List UInt8)
  names : List (List UInt8)
def mx (x : Int) : Int := if (0 : Int) > x then 0 else x
/-- bits 0 and 1 of a number that is 0 to 3 (for others: what the and of its last bits is) -/
def bit0 (x : Int) : Int := x % 2
def bit1 (x : Int) : Int := x / 2 % 2
/-- what an instruction takes -/
def tk (i : Ins) : Int :=
  if i.op = 1 ∨ i.op = 2 ∨ i.op = 4 ∨ i.op = 6 ∨ i.op = 28 ∨ i.op = 30 then 0
  else if i.op = 3 ∨ i.op = 5 ∨ i.op = 13 ∨ i.op = 14 ∨ i.op = 15 ∨ i.op = 24 ∨ i.op = 26 ∨ i.op = 27 ∨ i.op = 29 then 1
  else if i.op = 10 ∨ i.op = 17 ∨ i.op = 22 then 1
  else if i.op = 11 ∨ i.op = 18 ∨ i.op = 25 then 2
  else if i.op = 23 ∨ i.op = 32 then 1
  else if i.op = 7 ∨ i.op = 8 then mx i.a
  else if i.op = 9 then 2 * mx i.a
  else if i.op = 16 then 1 + mx i.a + 2 * mx i.b
  else if i.op = 19 then 1 + bit0 (mx i.a) + bit1 (mx i.a)
  else if i.op = 20 then 3
  else if i.op = 21 then 1
  else if i.op = 31 then 2 else 0
/-- what it puts -/
def pt (i : Ins) : Int :=
  if i.op = 1 ∨ i.op = 2 ∨ i.op = 4 ∨ i.op = 6 ∨ i.op = 28 ∨ i.op = 30 then 1
  else if i.op = 3 ∨ i.op = 5 ∨ i.op = 13 ∨ i.op = 14 ∨ i.op = 15 ∨ i.op = 24 ∨ i.op = 26 ∨ i.op = 27 ∨ i.op = 29 then 0
  else if i.op = 10 ∨ i.op = 17 ∨ i.op = 22 then 1
  else if i.op = 11 ∨ i.op = 18 ∨ i.op = 25 then 1
  else if i.op = 23 ∨ i.op = 32 then 2
  else if i.op = 7 ∨ i.op = 8 then 1
  else if i.op = 9 then 1
  else if i.op = 16 then 1
  else if i.op = 19 then 1
  else if i.op = 20 then 0
  else if i.op = 21 then mx i.a
  else if i.op = 31 then 4 else 0
/-- a constant's op -/
def cop (p : Pg) (a : Int) : Int := (p.consts[a.toNat]?.map (·.op)).getD 0
/-- may an instruction's numbers be? -/
def fits (p : Pg) (f : Fc) (i : Ins) : Prop :=
  if i.op = 16 then 0 ≤ i.a ∧ i.a ≤ 1048576 ∧ 0 ≤ i.b ∧ i.b ≤ 1048576
  else if i.op = 26 then i.a = 0 ∧ 1 ≤ i.b ∧ i.b ≤ 1048576
  else i.b = 0 ∧
    if i.op = 1 then 0 ≤ i.a ∧ i.a < p.consts.length
    else if i.op = 30 then 0 ≤ i.a ∧ i.a < p.consts.length ∧ cop p i.a = 5
    else if i.op = 2 ∨ i.op = 3 ∨ i.op = 33 then 0 ≤ i.a ∧ i.a < f.slots
    else if i.op = 4 ∨ i.op = 5 then 0 ≤ i.a ∧ i.a < p.globals.length
    else if i.op = 17 ∨ i.op = 32 then 0 ≤ i.a ∧ i.a < p.names.length
    else if i.op = 28 then 1 ≤ i.a ∧ i.a < p.funcs.length
    else if i.op = 12 ∨ i.op = 13 ∨ i.op = 14 ∨ i.op = 15 ∨ i.op = 23 then 0 ≤ i.a ∧ i.a < f.code.length
    else if i.op = 6 ∨ i.op = 7 ∨ i.op = 8 ∨ i.op = 9 ∨ i.op = 21 then 0 ≤ i.a ∧ i.a ≤ 1048576
    else if i.op = 10 then i.a = 16 ∨ i.a = 17
    else if i.op = 11 then 21 ≤ i.a ∧ i.a ≤ 33
    else if i.op = 19 then 0 ≤ i.a ∧ i.a < 4
    else if i.op = 18 ∨ i.op = 20 ∨ i.op = 22 ∨ i.op = 24 ∨ i.op = 25 ∨ i.op = 27 ∨ i.op = 29 ∨ i.op = 31 then i.a = 0 else False
noncomputable instance (p : Pg) (f : Fc) (i : Ins) : Decidable (fits p f i) := Classical.propDecidable _
theorem ite_imp {c : Prop} [Decidable c] {A B R : Prop} (h1 : c → A → R) (h2 : ¬c → B → R) (h : if c then A else B) : R := by
  split at h
  · exact h1 ‹_› h
  · exact h2 ‹_› h
theorem fits_b {p : Pg} {f : Fc} {i : Ins} (h : fits p f i) : 1 ≤ i.op ∧ i.op ≤ 33 ∧ (i.op = 16 ∨ i.op = 26 ∨ i.b = 0) ∧ 0 ≤ i.b ∧ i.b ≤ 1048576 := by
  unfold fits at h
  refine ite_imp (fun _ h => by omega) (fun _ h => ite_imp (fun _ h => by omega) (fun _ h => ?_) h) h
  have hb := h.1
  have key : 1 ≤ i.op ∧ i.op ≤ 33 := by
    have h := h.2
    refine ite_imp (fun _ _ => by omega) (fun _ h => ?_) h
    refine ite_imp (fun _ _ => by omega) (fun _ h => ?_) h
    refine ite_imp (fun _ _ => by omega) (fun _ h => ?_) h
    refine ite_imp (fun _ _ => by omega) (fun _ h => ?_) h
    refine ite_imp (fun _ _ => by omega) (fun _ h => ?_) h
    refine ite_imp (fun _ _ => by omega) (fun _ h => ?_) h
    refine ite_imp (fun _ _ => by omega) (fun _ h => ?_) h
    refine ite_imp (fun _ _ => by omega) (fun _ h => ?_) h
    refine ite_imp (fun _ _ => by omega) (fun _ h => ?_) h
    refine ite_imp (fun _ _ => by omega) (fun _ h => ?_) h
    refine ite_imp (fun _ _ => by omega) (fun _ h => ?_) h
    exact ite_imp (fun _ _ => by omega) (fun _ h => h.elim) h
  omega
theorem fits_a {p : Pg} {f : Fc} {i : Ins} (h : fits p f i) (hl : p.consts.length ≤ 1048576 ∧ p.globals.length ≤ 1048576 ∧ p.names.length ≤ 1048576 ∧ p.funcs.length ≤ 1048576 ∧ f.code.length ≤ 1048576 ∧ f.slots ≤ 1048576) : 0 ≤ i.a ∧ i.a ≤ 1048576 := by
  unfold fits at h
  refine ite_imp (fun _ h => by omega) (fun _ h => ite_imp (fun _ h => by omega) (fun _ h => ?_) h) h
  have h := h.2
  refine ite_imp (fun _ h => by omega) (fun _ h => ?_) h
  refine ite_imp (fun _ h => by omega) (fun _ h => ?_) h
  refine ite_imp (fun _ h => by omega) (fun _ h => ?_) h
  refine ite_imp (fun _ h => by omega) (fun _ h => ?_) h
  refine ite_imp (fun _ h => by omega) (fun _ h => ?_) h
  refine ite_imp (fun _ h => by omega) (fun _ h => ?_) h
  refine ite_imp (fun _ h => by omega) (fun _ h => ?_) h
  refine ite_imp (fun _ h => by omega) (fun _ h => ?_) h
  refine ite_imp (fun _ h => by omega) (fun _ h => ?_) h
  refine ite_imp (fun _ h => by omega) (fun _ h => ?_) h
  refine ite_imp (fun _ h => by omega) (fun _ h => ?_) h
  exact ite_imp (fun _ h => by omega) (fun _ h => h.elim) h
theorem fits_28 {p : Pg} {f : Fc} {i : Ins} (h : fits p f i) (e : i.op = 28) : 1 ≤ i.a ∧ i.a < p.funcs.length := by
  unfold fits at h
  iterate 2 rw [if_neg (by omega)] at h
  have h := h.2
  iterate 5 rw [if_neg (by omega)] at h
  rwa [if_pos (by omega)] at h
theorem fits_jump {p : Pg} {f : Fc} {i : Ins} (h : fits p f i) (e : i.op = 12 ∨ i.op = 13 ∨ i.op = 14 ∨ i.op = 15 ∨ i.op = 23) : 0 ≤ i.a ∧ i.a < f.code.length := by
  unfold fits at h
  iterate 2 rw [if_neg (by omega)] at h
  have h := h.2
  iterate 6 rw [if_neg (by omega)] at h
  rwa [if_pos (by omega)] at h
theorem fits_21 {p : Pg} {f : Fc} {i : Ins} (h : fits p f i) (e : i.op = 21) : 0 ≤ i.a ∧ i.a ≤ 1048576 := by
  unfold fits at h
  iterate 2 rw [if_neg (by omega)] at h
  have h := h.2
  iterate 7 rw [if_neg (by omega)] at h
  rwa [if_pos (by omega)] at h
def takes (p : Pg) (i : Ins) : Int := if i.op = 28 then (p.funcs[i.a.toNat]?.map (·.given)).getD 0 else tk i
/-- the ways on from an instruction; none: there is too little -/
def steps (p : Pg) (i : Ins) (k : Nat) (h : Int) : Option (List (Nat × Int)) :=
  if h < takes p i ∨ (i.op = 26 ∧ h < i.b + 1) then none
  else
    let q := h - takes p i + pt i
    some (if i.op = 29 then [] else if i.op = 12 then [(i.a.toNat, q)] else if i.op = 13 then [(k + 1, q), (i.a.toNat, q)]
      else if i.op = 14 ∨ i.op = 15 then [(k + 1, q), (i.a.toNat, q + 1)] else if i.op = 23 then [(k + 1, q), (i.a.toNat, q - 2)] else [(k + 1, q)])
inductive Reach (p : Pg) (f : Fc) : Nat → Int → Prop
  | zero : Reach p f 0 0
  | step {k : Nat} {h : Int} {i : Ins} {l : List (Nat × Int)} {k' : Nat} {h' : Int} : Reach p f k h → f.code[k]? = some i → steps p i k h = some l → (k', h') ∈ l → Reach p f k' h'
/-- all ways through it may be gone -/
structure Good (p : Pg) (f : Fc) : Prop where
  goes : ∀ k h, Reach p f k h → ∃ i l, f.code[k]? = some i ∧ steps p i k h = some l
  one : ∀ k h h', Reach p f k h → Reach p f k h' → h = h'
/-- how many places were come to -/
def vis : List Int → Nat
  | [] => 0
  | h :: r => (if 0 ≤ h then 1 else 0) + vis r
theorem vis_le : ∀ H : List Int, vis H ≤ H.length
  | [] => Nat.le_refl _
  | h :: r => by
    have := vis_le r
    unfold vis
    rw [List.length_cons]
    split <;> omega
theorem vis_set : ∀ {H : List Int} {k : Nat} {x h : Int}, H[k]? = some x → x < 0 → 0 ≤ h → vis (H.set k h) = vis H + 1
  | [], k, x, h, hx, _, _ => by cases hx
  | y :: r, 0, x, h, hx, h1, h2 => by
    cases hx
    simp only [List.set_cons_zero, vis]
    rw [if_pos h2, if_neg (by omega)]
    omega
  | y :: r, k + 1, x, h, hx, h1, h2 => by
    have := vis_set (H := r) (k := k) (by simpa using hx) h1 h2
    rw [List.set_cons_succ, vis, vis, this]
    omega
theorem vis_lt {H : List Int} {k : Nat} {x : Int} (hx : H[k]? = some x) (h : x < 0) : vis H < H.length := by
  have h1 := vis_set hx h (Int.le_refl 0)
  have h2 := vis_le (H.set k 0)
  rw [List.length_set] at h2
  omega
theorem ite_nn {c : Prop} [Decidable c] {a b : Int} (ha : 0 ≤ a) (hb : 0 ≤ b) : 0 ≤ (if c then a else b) := by split <;> assumption
theorem ite_le {c : Prop} [Decidable c] {a b m : Int} (ha : c → a ≤ m) (hb : b ≤ m) : (if c then a else b) ≤ m := by
  split
  · exact ha ‹_›
  · exact hb
theorem eff_nn (i : Ins) : 0 ≤ tk i ∧ 0 ≤ pt i := by
  have h1 : 0 ≤ mx i.a := by unfold mx; split <;> omega
  have h2 : 0 ≤ mx i.b := by unfold mx; split <;> omega
  have h3 : 0 ≤ bit0 (mx i.a) := by unfold bit0; omega
  have h4 : 0 ≤ bit1 (mx i.a) := by unfold bit1; omega
  constructor
  · show 0 ≤ tk i
    unfold tk
    generalize bit0 (mx i.a) = b0 at *
    generalize bit1 (mx i.a) = b1 at *
    generalize mx i.a = ma at *
    generalize mx i.b = mb at *
    repeat' apply ite_nn
    all_goals omega
  · show 0 ≤ pt i
    unfold pt
    clear h3 h4
    generalize mx i.a = ma at *
    repeat' apply ite_nn
    all_goals omega
theorem eff_le {p : Pg} {f : Fc} {i : Ins} (h : fits p f i) : pt i ≤ 1048576 := by
  have h1 : mx i.a ≤ 1048576 ∨ ¬(i.op = 21) := by
    by_cases e : i.op = 21
    · left
      have := fits_21 h e
      unfold mx
      split <;> omega
    · exact .inr e
  show pt i ≤ _
  unfold pt
  repeat' apply ite_le
  all_goals (intros; omega)
theorem takes_nn {p : Pg} (hg : ∀ g ∈ p.funcs, 0 ≤ g.given) (i : Ins) : 0 ≤ takes p i := by
  unfold takes
  split
  · cases h : p.funcs[i.a.toNat]? with
    | none => exact Int.le_refl _
    | some g => exact hg g (List.mem_of_getElem? h)
  · exact (eff_nn i).1
theorem steps_in {p : Pg} {f : Fc} (hg : ∀ g ∈ p.funcs, 0 ≤ g.given) {i : Ins} (hf : fits p f i) {k : Nat} {h : Int} {l : List (Nat × Int)} (hs : steps p i k h = some l) (hh : 0 ≤ h) : ∀ x ∈ l, 0 ≤ x.2 ∧ x.2 ≤ h + 2097152 := by
  have h1 := takes_nn hg i
  have h2 := (eff_nn i).2
  have h3 := eff_le hf
  have h4 : i.op = 23 → takes p i = 1 ∧ pt i = 2 := by
    intro e
    have e1 : takes p i = tk i := by unfold takes; rw [if_neg (by omega)]
    rw [e1]
    refine ⟨?_, ?_⟩
    · unfold tk; iterate 4 rw [if_neg (by omega)]
      rw [if_pos (by omega)]
    · show pt i = 2
      unfold pt; iterate 4 rw [if_neg (by omega)]
      rw [if_pos (by omega)]
  unfold steps at hs
  split at hs
  · cases hs
  · rename_i hn
    simp only [Option.some.injEq] at hs
    subst hs
    intro x hx
    split at hx
    · cases hx
    split at hx
    · simp only [List.mem_singleton] at hx; subst hx; exact ⟨by dsimp only; omega, by dsimp only; omega⟩
    split at hx
    · simp only [List.mem_cons, List.not_mem_nil, or_false] at hx; rcases hx with rfl | rfl <;> exact ⟨by dsimp only; omega, by dsimp only; omega⟩
    split at hx
    · simp only [List.mem_cons, List.not_mem_nil, or_false] at hx; rcases hx with rfl | rfl <;> exact ⟨by dsimp only; omega, by dsimp only; omega⟩
    split at hx
    · rename_i e
      have h5 := h4 e
      simp only [List.mem_cons, List.not_mem_nil, or_false] at hx; rcases hx with rfl | rfl <;> exact ⟨by dsimp only; omega, by dsimp only; omega⟩
    · simp only [List.mem_singleton] at hx; subst hx; exact ⟨by dsimp only; omega, by dsimp only; omega⟩
section
variable {p : Pg} {f : Fc} (hg : ∀ g ∈ p.funcs, 0 ≤ g.given) (hfit : ∀ i ∈ f.code, fits p f i)
/-- when all that was come to goes on -/
theorem good_of {H : List Int} (c0 : H[0]? = some 0) (c1 : ∀ (k : Nat) (h : Int), H[k]? = some h → 0 ≤ h → ∃ i l, f.code[k]? = some i ∧ steps p i k h = some l ∧ ∀ x ∈ l, H[x.1]? = some x.2)
    (hg : ∀ g ∈ p.funcs, 0 ≤ g.given) (hfit : ∀ i ∈ f.code, fits p f i) : Good p f := by
  have key : ∀ k q, Reach p f k q → H[k]? = some q ∧ 0 ≤ q := by
    intro k q hr
    induction hr with
    | zero => exact ⟨c0, Int.le_refl _⟩
    | step hr hi hs hm ih =>
      obtain ⟨i', l', e1, e2, e3⟩ := c1 _ _ ih.1 ih.2
      rw [hi] at e1
      cases e1
      rw [hs] at e2
      cases e2
      exact ⟨e3 _ hm, (steps_in hg (hfit _ (List.mem_of_getElem? hi)) hs ih.2 _ hm).1⟩
  refine ⟨fun k q hr => ?_, fun k q q' h1 h2 => ?_⟩
  · obtain ⟨h1, h2⟩ := key k q hr
    obtain ⟨i, l, e1, e2, _⟩ := c1 _ _ h1 h2
    exact ⟨i, l, e1, e2⟩
  · have e1 := (key k q h1).1
    have e2 := (key k q' h2).1
    rw [e1] at e2
    exact Option.some.inj e2
theorem Good.not_far (h : Good p f) {k : Nat} {q : Int} (hr : Reach p f k q) (hk : f.code.length ≤ k) : False := by
  obtain ⟨i, l, e, _⟩ := h.goes k q hr
  rw [List.getElem?_eq_none hk] at e
  cases e
theorem Good.not_stuck (h : Good p f) {k : Nat} {q : Int} {i : Ins} (hr : Reach p f k q) (hi : f.code[k]? = some i) (hs : steps p i k q = none) : False := by
  obtain ⟨i', l, e1, e2⟩ := h.goes k q hr
  rw [hi] at e1
  cases e1
  rw [hs] at e2
  cases e2
/-- what the first one that looks knows: heights that were come to, and ways that are still to be gone -/
structure InvP (p : Pg) (f : Fc) (H : List Int) (Wk : List (Nat × Int)) : Prop where
  len : H.length = f.code.length
  neg : ∀ (j : Nat) (h : Int), H[j]? = some h → h = -1 ∨ 0 ≤ h
  r1 : ∀ (k : Nat) (h : Int), H[k]? = some h → 0 ≤ h → Reach p f k h
  r2 : ∀ x ∈ Wk, Reach p f x.1 x.2
  c0 : (0, (0 : Int)) ∈ Wk ∨ H[0]? = some 0
  c1 : ∀ (k : Nat) (h : Int), H[k]? = some h → 0 ≤ h → ∃ i l, f.code[k]? = some i ∧ steps p i k h = some l ∧ ∀ x ∈ l, x ∈ Wk ∨ H[x.1]? = some x.2
  bW : ∀ x ∈ Wk, 0 ≤ x.2 ∧ x.2 ≤ 2097152 * (vis H : Int)
theorem InvP.init : InvP p f (List.replicate f.code.length (-1)) [(0, 0)] := by
  have key : ∀ (k : Nat) (h : Int), (List.replicate f.code.length (-1 : Int))[k]? = some h → h = -1 := fun k h hk => by
    rw [List.getElem?_replicate] at hk
    split at hk
    · cases hk; rfl
    · cases hk
  refine ⟨List.length_replicate .., fun j h hj => .inl (key j h hj), fun k h hk h0 => ?_, fun x hx => ?_, .inl (List.mem_singleton.2 rfl), fun k h hk h0 => ?_, fun x hx => ?_⟩
  · have := key k h hk; omega
  · rw [List.mem_singleton] at hx; subst hx; exact .zero
  · have := key k h hk; omega
  · rw [List.mem_singleton] at hx; subst hx; exact ⟨Int.le_refl _, by dsimp only; omega⟩
theorem InvP.done {H : List Int} (h : InvP p f H []) (hg : ∀ g ∈ p.funcs, 0 ≤ g.given) (hfit : ∀ i ∈ f.code, fits p f i) : Good p f := by
  refine good_of (H := H) ?_ (fun k q hk h0 => ?_) hg hfit
  · rcases h.c0 with h0 | h0
    · cases h0
    · exact h0
  · obtain ⟨i, l, e1, e2, e3⟩ := h.c1 k q hk h0
    refine ⟨i, l, e1, e2, fun x hx => ?_⟩
    rcases e3 x hx with e | e
    · cases e
    · exact e
theorem InvP.skip {H : List Int} {Wk : List (Nat × Int)} {x : Nat × Int} (h : InvP p f H (Wk ++ [x])) (hx : H[x.1]? = some x.2) : InvP p f H Wk := by
  refine ⟨h.len, h.neg, h.r1, fun y hy => h.r2 y (List.mem_append_left _ hy), ?_, fun k q hk h0 => ?_, fun y hy => h.bW y (List.mem_append_left _ hy)⟩
  · rcases h.c0 with e | e
    · rcases List.mem_append.1 e with e | e
      · exact .inl e
      · rw [List.mem_singleton] at e; subst e; exact .inr hx
    · exact .inr e
  · obtain ⟨i, l, e1, e2, e3⟩ := h.c1 k q hk h0
    refine ⟨i, l, e1, e2, fun y hy => ?_⟩
    rcases e3 y hy with e | e
    · rcases List.mem_append.1 e with e | e
      · exact .inl e
      · rw [List.mem_singleton] at e; subst e; exact .inr hx
    · exact .inr e
theorem set_get {H : List Int} {k j : Nat} {q v : Int} (h : (H.set k v)[j]? = some q) : (j = k ∧ q = v) ∨ (j ≠ k ∧ H[j]? = some q) := by
  by_cases e : j = k
  · subst e
    left
    rw [List.getElem?_set_self'] at h
    cases hj : H[j]? with
    | none => rw [hj] at h; cases h
    | some z => rw [hj] at h; cases h; exact ⟨rfl, rfl⟩
  · right
    rw [List.getElem?_set_ne (fun q => e q.symm)] at h
    exact ⟨e, h⟩
theorem InvP.new {H : List Int} {Wk : List (Nat × Int)} {x : Nat × Int} {q : Int} {i : Ins} {l : List (Nat × Int)} (h : InvP p f H (Wk ++ [x])) (hx : H[x.1]? = some q) (hq : q < 0) (hi : f.code[x.1]? = some i) (hs : steps p i x.1 x.2 = some l)
    (hg : ∀ g ∈ p.funcs, 0 ≤ g.given) (hfit : ∀ i ∈ f.code, fits p f i) : InvP p f (H.set x.1 x.2) (Wk ++ l) := by
  have hm : x ∈ Wk ++ [x] := List.mem_append_right _ (List.mem_singleton.2 rfl)
  have hb := h.bW x hm
  have hlt : x.1 < H.length := (List.getElem?_eq_some_iff.1 hx).1
  have hself : (H.set x.1 x.2)[x.1]? = some x.2 := List.getElem?_set_self hlt
  have hv := vis_set hx hq hb.1
  have hkeep : ∀ (j : Nat) (z : Int), H[j]? = some z → 0 ≤ z → (H.set x.1 x.2)[j]? = some z := fun j z hj h0 => by
    have : j ≠ x.1 := fun e => by subst e; rw [hx] at hj; cases hj; omega
    rw [List.getElem?_set_ne (fun q => this q.symm)]; exact hj
  have hr := h.r2 x hm
  refine ⟨by rw [List.length_set]; exact h.len, fun j z hj => ?_, fun j z hj h0 => ?_, fun y hy => ?_, ?_, fun j z hj h0 => ?_, fun y hy => ?_⟩
  · rcases set_get hj with ⟨_, rfl⟩ | ⟨_, e⟩
    · exact .inr hb.1
    · exact h.neg j z e
  · rcases set_get hj with ⟨rfl, rfl⟩ | ⟨_, e⟩
    · exact hr
    · exact h.r1 j z e h0
  · rcases List.mem_append.1 hy with e | e
    · exact h.r2 y (List.mem_append_left _ e)
    · exact .step hr hi hs e
  · rcases h.c0 with e | e
    · rcases List.mem_append.1 e with e | e
      · exact .inl (List.mem_append_left _ e)
      · rw [List.mem_singleton] at e
        right
        subst e
        exact hself
    · exact .inr (hkeep _ _ e (Int.le_refl _))
  · rcases set_get hj with ⟨rfl, rfl⟩ | ⟨hne, e⟩
    · exact ⟨i, l, hi, hs, fun y hy => .inl (List.mem_append_right _ hy)⟩
    · obtain ⟨i', l', e1, e2, e3⟩ := h.c1 j z e h0
      refine ⟨i', l', e1, e2, fun y hy => ?_⟩
      rcases e3 y hy with e | e
      · rcases List.mem_append.1 e with e | e
        · exact .inl (List.mem_append_left _ e)
        · rw [List.mem_singleton] at e; subst e; exact .inr hself
      · have hnn := (steps_in hg (hfit _ (List.mem_of_getElem? e1)) e2 h0 y hy).1
        exact .inr (hkeep _ _ e hnn)
  · rw [hv]
    rcases List.mem_append.1 hy with e | e
    · have := h.bW y (List.mem_append_left _ e)
      exact ⟨this.1, by omega⟩
    · have := steps_in hg (hfit _ (List.mem_of_getElem? hi)) hs hb.1 y e
      exact ⟨this.1, by omega⟩
/-- what the second one knows: heights, places still to be gone on from, and ways that are being looked at -/
structure InvR (p : Pg) (f : Fc) (H : List Int) (Wk : List Nat) (Pd : List (Nat × Int)) : Prop where
  len : H.length = f.code.length
  neg : ∀ (j : Nat) (h : Int), H[j]? = some h → h = -1 ∨ 0 ≤ h
  r1 : ∀ (k : Nat) (h : Int), H[k]? = some h → 0 ≤ h → Reach p f k h
  r2 : ∀ x ∈ Pd, Reach p f x.1 x.2
  w : ∀ k ∈ Wk, ∃ h, H[k]? = some h ∧ 0 ≤ h
  c0 : (0, (0 : Int)) ∈ Pd ∨ H[0]? = some 0
  c1 : ∀ (k : Nat) (h : Int), H[k]? = some h → 0 ≤ h → k ∈ Wk ∨ ∃ i l, f.code[k]? = some i ∧ steps p i k h = some l ∧ ∀ x ∈ l, x ∈ Pd ∨ H[x.1]? = some x.2
  bH : ∀ (k : Nat) (h : Int), H[k]? = some h → h + 2097152 ≤ 2097152 * (vis H : Int) ∨ h < 0
  bP : ∀ x ∈ Pd, 0 ≤ x.2 ∧ x.2 ≤ 2097152 * (vis H : Int)
theorem InvR.init : InvR p f (List.replicate f.code.length (-1)) [] [(0, 0)] := by
  have key : ∀ (k : Nat) (h : Int), (List.replicate f.code.length (-1 : Int))[k]? = some h → h = -1 := fun k h hk => by
    rw [List.getElem?_replicate] at hk
    split at hk
    · cases hk; rfl
    · cases hk
  refine ⟨List.length_replicate .., fun j h hj => .inl (key j h hj), fun k h hk h0 => ?_, fun x hx => ?_, (fun k hk => by cases hk), .inl (List.mem_singleton.2 rfl), fun k h hk h0 => ?_, fun k h hk => ?_, fun x hx => ?_⟩
  · have := key k h hk; omega
  · rw [List.mem_singleton] at hx; subst hx; exact .zero
  · have := key k h hk; omega
  · have := key k h hk; omega
  · rw [List.mem_singleton] at hx; subst hx; exact ⟨Int.le_refl _, by dsimp only; omega⟩
theorem InvR.done {H : List Int} (h : InvR p f H [] []) (hg : ∀ g ∈ p.funcs, 0 ≤ g.given) (hfit : ∀ i ∈ f.code, fits p f i) : Good p f := by
  refine good_of (H := H) ?_ (fun k q hk h0 => ?_) hg hfit
  · rcases h.c0 with h0 | h0
    · cases h0
    · exact h0
  · rcases h.c1 k q hk h0 with e | ⟨i, l, e1, e2, e3⟩
    · cases e
    · refine ⟨i, l, e1, e2, fun x hx => ?_⟩
      rcases e3 x hx with e | e
      · cases e
      · exact e
theorem InvR.same {H : List Int} {Wk : List Nat} {Pd : List (Nat × Int)} {x : Nat × Int} (h : InvR p f H Wk (x :: Pd)) (hx : H[x.1]? = some x.2) : InvR p f H Wk Pd := by
  refine ⟨h.len, h.neg, h.r1, fun y hy => h.r2 y (List.mem_cons_of_mem _ hy), h.w, ?_, fun k q hk h0 => ?_, h.bH, fun y hy => h.bP y (List.mem_cons_of_mem _ hy)⟩
  · rcases h.c0 with e | e
    · rcases List.mem_cons.1 e with e | e
      · subst e; exact .inr hx
      · exact .inl e
    · exact .inr e
  · rcases h.c1 k q hk h0 with e | ⟨i, l, e1, e2, e3⟩
    · exact .inl e
    · refine .inr ⟨i, l, e1, e2, fun y hy => ?_⟩
      rcases e3 y hy with e | e
      · rcases List.mem_cons.1 e with e | e
        · subst e; exact .inr hx
        · exact .inl e
      · exact .inr e
theorem InvR.new {H : List Int} {Wk : List Nat} {Pd : List (Nat × Int)} {x : Nat × Int} {q : Int} (h : InvR p f H Wk (x :: Pd)) (hx : H[x.1]? = some q) (hq : q < 0)
    (hg : ∀ g ∈ p.funcs, 0 ≤ g.given) (hfit : ∀ i ∈ f.code, fits p f i) : InvR p f (H.set x.1 x.2) (Wk ++ [x.1]) Pd := by
  have hm : x ∈ x :: Pd := List.mem_cons_self ..
  have hb := h.bP x hm
  have hlt : x.1 < H.length := (List.getElem?_eq_some_iff.1 hx).1
  have hself : (H.set x.1 x.2)[x.1]? = some x.2 := List.getElem?_set_self hlt
  have hv := vis_set hx hq hb.1
  have hkeep : ∀ (j : Nat) (z : Int), H[j]? = some z → 0 ≤ z → (H.set x.1 x.2)[j]? = some z := fun j z hj h0 => by
    have : j ≠ x.1 := fun e => by subst e; rw [hx] at hj; cases hj; omega
    rw [List.getElem?_set_ne (fun q => this q.symm)]; exact hj
  have hr := h.r2 x hm
  refine ⟨by rw [List.length_set]; exact h.len, fun j z hj => ?_, fun j z hj h0 => ?_, fun y hy => h.r2 y (List.mem_cons_of_mem _ hy), fun k hk => ?_, ?_, fun j z hj h0 => ?_, fun j z hj => ?_, fun y hy => ?_⟩
  · rcases set_get hj with ⟨_, rfl⟩ | ⟨_, e⟩
    · exact .inr hb.1
    · exact h.neg j z e
  · rcases set_get hj with ⟨rfl, rfl⟩ | ⟨_, e⟩
    · exact hr
    · exact h.r1 j z e h0
  · rcases List.mem_append.1 hk with e | e
    · obtain ⟨z, e1, e2⟩ := h.w k e
      exact ⟨z, hkeep _ _ e1 e2, e2⟩
    · rw [List.mem_singleton] at e; subst e; exact ⟨_, hself, hb.1⟩
  · rcases h.c0 with e | e
    · rcases List.mem_cons.1 e with e | e
      · right; subst e; exact hself
      · exact .inl e
    · exact .inr (hkeep _ _ e (Int.le_refl _))
  · rcases set_get hj with ⟨rfl, rfl⟩ | ⟨hne, e⟩
    · exact .inl (List.mem_append_right _ (List.mem_singleton.2 rfl))
    · rcases h.c1 j z e h0 with e0 | ⟨i', l', e1, e2, e3⟩
      · exact .inl (List.mem_append_left _ e0)
      · refine .inr ⟨i', l', e1, e2, fun y hy => ?_⟩
        rcases e3 y hy with e | e
        · rcases List.mem_cons.1 e with e | e
          · subst e; exact .inr hself
          · exact .inl e
        · exact .inr (hkeep _ _ e (steps_in hg (hfit _ (List.mem_of_getElem? e1)) e2 h0 y hy).1)
  · rw [hv]
    rcases set_get hj with ⟨rfl, rfl⟩ | ⟨hne, e⟩
    · left; omega
    · rcases h.bH j z e with e | e
      · left; omega
      · exact .inr e
  · rw [hv]
    have := h.bP y (List.mem_cons_of_mem _ hy)
    exact ⟨this.1, by omega⟩
theorem InvR.pop {H : List Int} {Wk : List Nat} {k : Nat} {q : Int} {i : Ins} {l : List (Nat × Int)} (h : InvR p f H (Wk ++ [k]) []) (hk : H[k]? = some q) (hi : f.code[k]? = some i) (hs : steps p i k q = some l) (Pd : List (Nat × Int)) (hP : ∀ x, x ∈ Pd ↔ x ∈ l)
    (hg : ∀ g ∈ p.funcs, 0 ≤ g.given) (hfit : ∀ i ∈ f.code, fits p f i) : InvR p f H Wk Pd := by
  obtain ⟨q', hq', h0⟩ := h.w k (List.mem_append_right _ (List.mem_singleton.2 rfl))
  rw [hk] at hq'
  cases hq'
  have hr := h.r1 k q hk h0
  refine ⟨h.len, h.neg, h.r1, fun y hy => .step hr hi hs ((hP y).1 hy), fun j hj => h.w j (List.mem_append_left _ hj), ?_, fun j z hj hz => ?_, h.bH, fun y hy => ?_⟩
  · rcases h.c0 with e | e
    · cases e
    · exact .inr e
  · rcases h.c1 j z hj hz with e | ⟨i', l', e1, e2, e3⟩
    · rcases List.mem_append.1 e with e | e
      · exact .inl e
      · rw [List.mem_singleton] at e
        subst e
        rw [hk] at hj
        cases hj
        exact .inr ⟨i, l, hi, hs, fun x hx => .inl ((hP x).2 hx)⟩
    · refine .inr ⟨i', l', e1, e2, fun x hx => ?_⟩
      rcases e3 x hx with e | e
      · cases e
      · exact .inr e
  · have := steps_in hg (hfit _ (List.mem_of_getElem? hi)) hs h0 y ((hP y).1 hy)
    rcases h.bH k q hk with e | e
    · exact ⟨this.1, by omega⟩
    · omega
end
/-! the whole -/
open Go.Tr (digitsOk isDigit)
/-- a constant -/
def leafOk (x : Nd) : Prop := x.n = 0 ∧ x.kids = [] ∧ (((x.op = 1 ∨ x.op = 2 ∨ x.op = 3) ∧ x.s = []) ∨ (x.op = 4 ∧ digitsOk x.s) ∨ x.op = 5)
noncomputable instance (x : Nd) : Decidable (leafOk x) := Classical.propDecidable _
def funcOk (f : Fc) : Prop := f.code ≠ [] ∧ 0 ≤ f.params ∧ 0 ≤ f.given ∧ f.given ≤ f.params ∧ f.params ≤ f.slots ∧ f.slots ≤ 1048576 ∧ (f.names.length : Int) = f.params
noncomputable instance (f : Fc) : Decidable (funcOk f) := Classical.propDecidable _
def wholeOk (p : Pg) : Prop := p.funcs ≠ [] ∧ (∀ f ∈ p.funcs, funcOk f) ∧ ∀ x ∈ p.consts, leafOk x
noncomputable instance (p : Pg) : Decidable (wholeOk p) := Classical.propDecidable _
/-- how many instructions there are -/
def total : List Fc → Nat
  | [] => 0
  | f :: r => f.code.length + total r
theorem total_snoc (l : List Fc) (f : Fc) : total (l ++ [f]) = total l + f.code.length := by
  induction l with
  | nil => simp [total]
  | cons g r ih => simp [total, ih]; omega
/-- the first instruction that may not be -/
noncomputable def firstBad (p : Pg) (f : Fc) : Option Nat := f.code.findIdx? fun i => !decide (fits p f i)
open Classical in
noncomputable def scan (p : Pg) : List Fc → Nat → Option Nat
  | [], _ => none
  | f :: r, n => match firstBad p f with
    | some k => some (n + k)
    | none => if Good p f then scan p r (n + f.code.length) else some n
/-- around which number a program is amiss, if it is -/
noncomputable def chk (p : Pg) : Option Nat := if wholeOk p then scan p p.funcs 0 else some (total p.funcs)
theorem firstBad_none {p : Pg} {f : Fc} (h : firstBad p f = none) : ∀ i ∈ f.code, fits p f i := fun i hi => by
  unfold firstBad at h
  have := List.findIdx?_eq_none_iff.1 h i hi
  simpa using this
theorem given_nn {p : Pg} (h : wholeOk p) : ∀ g ∈ p.funcs, 0 ≤ g.given := fun g hg => (h.2.1 g hg).2.2.1
/-- the pairs of a row -/
def wy (x : Nat × Int) : List Value := [.int .i64 (x.1 : Int), .int .i64 x.2]
theorem wy_len (l : List (Nat × Int)) : (l.flatMap wy).length = l.length * 2 := by
  induction l with
  | nil => rfl
  | cons x r ih => rw [List.flatMap_cons, List.length_append, ih, List.length_cons]; show 2 + _ = _; omega
theorem wy_snoc (l : List (Nat × Int)) (x : Nat × Int) : ((l ++ [x]).flatMap wy).take (l.length * 2) = l.flatMap wy ∧ (((l ++ [x]).flatMap wy).drop (l.length * 2)).take 2 = wy x := by
  rw [List.flatMap_append, List.flatMap_cons, List.flatMap_nil, List.append_nil]
  rw [← wy_len l, List.take_left, List.drop_left]
  exact ⟨rfl, rfl⟩
theorem wy_one (l : List (Nat × Int)) : (l.flatMap wy).all (·.oneCell') = true := by
  rw [List.all_eq_true]
  intro v hv
  obtain ⟨x, _, hx⟩ := List.mem_flatMap.1 hv
  simp [wy] at hx
  rcases hx with rfl | rfl <;> rfl
theorem snoc_of {α : Type} {l : List α} {q : Nat} (h : l.length = q + 1) : ∃ l0 x, l = l0 ++ [x] ∧ l0.length = q := by
  have hne : l ≠ [] := by intro e; rw [e] at h; simp at h
  exact ⟨l.dropLast, l.getLast hne, (List.dropLast_concat_getLast hne).symm, by rw [List.length_dropLast]; omega⟩
theorem all_m1 {H : List Int} {n : Nat} (h : H.length = n) (hk : ∀ k, k < n → H[k]? = some (-1)) : H = List.replicate n (-1) := by
  refine List.ext_getElem (by simp [h]) fun i h1 h2 => ?_
  have := hk i (by omega)
  rw [List.getElem?_eq_getElem h1] at this
  simp at this
  simp [this]
theorem steps_two {p : Pg} {i : Ins} {k : Nat} {h : Int} {l : List (Nat × Int)} (hs : steps p i k h = some l) : l.length ≤ 2 := by
  unfold steps at hs
  split at hs
  · cases hs
  · simp only [Option.some.injEq] at hs
    subst hs
    repeat' split
    all_goals simp
end Go.Ck
