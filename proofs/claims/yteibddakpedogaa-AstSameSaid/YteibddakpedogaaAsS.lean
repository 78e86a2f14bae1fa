/-
  Proved here: plain: every node of a tree is reached from its last node, and none twice. No program stands here.
-/
import Derived.Test.YteibddakpedogaaAsT
import Derived.Test.YteibddakpedogaaMtS
import Derived.Test.YteibddakpedogaaSx
namespace Go.As
open Go.Tr (Nd)
section
variable {o : List Nd}
/-- reached from a node, down the kids -/
inductive Dsc (o : List Nd) : Nat → Nat → Prop
  | refl (w : Nat) : Dsc o w w
  | step {w k q : Nat} {x : Nd} : o[w]? = some x → (k : Int) ∈ x.kids → Dsc o k q → Dsc o w q
theorem Dsc.snoc {w p q : Nat} {x : Nd} (h : Dsc o w p) (hx : o[p]? = some x) (hq : (q : Int) ∈ x.kids) : Dsc o w q := by
  induction h with
  | refl w => exact .step hx hq (.refl _)
  | step h1 h2 _ ih => exact .step h1 h2 (ih hx)
theorem TreeF.parent (t : TreeF o) {q : Nat} (hq : q + 1 < o.length) : ∃ p x, q < p ∧ o[p]? = some x ∧ (q : Int) ∈ x.kids := by
  have h1 : (q : Int) ∈ [((o.length - 1 : Nat) : Int)] ++ o.flatMap (·.kids) := t.ft.perm.mem_iff.2 (List.mem_map.2 ⟨q, List.mem_range.2 (by omega), rfl⟩)
  rcases List.mem_append.1 h1 with h1 | h1
  · have := List.mem_singleton.1 h1
    omega
  · obtain ⟨x, hx, hk⟩ := List.mem_flatMap.1 h1
    obtain ⟨p, hp⟩ := List.mem_iff_getElem?.1 hx
    have := t.ft.kid p x hp _ hk
    exact ⟨p, x, by omega, hp, hk⟩
theorem TreeF.all (t : TreeF o) : ∀ (n q : Nat), o.length - q = n → q < o.length → Dsc o (o.length - 1) q := by
  intro n
  induction n using Nat.strongRecOn with
  | _ n ih =>
    intro q hn hq
    by_cases h : q + 1 < o.length
    · obtain ⟨p, x, h1, h2, h3⟩ := t.parent h
      have hp := (List.getElem?_eq_some_iff.1 h2).1
      exact (ih (o.length - p) (by omega) p rfl hp).snoc h2 h3
    · have : q = o.length - 1 := by omega
      subst this
      exact .refl _
theorem pair_at {α : Type} {R : α → α → Prop} : ∀ {l : List α}, l.Pairwise R → ∀ {i j : Nat} {a b : α}, i < j → l[i]? = some a → l[j]? = some b → R a b
  | [], _, i, j, a, b, _, h, _ => by simp at h
  | c :: r, hp, 0, j + 1, a, b, _, h1, h2 => by
    cases h1
    exact (List.pairwise_cons.1 hp).1 b (List.mem_of_getElem? (by simpa using h2))
  | c :: r, hp, i + 1, j + 1, a, b, hij, h1, h2 => pair_at (i := i) (j := j) (List.pairwise_cons.1 hp).2 (by omega) (by simpa using h1) (by simpa using h2)
theorem Ft.one_parent {R : List Int} (f : Ft o R) {i j : Nat} {x y : Nd} {k : Int} (hx : o[i]? = some x) (hy : o[j]? = some y) (h1 : k ∈ x.kids) (h2 : k ∈ y.kids) : i = j := by
  have hn := (List.nodup_append.1 f.nodup).2.1
  have hp := (List.pairwise_flatMap.1 hn).2
  rcases Nat.lt_trichotomy i j with h | h | h
  · exact absurd rfl (pair_at hp h hx hy k h1 k h2)
  · exact h
  · exact absurd rfl (pair_at hp h hy hx k h2 k h1)
theorem Ft.kids_nodup {R : List Int} (f : Ft o R) {i : Nat} {x : Nd} (hx : o[i]? = some x) : x.kids.Nodup :=
  (List.pairwise_flatMap.1 (List.nodup_append.1 f.nodup).2.1).1 x (List.mem_of_getElem? hx)
theorem nodup_len : ∀ (n : Nat) (l : List Int), l.Nodup → (∀ q ∈ l, 0 ≤ q ∧ q < (n : Int)) → l.length ≤ n
  | 0, [], _, _ => Nat.le_refl _
  | 0, q :: r, _, h => by have := h q (List.mem_cons_self ..); omega
  | n + 1, l, hn, h => by
    have h1 := nodup_len n (l.erase (n : Int)) (hn.erase _) fun q hq => by
      obtain ⟨h2, h3⟩ := hn.mem_erase_iff.1 hq
      have := h q h3
      omega
    rw [List.length_erase] at h1
    split at h1 <;> omega
/-- what is gone through (V) and what waits (S): none twice, each a kid of what is gone through, or the last node -/
structure Go6 (o : List Nd) (E : Nat → Prop) (V S : List Int) : Prop where
  nd : (V ++ S).Nodup
  lt : ∀ q ∈ V ++ S, 0 ≤ q ∧ q < (o.length : Int)
  top : ((o.length - 1 : Nat) : Int) ∈ V ++ S
  from_ : ∀ q ∈ V ++ S, q = ((o.length - 1 : Nat) : Int) ∨ ∃ (p : Nat) (x : Nd), (p : Int) ∈ V ∧ o[p]? = some x ∧ q ∈ x.kids
  eq : ∀ q : Nat, (q : Int) ∈ V → E q
  cl : ∀ (p : Nat) x, (p : Int) ∈ V → o[p]? = some x → ∀ k ∈ x.kids, k ∈ V ++ S
theorem Go6.start (t : TreeF o) (E : Nat → Prop) : Go6 o E [] [(o.length : Int) - 1] := by
  have h0 := t.pos
  have e : (o.length : Int) - 1 = ((o.length - 1 : Nat) : Int) := by omega
  rw [e]
  exact ⟨by simp, fun q hq => by simp at hq; omega, by simp, fun q hq => .inl (by simpa using hq), fun q hq => (by cases hq), fun p x hp => (by cases hp)⟩
variable {E : Nat → Prop} {V B : List Int} {q : Nat} {x : Nd}
theorem Go6.rng (h : Go6 o E V (B ++ [(q : Int)])) : q < o.length := by have := h.lt q (by simp); omega
theorem Go6.few (h : Go6 o E V (B ++ [(q : Int)])) : V.length < o.length := by
  have := nodup_len _ _ h.nd h.lt
  simp at this
  omega
theorem Go6.work (h : Go6 o E V (B ++ [(q : Int)])) : B.length < o.length := by
  have := nodup_len _ _ h.nd h.lt
  simp at this
  omega
theorem TreeF.kids_len (t : TreeF o) (hx : o[q]? = some x) : x.kids.length ≤ o.length :=
  nodup_len _ _ (t.ft.kids_nodup hx) fun k hk => by have := t.ft.kid q x hx k hk; have := (List.getElem?_eq_some_iff.1 hx).1; omega
theorem Go6.pop (t : TreeF o) (h : Go6 o E V (B ++ [(q : Int)])) (hx : o[q]? = some x) (hE : E q) : Go6 o E ((q : Int) :: V) (B ++ x.kids) := by
  have hn := h.nd
  have hp : (V ++ (B ++ [(q : Int)])).Perm ((q : Int) :: (V ++ B)) := by rw [← List.append_assoc]; exact List.perm_append_comm
  have hn2 := hp.nodup_iff.1 hn
  have hq : (q : Int) ∉ V ++ B := (List.nodup_cons.1 hn2).1
  have hVB := (List.nodup_cons.1 hn2).2
  have hk := t.ft.kid q x hx
  have hm : ∀ z, z ∈ (q : Int) :: V ++ (B ++ x.kids) ↔ z = q ∨ z ∈ V ++ B ∨ z ∈ x.kids := fun z => by simp [or_assoc]
  have hm2 : ∀ z, z ∈ V ++ (B ++ [(q : Int)]) ↔ z = q ∨ z ∈ V ++ B := fun z => by rw [hp.mem_iff]; simp
  have hr := h.rng
  refine ⟨?_, fun z hz => ?_, ?_, fun z hz => ?_, fun z hz => ?_, fun p y hpV hy k hky => ?_⟩
  · have e : (q : Int) :: V ++ (B ++ x.kids) = (q : Int) :: ((V ++ B) ++ x.kids) := by simp
    rw [e, List.nodup_cons, List.nodup_append]
    refine ⟨fun hz => ?_, hVB, t.ft.kids_nodup hx, fun a ha b hb hab => ?_⟩
    · rcases List.mem_append.1 hz with hz | hz
      · exact hq hz
      · have := hk _ hz; omega
    · subst hab
      have hkb := hk a hb
      rcases h.from_ a ((hm2 a).2 (.inr ha)) with h1 | ⟨p, y, hpV, hy, hay⟩
      · omega
      · have := t.ft.one_parent hx hy hb hay
        subst this
        exact hq (List.mem_append_left _ hpV)
  · rcases (hm z).1 hz with rfl | h1 | h1
    · omega
    · exact h.lt z ((hm2 z).2 (.inr h1))
    · have := hk z h1; omega
  · rcases (hm2 _).1 h.top with h1 | h1
    · exact (hm _).2 (.inl h1)
    · exact (hm _).2 (.inr (.inl h1))
  · rcases (hm z).1 hz with rfl | h1 | h1
    · rcases h.from_ (q : Int) ((hm2 _).2 (.inl rfl)) with h2 | ⟨p, y, hpV, hy, hay⟩
      · exact .inl h2
      · exact .inr ⟨p, y, List.mem_cons_of_mem _ hpV, hy, hay⟩
    · rcases h.from_ z ((hm2 z).2 (.inr h1)) with h2 | ⟨p, y, hpV, hy, hay⟩
      · exact .inl h2
      · exact .inr ⟨p, y, List.mem_cons_of_mem _ hpV, hy, hay⟩
    · exact .inr ⟨q, x, List.mem_cons_self .., hx, h1⟩
  · rcases List.mem_cons.1 hz with h1 | h1
    · have : z = q := by omega
      subst this; exact hE
    · exact h.eq z h1
  · rcases List.mem_cons.1 hpV with h1 | h1
    · have : p = q := by omega
      subst this
      rw [hx] at hy; cases hy
      exact (hm k).2 (.inr (.inr hky))
    · rcases (hm2 k).1 (h.cl p y h1 hy k hky) with h2 | h2
      · exact (hm k).2 (.inl h2)
      · exact (hm k).2 (.inr (.inl h2))
theorem Go6.reach (h : Go6 o E V []) {w q : Nat} (hw : (w : Int) ∈ V) (hd : Dsc o w q) : (q : Int) ∈ V := by
  induction hd with
  | refl w => exact hw
  | step h1 h2 _ ih => exact ih (by have := h.cl _ _ hw h1 _ h2; simpa using this)
theorem Go6.all (t : TreeF o) (h : Go6 o E V []) {q : Nat} (hq : q < o.length) : E q :=
  h.eq q (h.reach (by have := h.top; simpa using this) (t.all _ q rfl hq))
/-- all nodes are the same, but for their places -/
def SameN (l m : List Nd) : Prop := ∀ (q : Nat) x y, l[q]? = some x → m[q]? = some y → x.op = y.op ∧ x.n = y.n ∧ x.s = y.s
@[reducible] def SameE (l m : List Nd) (q : Nat) : Prop := ∀ x y, l[q]? = some x → m[q]? = some y → x.op = y.op ∧ x.n = y.n ∧ x.s = y.s
theorem Go6.same {m : List Nd} (t : TreeF o) (h : Go6 o (SameE o m) V []) : SameN o m := fun q x y hx hy => h.all t (List.getElem?_eq_some_iff.1 hx).1 x y hx hy
open Go.SX in
/-- pairs that wait, in memory -/
def prs (S : List Int) : List Value := S.flatMap fun q => [.int .i64 q, .int .i64 q]
theorem prs_app (S T : List Int) : prs (S ++ T) = prs S ++ prs T := List.flatMap_append
theorem prs_len (S : List Int) : (prs S).length = S.length * 2 := by
  induction S with
  | nil => rfl
  | cons a r ih => show (prs r).length + 1 + 1 = _; rw [ih, List.length_cons]; omega
theorem prs_cut (B : List Int) (q : Int) : (prs (B ++ [q])).take (B.length * 2) = prs B := by rw [prs_app, ← prs_len, List.take_left]
theorem prs_at (B : List Int) (q : Int) : ((prs (B ++ [q])).drop (B.length * 2)).take 2 = [.int .i64 q, .int .i64 q] := by rw [prs_app, ← prs_len, List.drop_left]; rfl
theorem prs_next (B : List Int) {ks : List Int} {j : Nat} (hj : j < ks.length) : prs (B ++ ks.take (j + 1)) = prs (B ++ ks.take j) ++ [.int .i64 (ks.getD j 0), .int .i64 (ks.getD j 0)] := by
  rw [List.take_add_one, List.getElem?_eq_getElem hj, ← List.append_assoc, prs_app, List.getD_eq_getElem?_getD, List.getElem?_eq_getElem hj]; rfl
theorem pop_last {T : List Int} (h : 0 < T.length) : ∃ B q, T = B ++ [q] := ⟨T.dropLast, T.getLast (by intro e; rw [e] at h; exact absurd h (by decide)), (List.dropLast_concat_getLast _).symm⟩
end
end Go.As
