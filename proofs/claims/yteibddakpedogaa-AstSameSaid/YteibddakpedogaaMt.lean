/-
  Proved here: regions that draw their order, in which two effects may come in either order: plans that fork. No program stands here.
-/
import Derived.Test.YteibddakpedogaaMg
namespace Go.SX
open Go.RowKit
section
variable {P : Program} {ops : Array Oper} {Q : Exit → Act → World → Prop} {md : Region.Mode} {S : World → Prop}
inductive Pl where
  | done
  | step (i : Nat) (k : Kd) (r : Pl)
  | fork (i j : Nat) (ri rj : Pl)
def Pl.depth : Pl → Nat
  | .done => 0
  | .step _ _ r => r.depth + 1
  | .fork _ _ ri _ => ri.depth + 1
def treeOk (md : Region.Mode) (ops : Array Oper) : Pl → Array Bool → Bool
  | .done, listed => Region.ready md ops listed == []
  | .step i k r, listed => (match k with
    | .alone => Region.ready md ops listed == [i]
    | _ => (Region.ready md ops listed).contains i && Region.free md ops listed i) && treeOk md ops r (listed.setIfInBounds i true)
  | .fork i j ri rj, listed => (Region.ready md ops listed == [i, j]) && (ri.depth == rj.depth) && treeOk md ops ri (listed.setIfInBounds i true) && treeOk md ops rj (listed.setIfInBounds j true)
def wpTree (P : Program) (md : Region.Mode) (ops : Array Oper) (Q : Exit → Act → World → Prop) (S : World → Prop) : Pl → List Nat → Act → World → Prop
  | .done, _, a, w => Q .normal a w
  | .step i .alone r, pend, a, w => wpOp P ops Q i (fun a' w' => (still ops md pend i ≠ [] → S w') ∧ wpTree P md ops Q S r (still ops md pend i) a' w') a w
  | .step i .anywhere r, pend, a, w => ∃ o v, ops[i]? = some o ∧ Yields P ops o v a ∧ wpTree P md ops Q S r pend (a.put o.dst v) w
  | .step i .held r, pend, a, w => S w ∧ ∃ o v, ops[i]? = some o ∧ YieldsIf P ops S o v a ∧ wpTree P md ops Q S r (i :: still ops md pend i) (a.put o.dst v) w
  | .fork i j ri rj, pend, a, w => wpOp P ops Q i (fun a' w' => (still ops md pend i ≠ [] → S w') ∧ wpTree P md ops Q S ri (still ops md pend i) a' w') a w ∧
      wpOp P ops Q j (fun a' w' => (still ops md pend j ≠ [] → S w') ∧ wpTree P md ops Q S rj (still ops md pend j) a' w') a w
theorem wpAnyM_tree (hs : Region.noSelect ops = true) (hQ : ∀ c a w d v, Q (.panic c) (a.put d v) w → Q (.panic c) a w) : ∀ (t : Pl) (listed : Array Bool) (pend : List Nat) (a : Act) (w : World),
    treeOk md ops t listed = true → (pend ≠ [] → S w) → wpTree P md ops Q S t pend a w → wpAnyM P md ops Q S t.depth listed pend a w
  | .done, listed, pend, a, w, hc, _, h => ⟨by simpa [treeOk] using hc, h⟩
  | .step i .alone r, listed, pend, a, w, hc, hS, h => by
    simp only [treeOk, Bool.and_eq_true, beq_iff_eq] at hc
    refine ⟨(fun h0 => by rw [hc.1] at h0; cases h0), fun j hj => ?_⟩
    rw [hc.1] at hj
    have hj' : j = i := by simpa using hj
    subst hj'
    exact wpOp_mono (fun a' w' h' => ⟨h'.1, wpAnyM_tree hs hQ r _ _ a' w' hc.2 h'.1 h'.2⟩) h
  | .step i .anywhere r, listed, pend, a, w, hc, hS, h => by
    simp only [treeOk, Bool.and_eq_true] at hc
    obtain ⟨o, v, ho, hy, h⟩ := h
    exact wpAnyM_firstP ho (Region.noSelect_spec hs) (fun c a w => hQ c a w _ _) r.depth listed pend a w (Region.free_spec ho hc.1.2) (by simpa using hc.1.1) hy hS
      (wpAnyM_tree hs hQ r _ _ _ w hc.2 hS h)
  | .step i .held r, listed, pend, a, w, hc, hS, h => by
    simp only [treeOk, Bool.and_eq_true] at hc
    obtain ⟨hSw, o, v, ho, hy, h⟩ := h
    exact wpAnyM_first ho (Region.noSelect_spec hs) (fun c a w => hQ c a w _ _) r.depth listed pend a w (Region.free_spec ho hc.1.2) (by simpa using hc.1.1) hy hSw
      (wpAnyM_tree hs hQ r _ _ _ w hc.2 (fun _ => hSw) h)
  | .fork i j ri rj, listed, pend, a, w, hc, hS, h => by
    simp only [treeOk, Bool.and_eq_true, beq_iff_eq] at hc
    obtain ⟨⟨⟨h1, h2⟩, h3⟩, h4⟩ := hc
    obtain ⟨ha, hb⟩ := h
    refine ⟨(fun h0 => by rw [h1] at h0; cases h0), fun k hk => ?_⟩
    rw [h1] at hk
    rcases List.mem_cons.1 hk with rfl | hk
    · exact wpOp_mono (fun a' w' h' => ⟨h'.1, wpAnyM_tree hs hQ ri _ _ a' w' h3 h'.1 h'.2⟩) ha
    · obtain rfl : k = j := by simpa using hk
      refine wpOp_mono (fun a' w' h' => ⟨h'.1, ?_⟩) hb
      have := wpAnyM_tree hs hQ rj _ _ a' w' h4 h'.1 h'.2
      rw [h2]; exact this
end
section
variable {P : Program} {ops : Array Oper} {n : Nat} {D : List Deferred} {l l' : Fr} {W W' S : World → Prop} {o : Oper} {d : Nat} {v : Value} {Q : Exit → Act → World → Prop} {r ri rj : Pl} {pend : List Nat} {i j : Nat}
def MT (P : Program) (ops : Array Oper) (n : Nat) (D : List Deferred) (Q : Exit → Act → World → Prop) (S : World → Prop) (l : Fr) (W : World → Prop) (t : Pl) (pend : List Nat) : Prop :=
  ∀ a w, Has n D a l → W w → wpTree P .any ops (noPanic Q) S t pend a w
theorem CX.regionT [hst : Stab W] {id : Nat} {lo : List Oper} (t : Pl) (hm : P.follows .mixedOrders = true) (hB : (Region.noSelect lo.toArray && treeOk .any lo.toArray t (Array.replicate lo.toArray.size false) && (t.depth == lo.toArray.size)) = true)
    (h : MT P lo.toArray n D Q W l W t []) : CX P n D Q l W (.region id lo.toArray true) := by
  intro a w ha hW
  simp only [Bool.and_eq_true, beq_iff_eq] at hB
  refine wp_mono ?_ (noPanic_imp (Q := Q))
  refine wp_region_any hm (wpAny_of_M (S := W) _ _ [] _ _ ?_)
  have h1 := wpAnyM_tree (Q := noPanic Q) (S := W) hB.1.1 (fun _ _ _ _ _ h => h) t _ [] a _ hB.1.2 (fun h => absurd rfl h) (h a _ ha (Stab.drew hW))
  rw [hB.2] at h1
  exact h1
theorem MT.lift0 (hi : ops[i]? = some o) (hy : Y P l (fun _ => True) o.op o.type v) (hg : o.guard = none) (hd : o.dst = some d) (hdn : Nat.blt d n = true)
    (h : MT P ops n D Q S ((d, v) :: l) W r pend) : MT P ops n D Q S l W (.step i .anywhere r) pend := by
  intro a w ha hW
  refine ⟨o, v, hi, .inl ⟨wanted_none hg, fun w => hy a.eval ha.eval o rfl rfl w trivial⟩, ?_⟩
  rw [hd]; exact h _ _ (ha.put hdn v) hW
theorem MT.lift1 (hi : ops[i]? = some o) (hWS : ∀ w, W w → S w) (hy : Y P l S o.op o.type v) (hg : o.guard = none) (hd : o.dst = some d) (hdn : Nat.blt d n = true)
    (pend' : List Nat) (hp : still ops .any pend i = pend') (h : MT P ops n D Q S ((d, v) :: l) W r (i :: pend')) : MT P ops n D Q S l W (.step i .held r) pend := by
  intro a w ha hW
  subst hp
  refine ⟨hWS w hW, o, v, hi, .inl ⟨wanted_none hg, fun w hw => hy a.eval ha.eval o rfl rfl w hw⟩, ?_⟩
  rw [hd]; exact h _ _ (ha.put hdn v) hW
/-- what follows an operation that is taken alone -/
abbrev TQ (P : Program) (ops : Array Oper) (Q : Exit → Act → World → Prop) (S : World → Prop) (pend : List Nat) (i : Nat) (r : Pl) : Exit → Act → World → Prop :=
  Exit.then (fun a w => (still ops .any pend i ≠ [] → S w) ∧ wpTree P .any ops (noPanic Q) S r (still ops .any pend i) a w) (noPanic Q)
theorem wpOp_of {K : Act → World → Prop} {Q' : Exit → Act → World → Prop} (hi : ops[i]? = some o) (h : LX P ops n D (.plain (Exit.then K Q')) l W [o]) {a : Act} {w : World} (ha : Has n D a l) (hW : W w) : wpOp P ops Q' i K a w := by
  have := h a w ha hW
  unfold wpList at this
  unfold wpOp
  simp only [hi]
  split at this
  · rename_i hw
    rw [if_pos hw]
    rcases this with h1 | ⟨h1, a0, w0, h2⟩
    · exact .inl (Oper.upon_mono (fun a w h => h) (fun e a w he h => by cases e <;> first | exact absurd rfl he | exact h) h1)
    · exact .inr ⟨h1, a0, w0, h2⟩
  · rename_i hw
    rw [if_neg hw]
    exact this
theorem MT.force (hi : ops[i]? = some o) (h : LX P ops n D (.plain (TQ P ops Q S pend i r)) l W [o]) : MT P ops n D Q S l W (.step i .alone r) pend :=
  fun _ _ ha hW => wpOp_of hi h ha hW
/-- two effects in either order -/
theorem MT.fork {o2 : Oper} (hi : ops[i]? = some o) (hj : ops[j]? = some o2) (h : LX P ops n D (.plain (TQ P ops Q S pend i ri)) l W [o]) (h2 : LX P ops n D (.plain (TQ P ops Q S pend j rj)) l W [o2]) : MT P ops n D Q S l W (.fork i j ri rj) pend :=
  fun _ _ ha hW => ⟨wpOp_of hi h ha hW, wpOp_of hj h2 ha hW⟩
theorem LX.nextT (pend' : List Nat) (hp : still ops .any pend i = pend') (hS : pend' ≠ [] → ∀ w, W w → S w) (h : MT P ops n D Q S l W r pend') : LX P ops n D (.plain (TQ P ops Q S pend i r)) l W [] := by
  intro a w ha hW
  subst hp
  exact ⟨fun hn => hS hn w hW, h a w ha hW⟩
theorem MT.done (h : PX n D Q l W .normal) : MT P ops n D Q S l W .done pend := fun a w ha hW => h a w ha hW
theorem MT.sub (hs : Sub l' l) (h : MT P ops n D Q S l' W r pend) : MT P ops n D Q S l W r pend := fun a w ha hW => h a w (ha.sub hs) hW
end
/-- how often something stands in a list -/
noncomputable def cnt {α : Type} (x : α) : List α → Nat
  | [] => 0
  | y :: r => (open Classical in if y = x then 1 else 0) + cnt x r
theorem cnt_nil {α : Type} (x : α) : cnt x [] = 0 := rfl
theorem cnt_cons {α : Type} (x y : α) (r : List α) : cnt x (y :: r) = (open Classical in if y = x then 1 else 0) + cnt x r := rfl
theorem cnt_append {α : Type} (x : α) : ∀ (a b : List α), cnt x (a ++ b) = cnt x a + cnt x b
  | [], b => by rw [cnt_nil, Nat.zero_add]; rfl
  | y :: r, b => by rw [List.cons_append, cnt_cons, cnt_cons, cnt_append x r b, Nat.add_assoc]
theorem perm_cnt {α : Type} {a b : List α} (h : ∀ x, cnt x a = cnt x b) : a.Perm b := by
  classical
  refine List.perm_iff_count.2 fun x => ?_
  have e : ∀ l : List α, List.count x l = cnt x l := by
    intro l
    induction l with
    | nil => rfl
    | cons y r ih => rw [List.count_cons, cnt_cons, ih, Nat.add_comm]; simp
  rw [e, e, h]
end Go.SX
