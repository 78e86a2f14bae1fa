/-
  Proved here: plain: nodes of which one alone is nobody's kid are a tree, each node of it used once. No program stands here.
-/
import Derived.Test.YteibddakpedogaaAsP
import Derived.Test.YteibddakpedogaaTrQ
namespace Go.As
open Go.Tr (Nd fresh)
/-- who is used so far -/
def Us (n : Nat) (S : List Int) (u : List Bool) : Prop := u.length = n ∧ ∀ k : Nat, k < n → u[k]? = some (decide ((k : Int) ∈ S))
theorem Us.start (n : Nat) : Us n [] (List.replicate n false) := ⟨List.length_replicate .., fun k hk => by rw [List.getElem?_replicate, if_pos hk]; rfl⟩
theorem fresh_ok : ∀ (ks S : List Int) (u : List Bool) (n i : Nat), i ≤ n → Us n S u → (S ++ ks).Nodup → (∀ k ∈ ks, 0 ≤ k ∧ k < (i : Int)) → ∃ v, fresh ks i u = some v ∧ Us n (S ++ ks) v
  | [], S, u, n, i, _, h, _, _ => ⟨u, rfl, by rw [List.append_nil]; exact h⟩
  | a :: r, S, u, n, i, hi, h, hn, hk => by
    have ha := hk a (List.mem_cons_self ..)
    have h1 := h.2 a.toNat (by omega)
    rw [show ((a.toNat : Nat) : Int) = a by omega] at h1
    have h2 : a ∉ S := fun hm => by
      have := (List.nodup_append.1 hn).2.2 a hm a (List.mem_cons_self ..)
      exact this rfl
    rw [decide_eq_false h2] at h1
    unfold fresh
    rw [if_neg (by rw [h1]; simp; omega)]
    have h3 : Us n (S ++ [a]) (u.set a.toNat true) := by
      refine ⟨by rw [List.length_set]; exact h.1, fun k hkn => ?_⟩
      by_cases e : a.toNat = k
      · subst e
        rw [List.getElem?_set_self (by rw [h.1]; omega), decide_eq_true (by rw [List.mem_append]; right; rw [show ((a.toNat : Nat) : Int) = a by omega]; simp)]
      · rw [List.getElem?_set_ne e, h.2 k hkn]
        congr 1
        rw [decide_eq_decide, List.mem_append, List.mem_singleton]
        constructor
        · intro hm; exact .inl hm
        · rintro (hm | hm)
          · exact hm
          · omega
    have e : S ++ a :: r = S ++ [a] ++ r := by simp
    rw [e] at hn ⊢
    exact fresh_ok r (S ++ [a]) _ n i hi h3 hn fun k hk' => hk k (List.mem_cons_of_mem _ hk')
theorem Ft.nodup {o : List Nd} {R : List Int} (f : Ft o R) : (R ++ o.flatMap (·.kids)).Nodup := by
  refine f.perm.nodup_iff.2 ?_
  exact List.Pairwise.map _ (fun a b h e => h (Int.ofNat.inj e)) List.nodup_range
theorem take_flat {o : List Nd} {i : Nat} {x : Nd} (hx : o[i]? = some x) : (o.take (i + 1)).flatMap (·.kids) = (o.take i).flatMap (·.kids) ++ x.kids := by
  rw [List.take_add_one, hx, List.flatMap_append]; simp
theorem Ft.step {o : List Nd} {R : List Int} (f : Ft o R) {i : Nat} {x : Nd} (hx : o[i]? = some x) {u : List Bool} (hu : Us o.length ((o.take i).flatMap (·.kids)) u) : ∃ v, fresh x.kids i u = some v ∧ Us o.length ((o.take (i + 1)).flatMap (·.kids)) v := by
  have hi := (List.getElem?_eq_some_iff.1 hx).1
  rw [take_flat hx]
  refine fresh_ok _ _ u o.length i (Nat.le_of_lt hi) hu ?_ (f.kid i x hx)
  rw [← take_flat hx]
  have h1 := (List.nodup_append.1 f.nodup).2.1
  rw [← List.take_append_drop (i + 1) o, List.flatMap_append] at h1
  exact (List.nodup_append.1 h1).1
/-- a tree: its last node alone is nobody's kid -/
structure TreeF (o : List Nd) : Prop where
  pos : 0 < o.length
  ft : Ft o [((o.length - 1 : Nat) : Int)]
theorem TreeF.used {o : List Nd} (t : TreeF o) {u : List Bool} (hu : Us o.length (o.flatMap (·.kids)) u) : false ∉ u.take (o.length - 1) := fun h => by
  obtain ⟨k, hk⟩ := List.mem_iff_getElem?.1 h
  rw [List.getElem?_take] at hk
  split at hk
  · next hk1 =>
    rw [hu.2 k (by omega)] at hk
    have h1 : (k : Int) ∈ [((o.length - 1 : Nat) : Int)] ++ o.flatMap (·.kids) := t.ft.perm.mem_iff.2 (List.mem_map.2 ⟨k, List.mem_range.2 (by omega), rfl⟩)
    rcases List.mem_append.1 h1 with h1 | h1
    · have := List.mem_singleton.1 h1
      omega
    · rw [decide_eq_true h1] at hk
      cases hk
  · cases hk
end Go.As
