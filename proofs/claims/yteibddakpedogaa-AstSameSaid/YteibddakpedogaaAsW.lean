/-
  Proved here: plain: how deep the nodes of a tree are, one by one. No program stands here.
-/
import Derived.Test.YteibddakpedogaaAsT
namespace Go.As
open Go.Tr (Nd)
def mx (d : List Int) (i : Nat) (k : Int) : Int := if d.getD k.toNat 0 > d.getD i 0 then d.getD k.toNat 0 else d.getD i 0
def inn (i : Nat) : List Int → List Int → List Int
  | [], d => d
  | k :: r, d => inn i r (d.set i (mx d i k))
def stp (i : Nat) (x : Nd) (d : List Int) : List Int := (inn i x.kids d).set i ((inn i x.kids d).getD i 0 + 1)
def dpt : List Nd → Nat → List Int → List Int
  | [], _, d => d
  | x :: r, i, d => dpt r (i + 1) (stp i x d)
/-- none is deeper than so many -/
structure Few (n c : Nat) (d : List Int) : Prop where
  len : d.length = n
  at_ : ∀ j, 0 ≤ d.getD j 0 ∧ d.getD j 0 ≤ (c : Int)
theorem Few.start (n : Nat) : Few n 0 (List.replicate n 0) := ⟨List.length_replicate .., fun j => by
  rw [List.getD_eq_getElem?_getD, List.getElem?_replicate]
  split <;> simp⟩
theorem Few.set {n c c' : Nat} {d : List Int} (h : Few n c d) {i : Nat} {z : Int} (hz : 0 ≤ z ∧ z ≤ (c' : Int)) (hc : c ≤ c') : Few n c' (d.set i z) := ⟨by rw [List.length_set]; exact h.len, fun j => by
  have h1 := h.at_ j
  rw [List.getD_eq_getElem?_getD] at h1 ⊢
  rw [List.getElem?_set]
  split
  · split
    · exact hz
    · simp
  · omega⟩
theorem mx_in {n c : Nat} {d : List Int} (h : Few n c d) (i : Nat) (k : Int) : 0 ≤ mx d i k ∧ mx d i k ≤ (c : Int) := by
  unfold mx
  have := h.at_ i
  have := h.at_ k.toNat
  split <;> omega
theorem inn_next {i j : Nat} {ks : List Int} {d : List Int} (hj : j < ks.length) : inn i (ks.drop j) d = inn i (ks.drop (j + 1)) (d.set i (mx d i (ks.getD j 0))) := by
  rw [List.drop_eq_getElem_cons hj, List.getD_eq_getElem?_getD, List.getElem?_eq_getElem hj]; rfl
theorem dpt_next {i : Nat} {l : List Nd} {x : Nd} {d : List Int} (hx : l[i]? = some x) : dpt (l.drop i) i d = dpt (l.drop (i + 1)) (i + 1) (stp i x d) := by
  obtain ⟨hi, e⟩ := List.getElem?_eq_some_iff.1 hx
  rw [List.drop_eq_getElem_cons hi, e]; rfl
/-- the chapter's example -/
def ex3 : List Nd := [⟨6, 0, 0, [120], []⟩, ⟨35, 0, 0, [], [0]⟩, ⟨47, 0, 0, [], [1]⟩]
theorem ex3_kid : ∀ (i : Nat) x, ex3[i]? = some x → ∀ k ∈ x.kids, 0 ≤ k ∧ k < (i : Int)
  | 0, x, hx, k, hk => by cases hx; cases hk
  | 1, x, hx, k, hk => by cases hx; cases List.mem_singleton.1 hk; decide
  | 2, x, hx, k, hk => by cases hx; cases List.mem_singleton.1 hk; decide
  | i + 3, x, hx, k, hk => by cases hx
theorem ex3_tree : TreeF ex3 := ⟨by decide, ⟨ex3_kid, by decide⟩⟩
end Go.As
