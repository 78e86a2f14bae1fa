/-
  Proved here: plain: who stands in a list, and where first; truth values in memory. No program stands here.
-/
import Derived.Test.YteibddakpedogaaTrP
import Derived.Test.YteibddakpedogaaLexP
import Derived.Test.YteibddakpedogaaNamP
namespace Go.Tr
open Go.SX Go.Lex
/-- a truth value in a cell -/
def bolA (_ : Rd) (cs : List Value) (b : Bool) : Prop := cs = [.bool b]
instance : Kept bolA := ⟨fun _ h => h⟩
theorem SlAt1 {α : Type} {A : Rd → List Value → α → Prop} {M : Rd} {av : Option Addr} {ss : List α} (h : SlAt 1 A M av ss) {j : Nat} (hj : j < ss.length) : ∃ a cs, av = some a ∧ M (a.add (j * 1)) cs ∧ A M cs ss[j] := by
  obtain ⟨a, cs, e1, e2, e3, e4⟩ := h j _ (List.getElem?_eq_getElem hj)
  exact ⟨a, cs, e1, e3, e4⟩
theorem getD_get {α : Type} {d : α} {ss : List α} {j : Nat} (hj : j < ss.length) : ss.getD j d = ss[j] := by rw [List.getD_eq_getElem?_getD, List.getElem?_eq_getElem hj]; rfl
theorem strA_at {M : Rd} {av : Option Addr} {ss : List (List UInt8)} (h : SlAt 1 strA M av ss) {j : Nat} (hj : j < ss.length) : ∃ a, ∃ _ : Unit, av = some a ∧ M (a.add (j * 1)) [str (ss.getD j [])] := by
  obtain ⟨a, cs, e1, e2, rfl⟩ := SlAt1 h hj
  rw [getD_get hj]
  exact ⟨a, (), e1, e2⟩
theorem bolA_at {M : Rd} {av : Option Addr} {ss : List Bool} (h : SlAt 1 bolA M av ss) {j : Nat} (hj : j < ss.length) : ∃ a, ∃ _ : Unit, av = some a ∧ M (a.add (j * 1)) [.bool (ss.getD j false)] := by
  obtain ⟨a, cs, e1, e2, rfl⟩ := SlAt1 h hj
  rw [getD_get hj]
  exact ⟨a, (), e1, e2⟩
def idxB (x : Bool) : List Bool → Nat → Int
  | [], _ => -1
  | y :: r, i => if x = y then (i : Int) else idxB x r (i + 1)
theorem idxB_next {x : Bool} {l : List Bool} {k : Nat} (h : k < l.length) (hne : x ≠ l.getD k false) : idxB x (l.drop (k + 1)) (k + 1) = idxB x (l.drop k) k := by
  rw [List.drop_eq_getElem_cons h, idxB, if_neg (by rw [getD_get h] at hne; exact hne)]
theorem idxB_hit {x : Bool} {l : List Bool} {k : Nat} (h : k < l.length) (he : x = l.getD k false) : idxB x (l.drop k) k = (k : Int) := by
  rw [List.drop_eq_getElem_cons h, idxB, if_pos (by rw [getD_get h] at he; exact he)]
theorem idxB_end {x : Bool} {l : List Bool} {k : Nat} (h : l.length ≤ k) : idxB x (l.drop k) k = -1 := by
  rw [List.drop_of_length_le h]; rfl
theorem idxB_ge (x : Bool) : ∀ (l : List Bool) (i : Nat), 0 ≤ idxB x l i ↔ x ∈ l
  | [], i => by simp [idxB]
  | y :: r, i => by
    unfold idxB
    split
    · next h => subst h; simp
    · next h => rw [idxB_ge x r (i + 1)]; simp [h]
theorem idxB_ge0 (x : Bool) (l : List Bool) (_ : Nat) : 0 ≤ idxB x l 0 ↔ x ∈ l := idxB_ge x l 0
theorem idxI_ge0 (x : List UInt8) (l : List (List UInt8)) (_ : Nat) : 0 ≤ idxI x l 0 ↔ x ∈ l := (idxI_ge x l 0).1
theorem words_A {M : Rd} (i : Nat) (z : List UInt8) (h : wordsList[i]? = some z) : strA M (((wordsList.map str).drop (i * 1)).take 1) z := by
  rw [Nat.mul_one, List.drop_eq_getElem?_toList_append, List.getElem?_map, h]
  rfl
theorem at_of {α : Type} {n : Nat} {A : Rd → List Value → α → Prop} {M : Rd} {av : Option Addr} {k c : Nat} {xs : List α} (h : SlA n A M (.slice av k c) xs) : SlAt n A M av xs := by
  obtain ⟨av', cap, e, _, h1⟩ := h.ex
  injection e with e1 _ _
  subst e1
  exact h1
/-- a row, as a slice of plain values -/
theorem row_at {α : Type} {size : Nat} {A : Rd → List Value → α → Prop} {w0 w : World} {base : Nat} {its : List It} {j c n e : Nat} {g : Option Nat} {ys : List Value} {xs : List α} (hw : WA w0 base its w) (hj : its[j]? = some (.row g c n e size ys)) (hn : n = xs.length) (hs : 0 < size)
    (hA : ∀ i z, xs[i]? = some z → A (Lies w w.heap.size) ((ys.drop (i * size)).take size) z) : SlAt size A (Lies w w.heap.size) (g.map fun b => ⟨b, 0, none⟩) xs := by
  subst hn
  have hl := (row_len (hw.get hj)).1
  intro i z hz
  have hi : i < xs.length := (List.getElem?_eq_some_iff.1 hz).1
  have hle : (i + 1) * size ≤ ys.length := by rw [hl]; exact Nat.mul_le_mul_right _ hi
  rw [Nat.add_mul, Nat.one_mul] at hle
  have hc0 := hw.rowCell hj (off := i * size) (List.getElem?_eq_getElem (by omega))
  have hln : ((ys.drop (i * size)).take size).length = size := by rw [List.length_take, List.length_drop]; omega
  refine ⟨⟨g.getD 0, 0, none⟩, _, by rw [hc0.2.2]; rfl, hln, ⟨fun k u hk => ?_⟩, hA i z hz⟩
  rw [List.getElem?_take] at hk
  split at hk
  · rw [List.getElem?_drop] at hk
    have h1 := (hw.rowCell hj hk).1
    rw [Addr.add_mid, Addr.add_mid, Nat.zero_add]
    exact ⟨by have := World.block_lt_of_cell? _ _ h1; exact this, h1⟩
  · cases hk
theorem map_A {α : Type} {f : α → Value} {xs : List α} {i : Nat} {z : α} (h : xs[i]? = some z) : ((xs.map f).drop (i * 1)).take 1 = [f z] := by
  rw [Nat.mul_one, List.drop_eq_getElem?_toList_append, List.getElem?_map, h]
  rfl
/-- truth values in a row -/
def bv (b : Bool) : Value := .bool b
theorem bv_set (u : List Bool) (k : Nat) : (u.map bv).set k (.bool true) = (u.set k true).map bv := by rw [List.map_set]; rfl
theorem bv_at {u : List Bool} {k : Nat} {b : Bool} (h : u[k]? = some b) : (u.map bv)[k * 1]? = some (.bool b) := by rw [Nat.mul_one, List.getElem?_map, h]; rfl
theorem made_bv (n : Nat) : (madeCells (Value.bool false).cells (n * 1)).toList = (List.replicate n false).map bv := by
  rw [Nat.mul_one]
  refine List.ext_getElem (by simp [madeCells]) fun i h1 h2 => ?_
  simp [madeCells, Value.cells, bv, Nat.mod_one]
theorem fresh_len : ∀ (ks : List Int) (i : Nat) (u u' : List Bool), fresh ks i u = some u' → u'.length = u.length
  | [], _, _, _, h => by cases h; rfl
  | k :: r, i, u, u', h => by
    unfold fresh at h
    split at h
    · cases h
    · rw [fresh_len r i _ _ h, List.length_set]
/-- an address in a row that was made by hand -/
theorem places_1 {l : List Nd} {n k : Nat} {x : Nd} {wh df lp : Bool} (h : l[k]? = some x) : places l (n + 1) (k : Int) wh df lp = if x.op = 39 ∨ x.op = 40 then lp
    else if x.op = 41 then df
    else if x.op = 42 then wh
    else if x.op = 47 ∨ x.op = 43 ∨ x.op = 44 then x.kids.all fun j => places l n j (wh && decide ((k : Int) = (l.length : Int) - 1)) df (lp || decide (x.op = 44))
    else if x.op = 45 then wh && paramsGo l (x.kids.take (x.kids.length - 1)) [] false && places l n (x.kids.getD (x.kids.length - 1) 0) false true false
    else true := by
  rw [places, nd_at h]
theorem places_more {l : List Nd} {i : Nat} (h : Ahead l i) (hd : ∀ (k : Nat) (x : Nd), l[k]? = some x → x.op = 45 → 0 < x.kids.length) : ∀ (n m : Nat) (k : Int) (wh df lp : Bool), 0 ≤ k → k < n → k < m → k < i → k < l.length → places l n k wh df lp = places l m k wh df lp := by
  intro n
  induction n with
  | zero => intro m k _ _ _ h0 h1; exact absurd h1 (by omega)
  | succ n ih =>
    intro m k wh df lp h0 h1 h2 h3 h4
    cases m with
    | zero => exact absurd h2 (by omega)
    | succ m =>
      obtain ⟨k, rfl⟩ : ∃ q : Nat, k = (q : Int) := ⟨k.toNat, by omega⟩
      obtain ⟨x, hx⟩ : ∃ x, l[k]? = some x := ⟨_, List.getElem?_eq_getElem (by omega)⟩
      rw [places_1 hx, places_1 hx]
      have hk : ∀ j ∈ x.kids, 0 ≤ j ∧ j < (k : Int) := h k x (by omega) hx
      have key : ∀ (ks : List Int) (a b c : Bool), (∀ j ∈ ks, 0 ≤ j ∧ j < (k : Int)) → (ks.all fun j => places l n j a b c) = (ks.all fun j => places l m j a b c) := by
        intro ks a b c
        induction ks with
        | nil => intro _; rfl
        | cons q r ihr =>
          intro hh
          have ha := hh q (List.mem_cons_self ..)
          rw [List.all_cons, List.all_cons, ihr (fun j hj => hh j (List.mem_cons_of_mem _ hj)), ih m q _ _ _ ha.1 (by omega) (by omega) (by omega) (by omega)]
      rw [key _ _ _ _ hk]
      by_cases e : x.op = 45
      · have h0 := hd _ _ hx e
        have hb := hk _ (getD_mem (ks := x.kids) (j := x.kids.length - 1) (by omega))
        rw [ih m _ _ _ _ hb.1 (by omega) (by omega) (by omega) (by omega)]
      · simp only [if_neg e]
end Go.Tr
