/-
  Proved here: steps of the plain parser, one by one; what lies somewhere in what is owned. No program stands here.
-/
import Derived.Test.YteibddakpedogaaPaP
import Derived.Test.YteibddakpedogaaPr
import Derived.Test.YteibddakpedogaaCpN
namespace Go.Pa
variable {L : List Tk} {s : St} {t : Tk} {α β : Type} {r : Rs β}
theorem bnd_some {x : M α} {f : α → M β} (h : bnd x f s = some r) : ∃ r1, x s = some r1 ∧ (∀ a s1, r1 = .ok a s1 → f a s1 = some r) ∧ (∀ p l, r1 = .stop p l → r = .stop p l) := by
  unfold bnd at h
  cases hx : x s with
  | none => rw [hx] at h; cases h
  | some r1 =>
    rw [hx] at h
    cases r1 with
    | ok a s1 => exact ⟨_, rfl, fun a' s' e => (by cases e; exact h), fun p l e => (by cases e)⟩
    | stop p l => exact ⟨_, rfl, fun a' s' e => (by cases e), fun p' l' e => (by cases e; injection h with h; exact h.symm)⟩
theorem tok_bnd {f : Tk → M β} (h : bnd (tok L) f s = some r) : ∃ t, L[s.at_]? = some t ∧ f t s = some r := by
  unfold bnd tok at h
  cases ht : L[s.at_]? with
  | none => rw [ht] at h; cases h
  | some t => rw [ht] at h; exact ⟨t, rfl, h⟩
theorem is_bnd {ss : List B} {f : Bool → M β} (h : bnd (is_ L ss) f s = some r) : ∃ t, L[s.at_]? = some t ∧ f (isB t ss) s = some r := by
  obtain ⟨t, ht, h2⟩ := tok_bnd (L := L) (s := s) (f := fun t => f (isB t ss)) (r := r) (by
    unfold bnd is_ at h
    unfold bnd
    cases ht : tok L s with
    | none => simp only [bnd, ht] at h; cases h
    | some r1 =>
      cases r1 with
      | ok a s1 => simp only [bnd, ht, ret] at h; exact h
      | stop p l => simp only [bnd, ht] at h; exact h)
  exact ⟨t, ht, h2⟩
theorem take_bnd {x : B} {f : Bool → M β} (h : bnd (take L x) f s = some r) : ∃ t, L[s.at_]? = some t ∧ (isB t [x] = true → f true { s with at_ := s.at_ + 1 } = some r) ∧ (isB t [x] = false → f false s = some r) := by
  have h2 : (bnd (is_ L [x]) fun b => bnd (if b then bnd adv fun _ => ret true else ret false) f) s = some r := by
    unfold take at h
    unfold bnd at h ⊢
    cases hi : is_ L [x] s with
    | none => simp only [hi] at h; cases h
    | some r1 =>
      cases r1 with
      | ok a s1 => simp only [hi] at h; exact h
      | stop p l => simp only [hi] at h; exact h
  obtain ⟨t, ht, h3⟩ := is_bnd h2
  refine ⟨t, ht, fun e => ?_, fun e => ?_⟩ <;> rw [e] at h3 <;> exact h3
theorem op_bnd {x : B} {f : Int → M β} (h : bnd (op_ x) f s = some r) : ∃ k, opOf x = some k ∧ f k s = some r := by
  unfold bnd op_ at h
  cases ho : opOf x with
  | none => rw [ho] at h; cases h
  | some k => rw [ho] at h; exact ⟨k, rfl, h⟩
theorem node_bnd {op pos : Int} {x : B} {ks : List Int} {f : Int → M β} (h : bnd (node op pos x ks) f s = some r) : s.out.length < 1000000 ∧ f s.out.length { s with out := s.out ++ [⟨op, 0, pos, x, ks⟩] } = some r := by
  unfold bnd node at h
  by_cases hl : s.out.length < 1000000
  · rw [if_pos hl] at h; exact ⟨hl, h⟩
  · rw [if_neg hl] at h; cases h
theorem node_end {op pos : Int} {x : B} {ks : List Int} {r : Rs Int} (h : node op pos x ks s = some r) : s.out.length < 1000000 ∧ r = .ok s.out.length { s with out := s.out ++ [⟨op, 0, pos, x, ks⟩] } := by
  unfold node at h
  by_cases hl : s.out.length < 1000000
  · rw [if_pos hl] at h; injection h with h; exact ⟨hl, h.symm⟩
  · rw [if_neg hl] at h; cases h
theorem outn_bnd {f : Unit → M β} (h : bnd outn f s = some r) : ∃ d, s.deep = d + 1 ∧ d < 1000000 ∧ f () { s with deep := d } = some r := by
  unfold bnd outn at h
  cases hd : s.deep with
  | zero => rw [hd] at h; cases h
  | succ d =>
    rw [hd] at h
    by_cases hl : d < 1000000
    · simp only [if_pos hl] at h; exact ⟨d, rfl, hl, h⟩
    · simp only [if_neg hl] at h; cases h
theorem adv_bnd {f : Unit → M β} (h : bnd adv f s = some r) : f () { s with at_ := s.at_ + 1 } = some r := h
theorem op_in {x : B} {k : Int} (h : opOf x = some k) : 0 ≤ k ∧ k ≤ 100 := by
  unfold opOf at h
  by_cases hx0 : x = [111, 114]
  · rw [if_pos hx0] at h; cases h; decide
  rw [if_neg hx0] at h
  by_cases hx1 : x = [97, 110, 100]
  · rw [if_pos hx1] at h; cases h; decide
  rw [if_neg hx1] at h
  by_cases hx2 : x = [61, 61]
  · rw [if_pos hx2] at h; cases h; decide
  rw [if_neg hx2] at h
  by_cases hx3 : x = [33, 61]
  · rw [if_pos hx3] at h; cases h; decide
  rw [if_neg hx3] at h
  by_cases hx4 : x = [60]
  · rw [if_pos hx4] at h; cases h; decide
  rw [if_neg hx4] at h
  by_cases hx5 : x = [60, 61]
  · rw [if_pos hx5] at h; cases h; decide
  rw [if_neg hx5] at h
  by_cases hx6 : x = [62]
  · rw [if_pos hx6] at h; cases h; decide
  rw [if_neg hx6] at h
  by_cases hx7 : x = [62, 61]
  · rw [if_pos hx7] at h; cases h; decide
  rw [if_neg hx7] at h
  by_cases hx8 : x = [105, 110]
  · rw [if_pos hx8] at h; cases h; decide
  rw [if_neg hx8] at h
  by_cases hx9 : x = [43]
  · rw [if_pos hx9] at h; cases h; decide
  rw [if_neg hx9] at h
  by_cases hx10 : x = [45]
  · rw [if_pos hx10] at h; cases h; decide
  rw [if_neg hx10] at h
  by_cases hx11 : x = [42]
  · rw [if_pos hx11] at h; cases h; decide
  rw [if_neg hx11] at h
  by_cases hx12 : x = [47, 47]
  · rw [if_pos hx12] at h; cases h; decide
  rw [if_neg hx12] at h
  by_cases hx13 : x = [37]
  · rw [if_pos hx13] at h; cases h; decide
  rw [if_neg hx13] at h
  cases h
theorem signs_len (lv : Nat) : (signs lv).length ≤ 3 := by
  unfold signs
  split <;> decide
theorem bnd_assoc {γ : Type} (x : M α) (f : α → M β) (g : β → M γ) : bnd (bnd x f) g = bnd x (fun a => bnd (f a) g) := by
  funext s
  unfold bnd
  cases x s with
  | none => rfl
  | some r => cases r <;> rfl
theorem grow_some {γ : Type} {l : List γ} {x : M β} (h : grow l x s = some r) : l.length < 1000000 ∧ x s = some r := by
  unfold grow at h
  by_cases hl : l.length < 1000000
  · rw [if_pos hl] at h; exact ⟨hl, h⟩
  · rw [if_neg hl] at h; cases h
theorem grow_bnd {γ : Type} {l : List γ} {x : M α} {f : α → M β} (h : bnd (grow l x) f s = some r) : l.length < 1000000 ∧ bnd x f s = some r := by
  unfold bnd grow at h
  by_cases hl : l.length < 1000000
  · simp only [if_pos hl] at h; exact ⟨hl, h⟩
  · simp only [if_neg hl] at h; cases h
theorem ret_bnd {a : α} {f : α → M β} (h : bnd (ret a) f s = some r) : f a s = some r := h
theorem setPos_bnd {k pos : Int} {f : Unit → M β} (h : bnd (setPos k pos) f s = some r) : ∃ x, 0 ≤ k ∧ s.out[k.toNat]? = some x ∧ f () { s with out := s.out.set k.toNat { x with pos := pos } } = some r := by
  unfold bnd setPos at h
  by_cases hk : k < 0
  · simp only [if_pos hk] at h; cases h
  · simp only [if_neg hk] at h
    cases hx : s.out[k.toNat]? with
    | none => simp only [hx] at h; cases h
    | some x => simp only [hx] at h; exact ⟨x, by omega, rfl, h⟩
theorem nodeAt_bnd {k : Int} {f : Nd → M β} (h : bnd (nodeAt k) f s = some r) : ∃ x, 0 ≤ k ∧ s.out[k.toNat]? = some x ∧ f x s = some r := by
  unfold bnd nodeAt at h
  by_cases hk : k < 0
  · simp only [if_pos hk] at h; cases h
  · simp only [if_neg hk] at h
    cases hx : s.out[k.toNat]? with
    | none => simp only [hx] at h; cases h
    | some x => simp only [hx] at h; exact ⟨x, by omega, rfl, h⟩
theorem getFors_bnd {f : Nat → M β} (h : bnd getFors f s = some r) : f s.fors s = some r := h
theorem getDefs_bnd {f : Bool → M β} (h : bnd getDefs f s = some r) : f s.defs s = some r := h
theorem setDefs_bnd {b : Bool} {f : Unit → M β} (h : bnd (setDefs b) f s = some r) : f () { s with defs := b } = some r := h
theorem setFors_bnd {k : Nat} {f : Unit → M β} (h : bnd (setFors k) f s = some r) : k < 1000000 ∧ f () { s with fors := k } = some r := by
  unfold bnd setFors at h
  by_cases hk : k < 1000000
  · simp only [if_pos hk] at h; exact ⟨hk, h⟩
  · simp only [if_neg hk] at h; cases h
theorem ahead_bnd {x : B} {f : Bool → M β} (h : bnd (ahead L x) f s = some r) : f (match L[s.at_ + 1]? with | some t => decide (t.kind = 4) && decide (t.text = x) | none => false) s = some r := h
theorem bad_eq (ht : L[s.at_]? = some t) {r : Rs α} (h : (bad L : M α) s = some r) : r = .stop t.pos false := by
  unfold bad bnd tok at h
  simp only [ht] at h
  injection h with h; exact h.symm
theorem ret_end {a : α} {r : Rs α} (h : ret a s = some r) : r = .ok a s := by injection h with h; exact h.symm
end Go.Pa
namespace Go.Ck
open Go.SX
open Go.Tr (ndA Nd)
/-- one more node, that has no kids' row of its own -/
theorem NdsF.nextN {w0 : World} {base : Nat} {rs : List It} {cells : List Value} {l : List Nd} (h : NdsF w0 base rs cells l) {y : Nd} {five : List Value} (h5 : five.length = 5) (hy : ndA (See w0 base rs) five y) : NdsF w0 base rs (cells ++ five) (l ++ [y]) := by
  refine ⟨by rw [List.length_append, List.length_append, h.1, h5]; simp; omega, fun i x hx => ?_⟩
  rcases Nat.lt_or_ge i l.length with hi | hi
  · rw [List.getElem?_append_left hi] at hx
    have hle : i * 5 + 5 ≤ cells.length := by rw [h.1]; omega
    rw [List.drop_append_of_le_length (by omega), List.take_append_of_le_length (by rw [List.length_drop]; omega)]
    exact h.2 i x hx
  · rw [List.getElem?_append_right hi] at hx
    have hz : i - l.length = 0 := by
      have := (List.getElem?_eq_some_iff.1 hx).1
      simpa using this
    rw [hz] at hx
    obtain rfl : y = x := by simpa using hx
    have e : i = l.length := by omega
    subst e
    rw [← h.1, List.drop_left, List.take_of_length_le (by omega)]
    exact hy
/-- a node's cells -/
theorem NdsF.five {w0 : World} {base : Nat} {rs : List It} {cells : List Value} {l : List Nd} (h : NdsF w0 base rs cells l) {i : Nat} {x : Nd} (hx : l[i]? = some x) :
    i < l.length ∧ i * 5 + 5 ≤ cells.length ∧ ∃ vk, (cells.drop (i * 5)).take 5 = [.int .i64 x.op, .int .i64 x.n, .int .i64 x.pos, str x.s, vk] ∧ SlA 1 intA (See w0 base rs) vk x.kids ∧ Go.SX.inI x.op ∧ Go.SX.inI x.n ∧ Go.SX.inI x.pos := by
  have hi := (List.getElem?_eq_some_iff.1 hx).1
  exact ⟨hi, by rw [h.1]; omega, h.2 i x hx⟩
theorem NdsF.cell {w0 : World} {base : Nat} {rs : List It} {cells : List Value} {l : List Nd} (h : NdsF w0 base rs cells l) {i : Nat} {x : Nd} (hx : l[i]? = some x) :
    i < l.length ∧ cells[i * 5 + 0]? = some (.int .i64 x.op) ∧ cells[i * 5 + 2]? = some (.int .i64 x.pos) ∧ Go.SX.inI x.op ∧ Go.SX.inI x.pos := by
  obtain ⟨h1, h2, vk, h3, h4, h5, h6, h7⟩ := h.five hx
  have e : ∀ j, j < 5 → cells[i * 5 + j]? = ((cells.drop (i * 5)).take 5)[j]? := fun j hj => by rw [List.getElem?_take_of_lt hj, List.getElem?_drop]
  refine ⟨h1, ?_, ?_, h5, h7⟩
  · rw [e 0 (by decide), h3]; rfl
  · rw [e 2 (by decide), h3]; rfl
theorem NdsF.setPos {w0 : World} {base : Nat} {rs : List It} {cells : List Value} {l : List Nd} (h : NdsF w0 base rs cells l) {i : Nat} {x : Nd} (hx : l[i]? = some x) {pos : Int} (hp : Go.SX.inI pos) :
    NdsF w0 base rs (cells.set (i * 5 + 2) (.int .i64 pos)) (l.set i { x with pos := pos }) := by
  obtain ⟨h1, h2, vk, h3, h4, h5, h6, h7⟩ := h.five hx
  refine ⟨by rw [List.length_set, List.length_set, h.1], fun j y hy => ?_⟩
  rcases Nat.lt_trichotomy j i with hj | hj | hj
  · rw [List.getElem?_set_ne (by omega)] at hy
    have := h.2 j y hy
    rw [List.drop_set, if_neg (by omega), List.take_set_of_le (by omega)]
    exact this
  · subst hj
    rw [List.getElem?_set_self h1] at hy
    obtain rfl := Option.some.inj hy
    refine ⟨vk, ?_, h4, h5, h6, hp⟩
    rw [List.drop_set, if_neg (by omega), show j * 5 + 2 - j * 5 = 2 by omega, List.take_set, h3]
    rfl
  · rw [List.getElem?_set_ne (by omega)] at hy
    have := h.2 j y hy
    rw [List.drop_set, if_pos (by omega)]
    exact this
/-- a node's cells, its kids in a row of their own -/
def kidR (e : Nat) (rs : List It) (cs : List Value) (x : Nd) : Prop := (∃ g c, cs = [.int .i64 x.op, .int .i64 x.n, .int .i64 x.pos, str x.s, rv g x.kids.length c] ∧ (It.row g c x.kids.length e 1 (x.kids.map iv) ∈ rs ∨ x.kids = [] ∧ g = none ∧ c = 0)) ∧ ∀ (w0 : World) (base : Nat), ndA (See w0 base rs) cs x
/-- nodes in a row, their kids in rows, wherever these came from -/
def NdsR (e : Nat) (rs : List It) (cells : List Value) (l : List Nd) : Prop := cells.length = l.length * 5 ∧ ∀ (i : Nat) (x : Nd), l[i]? = some x → kidR e rs ((cells.drop (i * 5)).take 5) x
section
variable {e : Nat} {rs : List It} {cells : List Value} {l : List Nd}
theorem NdsR.toF (h : NdsR e rs cells l) (w0 : World) (base : Nat) : NdsF w0 base rs cells l := ⟨h.1, fun i x hx => (h.2 i x hx).2 w0 base⟩
theorem kidR.more {cs : List Value} {x : Nd} {rs' : List It} (h : kidR e rs cs x) (hm : ∀ it ∈ rs, it ∈ rs') : kidR e rs' cs x := by
  obtain ⟨⟨g, c, h1, h2⟩, h3⟩ := h
  exact ⟨⟨g, c, h1, h2.imp (hm _) id⟩, fun w0 base => Kept.mono (See.more hm) (h3 w0 base)⟩
theorem NdsR.more (h : NdsR e rs cells l) {rs' : List It} (hm : ∀ it ∈ rs, it ∈ rs') {y : Nd} {five : List Value} (h5 : five.length = 5) (hy : kidR e rs' five y) : NdsR e rs' (cells ++ five) (l ++ [y]) := by
  refine ⟨by rw [List.length_append, List.length_append, h.1, h5]; simp; omega, fun i x hx => ?_⟩
  rcases Nat.lt_or_ge i l.length with hi | hi
  · rw [List.getElem?_append_left hi] at hx
    have hle : i * 5 + 5 ≤ cells.length := by rw [h.1]; omega
    rw [List.drop_append_of_le_length (by omega), List.take_append_of_le_length (by rw [List.length_drop]; omega)]
    exact (h.2 i x hx).more hm
  · rw [List.getElem?_append_right hi] at hx
    have hz : i - l.length = 0 := by
      have := (List.getElem?_eq_some_iff.1 hx).1
      simpa using this
    rw [hz] at hx
    obtain rfl : y = x := by simpa using hx
    have e : i = l.length := by omega
    subst e
    rw [← h.1, List.drop_left, List.take_of_length_le (by omega)]
    exact hy
theorem kids_R {w0 w w1 : World} {base b1 : Nat} {its ds : List It} (hw : WA w0 base its w) {i e c : Nat} {g : Option Nat} {ks : List Int} (hi : its[i]? = some (.row g c ks.length e 1 (ks.map iv))) (hin : ∀ z ∈ ks, inI z) (hm : It.row g c ks.length e 1 (ks.map iv) ∈ ds) (hb : ks.length ≤ 9223372036854775807) :
    SlA 1 intA (See w1 b1 ds) (rv g ks.length c) ks := by
  refine row_sl hm (by simp) (fun h => ?_) (fun _ _ h => .inr h) ⟨hb, (row_len (hw.get hi)).2⟩ (fun q z hz => ?_)
  · cases g with
    | some b => rfl
    | none =>
      have := (row_none2 (hw.get hi)).1
      omega
  · exact ⟨Go.Tr.map_A hz, hin z (List.mem_of_getElem? hz)⟩
theorem NdsR.put (h : NdsR e rs cells l) {w0 w : World} {base : Nat} {its : List It} (hw : WA w0 base its w) {g : Option Nat} {c i : Nat} {ks : List Int} (hi : its[i]? = some (.row g c ks.length e 1 (ks.map iv))) (hk : ∀ z ∈ ks, inI z) (hl : ks.length ≤ 9223372036854775807) {op pos : Int} {x : List UInt8} (ho : inI op) (hp : inI pos) :
    NdsR e (.row g c ks.length e 1 (ks.map iv) :: rs) (cells ++ [.int .i64 op, .int .i64 0, .int .i64 pos, str x, rv g ks.length c]) (l ++ [⟨op, 0, pos, x, ks⟩]) :=
  h.more (fun _ hm => List.mem_cons_of_mem _ hm) rfl ⟨⟨g, c, rfl, .inl (List.mem_cons_self ..)⟩, fun w1 b1 => ⟨_, rfl, kids_R (i := i) hw hi hk (List.mem_cons_self ..) hl, ho, (show Go.SX.inI 0 by unfold Go.SX.inI; omega), hp⟩⟩
theorem NdsR.putN (h : NdsR e rs cells l) {op pos : Int} {x : List UInt8} (ho : inI op) (hp : inI pos) :
    NdsR e rs (cells ++ [.int .i64 op, .int .i64 0, .int .i64 pos, str x, .slice none 0 0]) (l ++ [⟨op, 0, pos, x, []⟩]) :=
  h.more (fun _ hm => hm) rfl ⟨⟨none, 0, rfl, .inr ⟨rfl, rfl, rfl⟩⟩, fun w1 b1 => ⟨_, rfl, ⟨none, 0, rfl, ⟨Nat.zero_le _, Nat.le_refl _⟩, fun i x h => (by cases h)⟩, ho, (show Go.SX.inI 0 by unfold Go.SX.inI; omega), hp⟩⟩
theorem NdsR.lens (h : NdsR e rs cells l) {i : Nat} {x : Nd} (hx : l[i]? = some x) : i < l.length ∧ i * 5 + 5 ≤ cells.length := by
  have hi := (List.getElem?_eq_some_iff.1 hx).1
  exact ⟨hi, by rw [h.1]; omega⟩
theorem NdsR.cell (h : NdsR e rs cells l) {i : Nat} {x : Nd} (hx : l[i]? = some x) :
    i < l.length ∧ cells[i * 5 + 0]? = some (.int .i64 x.op) ∧ cells[i * 5 + 2]? = some (.int .i64 x.pos) ∧ Go.SX.inI x.op ∧ Go.SX.inI x.pos :=
  (h.toF (World.mk #[] (fun _ _ => 0) 0 default #[]) 0).cell hx
theorem NdsR.setPos (h : NdsR e rs cells l) {i : Nat} {x : Nd} (hx : l[i]? = some x) {pos : Int} (hp : Go.SX.inI pos) :
    NdsR e rs (cells.set (i * 5 + 2) (.int .i64 pos)) (l.set i { x with pos := pos }) := by
  refine ⟨by rw [List.length_set, List.length_set, h.1], fun j y hy => ⟨?_, fun w0 base => ((h.toF w0 base).setPos hx hp).2 j y hy⟩⟩
  obtain ⟨h1, h2⟩ := h.lens hx
  rcases Nat.lt_trichotomy j i with hj | hj | hj
  · rw [List.getElem?_set_ne (by omega)] at hy
    rw [List.drop_set, if_neg (by omega), List.take_set_of_le (by omega)]
    exact (h.2 j y hy).1
  · subst hj
    rw [List.getElem?_set_self h1] at hy
    obtain rfl := Option.some.inj hy
    obtain ⟨g, c, h3, h4⟩ := (h.2 j x hx).1
    refine ⟨g, c, ?_, h4⟩
    rw [List.drop_set, if_neg (by omega), show j * 5 + 2 - j * 5 = 2 by omega, List.take_set, h3]
    rfl
  · rw [List.getElem?_set_ne (by omega)] at hy
    rw [List.drop_set, if_pos (by omega)]
    exact (h.2 j y hy).1
end
/-- nodes whose kids' rows are there, whatever stands in them -/
def NdsS (e : Nat) (rs : List It) (cells : List Value) (l : List Nd) : Prop := cells.length = l.length * 5 ∧ ∀ (j : Nat) (x : Nd), l[j]? = some x → ∃ g c, cells[j * 5 + 4]? = some (rv g x.kids.length c) ∧ (x.kids.length = 0 ∨ ∃ xs, It.row g c x.kids.length e 1 xs ∈ rs)
section
variable {e : Nat} {rs : List It} {cells : List Value} {l : List Nd}
theorem NdsR.toS (h : NdsR e rs cells l) : NdsS e rs cells l := ⟨h.1, fun j x hx => by
  obtain ⟨g, c, h1, h2⟩ := (h.2 j x hx).1
  obtain ⟨_, h4⟩ := h.lens hx
  refine ⟨g, c, ?_, ?_⟩
  · have h5 : cells[j * 5 + 4]? = ((cells.drop (j * 5)).take 5)[4]? := by rw [List.getElem?_take_of_lt (by decide), List.getElem?_drop]
    rw [h5, h1]
    rfl
  · rcases h2 with h2 | ⟨h2, _⟩
    · exact .inr ⟨_, h2⟩
    · exact .inl (by rw [h2]; rfl)⟩
theorem NdsS.setOp (h : NdsS e rs cells l) (i : Nat) (v : Value) : NdsS e rs (cells.set (i * 5 + 0) v) l := ⟨by rw [List.length_set]; exact h.1, fun j x hx => by
  obtain ⟨g, c, h1, h2⟩ := h.2 j x hx
  exact ⟨g, c, by rw [List.getElem?_set_ne (by omega)]; exact h1, h2⟩⟩
theorem NdsS.setRow {a b : List It} {g : Option Nat} {c n : Nat} {xs : List Value} (h : NdsS e (a ++ .row g c n e 1 xs :: b) cells l) (ys : List Value) : NdsS e (.row g c n e 1 ys :: (a ++ b)) cells l := ⟨h.1, fun j x hx => by
  obtain ⟨g', c', h1, h2⟩ := h.2 j x hx
  refine ⟨g', c', h1, h2.imp id fun ⟨zs, hz⟩ => ?_⟩
  rcases List.mem_append.1 hz with hz | hz
  · exact ⟨zs, List.mem_cons_of_mem _ (List.mem_append_left _ hz)⟩
  · rcases List.mem_cons.1 hz with hz | hz
    · injection hz with e1 e2 e3 e4 e5 e6
      subst e1 e2
      exact ⟨ys, by rw [e3]; exact List.mem_cons_self ..⟩
    · exact ⟨zs, List.mem_cons_of_mem _ (List.mem_append_right _ hz)⟩⟩
end
end Go.Ck
namespace Go.SX
open Go.RowKit
section
variable {P : Program} {l : Fr} {t ty : TypeId} {x : Operand} {w0 w : World} {base : Nat} {its : List It} {v : Value}
theorem Y.ldBM {b T j : Nat} {cs : List Value} (ht : One P t) (hx : evl l x = some (.pointer (some ⟨b, j, none⟩))) (hm : blk b cs T ∈ its) (hj : cs[j]? = some v) : Y P l (WA w0 base its) (.load t x) ty v := by
  obtain ⟨i, hi⟩ := List.mem_iff_getElem?.1 hm
  exact Y.ldB i ht hx hi hj
theorem row_atM {α : Type} {size : Nat} {A : Rd → List Value → α → Prop} {c n e : Nat} {g : Option Nat} {ys : List Value} {xs : List α} (hw : WA w0 base its w) (hm : It.row g c n e size ys ∈ its) (hn : n = xs.length) (hs : 0 < size)
    (hA : ∀ i z, xs[i]? = some z → A (Lies w w.heap.size) ((ys.drop (i * size)).take size) z) : SlAt size A (Lies w w.heap.size) (g.map fun b => ⟨b, 0, none⟩) xs := by
  obtain ⟨j, hj⟩ := List.mem_iff_getElem?.1 hm
  exact Go.Tr.row_at hw hj hn hs hA
theorem FnP.bound {τ σ : Type} {v : τ → Value} {W : World → Prop} {W' : τ → World → Prop} {pe : σ → Value} {WP : σ → World → Prop} {f : FuncId} {a : Value} (h : FnP P f #[a] W v W' pe WP) : FnP P f (#[a] ++ ([] : List Value).toArray ++ #[]) W v W' pe WP := by
  rw [show #[a] ++ ([] : List Value).toArray ++ #[] = #[a] by simp]; exact h
end
end Go.SX
