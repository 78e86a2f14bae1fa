/-
  Proved here: plain: nodes that are laid one by one, some of them nobody's kids yet; how far a parser is. No program stands here.
-/
import Derived.Test.YteibddakpedogaaPaP
import Derived.Test.YteibddakpedogaaCpN
import Derived.Test.YteibddakpedogaaMt
namespace Go.As
open Go.Tr (Nd)
open Go.SX (perm_cnt cnt_append cnt_cons cnt_nil)
/-- nodes of which some are nobody's kids -/
structure Ft (o : List Nd) (R : List Int) : Prop where
  kid : ∀ (i : Nat) x, o[i]? = some x → ∀ k ∈ x.kids, 0 ≤ k ∧ k < (i : Int)
  perm : (R ++ o.flatMap (·.kids)).Perm ((List.range o.length).map Int.ofNat)
section
variable {o : List Nd} {R R' ks : List Int}
theorem Ft.zero : Ft [] [] := ⟨fun i x h => absurd h (by simp), List.Perm.refl _⟩
theorem Ft.rng (f : Ft o R) {k : Int} (h : k ∈ R) : 0 ≤ k ∧ k < (o.length : Int) := by
  have h1 := f.perm.mem_iff.1 (List.mem_append_left _ h)
  obtain ⟨i, hi, rfl⟩ := List.mem_map.1 h1
  have := List.mem_range.1 hi
  exact ⟨Int.natCast_nonneg i, Int.ofNat_lt.2 this⟩
theorem Ft.re (f : Ft o R) (h : R.Perm R') : Ft o R' := ⟨f.kid, (h.symm.append_right _).trans f.perm⟩
theorem Ft.node (f : Ft o R) (hp : R.Perm (R' ++ ks)) {x : Nd} (hx : x.kids = ks) : Ft (o ++ [x]) (R' ++ [(o.length : Int)]) := by
  refine ⟨fun i y hy k hk => ?_, ?_⟩
  · rcases Nat.lt_or_ge i o.length with hi | hi
    · rw [List.getElem?_append_left hi] at hy
      exact f.kid i y hy k hk
    · rw [List.getElem?_append_right hi] at hy
      have hz : i - o.length = 0 := by
        have := (List.getElem?_eq_some_iff.1 hy).1
        simpa using this
      rw [hz] at hy
      obtain rfl : x = y := by simpa using hy
      have := f.rng (hp.mem_iff.2 (List.mem_append_right _ (hx ▸ hk)))
      omega
  · rw [List.flatMap_append, List.length_append, List.length_singleton, List.range_succ, List.map_append]
    have e1 : List.flatMap (fun x : Nd => x.kids) [x] = ks := by simp [hx]
    rw [e1]
    have h2 : (R' ++ [(o.length : Int)] ++ (o.flatMap (·.kids) ++ ks)).Perm ((R' ++ ks) ++ o.flatMap (·.kids) ++ [(o.length : Int)]) := by (refine perm_cnt fun x => ?_; simp only [cnt_append, cnt_cons, cnt_nil]; omega)
    exact h2.trans (((hp.symm.append_right _).trans f.perm).append_right _)
end
/-- a parser's state -/
structure RS where
  at_ : Nat
  ns : List Nd
  deep : Int
  df : Bool
  lp : Bool
  tp : Bool
  code : Int
  pos : Int
/-- where it may be -/
structure Sk (n : Nat) (s : RS) : Prop where
  lt : s.at_ < n
  d0 : 0 ≤ s.deep
  d1 : s.deep ≤ 60
  few : s.code = 0 → s.ns.length ≤ 2 * s.at_
  ft : s.code = 0 → ∃ R, Ft s.ns R
/-- from one state to another: ks are the nodes laid that are nobody's kids; j tokens gone at least, at most k nodes more than tokens -/
structure Rn (n : Nat) (s s' : RS) (ks : List Int) (j : Nat) (k : Int) : Prop where
  lt : s'.at_ < n
  le : s.at_ ≤ s'.at_
  d0 : s.deep ≤ s'.deep
  d1 : s'.deep ≤ 60
  bad : s'.code = 0 → s.code = 0
  adv : s'.code = 0 → s.at_ + j ≤ s'.at_
  few : s'.code = 0 → (s'.ns.length : Int) + 2 * s.at_ ≤ s.ns.length + 2 * s'.at_ + k
  ft : s'.code = 0 → ∀ R, Ft s.ns R → Ft s'.ns (R ++ ks)
section
variable {n : Nat} {s s1 s2 : RS} {us bs : List Int} {j j2 : Nat} {k k2 : Int}
theorem Sk.next (h : Sk n s) (r : Rn n s s1 us j k) (hk : k ≤ 0) : Sk n s1 := ⟨r.lt, by have := h.d0; have := r.d0; omega, r.d1, fun h0 => by have := h.few (r.bad h0); have := r.few h0; omega, fun h0 => by
  obtain ⟨R, hR⟩ := h.ft (r.bad h0)
  exact ⟨_, r.ft h0 R hR⟩⟩
theorem Rn.refl (h : Sk n s) : Rn n s s [] 0 0 := ⟨h.lt, Nat.le_refl _, Int.le_refl _, h.d1, id, fun _ => Nat.le_refl _, fun _ => by omega, fun _ R hR => by rw [List.append_nil]; exact hR⟩
theorem Rn.trans (h : Rn n s s1 us j k) (g : Rn n s1 s2 bs j2 k2) : Rn n s s2 (us ++ bs) (j + j2) (k + k2) := ⟨g.lt, Nat.le_trans h.le g.le, by have := h.d0; have := g.d0; omega, g.d1, fun h0 => h.bad (g.bad h0), fun h0 => by have := h.adv (g.bad h0); have := g.adv h0; omega, fun h0 => by have := h.few (g.bad h0); have := g.few h0; omega, fun h0 R hR => by rw [← List.append_assoc]; exact g.ft h0 _ (h.ft (g.bad h0) R hR)⟩
theorem Rn.wk (h : Rn n s s1 us j k) (h1 : j2 ≤ j) (h2 : k ≤ k2) : Rn n s s1 us j2 k2 := ⟨h.lt, h.le, h.d0, h.d1, h.bad, fun h0 => by have := h.adv h0; omega, fun h0 => by have := h.few h0; omega, h.ft⟩
theorem Rn.re (h : Rn n s s1 us j k) (hp : us.Perm bs) : Rn n s s1 bs j k := ⟨h.lt, h.le, h.d0, h.d1, h.bad, h.adv, h.few, fun h0 R hR => (h.ft h0 R hR).re (hp.append_left R)⟩
theorem Rn.kk (h : Rn n s s1 us j k) (hf : s1.code = 0 → (s1.ns.length : Int) + 2 * s.at_ ≤ s.ns.length + 2 * s1.at_ + k2) : Rn n s s1 us j k2 := ⟨h.lt, h.le, h.d0, h.d1, h.bad, h.adv, hf, h.ft⟩
theorem Rn.one (h : Rn n s s1 [] j k) (hn : s1.ns = s.ns) (ha : s.at_ < s1.at_) : Rn n s s1 [] 1 (-2) := ⟨h.lt, h.le, h.d0, h.d1, h.bad, fun _ => ha, fun _ => by rw [hn]; omega, h.ft⟩
/-- what is bad stays bad: nothing is told of the nodes -/
theorem Rn.no (h : Rn n s s1 us j k) (h0 : s1.code ≠ 0) : Rn n s s1 bs j2 k2 := ⟨h.lt, h.le, h.d0, h.d1, h.bad, fun h1 => absurd h1 h0, fun h1 => absurd h1 h0, fun h1 => absurd h1 h0⟩
/-- one token gone -/
@[reducible] def RS.go (s : RS) (d : Nat) : RS := ⟨s.at_ + d, s.ns, s.deep, s.df, s.lp, s.tp, s.code, s.pos⟩
theorem Sk.go (h : Sk n s) {d : Nat} (hd : s.at_ + d < n) : Sk n (s.go d) := ⟨hd, h.d0, h.d1, fun h0 => by have := h.few h0; show s.ns.length ≤ 2 * (s.at_ + d); omega, h.ft⟩
theorem Rn.go (h : Rn n s s1 us j k) {d : Nat} (hd : s1.at_ + d < n) : Rn n s (s1.go d) us (j + d) (k - 2 * d) := ⟨hd, by have := h.le; show s.at_ ≤ s1.at_ + d; omega, h.d0, h.d1, h.bad, fun h0 => by have := h.adv h0; show s.at_ + (j + d) ≤ s1.at_ + d; omega, fun h0 => by have := h.few h0; show (s1.ns.length : Int) + 2 * s.at_ ≤ (s.ns.length : Int) + 2 * ((s1.at_ + d : Nat) : Int) + (k - 2 * d); omega, h.ft⟩
/-- other truth values -/
@[reducible] def RS.fl (s : RS) (df lp tp : Bool) : RS := ⟨s.at_, s.ns, s.deep, df, lp, tp, s.code, s.pos⟩
theorem Sk.fl (h : Sk n s) (a b c : Bool) : Sk n (s.fl a b c) := ⟨h.lt, h.d0, h.d1, h.few, h.ft⟩
theorem Rn.fl (h : Rn n s s1 us j k) (a b c : Bool) : Rn n s (s1.fl a b c) us j k := ⟨h.lt, h.le, h.d0, h.d1, h.bad, h.adv, h.few, h.ft⟩
/-- one deeper, and back -/
@[reducible] def RS.dp (s : RS) (d : Int) : RS := ⟨s.at_, s.ns, d, s.df, s.lp, s.tp, s.code, s.pos⟩
theorem Rn.up (h : Rn n s s1 us j k) (hd : s1.deep < 60) : Rn n s (s1.dp (s1.deep + 1)) us j k := ⟨h.lt, h.le, by have := h.d0; show s.deep ≤ s1.deep + 1; omega, by show s1.deep + 1 ≤ 60; omega, h.bad, h.adv, h.few, h.ft⟩
theorem Rn.down (h : Rn n s s1 us j k) (hd : s.deep + 1 ≤ s1.deep) : Rn n s (s1.dp (s1.deep - 1)) us j k := ⟨h.lt, h.le, by show s.deep ≤ s1.deep - 1; omega, by have := h.d1; show s1.deep - 1 ≤ 60; omega, h.bad, h.adv, h.few, h.ft⟩
/-- it fails -/
@[reducible] def RS.no (s : RS) (code pos : Int) : RS := ⟨s.at_, s.ns, s.deep, s.df, s.lp, s.tp, code, pos⟩
theorem Rn.fail (h : Rn n s s1 us j k) {c p : Int} (hc : c ≠ 0) : Rn n s (s1.no c p) bs j2 k2 := ⟨h.lt, h.le, h.d0, h.d1, fun h0 => absurd h0 hc, fun h0 => absurd h0 hc, fun h0 => absurd h0 hc, fun h0 => absurd h0 hc⟩
structure FailR (s : RS) (c p : Int) (q : RS) : Prop where
  no : s.code ≠ 0 → q = s
  ok : s.code = 0 → q = s.no c p
theorem FailR.code {c p : Int} {q : RS} (h : FailR s c p q) (hc : c ≠ 0) : q.code ≠ 0 ∧ q.at_ = s.at_ ∧ q.deep = s.deep ∧ q.ns = s.ns := by
  by_cases h0 : s.code = 0
  · rw [h.ok h0]; exact ⟨hc, rfl, rfl, rfl⟩
  · rw [h.no h0]; exact ⟨h0, rfl, rfl, rfl⟩
/-- it is bad, where it was -/
structure Bad (s q : RS) : Prop where
  code : q.code ≠ 0
  at_ : q.at_ = s.at_
  deep : q.deep = s.deep
  ns : q.ns = s.ns
theorem Rn.bad2 {q : RS} (h : Rn n s s1 us j k) (b : Bad s1 q) : Rn n s q bs j2 k2 := ⟨by rw [b.at_]; exact h.lt, by rw [b.at_]; exact h.le, by rw [b.deep]; exact h.d0, by rw [b.deep]; exact h.d1, fun h0 => absurd h0 b.code, fun h0 => absurd h0 b.code, fun h0 => absurd h0 b.code, fun h0 => absurd h0 b.code⟩
theorem FailR.bad {c p : Int} {q : RS} (h : FailR s c p q) (hc : c ≠ 0) : Bad s q := ⟨(h.code hc).1, (h.code hc).2.1, (h.code hc).2.2.1, (h.code hc).2.2.2⟩
theorem Bad.self (h : s.code ≠ 0) : Bad s s := ⟨h, rfl, rfl, rfl⟩
/-- a token is asked for -/
structure WantR (n : Nat) (s : RS) (b : Bool) (q : RS) : Prop where
  t : b = true → s.code = 0 ∧ s.at_ + 1 < n ∧ q = s.go 1
  f : b = false → Bad s q
theorem Rn.want {b : Bool} {q : RS} (h : Rn n s s1 us j k) (g : WantR n s1 b q) : Rn n s q us (j + 1) (k - 2) := by
  cases b with
  | true =>
    obtain ⟨_, h2, rfl⟩ := g.t rfl
    exact h.go h2
  | false => exact h.bad2 (g.f rfl)
theorem WantR.bad {b : Bool} {q : RS} (g : WantR n s b q) (h : q.code = 0) : b = true ∧ s.code = 0 := by
  cases b with
  | true => exact ⟨rfl, (g.t rfl).1⟩
  | false => exact absurd h (g.f rfl).code
theorem WantR.ns {b : Bool} {q : RS} (g : WantR n s b q) : q.ns = s.ns := by
  cases b with
  | true => rw [(g.t rfl).2.2]
  | false => exact (g.f rfl).ns
theorem WantR.le {b : Bool} {q : RS} (g : WantR n s b q) : s.at_ ≤ q.at_ := by
  cases b with
  | true => rw [(g.t rfl).2.2]; exact Nat.le_succ _
  | false => rw [(g.f rfl).at_]; exact Nat.le_refl _
theorem WantR.deep {b : Bool} {q : RS} (g : WantR n s b q) : q.deep = s.deep := by
  cases b with
  | true => rw [(g.t rfl).2.2]
  | false => exact (g.f rfl).deep
structure EnterR (s : RS) (b : Bool) (q : RS) : Prop where
  t : b = true → s.code = 0 ∧ s.deep < 60 ∧ q = s.dp (s.deep + 1)
  f : b = false → Bad s q
theorem EnterR.ns {b : Bool} {q : RS} (g : EnterR s b q) : q.ns = s.ns := by
  cases b with
  | true => rw [(g.t rfl).2.2]
  | false => exact (g.f rfl).ns
/-- a node is put -/
@[reducible] def RS.nod (s : RS) (op pos : Int) (x : List UInt8) (ks : List Int) : RS := ⟨s.at_, s.ns ++ [⟨op, 0, pos, x, ks⟩], s.deep, s.df, s.lp, s.tp, s.code, s.pos⟩
structure PutR (s : RS) (op pos : Int) (x : List UInt8) (ks : List Int) (r : Int) (s' : RS) : Prop where
  no : s.code ≠ 0 → s' = s
  ok : s.code = 0 → r = s.ns.length ∧ s' = s.nod op pos x ks
theorem PutR.eqs {op pos r : Int} {x : List UInt8} {ks : List Int} (p : PutR s op pos x ks r s1) : s1.at_ = s.at_ ∧ s1.deep = s.deep ∧ s1.code = s.code := by
  by_cases h0 : s.code = 0
  · obtain ⟨_, rfl⟩ := p.ok h0; exact ⟨rfl, rfl, rfl⟩
  · rw [p.no h0]; exact ⟨rfl, rfl, rfl⟩
theorem Rn.put {cs ks : List Int} (h : Rn n s s1 cs j k) {op pos r : Int} {x : List UInt8} (p : PutR s1 op pos x ks r s2) (hp : cs.Perm (us ++ ks)) : Rn n s s2 (us ++ [r]) j (k + 1) := by
  by_cases h0 : s1.code = 0
  · obtain ⟨rfl, rfl⟩ := p.ok h0
    refine ⟨h.lt, h.le, h.d0, h.d1, h.bad, h.adv, fun h1 => ?_, fun h1 R hR => ?_⟩
    · have := h.few h0
      show (((s1.ns ++ [_]).length : Nat) : Int) + _ ≤ _
      rw [List.length_append, List.length_singleton]
      show ((s1.ns.length + 1 : Nat) : Int) + 2 * s.at_ ≤ s.ns.length + 2 * s1.at_ + (k + 1)
      omega
    · have := (h.ft h0 R hR).node (R' := R ++ us) (ks := ks) (x := ⟨op, 0, pos, x, ks⟩) (by rw [List.append_assoc]; exact hp.append_left R) rfl
      rw [List.append_assoc] at this
      exact this
  · rw [p.no h0]
    exact h.no h0
theorem Sk.up (h : Sk n s) (hd : s.deep < 60) : Sk n (s.dp (s.deep + 1)) := ⟨h.lt, by have := h.d0; show 0 ≤ s.deep + 1; omega, by show s.deep + 1 ≤ 60; omega, h.few, h.ft⟩
end
/-- what tokens may be -/
structure Tok6 (L : List Go.Pa.Tk) : Prop where
  len : L.length ≤ 400000
  fin : ∀ (i : Nat) t, L[i]? = some t → t.kind ≠ 8 → i + 1 < L.length
  txt : (L.map fun t => t.text.length).sum < 1000000
theorem tok_len {L : List Go.Pa.Tk} (h : Tok6 L) {i : Nat} {t : Go.Pa.Tk} (ht : L[i]? = some t) : t.text.length < 1000000 := by
  have h1 := h.txt
  have hm := List.mem_of_getElem? ht
  have h2 : ∀ (l : List Go.Pa.Tk), t ∈ l → t.text.length ≤ (l.map fun t => t.text.length).sum := fun l hl => by
    induction l with
    | nil => cases hl
    | cons a r ih =>
      rw [List.map_cons, List.sum_cons]
      rcases List.mem_cons.1 hl with rfl | hl
      · omega
      · have := ih hl; omega
  have := h2 L hm
  omega
end Go.As
