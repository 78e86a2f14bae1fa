/-
  Proved here: plain: a text parsed with a line put behind it: no node ahead of the last is another. No program stands here.
-/
import Derived.Test.YtfbenelagdcdgaaDoorBhB
import Derived.Test.YtfbenelagdcdgaaDoorBhC
namespace Go.Pa.Bh
open Go.Pa
section
variable {L L' : List Tk} {nameB : B → Bool} {e : Nat}
/-- statements, up to the end -/
theorem file_two (T : Two L L' e) : ∀ (n m : Nat), n ≤ m → ∀ (l : List Int) (s : St) (l1 : List Int) (s1 : St), run L nameB n (.fileGo l) s = some (.ok l1 s1) →
    s1.at_ = e ∧ l1.length + s.at_ ≤ l.length + s1.at_ ∧ l.length ≤ l1.length ∧ (l1.length = l.length → l1 = l ∧ s1 = s) ∧ ∃ m1, m - n ≤ m1 ∧ run L' nameB m (.fileGo l) s = run L' nameB (m1 + 1) (.fileGo l1) s1 := by
  intro n
  induction n with
  | zero => intro m _ l s l1 s1 h; cases h
  | succ n ih =>
    intro m hm l s l1 s1 h
    obtain ⟨m, rfl⟩ : ∃ k, m = k + 1 := ⟨m - 1, by omega⟩
    obtain ⟨t, s2, ht, h2⟩ := bnd_ok (show bnd (tok L) _ s = _ from h)
    obtain ⟨ht, rfl⟩ := tok_ok ht
    by_cases h8 : t.kind = 8
    · rw [if_neg (by rw [h8]; decide)] at h2
      cases h2
      exact ⟨(T.fin _ t ht).1 h8, Nat.le_refl _, Nat.le_refl _, fun _ => ⟨rfl, rfl⟩, m, by omega, rfl⟩
    · rw [if_pos h8] at h2
      obtain ⟨k, s3, h3, h4⟩ := bnd_ok h2
      have hl : l.length < 1000000 := by
        unfold grow at h4
        split at h4
        · assumption
        · cases h4
      have h5 : run L nameB n (.fileGo (l ++ [k])) s3 = some (.ok l1 s1) := by
        unfold grow at h4
        rw [if_pos hl] at h4
        exact h4
      obtain ⟨i1, i2, i3, i4, m1, i5, i6⟩ := ih m (by omega) _ _ _ _ h5
      obtain ⟨j1, j2⟩ := all_two (nameB := nameB) T n m (by omega) (.statement true) s2 trivial k s3 h3
      simp only [mov, lim, List.length_append, List.length_singleton] at i2 i3 i4 j1 j2
      have hle : s3.at_ ≤ e := by omega
      refine ⟨i1, by omega, by omega, fun he => by omega, m1, by omega, ?_⟩
      have hlt : s2.at_ < e := by omega
      have ht' : ∃ t', L'[s2.at_]? = some t' ∧ t'.kind ≠ 8 := by
        rcases T.same _ t ht hlt with h6 | ⟨_, t', h6, h7, _⟩
        · exact ⟨t, h6, h8⟩
        · exact ⟨t', h6, by rw [h7]; decide⟩
      obtain ⟨t', ht1, ht2⟩ := ht'
      show bnd (tok L') _ s2 = _
      rw [bnd_go (tok_go ht1), if_pos ht2, bnd_go (j2 (by omega))]
      unfold grow
      rw [if_pos hl]
      exact i6
/-! one line more -/
/-- the signs that go on -/
def goOn : List (List B) := [[[46]], [[40]], [[91]], signs 3, signs 2, [[110, 111, 116]], [[61, 61], [33, 61], [60], [60, 61], [62], [62, 61], [105, 110]], signs 1, signs 0, [[105, 102]], [[44]]]
theorem is_go {s : St} {t : Tk} (ht : L[s.at_]? = some t) (ss : List B) : is_ L ss s = some (.ok (isB t ss) s) := by unfold is_; rw [bnd_go (tok_go ht)]
variable {s : St} {t u : Tk} (ht : L[s.at_]? = some t) (hu : L[s.at_ + 1]? = some u) (hf : ∀ ss ∈ goOn, isB u ss = false) (ho : s.out.length < 1000000)
/-- behind a word or a number -/
def leafS (s : St) (op : Int) (t : Tk) : St := ⟨s.at_ + 1, s.out ++ [⟨op, 0, t.pos, t.text, []⟩], s.deep, s.defs, s.fors⟩
include ht ho
theorem atom_go (n : Nat) {op : Int} (hk : (t.kind = 1 ∧ op = 6) ∨ (t.kind = 2 ∧ op = 4)) : run L nameB (n + 1) .atom s = some (.ok (s.out.length : Int) (leafS s op t)) := by
  show body L nameB (fun {_} g => run L nameB n g) .atom s = _
  dsimp only [body]
  rw [bnd_go (tok_go ht)]
  rcases hk with ⟨hk, rfl⟩ | ⟨hk, rfl⟩
  · rw [if_pos hk]
    show node 6 t.pos t.text [] { s with at_ := s.at_ + 1 } = _
    unfold node
    rw [if_pos ho]; rfl
  · rw [if_neg (by rw [hk]; decide), if_pos hk]
    show node 4 t.pos t.text [] { s with at_ := s.at_ + 1 } = _
    unfold node
    rw [if_pos ho]; rfl
include hu hf
theorem many_go (n : Nat) {op : Int} (hk : (t.kind = 1 ∧ op = 6) ∨ (t.kind = 2 ∧ op = 4)) : run L nameB (n + 11) .many s = some (.ok ((s.out.length : Int), false) (leafS s op t)) := by
  have h4 : t.kind ≠ 4 := by rcases hk with ⟨h, _⟩ | ⟨h, _⟩ <;> rw [h] <;> decide
  have hu' : L[(leafS s op t).at_]? = some u := hu
  have hno : ∀ ss, isB t ss = false := fun ss => isBn h4
  have a1 : ∀ n, run L nameB (n + 2) .primary s = some (.ok (s.out.length : Int) (leafS s op t)) := fun n => by
    show body L nameB (fun {_} g => run L nameB (n + 1) g) .primary s = _
    dsimp only [body]
    rw [bnd_go (atom_go ht ho n hk)]
    show body L nameB (fun {_} g => run L nameB n g) (.primGo _) _ = _
    dsimp only [body]
    rw [bnd_go (tok_go hu'), bnd_go (take_no hu' (hf _ (by decide))), if_neg (by decide), hf [[40]] (by decide), hf [[91]] (by decide), if_neg (by decide), if_neg (by decide)]
  have lg : ∀ n lv, isB u (signs lv) = false → run L nameB (n + 1) (.leftGo lv (s.out.length : Int)) (leafS s op t) = some (.ok (s.out.length : Int) (leafS s op t)) := fun n lv h => by
    show body L nameB (fun {_} g => run L nameB n g) (.leftGo lv _) _ = _
    dsimp only [body]
    rw [bnd_go (is_go hu' _), h, if_neg (by decide)]
  have a2 : ∀ n, run L nameB (n + 3) .unary s = some (.ok (s.out.length : Int) (leafS s op t)) := fun n => by
    show body L nameB (fun {_} g => run L nameB (n + 2) g) .unary s = _
    dsimp only [body]
    rw [bnd_go (is_go ht _), hno, if_neg (by decide)]
    exact a1 n
  have a3 : ∀ n, run L nameB (n + 4) (.left 3) s = some (.ok (s.out.length : Int) (leafS s op t)) := fun n => by
    show bnd (run L nameB (n + 3) .unary) (fun k => run L nameB (n + 3) (.leftGo 3 k)) s = _
    rw [bnd_go (a2 n)]
    exact lg _ 3 (hf _ (by decide))
  have a4 : ∀ n, run L nameB (n + 5) (.left 2) s = some (.ok (s.out.length : Int) (leafS s op t)) := fun n => by
    show bnd (run L nameB (n + 4) (.left 3)) (fun k => run L nameB (n + 4) (.leftGo 2 k)) s = _
    rw [bnd_go (a3 n)]
    exact lg _ 2 (hf _ (by decide))
  have a5 : ∀ n, run L nameB (n + 6) .compare s = some (.ok (s.out.length : Int) (leafS s op t)) := fun n => by
    show body L nameB (fun {_} g => run L nameB (n + 5) g) .compare s = _
    dsimp only [body]
    rw [bnd_go (a4 n), bnd_go (tok_go hu'), hf [[110, 111, 116]] (by decide), hf [[61, 61], [33, 61], [60], [60, 61], [62], [62, 61], [105, 110]] (by decide), if_neg (by decide), if_neg (by decide)]
  have a6 : ∀ n, run L nameB (n + 7) .not_ s = some (.ok (s.out.length : Int) (leafS s op t)) := fun n => by
    show body L nameB (fun {_} g => run L nameB (n + 6) g) .not_ s = _
    dsimp only [body]
    rw [bnd_go (is_go ht _), hno, if_neg (by decide)]
    exact a5 n
  have a7 : ∀ n, run L nameB (n + 8) (.left 1) s = some (.ok (s.out.length : Int) (leafS s op t)) := fun n => by
    show bnd (run L nameB (n + 7) .not_) (fun k => run L nameB (n + 7) (.leftGo 1 k)) s = _
    rw [bnd_go (a6 n)]
    exact lg _ 1 (hf _ (by decide))
  have a8 : ∀ n, run L nameB (n + 9) (.left 0) s = some (.ok (s.out.length : Int) (leafS s op t)) := fun n => by
    show bnd (run L nameB (n + 8) (.left 1)) (fun k => run L nameB (n + 8) (.leftGo 0 k)) s = _
    rw [bnd_go (a7 n)]
    exact lg _ 0 (hf _ (by decide))
  have a9 : run L nameB (n + 10) .test s = some (.ok (s.out.length : Int) (leafS s op t)) := by
    show body L nameB (fun {_} g => run L nameB (n + 9) g) .test s = _
    dsimp only [body]
    rw [bnd_go (a8 n), bnd_go (is_go hu' _), hf [[105, 102]] (by decide), if_neg (by decide)]
  show body L nameB (fun {_} g => run L nameB (n + 10) g) .many s = _
  dsimp only [body]
  rw [bnd_go (tok_go ht), bnd_go a9]
  have hg : run L nameB (n + 10) (.manyGo [(s.out.length : Int)] false) (leafS s op t) = some (.ok ([(s.out.length : Int)], false) (leafS s op t)) := by
    show body L nameB (fun {_} g => run L nameB (n + 9) g) (.manyGo _ false) _ = _
    dsimp only [body]
    rw [bnd_go (take_no hu' (hf _ (by decide))), if_neg (by decide)]
  rw [bnd_go hg]
  rfl
end
section
variable {L : List Tk} {nameB : B → Bool} {s : St} {a b c d f : Tk}
/-- what a line like 'zz = 1' lays -/
def lineS (s : St) (a b c : Tk) : St := ⟨s.at_ + 4, s.out ++ [⟨6, 0, a.pos, a.text, []⟩] ++ [⟨4, 0, c.pos, c.text, []⟩] ++ [⟨36, 0, b.pos, [], [(s.out.length : Int), (s.out.length : Int) + 1]⟩], s.deep, s.defs, s.fors⟩
theorem line_go (ha : L[s.at_]? = some a) (hb : L[s.at_ + 1]? = some b) (hc : L[s.at_ + 2]? = some c) (hd : L[s.at_ + 3]? = some d) (hf : L[s.at_ + 4]? = some f) (ka : a.kind = 1) (kb : b.kind = 4) (tb : b.text = [61]) (kc : c.kind = 2) (kd : d.kind = 5) (kf : f.kind = 8)
    (ho : s.out.length + 2 < 1000000) {l : List Int} (hl : l.length < 1000000) (n : Nat) : run L nameB (n + 14) (.fileGo l) s = some (.ok (l ++ [(s.out.length : Int) + 2]) (lineS s a b c)) := by
  have hfb : ∀ ss ∈ goOn, isB b ss = false := fun ss h => by
    have : ∀ ss ∈ goOn, ss.contains [61] = false := by decide
    unfold isB
    rw [tb, this ss h, Bool.and_false]
  have hfd : ∀ ss ∈ goOn, isB d ss = false := fun ss _ => isBn (by rw [kd]; decide)
  have na : ∀ ss, isB a ss = false := fun ss => isBn (by rw [ka]; decide)
  have m1 : run L nameB (n + 11) .many s = _ := many_go ha hb hfb (by omega) n (op := 6) (.inl ⟨ka, rfl⟩)
  have hb' : L[(leafS s 6 a).at_]? = some b := hb
  have ol : (leafS s 6 a).out.length = s.out.length + 1 := by simp [leafS]
  have m2 : run L nameB (n + 11) .many { leafS s 6 a with at_ := (leafS s 6 a).at_ + 1 } = _ := many_go (s := { leafS s 6 a with at_ := (leafS s 6 a).at_ + 1 }) hc hd hfd (by show (leafS s 6 a).out.length < _; omega) n (op := 4) (.inr ⟨kc, rfl⟩)
  have tg : run L nameB (n + 11) (.target (s.out.length : Int)) (leafS s 6 a) = some (.ok true (leafS s 6 a)) := by
    show body L nameB (fun {_} g => run L nameB (n + 10) g) (.target _) _ = _
    dsimp only [body]
    have hn : nodeAt (s.out.length : Int) (leafS s 6 a) = some (.ok ⟨6, 0, a.pos, a.text, []⟩ (leafS s 6 a)) := by
      unfold nodeAt
      rw [if_neg (by omega)]
      simp [leafS]
    rw [bnd_go hn]
    rfl
  have sm : run L nameB (n + 12) (.simple true) s = some (.ok ((s.out.length : Int) + 2) { lineS s a b c with at_ := s.at_ + 3 }) := by
    show body L nameB (fun {_} g => run L nameB (n + 11) g) (.simple true) s = _
    dsimp only [body]
    rw [bnd_go (tok_go ha), bnd_go (take_no ha (na _)), if_neg (by decide), na, if_neg (by decide), na, if_neg (by decide), na, if_neg (by decide), bnd_go m1, bnd_go (tok_go hb')]
    have b1 : isB b [[61]] = true := by unfold isB; rw [kb, tb]; rfl
    rw [b1, if_pos rfl, bnd_go tg, if_pos rfl]
    show bnd (run L nameB (n + 11) .many) _ { leafS s 6 a with at_ := (leafS s 6 a).at_ + 1 } = _
    rw [bnd_go m2]
    unfold node
    rw [if_pos (by simp [leafS]; omega)]
    simp [leafS, lineS]
  have st : run L nameB (n + 13) (.statement true) s = some (.ok ((s.out.length : Int) + 2) (lineS s a b c)) := by
    show body L nameB (fun {_} g => run L nameB (n + 12) g) (.statement true) s = _
    dsimp only [body]
    rw [bnd_go (tok_go ha), na, if_neg (by decide), na, if_neg (by decide), na, if_neg (by decide), bnd_go sm]
    have hk : kinds L 5 { lineS s a b c with at_ := s.at_ + 3 } = some (.ok (d.text, d.pos) (lineS s a b c)) := by
      unfold kinds
      rw [bnd_go (tok_go (s := { lineS s a b c with at_ := s.at_ + 3 }) hd), if_neg (by rw [kd]; decide), if_pos (by decide)]
      rfl
    rw [bnd_go hk]
  show body L nameB (fun {_} g => run L nameB (n + 13) g) (.fileGo l) s = _
  dsimp only [body]
  rw [bnd_go (tok_go ha), if_pos (by rw [ka]; decide), bnd_go st]
  unfold grow
  rw [if_pos hl]
  show body L nameB (fun {_} g => run L nameB (n + 12) g) (.fileGo _) _ = _
  dsimp only [body]
  rw [bnd_go (tok_go (s := lineS s a b c) hf), if_neg (by rw [kf]; decide)]
end
/-- the file's end -/
theorem file_behind {L L' : List Tk} {nameB : B → Bool} {e : Nat} (T : Two L L' e) {a b c d f : Tk} (ha : L'[e]? = some a) (hb : L'[e + 1]? = some b) (hc : L'[e + 2]? = some c) (hd : L'[e + 3]? = some d) (hf : L'[e + 4]? = some f) (ka : a.kind = 1) (kb : b.kind = 4) (tb : b.text = [61]) (kc : c.kind = 2) (kd : d.kind = 5) (kf : f.kind = 8)
    (hL : e ≤ 400000) {n m : Nat} (hm : n + 20 ≤ m) {s' : St} (hs : s'.out.length ≤ 900000) (h : run L nameB (n + 1) .file st0 = some (.ok () s')) :
    ∃ s2 : St, run L' nameB (m + 1) .file st0 = some (.ok () s2) ∧ ((s2.out.length = s'.out.length + 3 ∧ ∀ i : Nat, i + 1 < s'.out.length → s2.out[i]? = s'.out[i]?) ∨ (s'.out.length = 2 ∧ s2.out.length = 4)) := by
  obtain ⟨l1, s1, h1, h2⟩ := bnd_ok (show bnd (run L nameB n (.fileGo [])) _ st0 = _ from h)
  obtain ⟨i1, i2, _, i4, m1, i5, i6⟩ := file_two T n m (by omega) _ _ _ _ h1
  obtain ⟨l2, s3, h3, h4⟩ := bnd_ok h2
  obtain ⟨x, s4, h5, h6⟩ := bnd_ok h4
  obtain ⟨k, s5, h7, h8⟩ := bnd_ok h6
  cases h8
  have e4 : s4 = s3 ∧ 0 ≤ l2.headD 0 ∧ s3.out[(l2.headD 0).toNat]? = some x := by
    unfold nodeAt at h5
    split at h5
    · cases h5
    · cases hx : s3.out[(l2.headD 0).toNat]? with
      | none => rw [hx] at h5; cases h5
      | some y => rw [hx] at h5; cases h5; exact ⟨rfl, by omega, rfl⟩
  obtain ⟨rfl, hd0, hx⟩ := e4
  have e5 : s'.out = s4.out ++ [⟨47, 0, x.pos, [], l2⟩] := by
    unfold node at h7
    split at h7
    · cases h7; rfl
    · cases h7
  have hlen : s'.out.length = s4.out.length + 1 := by rw [e5]; simp
  -- the line more
  have hl1 : l1.length < 1000000 := by simp [st0] at i2; omega
  have key : s1.out.length + 2 < 1000000 → run L' nameB m (.fileGo []) st0 = some (.ok (l1 ++ [(s1.out.length : Int) + 2]) (lineS s1 a b c)) := fun ho => by
    rw [i6, show m1 + 1 = (m1 - 13) + 14 by omega]
    exact line_go (by rw [i1]; exact ha) (by rw [i1]; exact hb) (by rw [i1]; exact hc) (by rw [i1]; exact hd) (by rw [i1]; exact hf) ka kb tb kc kd kf ho hl1 (m1 - 13)
  have fin : ∀ y : Nd, s1.out.length + 5 < 1000000 → (lineS s1 a b c).out[((l1 ++ [(s1.out.length : Int) + 2]).headD 0).toNat]? = some y → 0 ≤ (l1 ++ [(s1.out.length : Int) + 2]).headD 0 → run L' nameB (m + 1) .file st0 = some (.ok () ((lineS s1 a b c).nod 47 y.pos [] (l1 ++ [(s1.out.length : Int) + 2]))) := fun y ho hy h0 => by
    show body L' nameB (fun {_} g => run L' nameB m g) .file st0 = _
    dsimp only [body]
    rw [bnd_go (key (by omega)), if_neg (by simp)]
    rw [bnd_go (show ret (l1 ++ [(s1.out.length : Int) + 2]) (lineS s1 a b c) = some (.ok (l1 ++ [(s1.out.length : Int) + 2]) (lineS s1 a b c)) from rfl)]
    have hn : nodeAt ((l1 ++ [(s1.out.length : Int) + 2]).headD 0) (lineS s1 a b c) = some (.ok y (lineS s1 a b c)) := by
      unfold nodeAt
      rw [if_neg (by omega), hy]
    rw [bnd_go hn]
    have hn2 : node 47 y.pos [] (l1 ++ [(s1.out.length : Int) + 2]) (lineS s1 a b c) = some (.ok ((lineS s1 a b c).out.length : Int) ((lineS s1 a b c).nod 47 y.pos [] (l1 ++ [(s1.out.length : Int) + 2]))) := by
      unfold node
      rw [if_pos (by simp [lineS]; omega)]
    rw [bnd_go hn2]
  by_cases hnil : l1 = []
  · obtain ⟨_, hs1⟩ := i4 (by rw [hnil])
    subst hnil hs1
    rw [if_pos rfl] at h3
    have e3 : s4.out.length = 1 := by
      obtain ⟨_, s6, h9, h10⟩ := bnd_ok h3
      cases h10
      unfold node at h9
      rw [if_pos (by decide)] at h9
      cases h9
      rfl
    refine ⟨_, fin ⟨36, 0, b.pos, [], [0, 1]⟩ (by decide) rfl (by decide), .inr ⟨by rw [hlen, e3], by simp [lineS, st0]⟩⟩
  · rw [if_neg hnil] at h3
    cases h3
    obtain ⟨j, l, rfl⟩ : ∃ j l, l1 = j :: l := by cases l1 with | nil => exact absurd rfl hnil | cons j l => exact ⟨j, l, rfl⟩
    have hj : j.toNat < s1.out.length := (List.getElem?_eq_some_iff.1 hx).1
    refine ⟨_, fin x (by omega) ?_ hd0, .inl ⟨by rw [hlen]; simp [lineS], fun i hi => ?_⟩⟩
    · show (s1.out ++ [_] ++ [_] ++ [_])[j.toNat]? = _
      rw [List.append_assoc, List.append_assoc, List.getElem?_append_left hj]
      exact hx
    · rw [e5]
      show (s1.out ++ [_] ++ [_] ++ [_] ++ [_])[i]? = _
      rw [List.append_assoc, List.append_assoc, List.append_assoc, List.getElem?_append_left (by omega), List.getElem?_append_left (by omega)]
end Go.Pa.Bh
