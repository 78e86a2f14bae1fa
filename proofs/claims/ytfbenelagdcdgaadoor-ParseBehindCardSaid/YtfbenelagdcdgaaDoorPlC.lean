/-
  Proved here: plain: what the plain parser's functions come to: they end, and lay trees that may be. No program stands here.
-/
import Derived.Test.YtfbenelagdcdgaaDoorPlB
namespace Go.Pa
open Go.SX (perm_cnt cnt_append cnt_cons cnt_nil)
open Go.Tr (nd nd_at exprB stmtB digitsOk paramsGo)
/-- what is called, and arguments, so far -/
def CallOk (o : List Nd) (ks : List Int) (names : List B) : Prop := ∃ a as ns, ks = a :: (as ++ ns) ∧ E o a ∧ (∀ k ∈ as, E o k) ∧ (∀ k ∈ ns, Op o k 11) ∧ (names = [] → ns = [])
/-- a def's parameters so far -/
def DefOk (o : List Nd) (l : List Int) (ns : List B) (g : Bool) : Prop := (∀ k ∈ l, Op o k 46) ∧ paramsGo o l [] false = true ∧ ns = l.map (fun k => (nd o k).s) ∧ (∀ k ∈ l, (nd o k).kids ≠ [] → g = true) ∧ (g = true → ∃ k ∈ l, (nd o k).kids ≠ [])
/-- a statement -/
def Stm (o : List Nd) (k : Int) (w d p : Bool) : Prop := At o k (fun op _ _ => stmtB op = true) ∧ Pl o k w d p
theorem CallOk.ext {o o' : List Nd} {ks : List Int} {ns : List B} (h : CallOk o ks ns) (e : Ext o o') : CallOk o' ks ns := by
  obtain ⟨a, as, ms, h1, h2, h3, h4, h5⟩ := h
  exact ⟨a, as, ms, h1, h2.ext e, fun k hk => (h3 k hk).ext e, fun k hk => (h4 k hk).ext e, h5⟩
theorem Stm.ext {o o' : List Nd} {k : Int} {w d p : Bool} (h : Stm o k w d p) (e : Ext o o') : Stm o' k w d p := ⟨h.1.ext e, h.2.ext e⟩
theorem DefOk.ext {o o' : List Nd} {l : List Int} {ns : List B} {g : Bool} (h : DefOk o l ns g) (e : Ext o o') : DefOk o' l ns g := by
  obtain ⟨h1, h2, h3, h4, h5⟩ := h
  refine ⟨fun k hk => (h1 k hk).ext e, by rw [params_ext e _ _ _ h1]; exact h2, ?_, fun k hk hn => h4 k hk ?_, fun hg => ?_⟩
  · rw [h3]
    exact List.map_congr_left fun k hk => (nd_ext (h1 k hk) e).1.symm
  · rw [← (nd_ext (h1 k hk) e).2]; exact hn
  · obtain ⟨k, hk, hn⟩ := h5 hg
    exact ⟨k, hk, by rw [(nd_ext (h1 k hk) e).2]; exact hn⟩
theorem params_snoc {o : List Nd} {k : Int} : ∀ (l : List Int) (ns : List B) (g : Bool), paramsGo o l ns g = true → (nd o k).s ∉ ns ++ l.map (fun k => (nd o k).s) → ((g = true ∨ ∃ j ∈ l, (nd o j).kids ≠ []) → (nd o k).kids ≠ []) → paramsGo o (l ++ [k]) ns g = true
  | [], ns, g, _, h2, h3 => by
    show paramsGo o [k] ns g = true
    unfold paramsGo
    rw [if_neg]
    · rfl
    · rw [Bool.or_eq_true, decide_eq_true_eq, Bool.and_eq_true, decide_eq_true_eq]
      rintro (h | ⟨h, h4⟩)
      · exact h2 (by simpa using h)
      · exact h3 (.inl h) (List.length_eq_zero_iff.1 h4)
  | j :: r, ns, g, h1, h2, h3 => by
    show paramsGo o (j :: (r ++ [k])) ns g = true
    unfold paramsGo at h1 ⊢
    split at h1
    · cases h1
    · next hn =>
      rw [if_neg hn]
      refine params_snoc r _ _ h1 (by simpa [List.append_assoc] using h2) ?_
      rintro (h | ⟨i, hi, h4⟩)
      · rw [Bool.or_eq_true, decide_eq_true_eq] at h
        rcases h with h | h
        · exact h3 (.inl h)
        · exact h3 (.inr ⟨j, List.mem_cons_self .., List.length_pos_iff.1 h⟩)
      · exact h3 (.inr ⟨i, List.mem_cons_of_mem _ hi, h4⟩)
section
variable (L : List Tk) (nameB : B → Bool) (okp : Int → Prop)
def txtN (i : Nat) : Nat := ((L.take i).map fun t => t.text.length).sum
/-- what is known ahead, with fuel for rank r -/
def PB (n : Nat) (R : List Int) (s : St) (r : Nat) : Prop := W L nameB okp s 0 R 0 0 s ∧ (L.length - s.at_) * 2000000000000 + r ≤ n
def lrank : Nat → Nat
  | 0 => 13
  | 1 => 12
  | 2 => 9
  | _ => 8
/-- ahead of each function -/
def PreF (n : Nat) (R : List Int) (s : St) : {α : Type} → F α → Prop
  | _, .test => PB L nameB okp n R s 14
  | _, .left lv => PB L nameB okp n R s (lrank lv)
  | _, .leftGo _ k => PB L nameB okp n (R ++ [k]) s 1 ∧ E s.out k
  | _, .not_ => PB L nameB okp n R s 11
  | _, .compare => PB L nameB okp n R s 10
  | _, .unary => PB L nameB okp n R s 6
  | _, .primary => PB L nameB okp n R s 5
  | _, .primGo k => PB L nameB okp n (R ++ [k]) s 4 ∧ E s.out k
  | _, .call k => PB L nameB okp n (R ++ [k]) s 3 ∧ E s.out k
  | _, .callGo ks ns => PB L nameB okp n (R ++ ks) s 15 ∧ CallOk s.out ks ns
  | _, .index k => PB L nameB okp n (R ++ [k]) s 3 ∧ E s.out k
  | _, .atom => PB L nameB okp n R s 3
  | _, .strGo x => PB L nameB okp n R s 1 ∧ x.length ≤ txtN L s.at_
  | _, .round => PB L nameB okp n R s 2
  | _, .square => PB L nameB okp n R s 2
  | _, .sqGo pos l => PB L nameB okp n (R ++ l) s 15 ∧ (∀ k ∈ l, E s.out k) ∧ 1 ≤ s.deep ∧ okp pos
  | _, .comp pos item => PB L nameB okp n (R ++ [item]) s 1 ∧ E s.out item ∧ 1 ≤ s.deep ∧ okp pos
  | _, .curly => PB L nameB okp n R s 2
  | _, .curlyGo l => PB L nameB okp n (R ++ l) s 15 ∧ (∀ k ∈ l, E s.out k) ∧ l.length % 2 = 0
  | _, .many => PB L nameB okp n R s 15
  | _, .manyGo l c => PB L nameB okp n (R ++ l) s 1 ∧ (∀ k ∈ l, E s.out k) ∧ l ≠ [] ∧ (c = false → l.length = 1)
  | _, .some_ _ => PB L nameB okp n R s 8
  | _, .someGo _ l c => PB L nameB okp n (R ++ l) s 1 ∧ (∀ k ∈ l, E s.out k ∧ Tg s.out k) ∧ l ≠ [] ∧ (c = false → l.length = 1)
  | _, .one => PB L nameB okp n R s 7
  | _, .target k => W L nameB okp s 0 R 0 0 s ∧ (0 ≤ k ∧ k < s.out.length) ∧ (k.toNat + 1) * 1000002 ≤ n
  | _, .targetGo ks => W L nameB okp s 0 R 0 0 s ∧ ∃ b : Nat, (∀ k ∈ ks, 0 ≤ k ∧ k < (b : Int)) ∧ b ≤ s.out.length ∧ b * 1000002 + ks.length + 1 ≤ n
  | _, .statement w => PB L nameB okp n R s 21 ∧ (w = true → s.defs = false)
  | _, .simple _ => PB L nameB okp n R s 20
  | _, .answer => PB L nameB okp n R s 16
  | _, .load => PB L nameB okp n R s 1
  | _, .loadGo l => PB L nameB okp n (R ++ l) s 1 ∧ (∀ k ∈ l, Ld s.out k)
  | _, .block => PB L nameB okp n R s 1
  | _, .blockGo l => PB L nameB okp n (R ++ l) s 22 ∧ (∀ k ∈ l, Stm s.out k false s.defs (decide (s.fors ≠ 0)))
  | _, .cond => PB L nameB okp n R s 1 ∧ ∀ t, L[s.at_]? = some t → t.kind ≠ 8
  | _, .loop => PB L nameB okp n R s 1
  | _, .def_ => PB L nameB okp n R s 1 ∧ s.defs = false
  | _, .defGo l ns g => PB L nameB okp n (R ++ l) s 1 ∧ DefOk s.out l ns g
  | _, .file => PB L nameB okp n [] s 30 ∧ s.defs = false ∧ s.fors = 0
  | _, .fileGo l => PB L nameB okp n l s 29 ∧ s.defs = false ∧ s.fors = 0 ∧ ∀ k ∈ l, Stm s.out k true false false
/-- an expression was read -/
def PE (e : Nat) (R : List Int) (s : St) (k : Int) (s' : St) : Prop := W L nameB okp s 0 (R ++ [k]) e e s' ∧ E s'.out k
/-- a statement -/
def PS (w : Bool) (R : List Int) (s : St) (k : Int) (s' : St) : Prop := W L nameB okp s 0 (R ++ [k]) 0 1 s' ∧ Stm s'.out k w s.defs (decide (s.fors ≠ 0))
/-- behind each function -/
def PostF (R : List Int) (s : St) : {α : Type} → F α → α → St → Prop
  | _, .test, k, s' => PE L nameB okp 1 R s k s'
  | _, .left _, k, s' => PE L nameB okp 1 R s k s'
  | _, .leftGo _ _, k, s' => PE L nameB okp 0 R s k s'
  | _, .not_, k, s' => PE L nameB okp 1 R s k s'
  | _, .compare, k, s' => PE L nameB okp 1 R s k s'
  | _, .unary, k, s' => PE L nameB okp 1 R s k s'
  | _, .primary, k, s' => PE L nameB okp 1 R s k s'
  | _, .primGo _, k, s' => PE L nameB okp 0 R s k s'
  | _, .call _, k, s' => PE L nameB okp 1 R s k s'
  | _, .callGo _ _, ks, s' => W L nameB okp s 0 (R ++ ks) 0 0 s' ∧ CallOk s'.out ks [[]]
  | _, .index _, k, s' => PE L nameB okp 1 R s k s'
  | _, .atom, k, s' => PE L nameB okp 1 R s k s'
  | _, .strGo _, x, s' => W L nameB okp s 0 R 0 0 s' ∧ s'.out = s.out ∧ x.length < 1000000 ∧ ∀ t, L[s.at_]? = some t → t.kind = 3 → W L nameB okp s 0 R 2 1 s'
  | _, .round, k, s' => PE L nameB okp 1 R s k s'
  | _, .square, k, s' => PE L nameB okp 1 R s k s'
  | _, .sqGo _ _, k, s' => PE L nameB okp 1 R { s with deep := s.deep - 1 } k s'
  | _, .comp _ _, k, s' => PE L nameB okp 1 R { s with deep := s.deep - 1 } k s'
  | _, .curly, k, s' => PE L nameB okp 1 R s k s'
  | _, .curlyGo _, l, s' => W L nameB okp s 0 (R ++ l) 0 0 s' ∧ (∀ k ∈ l, E s'.out k) ∧ l.length % 2 = 0
  | _, .many, x, s' => PE L nameB okp 1 R s x.1 s'
  | _, .manyGo _ c, x, s' => W L nameB okp s 0 (R ++ x.1) (if x.2 && !c then 1 else 0) 0 s' ∧ (∀ k ∈ x.1, E s'.out k) ∧ x.1 ≠ [] ∧ (x.2 = false → x.1.length = 1)
  | _, .some_ _, x, s' => PE L nameB okp 1 R s x.1 s' ∧ Tg s'.out x.1
  | _, .someGo _ _ c, x, s' => W L nameB okp s 0 (R ++ x.1) (if x.2 && !c then 1 else 0) 0 s' ∧ (∀ k ∈ x.1, E s'.out k ∧ Tg s'.out k) ∧ x.1 ≠ [] ∧ (x.2 = false → x.1.length = 1)
  | _, .one, k, s' => PE L nameB okp 1 R s k s' ∧ Tg s'.out k
  | _, .target k, b, s' => s' = s ∧ (b = true → Tg s.out k)
  | _, .targetGo ks, b, s' => s' = s ∧ (b = true → ∀ k ∈ ks, Tg s.out k)
  | _, .statement w, k, s' => PS L nameB okp w R s k s'
  | _, .simple w, k, s' => PS L nameB okp w R s k s'
  | _, .answer, k, s' => PS L nameB okp false R s k s'
  | _, .load, k, s' => PS L nameB okp true R s k s'
  | _, .loadGo _, l, s' => W L nameB okp s 0 (R ++ l) 0 0 s' ∧ ∀ k ∈ l, Ld s'.out k
  | _, .block, k, s' => W L nameB okp s 0 (R ++ [k]) 0 1 s' ∧ Op s'.out k 47 ∧ Pl s'.out k false s.defs (decide (s.fors ≠ 0))
  | _, .blockGo _, l, s' => W L nameB okp s 0 (R ++ l) 0 0 s' ∧ (∀ k ∈ l, Stm s'.out k false s.defs (decide (s.fors ≠ 0))) ∧ l ≠ [] ∧ ∀ t, L[s'.at_]? = some t → t.kind = 7
  | _, .cond, k, s' => PS L nameB okp false R s k s'
  | _, .loop, k, s' => PS L nameB okp false R s k s'
  | _, .def_, k, s' => PS L nameB okp true R s k s'
  | _, .defGo _ _ _, l, s' => W L nameB okp s 0 (R ++ l) 0 0 s' ∧ (∀ k ∈ l, Op s'.out k 46) ∧ paramsGo s'.out l [] false = true
  | _, .file, _, s' => ∃ k x, s'.at_ < L.length ∧ (Fst nameB okp s'.out [k] ∧ k = (s'.out.length : Int) - 1) ∧ s'.out[k.toNat]? = some x ∧ x.op = 47 ∧ (∀ j ∈ x.kids, Pl s'.out j true false false) ∧ s'.out.length ≤ 2 * s'.at_ + 2
  | _, .fileGo _, l, s' => W L nameB okp s 0 l 0 0 s' ∧ (∀ k ∈ l, Stm s'.out k true false false) ∧ ∀ t, L[s'.at_]? = some t → t.kind = 8
end
/-- so of all with so much fuel -/
def All (L : List Tk) (nameB : B → Bool) (okp : Int → Prop) (n : Nat) : Prop := ∀ {α : Type} (f : F α) (R : List Int) (s : St), PreF L nameB okp n R s f → wp (run L nameB n f) s (PostF L nameB okp R s f)
section
variable {L : List Tk} {nameB : B → Bool} {okp : Int → Prop} {n : Nat} {R : List Int} {s : St}
theorem isB_text {t : Tk} {x : B} (h : isB t [x] = true) : t.text = x := by
  unfold isB at h
  rw [Bool.and_eq_true, List.contains_iff_mem] at h
  exact List.mem_singleton.1 h.2
theorem expr_small {a : Int} (h : exprB a = true) : a < 39 ∨ a = 46 := by
  unfold exprB at h
  simp only [Bool.and_eq_true, decide_eq_true_eq] at h
  omega
/-- the sign behind the next token -/
def aheadV' (L : List Tk) (s : St) : Bool := match L[s.at_ + 1]? with | some t => decide (t.kind = 4) && decide (t.text = [61]) | none => false
theorem fuel_tg {K M c A n a : Nat} (h1 : 1 ≤ A) (hn : A * K + 20 ≤ n + 1) (h : a + 1 ≤ M) (hK : M * c ≤ K) : (a + 1) * c ≤ n := by
  have h2 := Nat.mul_le_mul_right K h1
  have h3 := Nat.mul_le_mul_right c h
  generalize (a + 1) * c = x at *
  omega
theorem expr_two {a : Int} (h : a = 13 ∨ a = 18 ∨ a = 19 ∨ 21 ≤ a ∧ a ≤ 33) : exprB a = true := by
  unfold exprB
  simp only [Bool.and_eq_true, decide_eq_true_eq, Bool.not_eq_true', decide_eq_false_iff_not]
  omega
theorem op_two {x : B} {a : Int} (h : opOf x = some a) : a = 13 ∨ a = 18 ∨ a = 19 ∨ 21 ≤ a ∧ a ≤ 33 := by
  unfold opOf at h
  by_cases hx0 : x = [111, 114]
  · rw [if_pos hx0] at h; cases h; decide
  rw [if_neg hx0] at h
  by_cases hx1 : x = [97, 110, 100]
  · rw [if_pos hx1] at h; cases h; decide
  rw [if_neg hx1] at h
  by_cases hx2 : x = [61, 61]
  · rw [if_pos hx2] at h; cases h; decide
  rw [if_neg hx2] at h
  by_cases hx3 : x = [33, 61]
  · rw [if_pos hx3] at h; cases h; decide
  rw [if_neg hx3] at h
  by_cases hx4 : x = [60]
  · rw [if_pos hx4] at h; cases h; decide
  rw [if_neg hx4] at h
  by_cases hx5 : x = [60, 61]
  · rw [if_pos hx5] at h; cases h; decide
  rw [if_neg hx5] at h
  by_cases hx6 : x = [62]
  · rw [if_pos hx6] at h; cases h; decide
  rw [if_neg hx6] at h
  by_cases hx7 : x = [62, 61]
  · rw [if_pos hx7] at h; cases h; decide
  rw [if_neg hx7] at h
  by_cases hx8 : x = [105, 110]
  · rw [if_pos hx8] at h; cases h; decide
  rw [if_neg hx8] at h
  by_cases hx9 : x = [43]
  · rw [if_pos hx9] at h; cases h; decide
  rw [if_neg hx9] at h
  by_cases hx10 : x = [45]
  · rw [if_pos hx10] at h; cases h; decide
  rw [if_neg hx10] at h
  by_cases hx11 : x = [42]
  · rw [if_pos hx11] at h; cases h; decide
  rw [if_neg hx11] at h
  by_cases hx12 : x = [47, 47]
  · rw [if_pos hx12] at h; cases h; decide
  rw [if_neg hx12] at h
  by_cases hx13 : x = [37]
  · rw [if_pos hx13] at h; cases h; decide
  rw [if_neg hx13] at h
  cases h
theorem E.of {o : List Nd} {k a : Int} {x : B} {ks : List Int} (h : At o k fun op x' ks' => op = a ∧ x' = x ∧ ks' = ks) (ha : exprB a = true) : E o k := h.mono fun _ _ _ hp => by rw [hp.1]; exact ha
theorem Op.of {o : List Nd} {k a : Int} {x : B} {ks : List Int} (h : At o k fun op x' ks' => op = a ∧ x' = x ∧ ks' = ks) : Op o k a := h.mono fun _ _ _ hp => hp.1
theorem wp_op {α : Type} {x : B} {a : Int} (h : opOf x = some a) {f : Int → M α} {Q : α → St → Prop} (hf : wp (f a) s Q) : wp (bnd (op_ x) f) s Q := by
  unfold wp bnd op_ at *
  rw [h]
  exact hf

theorem part_ok (H : All L nameB okp n) {lv d c e r : Nat} {s0 : St} (w : W L nameB okp s0 d R c e s) (hn : (L.length - s0.at_) * 2000000000000 + r ≤ n + 1) (h : lrank lv ≤ r + e * 2000000000000) : wp (run L nameB n (part lv)) s (PE L nameB okp 1 R s) := by
  match lv, h with
  | 0, h => exact H (.left 1) R s ⟨w.pre, w.fuel hn h⟩
  | 1, h => exact H .not_ R s ⟨w.pre, w.fuel hn h⟩
  | 2, h => exact H (.left 3) R s ⟨w.pre, w.fuel hn h⟩
  | lv + 3, h => exact H .unary R s ⟨w.pre, w.fuel hn (by show 6 + 1 ≤ _; have h' : 8 ≤ r + e * 2000000000000 := h; omega)⟩
theorem g_test (T : Tks L nameB okp) (H : All L nameB okp n) (hp : PreF L nameB okp (n + 1) R s .test) : wp (body L nameB (fun {_} g => run L nameB n g) .test) s (PostF L nameB okp R s .test) := by
  obtain ⟨w, hn⟩ := hp
  dsimp only [body]
  refine wp_call (H (.left 0) R s ⟨w, w.fuel hn (by decide)⟩) ?_
  rintro a s1 ⟨w1, e1⟩
  refine w1.wpIs T fun t ht => ?_
  by_cases hb : isB t [[105, 102]] = true
  · rw [if_pos hb]
    refine w1.wpMust T fun t2 ht2 hb2 ho w2 => ?_
    refine w2.wpIn fun w3 => ?_
    refine wp_call (H (.left 0) _ _ ⟨w3.pre, w3.fuel hn (by decide)⟩) ?_
    rintro c s4 ⟨w4, e4⟩
    replace e1 := e1.ext w4.ext
    replace w4 := w3.call w4
    refine w4.wpMust T fun t5 _ _ _ w5 => ?_
    refine wp_call (H .test _ _ ⟨w5.pre, w5.fuel hn (by decide)⟩) ?_
    rintro l s6 ⟨w6, e6⟩
    replace e1 := e1.ext w6.ext
    replace e4 := e4.ext w6.ext
    replace w6 := w5.call w6
    refine w6.wpOut fun k w7 => ?_
    exact w7.end_ T (R2 := R) (ks := [c, a, l]) (perm_cnt fun x => by simp only [cnt_append, cnt_cons, cnt_nil]; omega) (.tern e4 e1 e6) ho fun s' w8 _ h8 => ⟨w8.weak (by decide) (by decide), E.of h8 rfl⟩
  · rw [if_neg hb]
    exact ⟨w1, e1⟩
theorem g_left (H : All L nameB okp n) {lv : Nat} (hp : PreF L nameB okp (n + 1) R s (.left lv)) : wp (body L nameB (fun {_} g => run L nameB n g) (.left lv)) s (PostF L nameB okp R s (.left lv)) := by
  obtain ⟨w, hn⟩ := hp
  dsimp only [body]
  refine wp_call (part_ok H w hn (by omega)) ?_
  rintro a s1 ⟨w1, e1⟩
  refine wp_mono (H (.leftGo lv a) R _ ⟨⟨w1.pre, w1.fuel hn (by omega)⟩, e1⟩) ?_
  rintro k' s' ⟨w4, e4⟩
  exact ⟨(w1.call w4).weak (by decide) (by decide), e4⟩
theorem signs_op {t : Tk} {lv : Nat} (hb : isB t (signs lv) = true) : ∃ o, opOf t.text = some o := by
  unfold isB at hb
  rw [Bool.and_eq_true, List.contains_iff_mem] at hb
  have h2 := hb.2
  match lv, h2 with
  | 0, h2 => exact ⟨19, by rw [List.mem_singleton.1 h2]; rfl⟩
  | 1, h2 => exact ⟨18, by rw [List.mem_singleton.1 h2]; rfl⟩
  | 2, h2 =>
    rcases List.mem_cons.1 h2 with h2 | h2
    · exact ⟨21, by rw [h2]; rfl⟩
    · exact ⟨22, by rw [List.mem_singleton.1 h2]; rfl⟩
  | lv + 3, h2 =>
    rcases List.mem_cons.1 h2 with h2 | h2
    · exact ⟨23, by rw [h2]; rfl⟩
    rcases List.mem_cons.1 h2 with h2 | h2
    · exact ⟨24, by rw [h2]; rfl⟩
    · exact ⟨25, by rw [List.mem_singleton.1 h2]; rfl⟩
theorem g_leftGo (T : Tks L nameB okp) (H : All L nameB okp n) {lv : Nat} {k : Int} (hp : PreF L nameB okp (n + 1) R s (.leftGo lv k)) : wp (body L nameB (fun {_} g => run L nameB n g) (.leftGo lv k)) s (PostF L nameB okp R s (.leftGo lv k)) := by
  obtain ⟨⟨w, hn⟩, e0⟩ := hp
  dsimp only [body]
  refine w.wpIs T fun t ht => ?_
  by_cases hb : isB t (signs lv) = true
  · rw [if_pos hb]
    refine w.wpTok T fun t2 ht2 => ?_
    obtain rfl : t = t2 := by rw [ht] at ht2; exact Option.some.inj ht2
    refine w.wpAdv T ht (isB_8 hb) fun w1 => ?_
    obtain ⟨o, ho⟩ := signs_op hb
    refine wp_op ho ?_
    refine wp_call (part_ok H w1 hn (by have : lrank lv ≤ 13 := (by unfold lrank; split <;> decide); omega)) ?_
    rintro k2 s2 ⟨w2, e2⟩
    have e1 := e0.ext w2.ext
    replace w2 := w1.call w2
    refine w2.wpNode T (R2 := R) (ks := [k, k2]) (perm_cnt fun x => by simp only [cnt_append, cnt_cons, cnt_nil]; omega) (.two (op_two ho) e1 e2) (T.place t (List.mem_of_getElem? ht)) fun w3 _ h3 => ?_
    refine wp_mono (H (.leftGo lv _) R _ ⟨⟨w3.pre, w3.fuel hn (by decide)⟩, E.of h3 (expr_two (op_two ho))⟩) ?_
    rintro k' s' ⟨w4, e4⟩
    exact ⟨(w3.call w4).weak (by decide) (by decide), e4⟩
  · rw [if_neg hb]
    exact ⟨w, e0⟩
theorem g_not (T : Tks L nameB okp) (H : All L nameB okp n) (hp : PreF L nameB okp (n + 1) R s .not_) : wp (body L nameB (fun {_} g => run L nameB n g) .not_) s (PostF L nameB okp R s .not_) := by
  obtain ⟨w, hn⟩ := hp
  dsimp only [body]
  refine w.wpIs T fun t ht => ?_
  by_cases hb : isB t [[110, 111, 116]] = true
  · rw [if_pos hb]
    refine w.wpMust T fun t2 ht2 hb2 ho w2 => ?_
    refine w2.wpIn fun w3 => ?_
    refine wp_call (H .not_ _ _ ⟨w3.pre, w3.fuel hn (by decide)⟩) ?_
    rintro a s4 ⟨w4, e4⟩
    replace w4 := w3.call w4
    refine w4.wpOut fun k w7 => ?_
    exact w7.end_ T (R2 := R) (ks := [a]) (.refl _) (.one (.inr (.inl rfl)) e4) ho fun s' w8 _ h8 => ⟨w8.weak (by decide) (by decide), E.of h8 rfl⟩
  · rw [if_neg hb]
    exact H .compare R s ⟨w, w.fuel hn (by decide)⟩
theorem g_unary (T : Tks L nameB okp) (H : All L nameB okp n) (hp : PreF L nameB okp (n + 1) R s .unary) : wp (body L nameB (fun {_} g => run L nameB n g) .unary) s (PostF L nameB okp R s .unary) := by
  obtain ⟨w, hn⟩ := hp
  dsimp only [body]
  refine w.wpIs T fun t ht => ?_
  by_cases hb : isB t [[45]] = true
  · rw [if_pos hb]
    refine w.wpMust T fun t2 ht2 hb2 ho w2 => ?_
    refine w2.wpIn fun w3 => ?_
    refine wp_call (H .unary _ _ ⟨w3.pre, w3.fuel hn (by decide)⟩) ?_
    rintro a s4 ⟨w4, e4⟩
    replace w4 := w3.call w4
    refine w4.wpOut fun k w7 => ?_
    exact w7.end_ T (R2 := R) (ks := [a]) (.refl _) (.one (.inl rfl) e4) ho fun s' w8 _ h8 => ⟨w8.weak (by decide) (by decide), E.of h8 rfl⟩
  · rw [if_neg hb]
    exact H .primary R s ⟨w, w.fuel hn (by decide)⟩
theorem cmp_op {t : Tk} (hb : isB t [[61, 61], [33, 61], [60], [60, 61], [62], [62, 61], [105, 110]] = true) : ∃ o, opOf t.text = some o := by
  unfold isB at hb
  rw [Bool.and_eq_true, List.contains_iff_mem] at hb
  have h2 := hb.2
  simp only [List.mem_cons, List.not_mem_nil, or_false] at h2
  rcases h2 with h | h | h | h | h | h | h <;> rw [h] <;> exact ⟨_, rfl⟩
theorem g_compare (T : Tks L nameB okp) (H : All L nameB okp n) (hp : PreF L nameB okp (n + 1) R s .compare) : wp (body L nameB (fun {_} g => run L nameB n g) .compare) s (PostF L nameB okp R s .compare) := by
  obtain ⟨w, hn⟩ := hp
  dsimp only [body]
  refine wp_call (H (.left 2) R s ⟨w, w.fuel hn (by decide)⟩) ?_
  rintro a s1 ⟨w1, e1⟩
  refine w1.wpTok T fun t ht => ?_
  have ho := T.place t (List.mem_of_getElem? ht)
  by_cases hb : isB t [[110, 111, 116]] = true
  · rw [if_pos hb]
    refine w1.wpAdv T ht (isB_8 hb) fun w2 => ?_
    refine w2.wpMust T fun _ _ _ _ w3 => ?_
    refine wp_call (H (.left 2) _ _ ⟨w3.pre, w3.fuel hn (by decide)⟩) ?_
    rintro b s4 ⟨w4, e4⟩
    replace e1 := e1.ext w4.ext
    replace w4 := w3.call w4
    exact w4.end_ T (R2 := R) (ks := [a, b]) (perm_cnt fun x => by simp only [cnt_append, cnt_cons, cnt_nil]; omega) (.two (.inr (.inr (.inr ⟨by decide, by decide⟩))) e1 e4) ho fun s' w8 _ h8 => ⟨w8.weak (by decide) (by decide), E.of h8 rfl⟩
  · rw [if_neg hb]
    by_cases hb2 : isB t [[61, 61], [33, 61], [60], [60, 61], [62], [62, 61], [105, 110]] = true
    · rw [if_pos hb2]
      refine w1.wpAdv T ht (isB_8 hb2) fun w2 => ?_
      obtain ⟨o, hop⟩ := cmp_op hb2
      refine wp_op hop ?_
      refine wp_call (H (.left 2) _ _ ⟨w2.pre, w2.fuel hn (by decide)⟩) ?_
      rintro b s4 ⟨w4, e4⟩
      replace e1 := e1.ext w4.ext
      replace w4 := w2.call w4
      exact w4.end_ T (R2 := R) (ks := [a, b]) (perm_cnt fun x => by simp only [cnt_append, cnt_cons, cnt_nil]; omega) (.two (op_two hop) e1 e4) ho fun s' w8 _ h8 => ⟨w8.weak (by decide) (by decide), E.of h8 (expr_two (op_two hop))⟩
    · rw [if_neg hb2]
      exact ⟨w1, e1⟩
theorem g_primary (H : All L nameB okp n) (hp : PreF L nameB okp (n + 1) R s .primary) : wp (body L nameB (fun {_} g => run L nameB n g) .primary) s (PostF L nameB okp R s .primary) := by
  obtain ⟨w, hn⟩ := hp
  dsimp only [body]
  refine wp_call (H .atom R s ⟨w, w.fuel hn (by decide)⟩) ?_
  rintro a s1 ⟨w1, e1⟩
  refine wp_mono (H (.primGo a) R _ ⟨⟨w1.pre, w1.fuel hn (by omega)⟩, e1⟩) ?_
  rintro k' s' ⟨w4, e4⟩
  exact ⟨(w1.call w4).weak (by decide) (by decide), e4⟩
theorem g_primGo (T : Tks L nameB okp) (H : All L nameB okp n) {k : Int} (hp : PreF L nameB okp (n + 1) R s (.primGo k)) : wp (body L nameB (fun {_} g => run L nameB n g) (.primGo k)) s (PostF L nameB okp R s (.primGo k)) := by
  obtain ⟨⟨w, hn⟩, e0⟩ := hp
  dsimp only [body]
  refine w.wpTok T fun t ht => ?_
  have ho := T.place t (List.mem_of_getElem? ht)
  refine w.wpTake T (fun _ _ _ w1 => ?_) fun t2 ht2 _ => ?_
  · rw [if_pos rfl]
    refine w1.wpKinds T (by decide) fun t3 ht3 hk3 _ w2 => ?_
    refine w2.wpNode T (R2 := R) (ks := [k]) (.refl _) (.dot (.inr rfl) (T.name t3 (List.mem_of_getElem? ht3) hk3) e0) ho (hx := T.small ht3) fun w3 _ h3 => ?_
    refine wp_mono (H (.primGo _) R _ ⟨⟨w3.pre, w3.fuel hn (by decide)⟩, E.of h3 rfl⟩) ?_
    rintro k' s' ⟨w4, e4⟩
    exact ⟨(w3.call w4).weak (by decide) (by decide), e4⟩
  · rw [if_neg Bool.false_ne_true]
    by_cases hb : isB t [[40]] = true
    · rw [if_pos hb]
      refine wp_call (H (.call k) R s ⟨⟨w, w.fuel hn (by decide)⟩, e0⟩) ?_
      rintro a s1 ⟨w1, e1⟩
      refine wp_mono (H (.primGo a) R _ ⟨⟨w1.pre, w1.fuel hn (by decide)⟩, e1⟩) ?_
      rintro k' s' ⟨w4, e4⟩
      exact ⟨(w1.call w4).weak (by decide) (by decide), e4⟩
    · rw [if_neg hb]
      by_cases hb2 : isB t [[91]] = true
      · rw [if_pos hb2]
        refine wp_call (H (.index k) R s ⟨⟨w, w.fuel hn (by decide)⟩, e0⟩) ?_
        rintro a s1 ⟨w1, e1⟩
        refine wp_mono (H (.primGo a) R _ ⟨⟨w1.pre, w1.fuel hn (by decide)⟩, e1⟩) ?_
        rintro k' s' ⟨w4, e4⟩
        exact ⟨(w1.call w4).weak (by decide) (by decide), e4⟩
      · rw [if_neg hb2]
        exact ⟨w, e0⟩
theorem g_call (T : Tks L nameB okp) (H : All L nameB okp n) {k : Int} (hp : PreF L nameB okp (n + 1) R s (.call k)) : wp (body L nameB (fun {_} g => run L nameB n g) (.call k)) s (PostF L nameB okp R s (.call k)) := by
  obtain ⟨⟨w, hn⟩, e0⟩ := hp
  dsimp only [body]
  refine w.wpMust T fun t2 ht2 hb2 ho w2 => ?_
  refine w2.wpIn fun w3 => ?_
  refine wp_call (H (.callGo [k] []) R _ ⟨⟨w3.pre, w3.fuel hn (by decide)⟩, ⟨k, [], [], rfl, e0, (fun _ h => by cases h), (fun _ h => by cases h), fun _ => rfl⟩⟩) ?_
  rintro ks s4 ⟨w4, e4⟩
  replace w4 := w3.call w4
  refine w4.wpMust T fun _ _ _ _ w5 => ?_
  refine w5.wpOut fun d w6 => ?_
  obtain ⟨a, as, ns, rfl, h1, h2, h3, _⟩ := e4
  exact w6.end_ T (R2 := R) (ks := a :: (as ++ ns)) (.refl _) (.call h1 h2 h3) ho fun s' w8 _ h8 => ⟨w8.weak (by decide) (by decide), E.of h8 rfl⟩
theorem g_callGo (T : Tks L nameB okp) (H : All L nameB okp n) {ks : List Int} {names : List B} (hp : PreF L nameB okp (n + 1) R s (.callGo ks names)) : wp (body L nameB (fun {_} g => run L nameB n g) (.callGo ks names)) s (PostF L nameB okp R s (.callGo ks names)) := by
  obtain ⟨⟨w, hn⟩, c0⟩ := hp
  dsimp only [body]
  refine w.wpTok T fun t ht => ?_
  have ho := T.place t (List.mem_of_getElem? ht)
  have fin : ∀ (x : List Int × List B) (s1 : St) (e : Nat), W L nameB okp s 0 (R ++ x.1) 0 (e + 1) s1 → CallOk s1.out x.1 x.2 → wp (bnd (take L [44]) fun b => grow x.1 (if b then run L nameB n (.callGo x.1 x.2) else ret x.1)) s1 (PostF L nameB okp R s (.callGo ks names)) := by
    intro x s1 e w1 c1
    have hl : x.1.length ≤ s1.out.length := by
      have h1 := w1.fst.perm.length_eq
      simp only [List.length_append, List.length_map, List.length_range] at h1
      omega
    refine w1.wpTake T (fun _ _ _ w2 => ?_) fun _ _ _ => ?_
    · refine w2.wpGrow T hl ?_
      rw [if_pos rfl]
      refine wp_mono (H (.callGo x.1 x.2) R _ ⟨⟨w2.pre, w2.fuel hn (by omega)⟩, c1⟩) ?_
      rintro k' s' ⟨w4, e4⟩
      exact ⟨(w2.call w4).weak (Nat.zero_le _) (Nat.zero_le _), e4⟩
    · refine w1.wpGrow T hl ?_
      rw [if_neg Bool.false_ne_true]
      obtain ⟨a, as, ns, h1, h2, h3, h4, _⟩ := c1
      exact ⟨w1.weak (Nat.zero_le _) (Nat.zero_le _), a, as, ns, h1, h2, h3, h4, fun h => by cases h⟩
  by_cases hb : isB t [[41]] = true
  · rw [if_pos hb]
    obtain ⟨a, as, ns, h1, h2, h3, h4, _⟩ := c0
    exact ⟨w, a, as, ns, h1, h2, h3, h4, fun h => by cases h⟩
  · rw [if_neg hb]
    refine wp_call (x := ahead L [61]) (Q := fun _ s' => s' = s) rfl ?_
    rintro ah s1 rfl
    by_cases hc : (decide (t.kind = 1) && ah) = true
    · rw [if_pos hc]
      by_cases hd : names.contains t.text = true
      · rw [if_pos hd]
        exact w.wpBadB T
      · rw [if_neg hd]
        refine wp_assoc (w.wpKinds T (by decide) fun t3 ht3 hk3 _ w2 => ?_)
        refine wp_assoc (w2.wpMust T fun _ _ _ _ w3 => ?_)
        refine wp_assoc (wp_call (H .test _ _ ⟨w3.pre, w3.fuel hn (by decide)⟩) ?_)
        rintro k s4 ⟨w4, e4⟩
        replace c0 := c0.ext w4.ext
        replace w4 := w3.call w4
        refine wp_assoc (w4.wpNode T (R2 := R ++ ks) (ks := [k]) (.refl _) (.dot (.inl rfl) (T.name t3 (List.mem_of_getElem? ht3) hk3) e4) ho (hx := T.small ht3) fun w5 x5 h5 => ?_)
        replace c0 := c0.ext x5
        obtain ⟨a, as, ns, h1, h2, h3, h4, _⟩ := c0
        refine fin (ks ++ [(s4.out.length : Int)], names ++ [t3.text]) _ 2 ((w5.re (.trans (.of_eq (List.append_assoc ..)) (.refl _))).weak (by decide) (by decide)) ?_
        exact ⟨a, as, ns ++ [(s4.out.length : Int)], by rw [h1]; simp, h2, h3, memS h4 (Op.of h5), fun h => by simp at h⟩
    · rw [if_neg hc]
      by_cases hd : names ≠ []
      · rw [if_pos hd]
        exact w.wpBadB T
      · rw [if_neg hd]
        refine wp_assoc (wp_call (H .test _ _ ⟨w, w.fuel hn (by decide)⟩) ?_)
        rintro k s4 ⟨w4, e4⟩
        replace c0 := c0.ext w4.ext
        obtain ⟨a, as, ns, h1, h2, h3, h4, h5⟩ := c0
        have hd2 : names = [] := Decidable.of_not_not hd
        obtain rfl := h5 hd2
        refine fin (ks ++ [k], names) _ 0 ((w4.re (.of_eq (List.append_assoc ..))).weak (by decide) (by decide)) ?_
        exact ⟨a, as ++ [k], [], by rw [h1]; simp, h2, memS h3 e4, h4, fun _ => rfl⟩
theorem g_index (T : Tks L nameB okp) (H : All L nameB okp n) {k : Int} (hp : PreF L nameB okp (n + 1) R s (.index k)) : wp (body L nameB (fun {_} g => run L nameB n g) (.index k)) s (PostF L nameB okp R s (.index k)) := by
  obtain ⟨⟨w, hn⟩, e0⟩ := hp
  dsimp only [body]
  refine w.wpMust T fun t2 ht2 hb2 ho w2 => ?_
  refine w2.wpIn fun w3 => ?_
  refine w3.wpTok T fun t ht => ?_
  have part : ∀ {α : Type} (f : Int → M α) (Q : α → St → Prop) (t : Tk) (ws : B) (s3 : St) (R3 : List Int) (c e : Nat), W L nameB okp s 1 R3 (c + 1) (e + 1) s3 → L[s3.at_]? = some t → (∀ (j : Int) (s4 : St) (e2 : Nat), W L nameB okp s 1 (R3 ++ [j]) c (e + 1 + e2) s4 → Ext s3.out s4.out → At s4.out j (fun op _ _ => exprB op = true ∨ op = 15) → (isB t [ws] = false → E s4.out j) → (isB t [ws] = true → s4.at_ = s3.at_) → wp (f j) s4 Q) → wp (bnd (if isB t [ws] then node 15 t.pos [] [] else run L nameB n .test) f) s3 Q := by
    intro α f Q t ws s3 R3 c e w3 ht h
    by_cases hb : isB t [ws] = true
    · rw [if_pos hb]
      refine w3.wpNode T (R2 := R3) (ks := []) (.of_eq (by simp)) (.leaf (by decide)) (T.place t (List.mem_of_getElem? ht)) fun w4 x4 h4 => ?_
      exact h _ _ 0 w4 x4 (h4.mono fun _ _ _ hh => .inr hh.1) (fun hf => by rw [hb] at hf; cases hf) fun _ => rfl
    · rw [if_neg hb]
      refine wp_call (H .test _ _ ⟨w3.pre, w3.fuel hn (by omega)⟩) ?_
      rintro j s4 ⟨w4, e4⟩
      exact h _ _ 1 ((w3.call w4).weak (by omega) (by omega)) w4.ext (e4.mono fun _ _ _ hh => .inl hh) (fun _ => e4) fun hf => absurd hf hb
  refine part _ _ t [58] _ (R ++ [k]) 1 0 w3 ht fun a s4 e2 w4 x4 h4 hE4 hA4 => ?_
  replace e0 := e0.ext x4
  refine w4.wpTake T (fun t5 ht5 hb5 w5 => ?_) fun t5 ht5 _ => ?_
  · rw [if_pos rfl]
    refine w5.wpOut fun d w6 => ?_
    have e4 : E s4.out a := by
      cases hb : isB t [[58]] with
      | false => exact hE4 hb
      | true =>
        rw [hA4 hb] at ht5
        have h1 : some t = some t5 := ht.symm.trans ht5
        cases h1
        exact absurd ((isB_text hb).symm.trans (isB_text hb5)) (by decide)
    exact w6.end_ T (R2 := R) (ks := [k, a]) (perm_cnt fun x => by simp only [cnt_append, cnt_cons, cnt_nil]; omega) (.two (.inl rfl) e0 e4) ho fun s' w10 _ h10 => ⟨w10.weak (by omega) (by omega), E.of h10 rfl⟩
  · rw [if_neg Bool.false_ne_true]
    refine w4.wpMust T fun _ _ _ _ w5 => ?_
    refine w5.wpTok T fun t6 ht6 => ?_
    refine part _ _ t6 [93] _ _ 2 (1 + e2) (w5.weak (by omega) (by omega)) ht6 fun b s7 e7 w7 x7 h7 _ _ => ?_
    replace e0 := e0.ext x7
    replace h4 := h4.ext x7
    refine w7.wpMust T fun _ _ _ _ w8 => ?_
    refine w8.wpOut fun d w9 => ?_
    exact w9.end_ T (R2 := R) (ks := [k, a, b]) (perm_cnt fun x => by simp only [cnt_append, cnt_cons, cnt_nil]; omega) (.slice e0 h4 h7) ho fun s' w10 _ h10 => ⟨w10.weak (by omega) (by omega), E.of h10 rfl⟩

theorem txt_next {i : Nat} {t : Tk} (ht : L[i]? = some t) : txtN L (i + 1) = txtN L i + t.text.length := by
  obtain ⟨hi, rfl⟩ := List.getElem?_eq_some_iff.1 ht
  unfold txtN
  rw [List.take_succ_eq_append_getElem hi, List.map_append, List.sum_append]
  simp
theorem txt_lt (T : Tks L nameB okp) (i : Nat) : txtN L i < 1000000 := by
  have h1 := T.txt
  have h2 : (L.map fun t => t.text.length).sum = txtN L i + ((L.drop i).map fun t => t.text.length).sum := by
    unfold txtN
    rw [← List.sum_append, ← List.map_append, List.take_append_drop]
  omega
theorem g_strGo (T : Tks L nameB okp) (H : All L nameB okp n) {x : B} (hp : PreF L nameB okp (n + 1) R s (.strGo x)) : wp (body L nameB (fun {_} g => run L nameB n g) (.strGo x)) s (PostF L nameB okp R s (.strGo x)) := by
  obtain ⟨⟨w, hn⟩, hx⟩ := hp
  dsimp only [body]
  refine w.wpTok T fun t ht => ?_
  by_cases hk : t.kind = 3
  · rw [if_pos hk]
    have h1 := txt_lt T (s.at_ + 1)
    rw [txt_next ht] at h1
    rw [if_pos (by omega)]
    refine w.wpAdv T ht (by omega) fun w1 => ?_
    refine wp_mono (H (.strGo _) R _ ⟨⟨w1.pre, w1.fuel hn (by decide)⟩, by show (x ++ t.text).length ≤ txtN L (s.at_ + 1); rw [txt_next ht, List.length_append]; omega⟩) ?_
    rintro k' s' ⟨w4, h4, h6, _⟩
    exact ⟨(w1.call w4).weak (by decide) (by decide), h4, h6, fun _ _ _ => (w1.call w4).weak (by decide) (by decide)⟩
  · rw [if_neg hk]
    exact ⟨w, rfl, Nat.lt_of_le_of_lt hx (txt_lt T _), fun t2 ht2 h => by rw [ht] at ht2; cases ht2; exact absurd h hk⟩
theorem g_atom (T : Tks L nameB okp) (H : All L nameB okp n) (hp : PreF L nameB okp (n + 1) R s .atom) : wp (body L nameB (fun {_} g => run L nameB n g) .atom) s (PostF L nameB okp R s .atom) := by
  obtain ⟨w, hn⟩ := hp
  dsimp only [body]
  refine w.wpTok T fun t ht => ?_
  have hm := List.mem_of_getElem? ht
  have ho := T.place t hm
  by_cases h1 : t.kind = 1
  · rw [if_pos h1]
    refine w.wpAdv T ht (by omega) fun w1 => ?_
    exact w1.end_ T (R2 := R) (ks := []) (.of_eq (by simp)) (.name (T.name t hm h1)) ho (fun s' w8 _ h8 => ⟨w8.weak (by decide) (by decide), E.of h8 rfl⟩) (T.small ht)
  rw [if_neg h1]
  by_cases h2 : t.kind = 2
  · rw [if_pos h2]
    refine w.wpAdv T ht (by omega) fun w1 => ?_
    exact w1.end_ T (R2 := R) (ks := []) (.of_eq (by simp)) (.int (T.int t hm h2)) ho (fun s' w8 _ h8 => ⟨w8.weak (by decide) (by decide), E.of h8 rfl⟩) (T.small ht)
  rw [if_neg h2]
  by_cases h3 : t.kind = 3
  · rw [if_pos h3]
    refine wp_call (H (.strGo []) R s ⟨⟨w, w.fuel hn (by decide)⟩, Nat.zero_le _⟩) ?_
    rintro x s1 ⟨_, _, h6, h5⟩
    exact (h5 t ht h3).end_ T (R2 := R) (ks := []) (.of_eq (by simp)) .str ho (fun s' w8 _ h8 => ⟨w8.weak (by decide) (by decide), E.of h8 rfl⟩) h6
  rw [if_neg h3]
  refine w.wpTake T (fun _ _ _ w1 => ?_) fun _ _ _ => ?_
  · rw [if_pos rfl]
    exact w1.end_ T (R2 := R) (ks := []) (.of_eq (by simp)) (.leaf (by decide)) ho fun s' w8 _ h8 => ⟨w8.weak (by decide) (by decide), E.of h8 rfl⟩
  rw [if_neg Bool.false_ne_true]
  refine w.wpTake T (fun _ _ _ w1 => ?_) fun _ _ _ => ?_
  · rw [if_pos rfl]
    exact w1.end_ T (R2 := R) (ks := []) (.of_eq (by simp)) (.leaf (by decide)) ho fun s' w8 _ h8 => ⟨w8.weak (by decide) (by decide), E.of h8 rfl⟩
  rw [if_neg Bool.false_ne_true]
  refine w.wpTake T (fun _ _ _ w1 => ?_) fun _ _ _ => ?_
  · rw [if_pos rfl]
    exact w1.end_ T (R2 := R) (ks := []) (.of_eq (by simp)) (.leaf (by decide)) ho fun s' w8 _ h8 => ⟨w8.weak (by decide) (by decide), E.of h8 rfl⟩
  rw [if_neg Bool.false_ne_true]
  by_cases h4 : isB t [[40]] = true
  · rw [if_pos h4]; exact H .round R s ⟨w, w.fuel hn (by decide)⟩
  rw [if_neg h4]
  by_cases h5 : isB t [[91]] = true
  · rw [if_pos h5]; exact H .square R s ⟨w, w.fuel hn (by decide)⟩
  rw [if_neg h5]
  by_cases h6 : isB t [[123]] = true
  · rw [if_pos h6]; exact H .curly R s ⟨w, w.fuel hn (by decide)⟩
  rw [if_neg h6]
  exact w.wpBad T
theorem set_end {d c e : Nat} {s0 : St} {k pos : Int} {b : Bool} (w : W L nameB okp s0 d (R ++ [k]) c e s) (e1 : E s.out k) (ho : okp pos) {Q : Int → St → Prop} (h : ∀ s', W L nameB okp s0 d (R ++ [k]) c e s' → Ext s.out s'.out → Q k s') : wp (if b then bnd (setPos k pos) fun _ => ret k else ret k) s Q := by
  cases b with
  | false => exact h s w (Ext.same _)
  | true =>
    obtain ⟨y, h0, hy, _⟩ := e1
    show wp (bnd (setPos k pos) fun _ => ret k) s Q
    exact w.wpSetPos ho h0 hy fun w1 x1 => h _ w1 x1
theorem g_round (T : Tks L nameB okp) (H : All L nameB okp n) (hp : PreF L nameB okp (n + 1) R s .round) : wp (body L nameB (fun {_} g => run L nameB n g) .round) s (PostF L nameB okp R s .round) := by
  obtain ⟨w, hn⟩ := hp
  dsimp only [body]
  refine w.wpMust T fun t2 ht2 hb2 ho w2 => ?_
  refine w2.wpIn fun w3 => ?_
  refine w3.wpTake T (fun _ _ _ w4 => ?_) fun _ _ _ => ?_
  · rw [if_pos rfl]
    refine w4.wpOut fun d w5 => ?_
    exact w5.end_ T (R2 := R) (ks := []) (.of_eq (by simp)) (.list (.inr rfl) (fun _ h => by cases h) (by decide)) ho fun s' w8 _ h8 => ⟨w8.weak (by decide) (by decide), E.of h8 rfl⟩
  · rw [if_neg Bool.false_ne_true]
    refine wp_call (H .many _ _ ⟨w3.pre, w3.fuel hn (by decide)⟩) ?_
    rintro ⟨k, b⟩ s4 ⟨w4, e4⟩
    replace w4 := w3.call w4
    refine w4.wpMust T fun _ _ _ _ w5 => ?_
    refine w5.wpOut fun d w6 => ?_
    exact set_end w6 e4 ho fun s' w7 x7 => ⟨w7.weak (by decide) (by decide), e4.ext x7⟩
theorem g_square (T : Tks L nameB okp) (H : All L nameB okp n) (hp : PreF L nameB okp (n + 1) R s .square) : wp (body L nameB (fun {_} g => run L nameB n g) .square) s (PostF L nameB okp R s .square) := by
  obtain ⟨w, hn⟩ := hp
  dsimp only [body]
  refine w.wpMust T fun t2 ht2 hb2 ho w2 => ?_
  refine w2.wpIn fun w3 => ?_
  refine wp_mono (H (.sqGo t2.pos []) R _ ⟨⟨w3.pre.re (.of_eq (by simp)), w3.fuel hn (by decide)⟩, (fun _ h => by cases h), Nat.succ_le_succ (Nat.zero_le _), ho⟩) ?_
  rintro k s' ⟨w4, e4⟩
  exact ⟨(w2.call w4).weak (by decide) (by decide), e4⟩
/-- one less deep -/
theorem W.less {d c e : Nat} {s0 : St} (w : W L nameB okp s0 d R c e s) (hd : 1 ≤ s0.deep) : W L nameB okp { s0 with deep := s0.deep - 1 } (d + 1) R c e s :=
  ⟨w.le, w.lt, w.cnt, w.cap, by show s.deep = s0.deep - 1 + (d + 1); have := w.deep; omega, w.hd, w.fors, w.hf, w.defs, w.ext, w.fst⟩
theorem W.lens {d c e : Nat} {s0 : St} {l : List Int} (w : W L nameB okp s0 d (R ++ l) c e s) : l.length ≤ s.out.length := by
  have h1 := w.fst.perm.length_eq
  simp only [List.length_append, List.length_map, List.length_range] at h1
  omega
theorem g_sqGo (T : Tks L nameB okp) (H : All L nameB okp n) {pos : Int} {l : List Int} (hp : PreF L nameB okp (n + 1) R s (.sqGo pos l)) : wp (body L nameB (fun {_} g => run L nameB n g) (.sqGo pos l)) s (PostF L nameB okp R s (.sqGo pos l)) := by
  obtain ⟨⟨w, hn⟩, hl, hd, ho⟩ := hp
  dsimp only [body]
  have fin : ∀ (l : List Int) (s1 : St) (e : Nat), W L nameB okp s 0 (R ++ l) 0 e s1 → (∀ k ∈ l, E s1.out k) → wp (bnd (must L [93]) fun _ => bnd outn fun _ => node 7 pos [] l) s1 (PostF L nameB okp R s (.sqGo pos l)) := by
    intro l s1 e w1 h1
    refine w1.wpMust T fun _ _ _ _ w2 => ?_
    refine (w2.less hd).wpOut fun d w3 => ?_
    have := w1.small T
    have := w1.lens
    exact w3.end_ T (R2 := R) (ks := l) (.refl _) (.list (.inl rfl) h1 (by omega)) ho fun s' w8 _ h8 => ⟨w8.weak (by omega) (by omega), E.of h8 rfl⟩
  refine w.wpIs T fun t ht => ?_
  by_cases hb : isB t [[93]] = true
  · rw [if_pos hb]
    exact fin l s 0 w hl
  · rw [if_neg hb]
    refine wp_call (H .test _ _ ⟨w, w.fuel hn (by decide)⟩) ?_
    rintro k s1 ⟨w1, e1⟩
    replace hl : ∀ j ∈ l ++ [k], E s1.out j := memS (fun j hj => (hl j hj).ext w1.ext) e1
    refine w1.wpTok T fun t2 ht2 => ?_
    by_cases hc : (decide (l = []) && isB t2 [[102, 111, 114]]) = true
    · rw [if_pos hc]
      rw [Bool.and_eq_true, decide_eq_true_eq] at hc
      obtain ⟨rfl, hc⟩ := hc
      refine wp_mono (H (.comp pos k) R s1 ⟨⟨w1.pre.re (.of_eq (by simp)), w1.fuel hn (by decide)⟩, e1, by have h2 : s1.deep = s.deep + 0 := w1.deep; omega, ho⟩) ?_
      rintro k' s' ⟨w4, e4⟩
      refine ⟨?_, e4⟩
      have h2 : s1.deep = s.deep + 0 := w1.deep
      exact ⟨by have h3 : s1.at_ + 1 ≤ s'.at_ := w4.le; have := w1.le; show s.at_ + 1 ≤ s'.at_; omega, w4.lt, by have h3 : s'.out.length + 2 * s1.at_ + 1 ≤ s1.out.length + 2 * s'.at_ := w4.cnt; have := w1.cnt; show s'.out.length + 2 * s.at_ + 1 ≤ s.out.length + 2 * s'.at_; omega, w.cap, by have h3 : s'.deep = s1.deep - 1 + 0 := w4.deep; show s'.deep = s.deep - 1 + 0; omega, w4.hd, w4.fors.trans w1.fors, w1.hf, w4.defs.trans w1.defs, w1.ext.trans w4.ext, w4.fst⟩
    · rw [if_neg hc]
      have w1' : W L nameB okp s 0 (R ++ (l ++ [k])) 0 1 s1 := (w1.re (.of_eq (List.append_assoc ..))).weak (by decide) (by decide)
      have hlen := w1'.lens
      refine w1'.wpTake T (fun _ _ _ w2 => ?_) fun _ _ _ => ?_
      · refine w2.wpGrow T (by simp only [List.length_append, List.length_singleton] at hlen; show l.length ≤ s1.out.length; omega) ?_
        rw [if_pos rfl]
        refine wp_mono (H (.sqGo pos (l ++ [k])) R _ ⟨⟨w2.pre, w2.fuel hn (by decide)⟩, hl, by have h2 : s1.deep = s.deep + 0 := w1.deep; show 1 ≤ s1.deep; omega, ho⟩) ?_
        rintro k' s' ⟨w4, e4⟩
        refine ⟨?_, e4⟩
        have h2 : s1.deep = s.deep + 0 := w1.deep
        exact ⟨by have h3 : s1.at_ + 1 + 1 ≤ s'.at_ := w4.le; have := w1.le; show s.at_ + 1 ≤ s'.at_; omega, w4.lt, by have h3 : s'.out.length + 2 * (s1.at_ + 1) + 1 ≤ s1.out.length + 2 * s'.at_ := w4.cnt; have := w1.cnt; show s'.out.length + 2 * s.at_ + 1 ≤ s.out.length + 2 * s'.at_; omega, w.cap, by have h3 : s'.deep = s1.deep - 1 + 0 := w4.deep; show s'.deep = s.deep - 1 + 0; omega, w4.hd, w4.fors.trans w1.fors, w1.hf, w4.defs.trans w1.defs, w1.ext.trans w4.ext, w4.fst⟩
      · refine w1'.wpGrow T (by simp only [List.length_append, List.length_singleton] at hlen; omega) ?_
        rw [if_neg Bool.false_ne_true]
        exact fin (l ++ [k]) s1 1 w1' hl
theorem g_comp (T : Tks L nameB okp) (H : All L nameB okp n) {pos item : Int} (hp : PreF L nameB okp (n + 1) R s (.comp pos item)) : wp (body L nameB (fun {_} g => run L nameB n g) (.comp pos item)) s (PostF L nameB okp R s (.comp pos item)) := by
  obtain ⟨⟨w, hn⟩, e0, hd, ho⟩ := hp
  dsimp only [body]
  refine w.wpMust T fun _ _ _ _ w1 => ?_
  refine wp_call (H (.some_ [105, 110]) _ _ ⟨w1.pre, w1.fuel hn (by decide)⟩) ?_
  rintro ⟨to, b⟩ s2 ⟨⟨w2, e2⟩, t2⟩
  replace e0 := e0.ext w2.ext
  replace w2 := w1.call w2
  refine w2.wpMust T fun _ _ _ _ w3 => ?_
  refine wp_call (H (.left 0) _ _ ⟨w3.pre, w3.fuel hn (by decide)⟩) ?_
  rintro c s4 ⟨w4, e4⟩
  replace e0 := e0.ext w4.ext
  replace e2 := e2.ext w4.ext
  replace t2 := t2.ext w4.ext
  replace w4 := w3.call w4
  have fin : ∀ (r : List Int) (s5 : St) (e : Nat), W L nameB okp s 0 (R ++ [item, to, c] ++ r) 0 e s5 → Ext s4.out s5.out → (∀ k ∈ r, E s5.out k) → r.length ≤ 1 → wp (bnd (must L [93]) fun _ => bnd outn fun _ => node 34 pos [] (item :: to :: c :: r)) s5 (PostF L nameB okp R s (.comp pos item)) := by
    intro r s5 e w5 x5 hr hl
    refine w5.wpMust T fun _ _ _ _ w6 => ?_
    refine (w6.less hd).wpOut fun d w7 => ?_
    exact w7.end_ T (R2 := R) (ks := item :: to :: c :: r) (.of_eq (by simp)) (.comp (e0.ext x5) (t2.ext x5) (e2.ext x5) (e4.ext x5) hr hl) ho fun s' w8 _ h8 => ⟨w8.weak (by omega) (by omega), E.of h8 rfl⟩
  refine w4.wpTake T (fun _ _ _ w5 => ?_) fun _ _ _ => ?_
  · rw [if_pos rfl]
    refine wp_assoc (wp_call (H (.left 0) _ _ ⟨w5.pre, w5.fuel hn (by decide)⟩) ?_)
    rintro d s6 ⟨w6, e6⟩
    exact fin [d] s6 1 (((w5.call w6).re (.of_eq (by simp))).weak (by decide) (by decide)) w6.ext (mem1 e6) (by simp)
  · rw [if_neg Bool.false_ne_true]
    exact fin [] s4 1 ((w4.re (.of_eq (by simp))).weak (by decide) (by decide)) (Ext.same _) (fun _ h => by cases h) (by decide)
theorem g_curly (T : Tks L nameB okp) (H : All L nameB okp n) (hp : PreF L nameB okp (n + 1) R s .curly) : wp (body L nameB (fun {_} g => run L nameB n g) .curly) s (PostF L nameB okp R s .curly) := by
  obtain ⟨w, hn⟩ := hp
  dsimp only [body]
  refine w.wpMust T fun t2 ht2 hb2 ho w2 => ?_
  refine w2.wpIn fun w3 => ?_
  refine wp_call (H (.curlyGo []) R _ ⟨⟨w3.pre.re (.of_eq (by simp)), w3.fuel hn (by decide)⟩, (fun _ h => by cases h), rfl⟩) ?_
  rintro l s4 ⟨w4, e4, h4⟩
  replace w4 := w3.call w4
  refine w4.wpMust T fun _ _ _ _ w5 => ?_
  refine w5.wpOut fun d w6 => ?_
  have := w4.small T
  have := w4.lens
  exact w6.end_ T (R2 := R) (ks := l) (.refl _) (.dict h4 e4 (by omega)) ho fun s' w8 _ h8 => ⟨w8.weak (by decide) (by decide), E.of h8 rfl⟩
theorem g_curlyGo (T : Tks L nameB okp) (H : All L nameB okp n) {l : List Int} (hp : PreF L nameB okp (n + 1) R s (.curlyGo l)) : wp (body L nameB (fun {_} g => run L nameB n g) (.curlyGo l)) s (PostF L nameB okp R s (.curlyGo l)) := by
  obtain ⟨⟨w, hn⟩, hl, h2⟩ := hp
  dsimp only [body]
  refine w.wpIs T fun t ht => ?_
  by_cases hb : isB t [[125]] = true
  · rw [if_pos hb]
    exact ⟨w, hl, h2⟩
  · rw [if_neg hb]
    refine wp_call (H .test _ _ ⟨w, w.fuel hn (by decide)⟩) ?_
    rintro k s1 ⟨w1, e1⟩
    refine w1.wpMust T fun _ _ _ _ w3 => ?_
    refine wp_call (H .test _ _ ⟨w3.pre, w3.fuel hn (by decide)⟩) ?_
    rintro v s4 ⟨w4, e4⟩
    replace hl : ∀ j ∈ l ++ [k] ++ [v], E s4.out j := memS (memS (fun j hj => ((hl j hj).ext w1.ext).ext w4.ext) (e1.ext w4.ext)) e4
    replace w4 := w3.call w4
    have w5 : W L nameB okp s 0 (R ++ (l ++ [k] ++ [v])) 2 2 s4 := (w4.re (.of_eq (by simp))).weak (by decide) (by decide)
    have h3 : (l ++ [k] ++ [v]).length % 2 = 0 := by simp only [List.length_append, List.length_singleton]; omega
    have hlen := w5.lens
    refine w5.wpTake T (fun _ _ _ w6 => ?_) fun _ _ _ => ?_
    · refine w6.wpGrow T (by simp only [List.length_append, List.length_singleton] at hlen; show l.length ≤ s4.out.length; omega) ?_
      rw [if_pos rfl]
      refine wp_mono (H (.curlyGo _) R _ ⟨⟨w6.pre, w6.fuel hn (by decide)⟩, hl, h3⟩) ?_
      rintro k' s' ⟨w7, e7, h7⟩
      exact ⟨(w6.call w7).weak (by decide) (by decide), e7, h7⟩
    · refine w5.wpGrow T (by simp only [List.length_append, List.length_singleton] at hlen; omega) ?_
      rw [if_neg Bool.false_ne_true]
      exact ⟨w5.weak (by decide) (by decide), hl, h3⟩
theorem head_one {l : List Int} (h : l.length = 1) : l = [l.headD 0] := by
  match l, h with
  | [a], _ => rfl
theorem g_many (T : Tks L nameB okp) (H : All L nameB okp n) (hp : PreF L nameB okp (n + 1) R s .many) : wp (body L nameB (fun {_} g => run L nameB n g) .many) s (PostF L nameB okp R s .many) := by
  obtain ⟨w, hn⟩ := hp
  dsimp only [body]
  refine w.wpTok T fun t ht => ?_
  have ho := T.place t (List.mem_of_getElem? ht)
  refine wp_call (H .test R s ⟨w, w.fuel hn (by decide)⟩) ?_
  rintro k s1 ⟨w1, e1⟩
  refine wp_call (H (.manyGo [k] false) R _ ⟨⟨w1.pre, w1.fuel hn (by decide)⟩, mem1 e1, by simp, fun _ => rfl⟩) ?_
  rintro ⟨l, b⟩ s2 ⟨w2, e2, h2, h3⟩
  replace w2 := w1.call w2
  cases b with
  | false =>
    rw [if_neg Bool.false_ne_true]
    have h4 := head_one (h3 rfl)
    replace w2 := w2.weak (c2 := 1) (e2 := 1) (by simp) (by decide)
    dsimp only at w2 e2 h4 ⊢
    rw [h4] at w2 e2
    exact ⟨w2.weak (by decide) (by decide), e2 _ (List.mem_singleton.2 rfl)⟩
  | true =>
    rw [if_pos rfl]
    replace w2 := w2.weak (c2 := 2) (e2 := 1) (by simp) (by decide)
    have := w2.small T
    have := w2.lens
    refine w2.wpNode T (R2 := R) (ks := l) (.refl _) (.list (.inr rfl) e2 (by dsimp only at *; omega)) ho fun w3 _ h3 => ?_
    exact ⟨w3.weak (by decide) (by decide), E.of h3 rfl⟩
theorem g_manyGo (T : Tks L nameB okp) (H : All L nameB okp n) {l : List Int} {c : Bool} (hp : PreF L nameB okp (n + 1) R s (.manyGo l c)) : wp (body L nameB (fun {_} g => run L nameB n g) (.manyGo l c)) s (PostF L nameB okp R s (.manyGo l c)) := by
  obtain ⟨⟨w, hn⟩, hl, h2, h3⟩ := hp
  dsimp only [body]
  refine w.wpTake T (fun _ _ _ w1 => ?_) fun _ _ _ => ?_
  · rw [if_pos rfl]
    refine w1.wpTok T fun t ht => ?_
    split
    · exact ⟨w1.weak (by split <;> omega) (by decide), hl, h2, fun h => by cases h⟩
    · refine wp_call (H .test _ _ ⟨w1.pre, w1.fuel hn (by decide)⟩) ?_
      rintro k s2 ⟨w2, e2⟩
      replace hl : ∀ j ∈ l ++ [k], E s2.out j := memS (fun j hj => (hl j hj).ext w2.ext) e2
      replace w2 : W L nameB okp s 0 (R ++ (l ++ [k])) 2 2 s2 := ((w1.call w2).re (.of_eq (by simp))).weak (by decide) (by decide)
      have hlen := w2.lens
      refine w2.wpGrow T (by simp only [List.length_append, List.length_singleton] at hlen; omega) ?_
      refine wp_mono (H (.manyGo _ _) R _ ⟨⟨w2.pre, w2.fuel hn (by decide)⟩, hl, by simp, fun h => by cases h⟩) ?_
      rintro x s' ⟨w7, e7, h7, h8⟩
      exact ⟨(w2.call w7).weak (by split <;> omega) (by decide), e7, h7, h8⟩
  · rw [if_neg Bool.false_ne_true]
    exact ⟨w.weak (by cases c <;> exact Nat.zero_le _) (by decide), hl, h2, h3⟩
theorem g_some (T : Tks L nameB okp) (H : All L nameB okp n) {ee : B} (hp : PreF L nameB okp (n + 1) R s (.some_ ee)) : wp (body L nameB (fun {_} g => run L nameB n g) (.some_ ee)) s (PostF L nameB okp R s (.some_ ee)) := by
  obtain ⟨w, hn⟩ := hp
  dsimp only [body]
  refine w.wpTok T fun t ht => ?_
  have ho := T.place t (List.mem_of_getElem? ht)
  refine wp_call (H .one R s ⟨w, w.fuel hn (by decide)⟩) ?_
  rintro k s1 ⟨⟨w1, e1⟩, t1⟩
  refine wp_call (H (.someGo ee [k] false) R _ ⟨⟨w1.pre, w1.fuel hn (by decide)⟩, mem1 ⟨e1, t1⟩, by simp, fun _ => rfl⟩) ?_
  rintro ⟨l, b⟩ s2 ⟨w2, e2, h2, h3⟩
  replace w2 := w1.call w2
  cases b with
  | false =>
    rw [if_neg Bool.false_ne_true]
    have h4 := head_one (h3 rfl)
    replace w2 := w2.weak (c2 := 1) (e2 := 1) (by simp) (by decide)
    dsimp only at w2 e2 h4 ⊢
    rw [h4] at w2 e2
    have h5 := e2 _ (List.mem_singleton.2 rfl)
    exact ⟨⟨w2.weak (by decide) (by decide), h5.1⟩, h5.2⟩
  | true =>
    rw [if_pos rfl]
    replace w2 := w2.weak (c2 := 2) (e2 := 1) (by simp) (by decide)
    have := w2.small T
    have := w2.lens
    refine w2.wpNode T (R2 := R) (ks := l) (.refl _) (.list (.inr rfl) (fun k hk => (e2 k hk).1) (by dsimp only at *; omega)) ho fun w3 x3 h3 => ?_
    refine ⟨⟨w3.weak (by decide) (by decide), E.of h3 rfl⟩, ?_⟩
    obtain ⟨y, h0, hy, h5, h6, h7⟩ := h3
    exact .tup h0 hy h5 (by rw [h7]; exact List.length_pos_iff.2 h2) (by rw [h7]; exact fun j hj => (e2 j hj).2.ext x3)
theorem g_someGo (T : Tks L nameB okp) (H : All L nameB okp n) {ee : B} {l : List Int} {c : Bool} (hp : PreF L nameB okp (n + 1) R s (.someGo ee l c)) : wp (body L nameB (fun {_} g => run L nameB n g) (.someGo ee l c)) s (PostF L nameB okp R s (.someGo ee l c)) := by
  obtain ⟨⟨w, hn⟩, hl, h2, h3⟩ := hp
  dsimp only [body]
  refine w.wpTake T (fun _ _ _ w1 => ?_) fun _ _ _ => ?_
  · rw [if_pos rfl]
    refine w1.wpIs T fun t ht => ?_
    split
    · exact ⟨w1.weak (by split <;> omega) (by decide), hl, h2, fun h => by cases h⟩
    · refine wp_call (H .one _ _ ⟨w1.pre, w1.fuel hn (by decide)⟩) ?_
      rintro k s2 ⟨⟨w2, e2⟩, t2⟩
      replace hl : ∀ j ∈ l ++ [k], E s2.out j ∧ Tg s2.out j := memS (fun j hj => ⟨(hl j hj).1.ext w2.ext, (hl j hj).2.ext w2.ext⟩) ⟨e2, t2⟩
      replace w2 : W L nameB okp s 0 (R ++ (l ++ [k])) 2 2 s2 := ((w1.call w2).re (.of_eq (by simp))).weak (by decide) (by decide)
      have hlen := w2.lens
      refine w2.wpGrow T (by simp only [List.length_append, List.length_singleton] at hlen; omega) ?_
      refine wp_mono (H (.someGo _ _ _) R _ ⟨⟨w2.pre, w2.fuel hn (by decide)⟩, hl, by simp, fun h => by cases h⟩) ?_
      rintro x s' ⟨w7, e7, h7, h8⟩
      exact ⟨(w2.call w7).weak (by split <;> omega) (by decide), e7, h7, h8⟩
  · rw [if_neg Bool.false_ne_true]
    exact ⟨w.weak (by cases c <;> exact Nat.zero_le _) (by decide), hl, h2, h3⟩
theorem g_one (T : Tks L nameB okp) (H : All L nameB okp n) (hp : PreF L nameB okp (n + 1) R s .one) : wp (body L nameB (fun {_} g => run L nameB n g) .one) s (PostF L nameB okp R s .one) := by
  obtain ⟨w, hn⟩ := hp
  dsimp only [body]
  refine w.wpTok T fun t ht => ?_
  have ho := T.place t (List.mem_of_getElem? ht)
  by_cases hb : isB t [[40]] = true
  · rw [if_pos hb]
    refine w.wpMust T fun t2 ht2 hb2 _ w2 => ?_
    refine w2.wpIn fun w3 => ?_
    refine wp_call (H (.some_ [41]) _ _ ⟨w3.pre, w3.fuel hn (by decide)⟩) ?_
    rintro ⟨k, b⟩ s4 ⟨⟨w4, e4⟩, t4⟩
    replace w4 := w3.call w4
    refine w4.wpMust T fun _ _ _ _ w5 => ?_
    refine w5.wpOut fun d w6 => ?_
    exact set_end w6 e4 ho fun s' w7 x7 => ⟨⟨w7.weak (by decide) (by decide), e4.ext x7⟩, t4.ext x7⟩
  rw [if_neg hb]
  by_cases hk : t.kind ≠ 1
  · rw [if_pos hk]
    exact w.wpBad T
  rw [if_neg hk]
  refine wp_call (H .primary R s ⟨w, w.fuel hn (by decide)⟩) ?_
  rintro k s1 ⟨w1, e1⟩
  obtain ⟨y, h0, hy, h1⟩ := e1
  refine w1.wpNodeAt h0 hy ?_
  by_cases hc : y.op ≠ 6 ∧ y.op ≠ 13
  · rw [if_pos hc]
    trivial
  · rw [if_neg hc]
    exact ⟨⟨w1, y, h0, hy, h1⟩, .leaf ⟨y, h0, hy, by omega⟩⟩
theorem g_target (T : Tks L nameB okp) (H : All L nameB okp n) {k : Int} (hp : PreF L nameB okp (n + 1) R s (.target k)) : wp (body L nameB (fun {_} g => run L nameB n g) (.target k)) s (PostF L nameB okp R s (.target k)) := by
  obtain ⟨w, ⟨h0, h1⟩, hn⟩ := hp
  dsimp only [body]
  obtain ⟨y, hy⟩ : ∃ y, s.out[k.toNat]? = some y := ⟨_, List.getElem?_eq_getElem (by omega)⟩
  refine w.wpNodeAt h0 hy ?_
  by_cases hc : y.op ≠ 8
  · rw [if_pos hc]
    refine ⟨rfl, fun h => .leaf ⟨y, h0, hy, ?_⟩⟩
    simpa using h
  · rw [if_neg hc]
    have h2 := kids_le w.fst hy
    have h3 := w.small T
    refine wp_call (H (.targetGo y.kids) R s ⟨w, k.toNat, fun j hj => w.fst.kid _ _ hy j hj, by omega, by omega⟩) ?_
    rintro b s1 ⟨rfl, h4⟩
    refine ⟨rfl, fun h => ?_⟩
    rw [Bool.and_eq_true, decide_eq_true_eq] at h
    exact .tup h0 hy (Decidable.of_not_not hc) h.2 (h4 h.1)
theorem g_targetGo (H : All L nameB okp n) {ks : List Int} (hp : PreF L nameB okp (n + 1) R s (.targetGo ks)) : wp (body L nameB (fun {_} g => run L nameB n g) (.targetGo ks)) s (PostF L nameB okp R s (.targetGo ks)) := by
  obtain ⟨w, b, h1, h2, h3⟩ := hp
  cases ks with
  | nil => exact ⟨rfl, fun _ k hk => by cases hk⟩
  | cons k r =>
    dsimp only [body]
    have hk := h1 k (List.mem_cons_self ..)
    have hl : (k :: r).length = r.length + 1 := rfl
    refine wp_call (H (.target k) R s ⟨w, ⟨hk.1, by omega⟩, ?_⟩) ?_
    · have h4 : k.toNat + 1 ≤ b := by omega
      have h5 := Nat.mul_le_mul_right 1000002 h4
      omega
    · rintro c s1 ⟨rfl, h4⟩
      cases c with
      | true =>
        rw [if_pos rfl]
        refine wp_mono (H (.targetGo r) R _ ⟨w, b, fun j hj => h1 j (List.mem_cons_of_mem _ hj), h2, by omega⟩) ?_
        rintro c2 s2 ⟨rfl, h5⟩
        exact ⟨rfl, fun h => memC (h4 rfl) (h5 h)⟩
      | false =>
        rw [if_neg Bool.false_ne_true]
        exact ⟨rfl, fun h => by cases h⟩
theorem Pl.whole {o : List Nd} {k : Int} {ww d p : Bool} (h : Pl o k false d p) : Pl o k ww d p := by
  cases h with
  | inLoop h => exact .inLoop h
  | ret h => exact .ret h
  | rest h => exact .rest h
  | deep h0 hx ho hk => exact .deep h0 hx ho hk
theorem g_statement (T : Tks L nameB okp) (H : All L nameB okp n) {ww : Bool} (hp : PreF L nameB okp (n + 1) R s (.statement ww)) : wp (body L nameB (fun {_} g => run L nameB n g) (.statement ww)) s (PostF L nameB okp R s (.statement ww)) := by
  obtain ⟨⟨w, hn⟩, hd⟩ := hp
  dsimp only [body]
  refine w.wpTok T fun t ht => ?_
  by_cases h1 : isB t [[105, 102]] = true
  · rw [if_pos h1]
    refine wp_mono (H .cond R s ⟨⟨w, w.fuel hn (by decide)⟩, fun t2 ht2 => by rw [ht] at ht2; cases ht2; exact isB_8 h1⟩) ?_
    rintro k s1 ⟨w1, e1, p1⟩
    exact ⟨w1, e1, p1.whole⟩
  rw [if_neg h1]
  by_cases h2 : isB t [[102, 111, 114]] = true
  · rw [if_pos h2]
    refine wp_mono (H .loop R s ⟨w, w.fuel hn (by decide)⟩) ?_
    rintro k s1 ⟨w1, e1, p1⟩
    exact ⟨w1, e1, p1.whole⟩
  rw [if_neg h2]
  by_cases h3 : isB t [[100, 101, 102]] = true
  · rw [if_pos h3]
    cases ww with
    | false => rw [if_neg Bool.false_ne_true]; exact w.wpBad T
    | true =>
      rw [if_pos rfl]
      exact H .def_ R s ⟨⟨w, w.fuel hn (by decide)⟩, hd rfl⟩
  rw [if_neg h3]
  refine wp_call (H (.simple ww) R s ⟨w, w.fuel hn (by decide)⟩) ?_
  rintro k s1 ⟨w1, e1⟩
  refine w1.wpKinds T (by decide) fun _ _ _ _ w2 => ?_
  exact ⟨w2.weak (by decide) (by decide), e1⟩
theorem At.nodup {o : List Nd} {k : Int} {P Q : Int → B → List Int → Prop} (h : At o k P) (h2 : At o k Q) : At o k fun a b c => P a b c ∧ Q a b c := by
  obtain ⟨x, h0, hx, hp⟩ := h
  obtain ⟨y, _, hy, hq⟩ := h2
  rw [hx] at hy
  cases hy
  exact ⟨x, h0, hx, hp, hq⟩
theorem Stm.of {o : List Nd} {k a : Int} {x : B} {ks : List Int} {ww d p : Bool} (h : At o k fun op x' ks' => op = a ∧ x' = x ∧ ks' = ks) (ha : stmtB a = true) (hp : Pl o k ww d p) : Stm o k ww d p := ⟨h.mono fun _ _ _ hh => by rw [hh.1]; exact ha, hp⟩
theorem Pl.small {o : List Nd} {k a : Int} {x : B} {ks : List Int} {ww d p : Bool} (h : At o k fun op x' ks' => op = a ∧ x' = x ∧ ks' = ks) (ha : a < 39 ∨ a = 46) : Pl o k ww d p := .rest (h.mono fun _ _ _ hh => by rw [hh.1]; exact ha)
theorem g_simple (T : Tks L nameB okp) (H : All L nameB okp n) {ww : Bool} (hp : PreF L nameB okp (n + 1) R s (.simple ww)) : wp (body L nameB (fun {_} g => run L nameB n g) (.simple ww)) s (PostF L nameB okp R s (.simple ww)) := by
  obtain ⟨w, hn⟩ := hp
  dsimp only [body]
  refine w.wpTok T fun t ht => ?_
  have ho := T.place t (List.mem_of_getElem? ht)
  refine w.wpTake T (fun _ _ _ w1 => ?_) fun _ _ _ => ?_
  · rw [if_pos rfl]
    exact w1.end_ T (R2 := R) (ks := []) (.of_eq (by simp)) (.leaf (by decide)) ho fun s' w8 _ h8 => ⟨w8.weak (by decide) (by decide), Stm.of h8 rfl (Pl.small h8 (by decide))⟩
  rw [if_neg Bool.false_ne_true]
  by_cases h1 : isB t [[98, 114, 101, 97, 107], [99, 111, 110, 116, 105, 110, 117, 101]] = true
  · rw [if_pos h1]
    show wp (if s.fors = 0 then bad L else _) s _
    by_cases h0 : s.fors = 0
    · rw [if_pos h0]; exact w.wpBad T
    rw [if_neg h0]
    have hf : decide (s.fors ≠ 0) = true := decide_eq_true h0
    refine w.wpTake T (fun _ _ _ w1 => ?_) fun _ _ _ => ?_
    · rw [if_pos rfl]
      exact w1.end_ T (R2 := R) (ks := []) (.of_eq (by simp)) (.leaf (by decide)) ho fun s' w8 _ h8 => ⟨w8.weak (by decide) (by decide), Stm.of h8 rfl (by rw [hf]; exact .inLoop (h8.mono fun _ _ _ hh => .inl hh.1))⟩
    · rw [if_neg Bool.false_ne_true]
      refine w.wpAdv T ht (isB_8 h1) fun w1 => ?_
      exact w1.end_ T (R2 := R) (ks := []) (.of_eq (by simp)) (.leaf (by decide)) ho fun s' w8 _ h8 => ⟨w8.weak (by decide) (by decide), Stm.of h8 rfl (by rw [hf]; exact .inLoop (h8.mono fun _ _ _ hh => .inr hh.1))⟩
  rw [if_neg h1]
  by_cases h2 : isB t [[114, 101, 116, 117, 114, 110]] = true
  · rw [if_pos h2]
    refine wp_mono (H .answer R s ⟨w, w.fuel hn (by decide)⟩) ?_
    rintro k s1 ⟨w1, e1, p1⟩
    exact ⟨w1, e1, p1.whole⟩
  rw [if_neg h2]
  by_cases h3 : isB t [[108, 111, 97, 100]] = true
  · rw [if_pos h3]
    cases ww with
    | false => rw [if_neg Bool.false_ne_true]; exact w.wpBad T
    | true => rw [if_pos rfl]; exact H .load R s ⟨w, w.fuel hn (by decide)⟩
  rw [if_neg h3]
  refine wp_call (H .many R s ⟨w, w.fuel hn (by decide)⟩) ?_
  rintro ⟨a, b⟩ s1 ⟨w1, e1⟩
  dsimp only at w1 e1 ⊢
  refine w1.wpTok T fun t2 ht2 => ?_
  have ho2 := T.place t2 (List.mem_of_getElem? ht2)
  by_cases h4 : isB t2 [[61]] = true
  · rw [if_pos h4]
    have h5 := e1.lt
    have h6 := w1.small T
    refine wp_call (H (.target a) (R ++ [a]) s1 ⟨w1.pre, h5, ?_⟩) ?_
    · have h7 := w1.le
      have h8 := w1.lt
      exact fuel_tg (M := 1000000) (by omega) hn (by omega) (Nat.le_of_ble_eq_true rfl)
    rintro c s2 ⟨rfl, h7⟩
    cases c with
    | false => rw [if_neg Bool.false_ne_true]; exact w1.wpBad T
    | true =>
      rw [if_pos rfl]
      refine w1.wpAdv T ht2 (isB_8 h4) fun w2 => ?_
      refine wp_call (H .many _ _ ⟨w2.pre, w2.fuel hn (by decide)⟩) ?_
      rintro ⟨b, c⟩ s3 ⟨w3, e3⟩
      have t3 := (h7 rfl).ext w3.ext
      replace w3 := w2.call w3
      exact w3.end_ T (R2 := R) (ks := [a, b]) (perm_cnt fun x => by simp only [cnt_append, cnt_cons, cnt_nil]; omega) (.asg t3 e3) ho2 fun s' w8 _ h8 => ⟨w8.weak (by decide) (by decide), Stm.of h8 rfl (Pl.small h8 (by decide))⟩
  rw [if_neg h4]
  obtain ⟨y, h0, hy, h5⟩ := e1
  by_cases h6 : isB t2 [[43, 61]] = true
  · rw [if_pos h6]
    refine w1.wpNodeAt h0 hy ?_
    by_cases hc : y.op ≠ 6 ∧ y.op ≠ 13
    · rw [if_pos hc]; exact w1.wpBad T
    rw [if_neg hc]
    refine w1.wpAdv T ht2 (isB_8 h6) fun w2 => ?_
    have t1 : At s1.out a fun op _ _ => op = 6 ∨ op = 13 := ⟨y, h0, hy, by omega⟩
    refine wp_call (H .many _ _ ⟨w2.pre, w2.fuel hn (by decide)⟩) ?_
    rintro ⟨b, c⟩ s3 ⟨w3, e3⟩
    replace t1 := t1.ext w3.ext
    replace w3 := w2.call w3
    exact w3.end_ T (R2 := R) (ks := [a, b]) (perm_cnt fun x => by simp only [cnt_append, cnt_cons, cnt_nil]; omega) (.addTo t1 e3) ho2 fun s' w8 _ h8 => ⟨w8.weak (by decide) (by decide), Stm.of h8 rfl (Pl.small h8 (by decide))⟩
  rw [if_neg h6]
  refine w1.wpNodeAt h0 hy ?_
  exact w1.end_ T (R2 := R) (ks := [a]) (.refl _) (.one (.inr (.inr rfl)) ⟨y, h0, hy, h5⟩) (w1.fst.fit _ _ hy).2.1 fun s' w8 _ h8 => ⟨w8.weak (by decide) (by decide), Stm.of h8 rfl (Pl.small h8 (by decide))⟩
theorem g_answer (T : Tks L nameB okp) (H : All L nameB okp n) (hp : PreF L nameB okp (n + 1) R s .answer) : wp (body L nameB (fun {_} g => run L nameB n g) .answer) s (PostF L nameB okp R s .answer) := by
  obtain ⟨w, hn⟩ := hp
  dsimp only [body]
  show wp (if s.defs then _ else bad L) s _
  cases hd : s.defs with
  | false => rw [if_neg Bool.false_ne_true]; exact w.wpBad T
  | true =>
    rw [if_pos rfl]
    refine w.wpMust T fun t2 ht2 hb2 ho w2 => ?_
    refine w2.wpTok T fun t ht => ?_
    have fin : ∀ {s' : St} {x : B} {ks : List Int}, At s'.out (s'.out.length : Int) (fun op x' ks' => op = 41 ∧ x' = x ∧ ks' = ks) → True := fun _ => trivial
    by_cases hk : t.kind = 5
    · rw [if_pos hk]
      exact w2.end_ T (R2 := R) (ks := []) (.of_eq (by simp)) (.ret (fun _ h => by cases h) (by decide)) ho fun s' w8 _ h8 => ⟨w8.weak (by decide) (by decide), Stm.of h8 rfl (by rw [hd]; exact .ret (Op.of h8))⟩
    · rw [if_neg hk]
      refine wp_call (H .many _ _ ⟨w2.pre, w2.fuel hn (by decide)⟩) ?_
      rintro ⟨b, c⟩ s3 ⟨w3, e3⟩
      replace w3 := w2.call w3
      exact w3.end_ T (R2 := R) (ks := [b]) (.refl _) (.ret (mem1 e3) (by simp)) ho fun s' w8 _ h8 => ⟨w8.weak (by decide) (by decide), Stm.of h8 rfl (by rw [hd]; exact .ret (Op.of h8))⟩
theorem g_load (T : Tks L nameB okp) (H : All L nameB okp n) (hp : PreF L nameB okp (n + 1) R s .load) : wp (body L nameB (fun {_} g => run L nameB n g) .load) s (PostF L nameB okp R s .load) := by
  obtain ⟨w, hn⟩ := hp
  dsimp only [body]
  refine w.wpMust T fun t2 ht2 hb2 ho w2 => ?_
  refine w2.wpMust T fun _ _ _ _ w3 => ?_
  refine w3.wpIn fun w4 => ?_
  refine w4.wpKinds T (by decide) fun tm htm _ _ w5 => ?_
  refine wp_call (H (.loadGo []) R _ ⟨⟨w5.pre.re (.of_eq (by simp)), w5.fuel hn (by decide)⟩, fun _ h => by cases h⟩) ?_
  rintro l s6 ⟨w6, e6⟩
  replace w6 := w5.call w6
  by_cases hl : l = []
  · rw [if_pos hl]; exact w6.wpBad T
  rw [if_neg hl]
  refine w6.wpMust T fun _ _ _ _ w7 => ?_
  refine w7.wpOut fun d w8 => ?_
  exact w8.end_ T (R2 := R) (ks := l) (.refl _) (.load hl e6) ho (fun s' w9 _ h9 => ⟨w9.weak (by decide) (by decide), Stm.of h9 rfl (.load (Op.of h9))⟩) (T.small htm)
theorem g_loadGo (T : Tks L nameB okp) (H : All L nameB okp n) {l : List Int} (hp : PreF L nameB okp (n + 1) R s (.loadGo l)) : wp (body L nameB (fun {_} g => run L nameB n g) (.loadGo l)) s (PostF L nameB okp R s (.loadGo l)) := by
  obtain ⟨⟨w, hn⟩, hl⟩ := hp
  dsimp only [body]
  have fin : ∀ (s1 : St) (c e : Nat) (p1 p2 : Int) (x1 x2 : B), W L nameB okp s 0 (R ++ l) (c + 2) (e + 1) s1 → Ext s.out s1.out → okp p1 → okp p2 → nameB x2 = true → x1.length < 1000000 → x2.length < 1000000 → wp (bnd (node 5 p1 x1 []) fun n1 => bnd (node 46 p2 x2 [n1]) fun q => grow l (run L nameB n (.loadGo (l ++ [q])))) s1 (PostF L nameB okp R s (.loadGo l)) := by
    intro s1 c e p1 p2 x1 x2 w1 x1e o1 o2 hx l1 l2
    refine w1.wpNode T (R2 := R ++ l) (ks := []) (.of_eq (by simp)) .str o1 (hx := l1) fun w2 y2 h2 => ?_
    have e2 : E _ _ := E.of h2 rfl
    refine w2.wpNode T (R2 := R ++ l) (ks := [_]) (.refl _) (.par hx (mem1 e2) (by simp)) o2 (hx := l2) fun w3 y3 h3 => ?_
    have hl2 : ∀ k ∈ l ++ [((s1.out ++ [(⟨5, 0, p1, x1, []⟩ : Nd)]).length : Int)], Ld (s1.out ++ [⟨5, 0, p1, x1, []⟩] ++ [⟨46, 0, p2, x2, [(s1.out.length : Int)]⟩]) k := memS (fun k hk => (((hl k hk).ext x1e).ext y2).ext y3) ⟨_, (Op.of h2).ext y3, h3.mono fun _ _ _ hh => ⟨hh.1, hh.2.2⟩⟩
    replace w3 := w3.re (R2 := R ++ (l ++ [_])) (.of_eq (List.append_assoc ..))
    have hlen := w3.lens
    refine w3.wpGrow T (by simp only [List.length_append, List.length_singleton] at hlen ⊢; omega) ?_
    refine wp_mono (H (.loadGo _) R _ ⟨⟨w3.pre, w3.fuel hn (by omega)⟩, hl2⟩) ?_
    rintro k' s' ⟨w7, e7⟩
    exact ⟨(w3.call w7).weak (by omega) (by omega), e7⟩
  refine w.wpTake T (fun _ _ _ w1 => ?_) fun _ _ _ => ?_
  · rw [if_pos rfl]
    refine w1.wpTok T fun t ht => ?_
    have ho := T.place t (List.mem_of_getElem? ht)
    split
    · exact ⟨w1.weak (by decide) (by decide), hl⟩
    by_cases h1 : t.kind = 1
    · rw [if_pos h1]
      refine w1.wpKinds T (by decide) fun t2 ht2 hk2 _ w2 => ?_
      refine w2.wpMust T fun _ _ _ _ w3 => ?_
      refine w3.wpKinds T (by decide) fun t4 ht4 _ ho4 w4 => ?_
      exact fin _ _ _ _ _ _ _ (w4.weak (c2 := 2) (e2 := 1) (by decide) (by decide)) (Ext.same _) ho4 ho (T.name t2 (List.mem_of_getElem? ht2) hk2) (T.small ht4) (T.small ht2)
    · rw [if_neg h1]
      by_cases h2 : t.kind ≠ 3 ∨ nameB t.text = false
      · rw [if_pos h2]; exact w1.wpBad T
      rw [if_neg h2]
      refine w1.wpKinds T (by decide) fun t2 ht2 hk2 _ w2 => ?_
      have h3 : t = t2 := Option.some.inj (ht.symm.trans ht2)
      refine fin _ _ _ _ _ _ _ (w2.weak (c2 := 2) (e2 := 1) (by decide) (by decide)) (Ext.same _) ho ho ?_ (T.small ht2) (T.small ht2)
      rw [← h3]
      cases hb : nameB t.text with
      | true => rfl
      | false => exact absurd (.inr hb) h2
  · rw [if_neg Bool.false_ne_true]
    exact ⟨w, hl⟩
theorem g_block (T : Tks L nameB okp) (H : All L nameB okp n) (hp : PreF L nameB okp (n + 1) R s .block) : wp (body L nameB (fun {_} g => run L nameB n g) .block) s (PostF L nameB okp R s .block) := by
  obtain ⟨w, hn⟩ := hp
  dsimp only [body]
  refine w.wpMust T fun t2 ht2 hb2 ho w2 => ?_
  refine w2.wpIn fun w3 => ?_
  refine w3.wpTok T fun t ht => ?_
  have fin : ∀ (l : List Int) (s4 : St), W L nameB okp s 1 (R ++ l) 1 1 s4 → (∀ k ∈ l, Stm s4.out k false s.defs (decide (s.fors ≠ 0))) → l ≠ [] → wp (bnd outn fun _ => bnd (nodeAt (l.headD 0)) fun x => node 47 x.pos [] l) s4 (PostF L nameB okp R s .block) := by
    intro l s4 w4 h4 hl
    refine w4.wpOut fun d w5 => ?_
    match l, hl, h4, w5 with
    | k :: r, hl, h4, w5 =>
      obtain ⟨y, h0, hy, h1⟩ := (h4 k (List.mem_cons_self ..)).1
      refine w5.wpNodeAt h0 hy ?_
      refine w5.end_ T (R2 := R) (ks := k :: r) (.refl _) (.block hl fun j hj => (h4 j hj).1) (w5.fst.fit _ _ hy).2.1 fun s' w8 x8 h8 => ⟨w8.weak (by decide) (by decide), Op.of h8, ?_⟩
      obtain ⟨z, z0, hz, z1, z2, z3⟩ := h8
      refine .deep z0 hz (.inl z1) ?_
      rw [z1, z3]
      intro j hj
      rw [show (decide (s.fors ≠ 0) || decide ((47 : Int) = 44)) = decide (s.fors ≠ 0) by simp]
      exact ((h4 j hj).ext x8).2
  by_cases hk : t.kind = 5
  · rw [if_pos hk]
    refine wp_assoc (w3.wpAdv T ht (by omega) fun w4 => ?_)
    refine wp_assoc (w4.wpKinds T (by decide) fun _ _ _ _ w5 => ?_)
    refine wp_assoc (wp_call (H (.blockGo []) R _ ⟨⟨w5.pre.re (.of_eq (by simp)), w5.fuel hn (by decide)⟩, fun _ h => by cases h⟩) ?_)
    rintro l s6 ⟨w6, e6, h6, h7⟩
    replace w6 := w5.call w6
    obtain ⟨t7, ht7⟩ := w6.tokEx T
    refine wp_assoc (w6.wpAdv T ht7 (by rw [h7 t7 ht7]; decide) fun w8 => ?_)
    exact fin l _ (w8.weak (by decide) (by decide)) e6 h6
  · rw [if_neg hk]
    refine wp_assoc (wp_call (H (.simple false) R _ ⟨w3.pre, w3.fuel hn (by decide)⟩) ?_)
    rintro k s6 ⟨w6, e6⟩
    replace w6 := w3.call w6
    refine wp_assoc (w6.wpKinds T (by decide) fun _ _ _ _ w7 => ?_)
    exact fin [k] _ (w7.weak (by decide) (by decide)) (mem1 e6) (by simp)
theorem g_blockGo (T : Tks L nameB okp) (H : All L nameB okp n) {l : List Int} (hp : PreF L nameB okp (n + 1) R s (.blockGo l)) : wp (body L nameB (fun {_} g => run L nameB n g) (.blockGo l)) s (PostF L nameB okp R s (.blockGo l)) := by
  obtain ⟨⟨w, hn⟩, hl⟩ := hp
  dsimp only [body]
  refine w.wpTok T fun t ht => ?_
  by_cases hc : l = [] ∨ t.kind ≠ 7
  · rw [if_pos hc]
    refine wp_call (H (.statement false) _ _ ⟨⟨w, w.fuel hn (by decide)⟩, fun h => by cases h⟩) ?_
    rintro k s1 ⟨w1, e1⟩
    replace w1 : W L nameB okp s 0 (R ++ (l ++ [k])) 0 1 s1 := w1.re (.of_eq (List.append_assoc ..))
    have hl2 : ∀ j ∈ l ++ [k], Stm s1.out j false s.defs (decide (s.fors ≠ 0)) := memS (fun j hj => (hl j hj).ext w1.ext) e1
    have hlen := w1.lens
    have hf := w1.fors
    have hd := w1.defs
    refine w1.wpGrow T (by simp only [List.length_append, List.length_singleton] at hlen; omega) ?_
    refine wp_mono (H (.blockGo _) R _ ⟨⟨w1.pre, w1.fuel hn (by decide)⟩, by rw [hf, hd]; exact hl2⟩) ?_
    rintro k' s' ⟨w7, e7, h7, h8⟩
    rw [hf, hd] at e7
    exact ⟨(w1.call w7).weak (by decide) (by decide), e7, h7, h8⟩
  · rw [if_neg hc]
    refine ⟨w, hl, fun h => hc (.inl h), fun t2 ht2 => ?_⟩
    rw [ht] at ht2
    cases ht2
    exact Decidable.of_not_not fun h => hc (.inr h)
theorem g_cond (T : Tks L nameB okp) (H : All L nameB okp n) (hp : PreF L nameB okp (n + 1) R s .cond) : wp (body L nameB (fun {_} g => run L nameB n g) .cond) s (PostF L nameB okp R s .cond) := by
  obtain ⟨⟨w, hn⟩, hk⟩ := hp
  dsimp only [body]
  refine w.wpTok T fun t ht => ?_
  have ho := T.place t (List.mem_of_getElem? ht)
  refine w.wpAdv T ht (hk t ht) fun w1 => ?_
  refine wp_call (H .test _ _ ⟨w1.pre, w1.fuel hn (by decide)⟩) ?_
  rintro c s2 ⟨w2, e2⟩
  replace w2 := w1.call w2
  refine wp_call (H .block _ _ ⟨w2.pre, w2.fuel hn (by decide)⟩) ?_
  rintro b s3 ⟨w3, o3, p3⟩
  replace e2 := e2.ext w3.ext
  replace w3 := w2.call w3
  rw [w2.defs, w2.fors] at p3
  have fin : ∀ (ks : List Int) (s4 : St) (c0 e0 : Nat), W L nameB okp s 0 (R ++ [c] ++ [b] ++ ks) (c0 + 1) (e0 + 1) s4 → Ext s3.out s4.out → (∀ k ∈ ks, Op s4.out k 47 ∧ Pl s4.out k false s.defs (decide (s.fors ≠ 0))) → ks.length ≤ 1 → wp (node 43 t.pos [] (c :: b :: ks)) s4 (PostF L nameB okp R s .cond) := by
    intro ks s4 c0 e0 w4 x4 h4 hl
    refine w4.end_ T (R2 := R) (ks := c :: b :: ks) (.of_eq (by simp)) (.cond (e2.ext x4) (o3.ext x4) (fun k hk => (h4 k hk).1) hl) ho fun s' w8 x8 h8 => ⟨w8.weak (by omega) (by omega), Stm.of h8 rfl ?_⟩
    have e5 := (e2.ext x4).ext x8
    obtain ⟨z, z0, hz, z1, z2, z3⟩ := h8
    refine .deep z0 hz (.inr (.inl z1)) ?_
    rw [z1, z3]
    rw [show (decide (s.fors ≠ 0) || decide ((43 : Int) = 44)) = decide (s.fors ≠ 0) by simp]
    exact memC (.rest (e5.mono fun _ _ _ hh => expr_small hh)) (memC ((p3.ext x4).ext x8) fun k hk => (h4 k hk).2.ext x8)
  refine w3.wpTok T fun t2 ht2 => ?_
  have ho2 := T.place t2 (List.mem_of_getElem? ht2)
  by_cases hb : isB t2 [[101, 108, 105, 102]] = true
  · rw [if_pos hb]
    refine w3.wpIn fun w4 => ?_
    refine wp_call (H .cond _ _ ⟨⟨w4.pre, w4.fuel hn (by decide)⟩, fun t5 ht5 => by
      have h1 : some t2 = some t5 := ht2.symm.trans ht5
      cases h1
      exact isB_8 hb⟩) ?_
    rintro k s5 ⟨w5, e5, p5⟩
    have x5 := w5.ext
    rw [w4.defs, w4.fors] at p5
    replace w5 := w4.call w5
    refine w5.wpOut fun d w6 => ?_
    refine w6.wpNode T (R2 := R ++ [c] ++ [b]) (ks := [k]) (.refl _) (.block (by simp) (mem1 e5)) ho2 fun w7 x7 h7 => ?_
    refine fin [_] _ _ _ w7 (x5.trans x7) (mem1 ⟨Op.of h7, ?_⟩) (by simp)
    obtain ⟨z, z0, hz, z1, z2, z3⟩ := h7
    refine .deep z0 hz (.inl z1) ?_
    rw [z1, z3]
    rw [show (decide (s.fors ≠ 0) || decide ((47 : Int) = 44)) = decide (s.fors ≠ 0) by simp]
    exact mem1 (p5.ext x7)
  rw [if_neg hb]
  refine w3.wpTake T (fun _ _ _ w4 => ?_) fun _ _ _ => ?_
  · rw [if_pos rfl]
    refine wp_call (H .block _ _ ⟨w4.pre, w4.fuel hn (by decide)⟩) ?_
    rintro k s5 ⟨w5, e5, p5⟩
    have x5 := w5.ext
    rw [w4.defs, w4.fors] at p5
    exact fin [k] _ _ _ (w4.call w5) x5 (mem1 ⟨e5, p5⟩) (by simp)
  · rw [if_neg Bool.false_ne_true]
    exact fin [] _ _ _ (w3.re (.of_eq (by simp))) (Ext.same _) (fun _ h => by cases h) (by simp)
theorem wp_setDefs {α : Type} {b : Bool} {f : Unit → M α} {Q : α → St → Prop} (h : wp (f ()) { s with defs := b } Q) : wp (bnd (setDefs b) f) s Q := h
theorem wp_getFors {α : Type} {f : Nat → M α} {Q : α → St → Prop} (h : wp (f s.fors) s Q) : wp (bnd getFors f) s Q := h
theorem wp_setFors {α : Type} {k : Nat} (hk : k < 1000000) {f : Unit → M α} {Q : α → St → Prop} (h : wp (f ()) { s with fors := k } Q) : wp (bnd (setFors k) f) s Q := by
  unfold wp bnd setFors at *
  rw [if_pos hk]
  exact h
theorem g_loop (T : Tks L nameB okp) (H : All L nameB okp n) (hp : PreF L nameB okp (n + 1) R s .loop) : wp (body L nameB (fun {_} g => run L nameB n g) .loop) s (PostF L nameB okp R s .loop) := by
  obtain ⟨w, hn⟩ := hp
  dsimp only [body]
  refine w.wpMust T fun tf htf hbf ho w1 => ?_
  refine wp_call (H (.some_ [105, 110]) _ _ ⟨w1.pre, w1.fuel hn (by decide)⟩) ?_
  rintro ⟨to, b⟩ s2 ⟨⟨w2, e2⟩, t2⟩
  replace w2 := w1.call w2
  refine w2.wpMust T fun _ _ _ _ w3 => ?_
  refine wp_call (H .many _ _ ⟨w3.pre, w3.fuel hn (by decide)⟩) ?_
  rintro ⟨c, b2⟩ s4 ⟨w4, e4⟩
  replace e2 := e2.ext w4.ext
  replace t2 := t2.ext w4.ext
  replace w4 := w3.call w4
  dsimp only at w4 e2 t2 e4 ⊢
  have hle := w4.le
  have hff := w4.fors
  have hf0 := w4.hf
  have hlt := w4.lt
  have hTl := T.len
  have hw5 : wp (bnd (run L nameB n .block) fun b => bnd getFors fun m => match m with | 0 => fun _ => none | m + 1 => bnd (setFors m) fun _ => node 44 tf.pos [] [to, c, b]) { s4 with fors := s4.fors + 1 } (PostF L nameB okp R s .loop) := by
    have w5 : W L nameB okp { s4 with fors := s4.fors + 1 } 0 _ 0 0 { s4 with fors := s4.fors + 1 } := w4.other (b := s4.defs) (k := s4.fors + 1) (by omega)
    refine wp_call (H .block _ _ ⟨w5, w4.fuel (r' := 1) hn (by decide)⟩) ?_
    rintro b s6 ⟨w6, o6, p6⟩
    have hf6 : s6.fors = s4.fors + 1 := w6.fors
    have hd6 : s6.defs = s4.defs := w6.defs
    have x6 := w6.ext
    have w7 := w4.back (k := s4.fors + 1) (b := s4.defs) w6
    show wp (match s6.fors with | 0 => fun _ => none | m + 1 => bnd (setFors m) fun _ => node 44 tf.pos [] [to, c, b]) s6 _
    rw [hf6]
    dsimp only
    refine wp_setFors (by omega) ?_
    rw [← hd6] at w7
    refine w7.end_ T (R2 := R) (ks := [to, c, b]) (perm_cnt fun x => by simp only [cnt_append, cnt_cons, cnt_nil]; omega) (.loop (t2.ext x6) (e4.ext x6) o6) ho fun s' w8 x8 h8 => ⟨w8.weak (by decide) (by decide), Stm.of h8 rfl ?_⟩
    have f1 := (e2.ext x6).ext x8
    have f2 := (e4.ext x6).ext x8
    have f3 := p6.ext x8
    obtain ⟨z, z0, hz, z1, z2, z3⟩ := h8
    refine .deep z0 hz (.inr (.inr z1)) ?_
    rw [z1, z3]
    rw [show (decide (s.fors ≠ 0) || decide ((44 : Int) = 44)) = true by simp]
    refine mem3 (.rest (f1.mono fun _ _ _ hh => expr_small hh)) (.rest (f2.mono fun _ _ _ hh => expr_small hh)) ?_
    rw [← w4.defs]
    exact f3
  exact wp_getFors (wp_setFors (by omega) hw5)
theorem g_def (T : Tks L nameB okp) (H : All L nameB okp n) (hp : PreF L nameB okp (n + 1) R s .def_) : wp (body L nameB (fun {_} g => run L nameB n g) .def_) s (PostF L nameB okp R s .def_) := by
  obtain ⟨⟨w, hn⟩, hd⟩ := hp
  dsimp only [body]
  refine w.wpMust T fun t2 ht2 hb2 ho w1 => ?_
  refine w1.wpKinds T (by decide) fun t3 ht3 hk3 _ w2 => ?_
  refine w2.wpMust T fun _ _ _ _ w3 => ?_
  refine wp_call (H (.defGo [] [] false) R _ ⟨⟨w3.pre.re (.of_eq (by simp)), w3.fuel hn (by decide)⟩, (fun _ h => by cases h), rfl, rfl, (fun _ h => by cases h), fun h => by cases h⟩) ?_
  rintro l s4 ⟨w4, o4, p4⟩
  replace w4 := w3.call w4
  refine w4.wpMust T fun _ _ _ _ w5 => ?_
  have hff := w5.fors
  have hdd := w5.defs
  have hf0 := w5.hf
  have hlt := w5.lt
  have hle := w5.le
  have hTl := T.len
  dsimp only at hff hdd hlt hle
  have w6 := w5.other (k := 0) (b := true) (Nat.zero_le _)
  refine wp_setDefs (wp_getFors (wp_setFors (by decide) ?_))
  refine wp_call (H .block _ _ ⟨w6, w5.fuel (r' := 1) hn (by decide)⟩) ?_
  rintro b s6 ⟨w7, o7, p7⟩
  have x7 := w7.ext
  have w8 := w5.back (k := 0) (b := true) w7
  refine wp_setDefs (wp_setFors (by dsimp only; omega) ?_)
  rw [show ({ s4 with at_ := s4.at_ + 1 } : St).defs = false from hdd.trans hd] at w8
  refine w8.end_ T (R2 := R) (ks := l ++ [b]) (.of_eq (List.append_assoc ..)) (.ofDef (T.name t3 (List.mem_of_getElem? ht3) hk3) (fun k hk => (o4 k hk).ext x7) o7) ho (hx := T.small ht3) fun s' w9 x9 h9 => ⟨w9.weak (by decide) (by decide), Stm.of h9 rfl ?_⟩
  obtain ⟨z, z0, hz, z1, z2, z3⟩ := h9
  refine .ofDef z0 hz z1 z3 (fun k hk => ((o4 k hk).ext x7).ext x9) ?_ (p7.ext x9)
  rw [params_ext x9 _ _ _ fun k hk => (o4 k hk).ext x7, params_ext x7 _ _ _ o4]
  exact p4
theorem g_defGo (T : Tks L nameB okp) (H : All L nameB okp n) {l : List Int} {names : List B} {g : Bool} (hp : PreF L nameB okp (n + 1) R s (.defGo l names g)) : wp (body L nameB (fun {_} g => run L nameB n g) (.defGo l names g)) s (PostF L nameB okp R s (.defGo l names g)) := by
  obtain ⟨⟨w, hn⟩, hl⟩ := hp
  dsimp only [body]
  refine w.wpTok T fun t ht => ?_
  by_cases hb : isB t [[41]] = true
  · rw [if_pos hb]
    exact ⟨w, hl.1, hl.2.1⟩
  rw [if_neg hb]
  generalize ha : aheadV' L s = ah
  show wp (if t.kind ≠ 1 ∨ names.contains t.text = true ∨ (g = true ∧ aheadV' L s = false) then bad L else _) s _
  rw [ha]
  by_cases hc : t.kind ≠ 1 ∨ names.contains t.text = true ∨ (g = true ∧ ah = false)
  · rw [if_pos hc]; exact w.wpBad T
  rw [if_neg hc]
  refine w.wpKinds T (by decide) fun t2 ht2 hk2 ho w1 => ?_
  have h1 : t = t2 := Option.some.inj (ht.symm.trans ht2)
  subst h1
  have hnm := T.name t (List.mem_of_getElem? ht) hk2
  have hnot : t.text ∉ names := fun h => hc (.inr (.inl (List.contains_iff_mem.2 h)))
  have fin : ∀ (k : Int) (g2 : Bool) (s4 : St) (c e : Nat) (ks : List Int), W L nameB okp s 0 (R ++ l ++ [k]) c (e + 1) s4 → DefOk s4.out l names g → At s4.out k (fun op x' ks' => op = 46 ∧ x' = t.text ∧ ks' = ks) → (g2 = true ↔ (g = true ∨ ks ≠ [])) → (g = true → ks ≠ []) → wp (bnd (take L [44]) fun b => grow l (if b then run L nameB n (.defGo (l ++ [k]) (names ++ [t.text]) g2) else ret (l ++ [k]))) s4 (PostF L nameB okp R s (.defGo l names g)) := by
    intro k g2 s4 c e ks w4 d4 h4 hg hg2
    obtain ⟨f1, f2, f3, f4, f5⟩ := d4
    obtain ⟨k1, k2, k3⟩ := h4.nd
    have d5 : DefOk s4.out (l ++ [k]) (names ++ [t.text]) g2 := by
      refine ⟨memS f1 (Op.of h4), params_snoc l [] false f2 ?_ ?_, by rw [f3, List.map_append]; simp [k2], ?_, ?_⟩
      · rw [List.nil_append, ← f3, k2]; exact hnot
      · rintro (h | ⟨j, hj, h⟩)
        · cases h
        · rw [k3]; exact hg2 (f4 j hj h)
      · intro j hj h
        rcases List.mem_append.1 hj with hj | hj
        · exact hg.2 (.inl (f4 j hj h))
        · cases List.mem_singleton.1 hj
          exact hg.2 (.inr (by rw [← k3]; exact h))
      · intro h
        rcases hg.1 h with h | h
        · obtain ⟨j, hj, h5⟩ := f5 h
          exact ⟨j, List.mem_append_left _ hj, h5⟩
        · exact ⟨k, by simp, by rw [k3]; exact h⟩
    have w5 : W L nameB okp s 0 (R ++ (l ++ [k])) c (e + 1) s4 := w4.re (.of_eq (List.append_assoc ..))
    have hlen := w5.lens
    refine w5.wpTake T (fun _ _ _ w6 => ?_) fun _ _ _ => ?_
    · refine w6.wpGrow T (by simp only [List.length_append, List.length_singleton] at hlen; show l.length ≤ s4.out.length; omega) ?_
      rw [if_pos rfl]
      refine wp_mono (H (.defGo _ _ _) R _ ⟨⟨w6.pre, w6.fuel hn (by omega)⟩, d5⟩) ?_
      rintro k' s' ⟨w7, e7, h7⟩
      exact ⟨(w6.call w7).weak (by omega) (by omega), e7, h7⟩
    · refine w5.wpGrow T (by simp only [List.length_append, List.length_singleton] at hlen; omega) ?_
      rw [if_neg Bool.false_ne_true]
      exact ⟨w5.weak (by omega) (by omega), d5.1, d5.2.1⟩
  refine w1.wpTake T (fun t3 ht3 hb3 w2 => ?_) fun t3 ht3 hb3 => ?_
  · rw [if_pos rfl]
    refine wp_assoc (wp_call (H .test _ _ ⟨w2.pre, w2.fuel hn (by decide)⟩) ?_)
    rintro k s4 ⟨w4, e4⟩
    have d4 := hl.ext w4.ext
    replace w4 := w2.call w4
    refine wp_assoc (w4.wpNode T (R2 := R ++ l) (ks := [k]) (.refl _) (.par hnm (mem1 e4) (by simp)) ho (hx := T.small ht) fun w5 x5 h5 => ?_)
    exact fin _ true _ _ _ [k] (w5.weak (c2 := 0) (e2 := 1) (by decide) (by decide)) (d4.ext x5) h5 (by simp) (by simp)
  · rw [if_neg Bool.false_ne_true]
    refine wp_assoc (w1.wpNode T (R2 := R ++ l) (ks := []) (.of_eq (by simp)) (.par hnm (fun _ h => by cases h) (by simp)) ho (hx := T.small ht) fun w5 x5 h5 => ?_)
    have hg : g = false := by
      cases hg : g with
      | false => rfl
      | true =>
        have h6 : ah = true := by
          cases ah with
          | true => rfl
          | false => exact absurd (.inr (.inr ⟨hg, rfl⟩)) hc
        rw [← ha] at h6
        unfold aheadV' at h6
        rw [show L[s.at_ + 1]? = some t3 from ht3] at h6
        unfold isB at hb3
        rw [Bool.and_eq_false_iff] at hb3
        rw [Bool.and_eq_true, decide_eq_true_eq, decide_eq_true_eq] at h6
        rcases hb3 with h7 | h7
        · exact absurd h6.1 (by simpa using h7)
        · rw [h6.2] at h7; cases h7
    exact fin _ g _ _ _ [] (w5.weak (c2 := 0) (e2 := 1) (by decide) (by decide)) (hl.ext x5) h5 (by simp) (by rw [hg]; intro h; cases h)
theorem g_fileGo (T : Tks L nameB okp) (H : All L nameB okp n) {l : List Int} (hp : PreF L nameB okp (n + 1) R s (.fileGo l)) : wp (body L nameB (fun {_} g => run L nameB n g) (.fileGo l)) s (PostF L nameB okp R s (.fileGo l)) := by
  obtain ⟨⟨w, hn⟩, hd, hf, hl⟩ := hp
  dsimp only [body]
  refine w.wpTok T fun t ht => ?_
  by_cases hc : t.kind ≠ 8
  · rw [if_pos hc]
    refine wp_call (H (.statement true) l _ ⟨⟨w, w.fuel hn (by decide)⟩, fun _ => hd⟩) ?_
    rintro k s1 ⟨w1, e1⟩
    have hl2 : ∀ j ∈ l ++ [k], Stm s1.out j true false false := memS (fun j hj => (hl j hj).ext w1.ext) (by rw [hd, hf] at e1; exact e1)
    have hlen := (w1.re (R2 := [] ++ (l ++ [k])) (.of_eq rfl)).lens
    refine w1.wpGrow T (by simp only [List.length_append, List.length_singleton] at hlen; omega) ?_
    refine wp_mono (H (.fileGo _) R _ ⟨⟨w1.pre, w1.fuel hn (by decide)⟩, w1.defs.trans hd, w1.fors.trans hf, hl2⟩) ?_
    rintro k' s' ⟨w7, e7, h7⟩
    exact ⟨(w1.call w7).weak (by decide) (by decide), e7, h7⟩
  · rw [if_neg hc]
    refine ⟨w, hl, fun t2 ht2 => ?_⟩
    rw [ht] at ht2
    cases ht2
    exact Decidable.of_not_not hc
theorem wp_put {op pos : Int} {x : B} {ks : List Int} {α : Type} {f : Int → M α} {Q : α → St → Prop} (hl : s.out.length < 1000000) (h : wp (f (s.out.length : Int)) { s with out := s.out ++ [⟨op, 0, pos, x, ks⟩] } Q) : wp (bnd (node op pos x ks) f) s Q := by
  unfold wp bnd node at *
  rw [if_pos hl]
  exact h
theorem wp_at {k : Int} {y : Nd} (h0 : 0 ≤ k) (hy : s.out[k.toNat]? = some y) {α : Type} {f : Nd → M α} {Q : α → St → Prop} (h : wp (f y) s Q) : wp (bnd (nodeAt k) f) s Q := by
  unfold wp bnd nodeAt at *
  rw [if_neg (by omega), hy]
  exact h
theorem g_file (T : Tks L nameB okp) (H : All L nameB okp n) (hp : PreF L nameB okp (n + 1) R s .file) : wp (body L nameB (fun {_} g => run L nameB n g) .file) s (PostF L nameB okp R s .file) := by
  obtain ⟨⟨w, hn⟩, hd, hf⟩ := hp
  dsimp only [body]
  refine wp_call (H (.fileGo []) [] s ⟨⟨w, w.fuel hn (by decide)⟩, hd, hf, fun _ h => by cases h⟩) ?_
  rintro l s1 ⟨w1, e1, _⟩
  have h1 := w1.cnt
  have h2 := w1.cap
  have h3 := w1.lt
  have h4 := T.len
  have fin : ∀ (l : List Int) (s2 : St), Fst nameB okp s2.out l → s2.out.length ≤ 2 * s2.at_ + 1 → s2.at_ < L.length → (∀ k ∈ l, Stm s2.out k true false false) → l ≠ [] → wp (bnd (nodeAt (l.headD 0)) fun x => bnd (node 47 x.pos [] l) fun _ => ret ()) s2 (PostF L nameB okp R s .file) := by
    intro l s2 f2 c2 h5 h6 h7
    match l, f2, h6, h7 with
    | k :: r, f2, h6, h7 =>
      obtain ⟨y, h0, hy, _⟩ := (h6 k (List.mem_cons_self ..)).1
      refine wp_at h0 hy ?_
      refine wp_put (by omega) ?_
      have f3 := f2.node (R' := []) (ks := k :: r) (.refl _) (op := 47) (s := []) (.block h7 fun j hj => (h6 j hj).1) (f2.fit _ _ hy).2.1 (by decide)
      have x3 : Ext s2.out (s2.out ++ [⟨47, 0, y.pos, [], k :: r⟩]) := Ext.snoc _ _
      refine ⟨(s2.out.length : Int), ⟨47, 0, y.pos, [], k :: r⟩, h5, ⟨f3, ?_⟩, ?_, rfl, fun j hj => ((h6 j hj).ext x3).2, ?_⟩
      · show (s2.out.length : Int) = ((s2.out ++ [_]).length : Int) - 1
        rw [List.length_append, List.length_singleton]; omega
      · show (s2.out ++ [_])[((s2.out.length : Int)).toNat]? = _
        rw [Int.toNat_natCast, List.getElem?_append_right (Nat.le_refl _), Nat.sub_self]; rfl
      · show (s2.out ++ [_]).length ≤ 2 * s2.at_ + 2
        rw [List.length_append, List.length_singleton]; omega
  by_cases hl : l = []
  · rw [if_pos hl]
    subst hl
    refine wp_assoc (wp_put (by omega) ?_)
    have f2 := w1.fst.node (R' := []) (ks := []) (.refl _) (op := 38) (s := []) (.leaf (by decide)) T.zero (by decide)
    have h8 : At (s1.out ++ [⟨38, 0, 0, [], []⟩]) (s1.out.length : Int) (fun op x' ks' => op = 38 ∧ x' = [] ∧ ks' = []) := At.new _ _ ⟨rfl, rfl, rfl⟩
    refine fin [(s1.out.length : Int)] _ f2 ?_ h3 (mem1 (Stm.of h8 rfl (Pl.small h8 (by decide)))) (by simp)
    show (s1.out ++ [_]).length ≤ 2 * s1.at_ + 1
    rw [List.length_append, List.length_singleton]; omega
  · rw [if_neg hl]
    exact fin l s1 w1.fst (by omega) h3 e1 hl
end
theorem pb0 {L : List Tk} {nameB : B → Bool} {okp : Int → Prop} {R : List Int} {s : St} {r : Nat} (h : PB L nameB okp 0 R s (r + 1)) : False := by
  have := h.2
  omega
theorem all_zero {L : List Tk} {nameB : B → Bool} {okp : Int → Prop} {R : List Int} {s : St} {α : Type} (f : F α) (hp : PreF L nameB okp 0 R s f) : False := by
  cases f with
  | left lv =>
    have h1 : 1 ≤ lrank lv := by unfold lrank; split <;> decide
    have h2 : (L.length - s.at_) * 2000000000000 + lrank lv ≤ 0 := And.right hp
    omega
  | target k => obtain ⟨_, _, h⟩ := hp; omega
  | targetGo ks => obtain ⟨_, b, _, _, h⟩ := hp; omega
  | test => exact pb0 hp
  | not_ => exact pb0 hp
  | compare => exact pb0 hp
  | unary => exact pb0 hp
  | primary => exact pb0 hp
  | atom => exact pb0 hp
  | round => exact pb0 hp
  | square => exact pb0 hp
  | curly => exact pb0 hp
  | many => exact pb0 hp
  | some_ e => exact pb0 hp
  | one => exact pb0 hp
  | simple w => exact pb0 hp
  | answer => exact pb0 hp
  | load => exact pb0 hp
  | block => exact pb0 hp
  | loop => exact pb0 hp
  | leftGo lv k => exact pb0 (And.left hp)
  | primGo k => exact pb0 (And.left hp)
  | call k => exact pb0 (And.left hp)
  | callGo ks ns => exact pb0 (And.left hp)
  | index k => exact pb0 (And.left hp)
  | strGo x => exact pb0 (And.left hp)
  | sqGo pos l => exact pb0 (And.left hp)
  | comp pos item => exact pb0 (And.left hp)
  | curlyGo l => exact pb0 (And.left hp)
  | manyGo l c => exact pb0 (And.left hp)
  | someGo e l c => exact pb0 (And.left hp)
  | statement w => exact pb0 (And.left hp)
  | loadGo l => exact pb0 (And.left hp)
  | blockGo l => exact pb0 (And.left hp)
  | cond => exact pb0 (And.left hp)
  | def_ => exact pb0 (And.left hp)
  | defGo l ns g => exact pb0 (And.left hp)
  | file => exact pb0 (And.left hp)
  | fileGo l => exact pb0 (And.left hp)
theorem all_ok {L : List Tk} {nameB : B → Bool} {okp : Int → Prop} (T : Tks L nameB okp) : ∀ n, All L nameB okp n
  | 0 => fun f R s hp => absurd (all_zero f hp) id
  | n + 1 => fun f R s hp => by
    have H : All L nameB okp n := fun f R s hp => all_ok T n f R s hp
    show wp (body L nameB (fun {_} g => run L nameB n g) f) s _
    cases f with
    | test => exact g_test T H hp
    | left lv => exact g_left H hp
    | leftGo lv k => exact g_leftGo T H hp
    | not_ => exact g_not T H hp
    | compare => exact g_compare T H hp
    | unary => exact g_unary T H hp
    | primary => exact g_primary H hp
    | primGo k => exact g_primGo T H hp
    | call k => exact g_call T H hp
    | callGo ks ns => exact g_callGo T H hp
    | index k => exact g_index T H hp
    | atom => exact g_atom T H hp
    | strGo x => exact g_strGo T H hp
    | round => exact g_round T H hp
    | square => exact g_square T H hp
    | sqGo pos l => exact g_sqGo T H hp
    | comp pos item => exact g_comp T H hp
    | curly => exact g_curly T H hp
    | curlyGo l => exact g_curlyGo T H hp
    | many => exact g_many T H hp
    | manyGo l c => exact g_manyGo T H hp
    | some_ e => exact g_some T H hp
    | someGo e l c => exact g_someGo T H hp
    | one => exact g_one T H hp
    | target k => exact g_target T H hp
    | targetGo ks => exact g_targetGo H hp
    | statement w => exact g_statement T H hp
    | simple w => exact g_simple T H hp
    | answer => exact g_answer T H hp
    | load => exact g_load T H hp
    | loadGo l => exact g_loadGo T H hp
    | block => exact g_block T H hp
    | blockGo l => exact g_blockGo T H hp
    | cond => exact g_cond T H hp
    | loop => exact g_loop T H hp
    | def_ => exact g_def T H hp
    | defGo l ns g => exact g_defGo T H hp
    | file => exact g_file T H hp
    | fileGo l => exact g_fileGo T H hp
/-- a file's tokens: the parser ends, and what it lays may be -/
theorem file_ok {L : List Tk} {nameB : B → Bool} {okp : Int → Prop} (T : Tks L nameB okp) (N : Nat) (hN : L.length * 2000000000000 + 30 ≤ N) : wp (run L nameB N .file) ⟨0, [], 0, false, 0⟩ fun _ s' => Go.Tr.valid s'.out nameB = none ∧ s'.out.length ≤ 2 * L.length ∧ ∀ x ∈ s'.out, okp x.pos ∧ x.s.length < 1000000 ∧ x.kids.length ≤ s'.out.length := by
  have w : W L nameB okp ⟨0, [], 0, false, 0⟩ 0 [] 0 0 ⟨0, [], 0, false, 0⟩ := ⟨Nat.le_refl _, T.pos, Nat.le_refl _, Nat.le_refl _, rfl, by decide, rfl, Nat.le_refl _, rfl, Ext.same _, Fst.zero⟩
  have hp : PB L nameB okp N [] ⟨0, [], 0, false, 0⟩ 30 := ⟨w, by rw [Nat.sub_zero]; exact hN⟩
  refine wp_mono (all_ok T N .file [] ⟨0, [], 0, false, 0⟩ ⟨hp, rfl, rfl⟩) ?_
  rintro _ s' ⟨k, x, h1, ⟨f, h2⟩, h3, h4, h5, h6⟩
  refine ⟨Go.Pa.valid_ok f h2 h3 h4 h5, by omega, fun y hy => ?_⟩
  obtain ⟨i, hi⟩ := List.mem_iff_getElem?.1 hy
  exact ⟨(f.fit i y hi).2.1, (f.fit i y hi).2.2.1, kids_le f hi⟩
end Go.Pa
