/-
  Proved here: plain: nodes that grow, and what of them may be. No program stands here.
-/
import Derived.Test.YtfbenelagdcdgaaDoorPaQ
import Derived.Test.YtfbenelagdcdgaaDoorTrV
import Derived.Test.YtfbenelagdcdgaaDoorMt
namespace Go.Pa
open Go.SX (perm_cnt cnt_append cnt_cons cnt_nil)
open Go.Tr (nd nd_at exprB stmtB target callGo loadedB exprs allB more kidsB digitsOk fitsB paramsGo places fresh scan used valid)
/-- more nodes, of which the first are as they were, but for their places -/
def Ext (o o' : List Nd) : Prop := ∀ (i : Nat) (x : Nd), o[i]? = some x → ∃ x' : Nd, o'[i]? = some x' ∧ x'.op = x.op ∧ x'.s = x.s ∧ x'.kids = x.kids
theorem Ext.same (o : List Nd) : Ext o o := fun _ x h => ⟨x, h, rfl, rfl, rfl⟩
theorem Ext.trans {a b c : List Nd} (h : Ext a b) (h2 : Ext b c) : Ext a c := fun i x hx => by
  obtain ⟨y, hy, e1, e2, e3⟩ := h i x hx
  obtain ⟨z, hz, f1, f2, f3⟩ := h2 i y hy
  exact ⟨z, hz, f1.trans e1, f2.trans e2, f3.trans e3⟩
theorem Ext.snoc (o : List Nd) (y : Nd) : Ext o (o ++ [y]) := fun _ x h => ⟨x, by rw [List.getElem?_append_left (List.getElem?_eq_some_iff.1 h).1]; exact h, rfl, rfl, rfl⟩
theorem Ext.setPos {o : List Nd} {i : Nat} {x : Nd} (h : o[i]? = some x) (p : Int) : Ext o (o.set i { x with pos := p }) := fun j y hy => by
  by_cases e : j = i
  · subst e
    rw [h] at hy
    cases hy
    exact ⟨_, List.getElem?_set_self (List.getElem?_eq_some_iff.1 h).1, rfl, rfl, rfl⟩
  · exact ⟨y, by rw [List.getElem?_set_ne (fun e' => e e'.symm)]; exact hy, rfl, rfl, rfl⟩
/-- a node of a sort -/
def At (o : List Nd) (k : Int) (P : Int → B → List Int → Prop) : Prop := ∃ x : Nd, 0 ≤ k ∧ o[k.toNat]? = some x ∧ P x.op x.s x.kids
section
variable {o o' : List Nd} {k : Int} {P Q : Int → B → List Int → Prop} {nameB : B → Bool}
theorem nd_some {x : Nd} (hx : o[k.toNat]? = some x) : nd o k = x := by
  unfold nd
  rw [hx]
  rfl
theorem At.ext (h : At o k P) (e : Ext o o') : At o' k P := by
  obtain ⟨x, h0, hx, hp⟩ := h
  obtain ⟨y, hy, e1, e2, e3⟩ := e _ _ hx
  exact ⟨y, h0, hy, by rw [e1, e2, e3]; exact hp⟩
theorem At.nd (h : At o k P) : P (nd o k).op (nd o k).s (nd o k).kids := by
  obtain ⟨x, _, hx, hp⟩ := h
  rw [nd_some hx]
  exact hp
theorem At.mono (h : At o k P) (hp : ∀ a b c, P a b c → Q a b c) : At o k Q := by
  obtain ⟨x, h0, hx, h⟩ := h
  exact ⟨x, h0, hx, hp _ _ _ h⟩
theorem At.lt (h : At o k P) : 0 ≤ k ∧ k < (o.length : Int) := by
  obtain ⟨x, h0, hx, _⟩ := h
  have := (List.getElem?_eq_some_iff.1 hx).1
  omega
theorem At.new (o : List Nd) (y : Nd) (h : P y.op y.s y.kids) : At (o ++ [y]) (o.length : Int) P := ⟨y, by omega, by rw [Int.toNat_natCast, List.getElem?_append_right (Nat.le_refl _), Nat.sub_self]; rfl, h⟩
abbrev E (o : List Nd) (k : Int) : Prop := At o k fun op _ _ => exprB op = true
abbrev Op (o : List Nd) (k a : Int) : Prop := At o k fun op _ _ => op = a
def Ld (o : List Nd) (k : Int) : Prop := ∃ j, Op o j 5 ∧ At o k fun op _ ks => op = 46 ∧ ks = [j]
theorem Ld.ext (h : Ld o k) (e : Ext o o') : Ld o' k := by
  obtain ⟨j, h1, h2⟩ := h
  exact ⟨j, h1.ext e, h2.ext e⟩
/-- kids lie ahead -/
def Kid (o : List Nd) : Prop := ∀ (i : Nat) (x : Nd), o[i]? = some x → ∀ k ∈ x.kids, 0 ≤ k ∧ k < (i : Int)
/-- what may be assigned to -/
inductive Tg (o : List Nd) : Int → Prop
  | leaf {k : Int} (h : At o k fun op _ _ => op = 6 ∨ op = 13) : Tg o k
  | tup {k : Int} {x : Nd} (h0 : 0 ≤ k) (hx : o[k.toNat]? = some x) (ho : x.op = 8) (hn : 0 < x.kids.length) (hk : ∀ j ∈ x.kids, Tg o j) : Tg o k
theorem Tg.ext (h : Tg o k) (e : Ext o o') : Tg o' k := by
  induction h with
  | leaf h => exact .leaf (h.ext e)
  | tup h0 hx ho hn hk ih =>
    obtain ⟨y, hy, e1, _, e3⟩ := e _ _ hx
    exact .tup h0 hy (e1.trans ho) (by rw [e3]; exact hn) (by rw [e3]; exact ih)
theorem Tg.lt (h : Tg o k) : 0 ≤ k ∧ k < (o.length : Int) := by
  cases h with
  | leaf h => exact h.lt
  | tup h0 hx _ _ _ =>
    have := (List.getElem?_eq_some_iff.1 hx).1
    omega
theorem Tg.target (hK : Kid o) : ∀ (n : Nat) (k : Int), Tg o k → k.toNat < n → target o n k = true := by
  intro n
  induction n with
  | zero => intro k _ h; omega
  | succ n ih =>
    intro k h hn
    unfold Go.Tr.target
    cases h with
    | leaf h =>
      have h1 := h.nd
      rw [if_pos (by omega)]
      simpa using h1
    | tup h0 hx ho hl hk =>
      rw [nd_some hx, if_neg (by simpa using ho), Bool.and_eq_true]
      refine ⟨List.all_eq_true.2 fun j hj => ih j (hk j hj) ?_, by simpa using hl⟩
      have := hK _ _ hx j hj
      omega
/-- what may stand in some places alone does so: whole, in a def, in a loop -/
inductive Pl (o : List Nd) : Int → Bool → Bool → Bool → Prop
  | inLoop {k : Int} {w d : Bool} (h : At o k fun op _ _ => op = 39 ∨ op = 40) : Pl o k w d true
  | ret {k : Int} {w p : Bool} (h : Op o k 41) : Pl o k w true p
  | load {k : Int} {d p : Bool} (h : Op o k 42) : Pl o k true d p
  | rest {k : Int} {w d p : Bool} (h : At o k fun op _ _ => op < 39 ∨ op = 46) : Pl o k w d p
  | deep {k : Int} {w d p : Bool} {x : Nd} (h0 : 0 ≤ k) (hx : o[k.toNat]? = some x) (ho : x.op = 47 ∨ x.op = 43 ∨ x.op = 44) (hk : ∀ j ∈ x.kids, Pl o j false d (p || decide (x.op = 44))) : Pl o k w d p
  | ofDef {k b : Int} {d p : Bool} {x : Nd} {l : List Int} (h0 : 0 ≤ k) (hx : o[k.toNat]? = some x) (ho : x.op = 45) (hl : x.kids = l ++ [b]) (ha : ∀ j ∈ l, Op o j 46) (hp : paramsGo o l [] false = true) (hb : Pl o b false true false) : Pl o k true d p
theorem nd_ext (h : At o k P) (e : Ext o o') : (nd o' k).s = (nd o k).s ∧ (nd o' k).kids = (nd o k).kids := by
  obtain ⟨x, _, hx, _⟩ := h
  obtain ⟨y, hy, _, e2, e3⟩ := e _ _ hx
  rw [nd_some hx, nd_some hy]
  exact ⟨e2, e3⟩
theorem params_ext (e : Ext o o') : ∀ (l : List Int) (ns : List B) (g : Bool), (∀ j ∈ l, Op o j 46) → paramsGo o' l ns g = paramsGo o l ns g
  | [], _, _, _ => rfl
  | k :: r, ns, g, h => by
    obtain ⟨e1, e2⟩ := nd_ext (h k (List.mem_cons_self ..)) e
    unfold paramsGo
    rw [e1, e2, params_ext e r _ _ fun j hj => h j (List.mem_cons_of_mem _ hj)]
theorem Pl.ext {w d p : Bool} (h : Pl o k w d p) (e : Ext o o') : Pl o' k w d p := by
  induction h with
  | inLoop h => exact .inLoop (h.ext e)
  | ret h => exact .ret (h.ext e)
  | load h => exact .load (h.ext e)
  | rest h => exact .rest (h.ext e)
  | deep h0 hx ho hk ih =>
    obtain ⟨y, hy, e1, _, e3⟩ := e _ _ hx
    exact .deep h0 hy (by rw [e1]; exact ho) (by rw [e1, e3]; exact ih)
  | ofDef h0 hx ho hl ha hp hb ih =>
    obtain ⟨y, hy, e1, _, e3⟩ := e _ _ hx
    exact .ofDef h0 hy (e1.trans ho) (e3.trans hl) (fun j hj => (ha j hj).ext e) (by rw [params_ext e _ _ _ ha]; exact hp) ih
theorem Pl.lt {w d p : Bool} (h : Pl o k w d p) : 0 ≤ k ∧ k < (o.length : Int) := by
  cases h with
  | inLoop h => exact h.lt
  | ret h => exact h.lt
  | load h => exact h.lt
  | rest h => exact h.lt
  | deep h0 hx _ _ => have := (List.getElem?_eq_some_iff.1 hx).1; omega
  | ofDef h0 hx _ _ _ _ _ => have := (List.getElem?_eq_some_iff.1 hx).1; omega
theorem Pl.places (hK : Kid o) : ∀ (n : Nat) (k : Int) (w d p : Bool), Pl o k w d p → k.toNat < n → k < (o.length : Int) - 1 → places o n k w d p = true := by
  intro n
  induction n with
  | zero => intro k _ _ _ _ h; omega
  | succ n ih =>
    intro k w d p h hn hlast
    unfold Go.Tr.places
    cases h with
    | inLoop h => rw [if_pos h.nd]
    | ret h =>
      have h1 : (nd o k).op = 41 := h.nd
      rw [if_neg (by omega), if_pos h1]
    | load h =>
      have h1 : (nd o k).op = 42 := h.nd
      rw [if_neg (by omega), if_neg (by omega), if_pos h1]
    | rest h =>
      have h1 := h.nd
      rw [if_neg (by omega), if_neg (by omega), if_neg (by omega), if_neg (by omega), if_neg (by omega)]
    | deep h0 hx ho hk =>
      rw [nd_some hx, if_neg (by omega), if_neg (by omega), if_neg (by omega), if_pos (by omega)]
      refine List.all_eq_true.2 fun j hj => ?_
      have h2 := hK _ _ hx j hj
      rw [show (w && decide (k = (o.length : Int) - 1)) = false by rw [decide_eq_false (by omega), Bool.and_false]]
      exact ih j _ _ _ (hk j hj) (by omega) (by omega)
    | ofDef h0 hx ho hl ha hp hb =>
      rename_i b x l
      have h2 := hK _ _ hx b (by rw [hl]; simp)
      rw [nd_some hx, if_neg (by omega), if_neg (by omega), if_neg (by omega), if_neg (by omega), if_pos ho, hl]
      rw [show (l ++ [b]).length - 1 = l.length by simp, List.take_left, hp, show (l ++ [b]).getD l.length 0 = b by simp]
      rw [ih b _ _ _ hb (by omega) (by omega)]
      rfl
/-- nodes' shapes -/
inductive Fit (nameB : B → Bool) (o : List Nd) : Int → B → List Int → Prop
  | leaf {op : Int} (h : op = 1 ∨ op = 2 ∨ op = 3 ∨ op = 15 ∨ op = 38 ∨ op = 39 ∨ op = 40) : Fit nameB o op [] []
  | int {s : B} (h : digitsOk s) : Fit nameB o 4 s []
  | str {s : B} : Fit nameB o 5 s []
  | name {s : B} (h : nameB s = true) : Fit nameB o 6 s []
  | list {op : Int} {ks : List Int} (h : op = 7 ∨ op = 8) (hk : ∀ k ∈ ks, E o k) (hl : ks.length ≤ 1048576) : Fit nameB o op [] ks
  | dict {ks : List Int} (h2 : ks.length % 2 = 0) (hk : ∀ k ∈ ks, E o k) (hl : ks.length ≤ 1048576) : Fit nameB o 9 [] ks
  | dot {op : Int} {s : B} {a : Int} (h : op = 11 ∨ op = 12) (hs : nameB s = true) (ha : E o a) : Fit nameB o op s [a]
  | one {op a : Int} (h : op = 16 ∨ op = 17 ∨ op = 35) (ha : E o a) : Fit nameB o op [] [a]
  | tern {a b c : Int} (ha : E o a) (hb : E o b) (hc : E o c) : Fit nameB o 20 [] [a, b, c]
  | ret {ks : List Int} (hk : ∀ k ∈ ks, E o k) (hl : ks.length ≤ 1) : Fit nameB o 41 [] ks
  | par {s : B} {ks : List Int} (hs : nameB s = true) (hk : ∀ k ∈ ks, E o k) (hl : ks.length ≤ 1) : Fit nameB o 46 s ks
  | call {a : Int} {as ns : List Int} (ha : E o a) (has : ∀ k ∈ as, E o k) (hns : ∀ k ∈ ns, Op o k 11) : Fit nameB o 10 [] (a :: (as ++ ns))
  | slice {a b c : Int} (ha : E o a) (hb : At o b fun op _ _ => exprB op = true ∨ op = 15) (hc : At o c fun op _ _ => exprB op = true ∨ op = 15) : Fit nameB o 14 [] [a, b, c]
  | two {op a b : Int} (h : op = 13 ∨ op = 18 ∨ op = 19 ∨ 21 ≤ op ∧ op ≤ 33) (ha : E o a) (hb : E o b) : Fit nameB o op [] [a, b]
  | comp {a t c : Int} {ks : List Int} (ha : E o a) (ht : Tg o t) (hte : E o t) (hc : E o c) (hk : ∀ k ∈ ks, E o k) (hl : ks.length ≤ 1) : Fit nameB o 34 [] (a :: t :: c :: ks)
  | load {s : B} {ks : List Int} (h : ks ≠ []) (hk : ∀ k ∈ ks, Ld o k) : Fit nameB o 42 s ks
  | ofDef {s : B} {l : List Int} {b : Int} (hs : nameB s = true) (hl : ∀ k ∈ l, Op o k 46) (hb : Op o b 47) : Fit nameB o 45 s (l ++ [b])
  | block {ks : List Int} (h : ks ≠ []) (hk : ∀ k ∈ ks, At o k fun op _ _ => stmtB op = true) : Fit nameB o 47 [] ks
  | asg {a b : Int} (ha : Tg o a) (hb : E o b) : Fit nameB o 36 [] [a, b]
  | addTo {a b : Int} (ha : At o a fun op _ _ => op = 6 ∨ op = 13) (hb : E o b) : Fit nameB o 37 [] [a, b]
  | cond {c b : Int} {ks : List Int} (hc : E o c) (hb : Op o b 47) (hk : ∀ k ∈ ks, Op o k 47) (hl : ks.length ≤ 1) : Fit nameB o 43 [] (c :: b :: ks)
  | loop {t c b : Int} (ht : Tg o t) (hc : E o c) (hb : Op o b 47) : Fit nameB o 44 [] [t, c, b]
theorem Fit.ext {op : Int} {s : B} {ks : List Int} (h : Fit nameB o op s ks) (e : Ext o o') : Fit nameB o' op s ks := by
  cases h with
  | leaf h => exact .leaf h
  | int h => exact .int h
  | str => exact .str
  | name h => exact .name h
  | list h hk hl => exact .list h (fun k hk' => (hk k hk').ext e) hl
  | dict h hk hl => exact .dict h (fun k hk' => (hk k hk').ext e) hl
  | dot h hs ha => exact .dot h hs (ha.ext e)
  | one h ha => exact .one h (ha.ext e)
  | tern ha hb hc => exact .tern (ha.ext e) (hb.ext e) (hc.ext e)
  | ret hk hl => exact .ret (fun k hk' => (hk k hk').ext e) hl
  | par hs hk hl => exact .par hs (fun k hk' => (hk k hk').ext e) hl
  | call ha has hns => exact .call (ha.ext e) (fun k hk => (has k hk).ext e) (fun k hk => (hns k hk).ext e)
  | slice ha hb hc => exact .slice (ha.ext e) (hb.ext e) (hc.ext e)
  | two h ha hb => exact .two h (ha.ext e) (hb.ext e)
  | comp ha ht hte hc hk hl => exact .comp (ha.ext e) (ht.ext e) (hte.ext e) (hc.ext e) (fun k hk' => (hk k hk').ext e) hl
  | load h hk => exact .load h (fun k hk' => (hk k hk').ext e)
  | ofDef hs hl hb => exact .ofDef hs (fun k hk => (hl k hk).ext e) (hb.ext e)
  | block h hk => exact .block h (fun k hk' => (hk k hk').ext e)
  | asg ha hb => exact .asg (ha.ext e) (hb.ext e)
  | addTo ha hb => exact .addTo (ha.ext e) (hb.ext e)
  | cond hc hb hk hl => exact .cond (hc.ext e) (hb.ext e) (fun k hk' => (hk k hk').ext e) hl
  | loop ht hc hb => exact .loop (ht.ext e) (hc.ext e) (hb.ext e)
theorem allB_of {F : Nd → Bool} {ks : List Int} (h : ∀ k ∈ ks, F (nd o k) = true) : allB o F ks = true := List.all_eq_true.2 h
theorem exprs_of {ks : List Int} {lo hi : Int} (h : ∀ k ∈ ks, E o k) (h1 : lo ≤ ks.length) (h2 : (ks.length : Int) ≤ hi) : exprs o ks lo hi = true := by
  unfold exprs
  rw [decide_eq_true h1, decide_eq_true h2, allB_of fun k hk => (h k hk).nd]
  rfl
theorem expr_11 {a : Int} (h : exprB a = true) : a ≠ 11 := by
  rintro rfl
  cases h
theorem call_named : ∀ (ns : List Int), (∀ k ∈ ns, Op o k 11) → ∀ b, callGo o ns b false = true
  | [], _, _ => rfl
  | k :: r, h, b => by
    unfold callGo
    rw [if_pos (show (nd o k).op = 11 from (h k (List.mem_cons_self ..)).nd), if_neg Bool.false_ne_true]
    exact call_named r (fun j hj => h j (List.mem_cons_of_mem _ hj)) true
theorem call_go {ns : List Int} (hn : ∀ k ∈ ns, Op o k 11) : ∀ (as : List Int), (∀ k ∈ as, E o k) → callGo o (as ++ ns) false false = true
  | [], _ => call_named ns hn false
  | k :: r, h => by
    have h1 : exprB (nd o k).op = true := (h k (List.mem_cons_self ..)).nd
    show callGo o (k :: (r ++ ns)) false false = true
    unfold callGo
    rw [if_neg (expr_11 h1), h1]
    exact call_go hn r fun j hj => h j (List.mem_cons_of_mem _ hj)
theorem mem1 {a : Int} {Q : Int → Prop} (h : Q a) : ∀ k ∈ [a], Q k := fun k hk => by cases List.mem_singleton.1 hk; exact h
theorem mem2 {a b : Int} {Q : Int → Prop} (h : Q a) (h2 : Q b) : ∀ k ∈ [a, b], Q k := fun k hk => by
  rcases List.mem_cons.1 hk with rfl | hk
  · exact h
  · exact mem1 h2 k hk
theorem mem3 {a b c : Int} {Q : Int → Prop} (h : Q a) (h2 : Q b) (h3 : Q c) : ∀ k ∈ [a, b, c], Q k := fun k hk => by
  rcases List.mem_cons.1 hk with rfl | hk
  · exact h
  · exact mem2 h2 h3 k hk
theorem memC {a : Int} {r : List Int} {Q : Int → Prop} (h : Q a) (h2 : ∀ k ∈ r, Q k) : ∀ k ∈ a :: r, Q k := fun k hk => by
  rcases List.mem_cons.1 hk with rfl | hk
  · exact h
  · exact h2 k hk
theorem memS {a : Int} {r : List Int} {Q : Int → Prop} (h2 : ∀ k ∈ r, Q k) (h : Q a) : ∀ k ∈ r ++ [a], Q k := fun k hk => by
  rcases List.mem_append.1 hk with hk | hk
  · exact h2 k hk
  · exact mem1 h k hk
theorem fits_split {n : Nat} {x : Nd} (hs : (x.op = 6 ∨ x.op = 11 ∨ x.op = 12 ∨ x.op = 45 ∨ x.op = 46) ∧ nameB x.s = true ∨ x.op = 4 ∧ digitsOk x.s ∨ (x.op = 5 ∨ x.op = 42) ∨ x.s = [] ∧ x.op ≠ 6 ∧ x.op ≠ 11 ∧ x.op ≠ 12 ∧ x.op ≠ 45 ∧ x.op ≠ 46 ∧ x.op ≠ 4) (hk : kidsB o n x = true) : fitsB o nameB n x = true := by
  unfold fitsB
  rw [hk]
  rcases hs with ⟨h1, h2⟩ | ⟨h1, h2⟩ | h1 | ⟨h1, h2⟩
  · rw [if_pos h1, h2]; rfl
  · rw [if_neg (by omega), if_pos h1, decide_eq_true h2]; rfl
  · rw [if_neg (by omega), if_neg (by omega), if_pos h1]
  · rw [if_neg (by omega), if_neg (by omega)]
    split
    · rfl
    · rw [decide_eq_true h1]; rfl
theorem Fit.fits (hK : Kid o) {i : Nat} {x : Nd} (hx : o[i]? = some x) (h : Fit nameB o x.op x.s x.kids) : fitsB o nameB (i + 1) x = true := by
  have hT : ∀ t ∈ x.kids, Tg o t → Go.Tr.target o (i + 1) t = true := fun t ht h => h.target hK _ _ (by have := hK _ _ hx t ht; omega)
  clear hx
  obtain ⟨op, q, pos, s, ks⟩ := x
  dsimp only at h hT ⊢
  cases h with
  | leaf h =>
    refine fits_split (.inr (.inr (.inr ⟨rfl, ?_⟩))) ?_
    · dsimp only; omega
    · unfold kidsB; rw [if_pos (by dsimp only; omega)]; rfl
  | int h => exact fits_split (.inr (.inl ⟨rfl, h⟩)) rfl
  | str => exact fits_split (.inr (.inr (.inl (.inl rfl)))) rfl
  | name h => exact fits_split (.inl ⟨.inl rfl, h⟩) rfl
  | list h hk hl =>
    refine fits_split (.inr (.inr (.inr ⟨rfl, ?_⟩))) ?_
    · dsimp only; omega
    · unfold kidsB; rw [if_neg (by dsimp only; omega), if_pos h]; exact (exprs_of hk (by omega) (by omega) : exprs o ks 0 1048576 = true)
  | dict h hk hl =>
    refine fits_split (.inr (.inr (.inr ⟨rfl, by dsimp only; decide⟩))) ?_
    show (decide (ks.length % 2 = 0) && exprs o ks 0 1048576) = true
    rw [decide_eq_true h, exprs_of hk (by omega) (by omega)]; rfl
  | dot h hs ha =>
    refine fits_split (.inl ⟨by dsimp only; omega, hs⟩) ?_
    unfold kidsB
    rw [if_neg (by dsimp only; omega), if_neg (by dsimp only; omega), if_neg (by dsimp only; omega), if_pos (by dsimp only; omega)]
    exact exprs_of (mem1 ha) (by simp) (by simp)
  | one h ha =>
    refine fits_split (.inr (.inr (.inr ⟨rfl, by dsimp only; omega⟩))) ?_
    unfold kidsB
    rw [if_neg (by dsimp only; omega), if_neg (by dsimp only; omega), if_neg (by dsimp only; omega), if_pos (by dsimp only; omega)]
    exact exprs_of (mem1 ha) (by simp) (by simp)
  | tern ha hb hc => exact fits_split (.inr (.inr (.inr ⟨rfl, by dsimp only; decide⟩))) (show exprs o _ 3 3 = true from exprs_of (mem3 ha hb hc) (by simp) (by simp))
  | ret hk hl => exact fits_split (.inr (.inr (.inr ⟨rfl, by dsimp only; decide⟩))) (show exprs o ks 0 1 = true from exprs_of hk (by omega) (by omega))
  | par hs hk hl => exact fits_split (.inl ⟨by dsimp only; decide, hs⟩) (show exprs o ks 0 1 = true from exprs_of hk (by omega) (by omega))
  | call ha has hns =>
    rename_i a as ns
    refine fits_split (.inr (.inr (.inr ⟨rfl, by dsimp only; decide⟩))) ?_
    show (decide (0 < (a :: (as ++ ns)).length) && callGo o (a :: (as ++ ns)) false true) = true
    have h1 : exprB (nd o a).op = true := ha.nd
    unfold callGo
    rw [if_neg (expr_11 h1), h1, decide_eq_true (by simp)]
    exact call_go hns as has
  | slice ha hb hc =>
    rename_i a b c
    refine fits_split (.inr (.inr (.inr ⟨rfl, by dsimp only; decide⟩))) ?_
    show (decide ([a, b, c].length = 3) && exprs o [a] 1 1 && allB o (fun x => exprB x.op || decide (x.op = 15)) [b, c]) = true
    rw [exprs_of (mem1 ha) (by simp) (by simp), allB_of (mem2 (Q := fun k => (exprB (nd o k).op || decide ((nd o k).op = 15)) = true) (by simpa using hb.nd) (by simpa using hc.nd))]
    rfl
  | two h ha hb =>
    refine fits_split (.inr (.inr (.inr ⟨rfl, by dsimp only; omega⟩))) ?_
    unfold kidsB more
    repeat rw [if_neg (by dsimp only; omega)]
    rw [exprs_of (mem2 ha hb) (by simp) (by simp), Bool.and_true]
    simp only [Bool.or_eq_true, Bool.and_eq_true, decide_eq_true_eq]
    omega
  | comp ha ht hte hc hk hl =>
    rename_i a t c ks
    refine fits_split (.inr (.inr (.inr ⟨rfl, by dsimp only; decide⟩))) ?_
    show ((decide ((a :: t :: c :: ks).length = 3) || decide ((a :: t :: c :: ks).length = 4)) && Go.Tr.target o (i + 1) t && exprs o (a :: t :: c :: ks) 3 4) = true
    rw [hT t (by simp) ht, exprs_of (memC ha (memC hte (memC hc hk))) (by simp only [List.length_cons]; omega) (by simp only [List.length_cons]; omega), Bool.and_true, Bool.and_true]
    simp only [Bool.or_eq_true, decide_eq_true_eq, List.length_cons]
    omega
  | load h hk =>
    refine fits_split (.inr (.inr (.inl (.inr rfl)))) ?_
    show (decide (0 < ks.length) && allB o (loadedB o) ks) = true
    rw [decide_eq_true (List.length_pos_iff.2 h), allB_of fun k hk' => ?_]
    · rfl
    · obtain ⟨j, h1, h2⟩ := hk k hk'
      obtain ⟨h3, h4⟩ := h2.nd
      have h5 : (nd o j).op = 5 := h1.nd
      unfold loadedB
      rw [h3, h4]
      show (true && true && decide ((nd o j).op = 5)) = true
      rw [h5]; rfl
  | ofDef hs hl hb =>
    rename_i l b
    refine fits_split (.inl ⟨by dsimp only; decide, hs⟩) ?_
    show (decide (0 < (l ++ [b]).length) && allB o (fun x => decide (x.op = 46)) ((l ++ [b]).take ((l ++ [b]).length - 1)) && decide ((nd o ((l ++ [b]).getD ((l ++ [b]).length - 1) 0)).op = 47)) = true
    have h5 : (nd o b).op = 47 := hb.nd
    rw [show (l ++ [b]).length - 1 = l.length by simp, List.take_left, show (l ++ [b]).getD l.length 0 = b by simp, h5, allB_of fun k hk => decide_eq_true (hl k hk).nd, decide_eq_true (by simp)]
    rfl
  | block h hk =>
    refine fits_split (.inr (.inr (.inr ⟨rfl, by dsimp only; decide⟩))) ?_
    show (decide (0 < ks.length) && allB o (fun x => stmtB x.op) ks) = true
    rw [decide_eq_true (List.length_pos_iff.2 h), allB_of fun k hk' => (hk k hk').nd]
    rfl
  | asg ha hb =>
    rename_i a b
    refine fits_split (.inr (.inr (.inr ⟨rfl, by dsimp only; decide⟩))) ?_
    show (decide ([a, b].length = 2) && Go.Tr.target o (i + 1) a && exprs o [b] 1 1) = true
    rw [hT a (by simp) ha, exprs_of (mem1 hb) (by simp) (by simp)]
    rfl
  | addTo ha hb =>
    rename_i a b
    refine fits_split (.inr (.inr (.inr ⟨rfl, by dsimp only; decide⟩))) ?_
    show (decide ([a, b].length = 2) && (decide ((nd o a).op = 6) || decide ((nd o a).op = 13)) && exprs o [b] 1 1) = true
    rw [exprs_of (mem1 hb) (by simp) (by simp), Bool.and_true, Bool.and_eq_true]
    exact ⟨rfl, by simpa using ha.nd⟩
  | cond hc hb hk hl =>
    rename_i c b ks
    refine fits_split (.inr (.inr (.inr ⟨rfl, by dsimp only; decide⟩))) ?_
    show ((decide ((c :: b :: ks).length = 2) || decide ((c :: b :: ks).length = 3)) && exprs o [c] 1 1 && allB o (fun x => decide (x.op = 47)) (b :: ks)) = true
    rw [exprs_of (mem1 hc) (by simp) (by simp), allB_of (memC (Q := fun k => decide ((nd o k).op = 47) = true) (decide_eq_true hb.nd) fun k hk' => decide_eq_true (hk k hk').nd), Bool.and_true, Bool.and_true]
    simp only [Bool.or_eq_true, decide_eq_true_eq, List.length_cons]
    omega
  | loop ht hc hb =>
    rename_i t c b
    refine fits_split (.inr (.inr (.inr ⟨rfl, by dsimp only; decide⟩))) ?_
    show (decide ([t, c, b].length = 3) && Go.Tr.target o (i + 1) t && exprs o [c] 1 1 && decide ((nd o b).op = 47)) = true
    rw [hT t (by simp) ht, exprs_of (mem1 hc) (by simp) (by simp), show (nd o b).op = 47 from hb.nd]
    rfl
end
/-- nodes of which some are nobody's kids -/
structure Fst (nameB : B → Bool) (okp : Int → Prop) (o : List Nd) (R : List Int) : Prop where
  fit : ∀ (i : Nat) (x : Nd), o[i]? = some x → x.n = 0 ∧ okp x.pos ∧ x.s.length < 1000000 ∧ Fit nameB o x.op x.s x.kids
  kid : Kid o
  perm : (R ++ o.flatMap (·.kids)).Perm ((List.range o.length).map Int.ofNat)
section
variable {nameB : B → Bool} {okp : Int → Prop} {o : List Nd} {R R' ks : List Int}
theorem Fst.zero : Fst nameB okp [] [] := ⟨fun i x h => absurd h (by simp), fun i x h => absurd h (by simp), List.Perm.refl _⟩
theorem Fst.rng (f : Fst nameB okp o R) {k : Int} (h : k ∈ R) : 0 ≤ k ∧ k < (o.length : Int) := by
  have h1 := f.perm.mem_iff.1 (List.mem_append_left _ h)
  obtain ⟨i, hi, rfl⟩ := List.mem_map.1 h1
  have := List.mem_range.1 hi
  constructor
  · exact Int.natCast_nonneg i
  · exact Int.ofNat_lt.2 this
theorem Fst.re (f : Fst nameB okp o R) (h : R.Perm R') : Fst nameB okp o R' := ⟨f.fit, f.kid, (h.symm.append_right _).trans f.perm⟩
theorem Fst.node (f : Fst nameB okp o R) (hp : R.Perm (R' ++ ks)) {op pos : Int} {s : B} (hf : Fit nameB o op s ks) (ho : okp pos) (hx2 : s.length < 1000000) : Fst nameB okp (o ++ [⟨op, 0, pos, s, ks⟩]) (R' ++ [(o.length : Int)]) := by
  refine ⟨fun i x hx => ?_, fun i x hx k hk => ?_, ?_⟩
  · rcases Nat.lt_or_ge i o.length with hi | hi
    · rw [List.getElem?_append_left hi] at hx
      obtain ⟨h1, h2, h4, h3⟩ := f.fit i x hx
      exact ⟨h1, h2, h4, h3.ext (Ext.snoc _ _)⟩
    · rw [List.getElem?_append_right hi] at hx
      have hz : i - o.length = 0 := by
        have := (List.getElem?_eq_some_iff.1 hx).1
        simpa using this
      rw [hz] at hx
      obtain rfl : (⟨op, 0, pos, s, ks⟩ : Nd) = x := by simpa using hx
      exact ⟨rfl, ho, hx2, hf.ext (Ext.snoc _ _)⟩
  · rcases Nat.lt_or_ge i o.length with hi | hi
    · rw [List.getElem?_append_left hi] at hx
      exact f.kid i x hx k hk
    · rw [List.getElem?_append_right hi] at hx
      have hz : i - o.length = 0 := by
        have := (List.getElem?_eq_some_iff.1 hx).1
        simpa using this
      rw [hz] at hx
      obtain rfl : (⟨op, 0, pos, s, ks⟩ : Nd) = x := by simpa using hx
      have := f.rng (hp.mem_iff.2 (List.mem_append_right _ hk))
      omega
  · rw [List.flatMap_append, List.length_append, List.length_singleton, List.range_succ, List.map_append]
    have e1 : List.flatMap (fun x : Nd => x.kids) [⟨op, 0, pos, s, ks⟩] = ks := by simp
    rw [e1]
    have h2 : (R' ++ [(o.length : Int)] ++ (o.flatMap (·.kids) ++ ks)).Perm ((R' ++ ks) ++ o.flatMap (·.kids) ++ [(o.length : Int)]) := by (refine perm_cnt fun x => ?_; simp only [cnt_append, cnt_cons, cnt_nil]; omega)
    exact h2.trans (((hp.symm.append_right _).trans f.perm).append_right _)
theorem flat_set {i : Nat} {x : Nd} (hx : o[i]? = some x) (p : Int) : (o.set i { x with pos := p }).flatMap (·.kids) = o.flatMap (·.kids) := by
  have e : (o.set i { x with pos := p }).map (·.kids) = o.map (·.kids) := by
    rw [List.map_set]
    refine List.ext_getElem? fun j => ?_
    by_cases h : i = j
    · subst h
      have hl := (List.getElem?_eq_some_iff.1 hx).1
      rw [List.getElem?_set_self (by simpa using hl), List.getElem?_map, hx]
      rfl
    · rw [List.getElem?_set_ne h]
  rw [List.flatMap_def, List.flatMap_def, e]
theorem Fst.setPos (f : Fst nameB okp o R) {i : Nat} {x : Nd} (hx : o[i]? = some x) {p : Int} (hp : okp p) : Fst nameB okp (o.set i { x with pos := p }) R := by
  have hl := (List.getElem?_eq_some_iff.1 hx).1
  refine ⟨fun j y hy => ?_, fun j y hy => ?_, ?_⟩
  · by_cases h : i = j
    · subst h
      rw [List.getElem?_set_self hl] at hy
      cases hy
      obtain ⟨h1, h2, h4, h3⟩ := f.fit i x hx
      exact ⟨h1, hp, h4, h3.ext (Ext.setPos hx p)⟩
    · rw [List.getElem?_set_ne h] at hy
      obtain ⟨h1, h2, h4, h3⟩ := f.fit j y hy
      exact ⟨h1, h2, h4, h3.ext (Ext.setPos hx p)⟩
  · by_cases h : i = j
    · subst h
      rw [List.getElem?_set_self hl] at hy
      cases hy
      exact f.kid i x hx
    · rw [List.getElem?_set_ne h] at hy
      exact f.kid j y hy
  · rw [flat_set hx p, List.length_set]
    exact f.perm
theorem Fst.nodup (f : Fst nameB okp o R) : (R ++ o.flatMap (·.kids)).Nodup := by
  refine f.perm.nodup_iff.2 ?_
  exact List.Pairwise.map _ (fun a b h e => h (Int.ofNat.inj e)) List.nodup_range
theorem kids_le (f : Fst nameB okp o R) {i : Nat} {x : Nd} (hx : o[i]? = some x) : x.kids.length ≤ o.length := by
  have h1 := f.perm.length_eq
  rw [List.length_append, List.length_map, List.length_range] at h1
  have h2 : x.kids.length ≤ (o.flatMap (·.kids)).length := by
    have hm := List.mem_of_getElem? hx
    clear hx h1 f
    induction o with
    | nil => cases hm
    | cons y r ih =>
      rw [List.flatMap_cons, List.length_append]
      rcases List.mem_cons.1 hm with rfl | hm
      · omega
      · have := ih hm
        omega
  omega
/-! what is laid so may be -/
/-- who is used so far -/
def Us (n : Nat) (S : List Int) (u : List Bool) : Prop := u.length = n ∧ ∀ k : Nat, k < n → u[k]? = some (decide ((k : Int) ∈ S))
theorem fresh_ok : ∀ (ks S : List Int) (u : List Bool) (n i : Nat), i ≤ n → Us n S u → (S ++ ks).Nodup → (∀ k ∈ ks, 0 ≤ k ∧ k < (i : Int)) → ∃ v, fresh ks i u = some v ∧ Us n (S ++ ks) v
  | [], S, u, n, i, _, h, _, _ => ⟨u, rfl, by rw [List.append_nil]; exact h⟩
  | a :: r, S, u, n, i, hi, h, hn, hk => by
    have ha := hk a (List.mem_cons_self ..)
    have h1 := h.2 a.toNat (by omega)
    rw [show ((a.toNat : Nat) : Int) = a by omega] at h1
    have h2 : a ∉ S := fun hm => by
      have := (List.nodup_append.1 hn).2.2 a hm a (List.mem_cons_self ..)
      exact this rfl
    rw [decide_eq_false h2] at h1
    unfold fresh
    rw [if_neg (by rw [h1]; simp; omega)]
    have h3 : Us n (S ++ [a]) (u.set a.toNat true) := by
      refine ⟨by rw [List.length_set]; exact h.1, fun k hkn => ?_⟩
      by_cases e : a.toNat = k
      · subst e
        rw [List.getElem?_set_self (by rw [h.1]; omega), decide_eq_true (by rw [List.mem_append]; right; rw [show ((a.toNat : Nat) : Int) = a by omega]; simp)]
      · rw [List.getElem?_set_ne e, h.2 k hkn]
        congr 1
        rw [decide_eq_decide, List.mem_append, List.mem_singleton]
        constructor
        · intro hm; exact .inl hm
        · rintro (hm | hm)
          · exact hm
          · omega
    have e : S ++ a :: r = S ++ [a] ++ r := by simp
    rw [e] at hn ⊢
    exact fresh_ok r (S ++ [a]) _ n i hi h3 hn fun k hk' => hk k (List.mem_cons_of_mem _ hk')
theorem scan_ok (f : Fst nameB okp o R) : ∀ (n j : Nat) (u : List Bool), o.length - j = n → j ≤ o.length → Us o.length ((o.take j).flatMap (·.kids)) u → scan o nameB (o.drop j) j u = none ∧ Us o.length (o.flatMap (·.kids)) (used (o.drop j) j u) := by
  intro n
  induction n with
  | zero =>
    intro j u h hj hu
    have e : j = o.length := by omega
    subst e
    rw [List.drop_length]
    rw [List.take_length] at hu
    exact ⟨rfl, hu⟩
  | succ n ih =>
    intro j u h hj hu
    have hlt : j < o.length := by omega
    have hx := List.getElem?_eq_getElem hlt
    obtain ⟨h1, _, _, h3⟩ := f.fit _ _ hx
    have e1 : (o.take (j + 1)).flatMap (·.kids) = (o.take j).flatMap (·.kids) ++ o[j].kids := by
      rw [List.take_succ_eq_append_getElem hlt, List.flatMap_append, List.flatMap_singleton]
    have hnd : ((o.take (j + 1)).flatMap (·.kids)).Nodup := by
      have h4 := (List.nodup_append.1 f.nodup).2.1
      rw [← List.take_append_drop (j + 1) o, List.flatMap_append] at h4
      exact (List.nodup_append.1 h4).1
    obtain ⟨v, hv, hv2⟩ := fresh_ok o[j].kids _ u o.length j (by omega) hu (by rw [← e1]; exact hnd) (f.kid _ _ hx)
    rw [← e1] at hv2
    obtain ⟨h5, h6⟩ := ih (j + 1) v (by omega) hlt hv2
    rw [List.drop_eq_getElem_cons hlt]
    unfold scan used
    rw [hv]
    have h7 : ¬(o[j].n ≠ 0 ∨ fitsB o nameB (j + 1) o[j] = false) := by
      rintro (h | h)
      · exact h h1
      · rw [h3.fits f.kid hx] at h; cases h
    dsimp only
    rw [if_neg h7]
    exact ⟨h5, h6⟩
theorem valid_ok {k : Int} {x : Nd} (f : Fst nameB okp o [k]) (h0 : k = (o.length : Int) - 1) (hx : o[k.toNat]? = some x) (ho : x.op = 47) (hk : ∀ j ∈ x.kids, Pl o j true false false) : valid o nameB = none := by
  have hl := (List.getElem?_eq_some_iff.1 hx).1
  obtain ⟨h1, h2⟩ := scan_ok f o.length 0 (List.replicate o.length false) rfl (Nat.zero_le _) ⟨List.length_replicate, fun k hk => by rw [List.getElem?_replicate, if_pos hk]; simp⟩
  rw [List.drop_zero] at h1 h2
  unfold valid
  rw [h1]
  dsimp only
  rw [if_neg]
  rintro (h | h | h | h)
  · omega
  · rw [← h0, nd_some hx] at h; exact h ho
  · obtain ⟨i, hi, he⟩ := List.mem_iff_getElem.1 h
    rw [List.length_take, h2.1] at hi
    rw [List.getElem_take] at he
    have h3 := h2.2 i (by omega)
    rw [List.getElem?_eq_getElem (by rw [h2.1]; omega), he] at h3
    have h4 : ((i : Nat) : Int) ∉ o.flatMap (·.kids) := fun hm => by rw [decide_eq_true hm] at h3; cases h3
    have h5 : ((i : Nat) : Int) ∈ [k] ++ o.flatMap (·.kids) := f.perm.mem_iff.2 (List.mem_map.2 ⟨i, List.mem_range.2 (by omega), rfl⟩)
    rcases List.mem_append.1 h5 with h5 | h5
    · have := List.mem_singleton.1 h5
      omega
    · exact h4 h5
  · rw [← h0] at h
    cases hn : o.length with
    | zero => omega
    | succ n =>
      rw [hn] at h
      unfold places at h
      rw [nd_some hx, if_neg (by omega), if_neg (by omega), if_neg (by omega), if_pos (by omega)] at h
      rw [List.all_eq_true.2 fun j hj => ?_] at h
      · cases h
      · have h6 := f.kid _ _ hx j hj
        rw [show (true && decide (k = (o.length : Int) - 1)) = true by rw [decide_eq_true h0]; rfl, show (false || decide (x.op = 44)) = false by rw [ho]; rfl]
        exact (hk j hj).places f.kid n j _ _ _ (by omega) (by omega)
end
end Go.Pa
