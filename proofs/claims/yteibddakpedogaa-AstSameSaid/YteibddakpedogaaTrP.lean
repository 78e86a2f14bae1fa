/-
  Proved here: when nodes are a tree that may be, in plain terms. No program stands here.
-/
import Derived.Test.YteibddakpedogaaAt
namespace Go.Tr
open Go.SX
structure Nd where
  op : Int
  n : Int
  pos : Int
  s : List UInt8
  kids : List Int
section
variable (l : List Nd)
/-- a node that is there -/
def nd (k : Int) : Nd := (l[k.toNat]?).getD ⟨0, 0, 0, [], []⟩
theorem nd_at {l : List Nd} {k : Nat} {x : Nd} (h : l[k]? = some x) : nd l (k : Int) = x := by
  unfold nd
  rw [Int.toNat_natCast, h]
  rfl
def exprB (op : Int) : Bool := decide (1 ≤ op) && decide (op ≤ 34) && !decide (op = 11) && !decide (op = 15)
def stmtB (op : Int) : Bool := decide (35 ≤ op) && decide (op ≤ 45)
def allB (B : Nd → Bool) (ks : List Int) : Bool := ks.all fun k => B (nd l k)
def exprs (ks : List Int) (lo hi : Int) : Bool := (decide (lo ≤ ks.length) && decide ((ks.length : Int) ≤ hi)) && allB l (fun x => exprB x.op) ks
/-- may a node be assigned to? -/
def target : Nat → Int → Bool
  | 0, _ => false
  | n + 1, k => if (nd l k).op ≠ 8 then decide ((nd l k).op = 6) || decide ((nd l k).op = 13) else (nd l k).kids.all (target n) && decide (0 < (nd l k).kids.length)
/-- what is called, and arguments -/
def callGo : List Int → Bool → Bool → Bool
  | [], _, _ => true
  | k :: r, named, fst => if (nd l k).op = 11 then (if fst then false else callGo r true false) else if named || !exprB (nd l k).op then false else callGo r named false
def loadedB (x : Nd) : Bool := decide (x.op = 46) && decide (x.kids.length = 1) && decide ((nd l (x.kids.getD 0 0)).op = 5)
/-- kids of two-sided ones, of statements with targets and blocks -/
def more (n : Nat) (op : Int) (ks : List Int) : Bool :=
  if op = 36 then decide (ks.length = 2) && target l n (ks.getD 0 0) && exprs l (ks.drop 1) 1 1
  else if op = 37 then decide (ks.length = 2) && (decide ((nd l (ks.getD 0 0)).op = 6) || decide ((nd l (ks.getD 0 0)).op = 13)) && exprs l (ks.drop 1) 1 1
  else if op = 43 then (decide (ks.length = 2) || decide (ks.length = 3)) && exprs l (ks.take 1) 1 1 && allB l (fun x => decide (x.op = 47)) (ks.drop 1)
  else if op = 44 then decide (ks.length = 3) && target l n (ks.getD 0 0) && exprs l ((ks.take 2).drop 1) 1 1 && decide ((nd l (ks.getD 2 0)).op = 47)
  else (decide (op = 13) || decide (op = 18) || decide (op = 19) || (decide (21 ≤ op) && decide (op ≤ 33))) && exprs l ks 2 2
def kidsB (n : Nat) (x : Nd) : Bool :=
  if x.op = 1 ∨ x.op = 2 ∨ x.op = 3 ∨ x.op = 4 ∨ x.op = 5 ∨ x.op = 6 ∨ x.op = 15 ∨ x.op = 38 ∨ x.op = 39 ∨ x.op = 40 then decide (x.kids.length = 0)
  else if x.op = 7 ∨ x.op = 8 then exprs l x.kids 0 1048576
  else if x.op = 9 then decide (x.kids.length % 2 = 0) && exprs l x.kids 0 1048576
  else if x.op = 11 ∨ x.op = 12 ∨ x.op = 16 ∨ x.op = 17 ∨ x.op = 35 then exprs l x.kids 1 1
  else if x.op = 20 then exprs l x.kids 3 3
  else if x.op = 41 ∨ x.op = 46 then exprs l x.kids 0 1
  else if x.op = 10 then decide (0 < x.kids.length) && callGo l x.kids false true
  else if x.op = 14 then decide (x.kids.length = 3) && exprs l (x.kids.take 1) 1 1 && allB l (fun x => exprB x.op || decide (x.op = 15)) (x.kids.drop 1)
  else if x.op = 34 then (decide (x.kids.length = 3) || decide (x.kids.length = 4)) && target l n (x.kids.getD 1 0) && exprs l x.kids 3 4
  else if x.op = 42 then decide (0 < x.kids.length) && allB l (loadedB l) x.kids
  else if x.op = 45 then decide (0 < x.kids.length) && allB l (fun x => decide (x.op = 46)) (x.kids.take (x.kids.length - 1)) && decide ((nd l (x.kids.getD (x.kids.length - 1) 0)).op = 47)
  else if x.op = 47 then decide (0 < x.kids.length) && allB l (fun x => stmtB x.op) x.kids
  else more l n x.op x.kids
/-- an Int's text -/
def isDigit (c : UInt8) : Prop := 48 ≤ c.toNat ∧ c.toNat ≤ 57
noncomputable instance (c : UInt8) : Decidable (isDigit c) := Classical.propDecidable _
def digitsOk (s : List UInt8) : Prop := (∀ c ∈ s, isDigit c) ∧ s ≠ [] ∧ s.length ≤ 600 ∧ (s = [48] ∨ s[0]? ≠ some 48)
noncomputable instance (s : List UInt8) : Decidable (digitsOk s) := Classical.propDecidable _
variable (nameB : List UInt8 → Bool)
noncomputable def fitsB (n : Nat) (x : Nd) : Bool :=
  if x.op = 6 ∨ x.op = 11 ∨ x.op = 12 ∨ x.op = 45 ∨ x.op = 46 then nameB x.s && kidsB l n x
  else if x.op = 4 then decide (digitsOk x.s) && kidsB l n x
  else if x.op = 5 ∨ x.op = 42 then kidsB l n x
  else decide (x.s = []) && kidsB l n x
/-- kids lie ahead, and are nobody's; they are used then -/
def fresh : List Int → Nat → List Bool → Option (List Bool)
  | [], _, u => some u
  | k :: r, i, u => if k < 0 ∨ (i : Int) ≤ k ∨ u[k.toNat]? = some true then none else fresh r i (u.set k.toNat true)
/-- a Def's Params -/
def paramsGo : List Int → List (List UInt8) → Bool → Bool
  | [], _, _ => true
  | k :: r, ns, given => if decide ((nd l k).s ∈ ns) || (given && decide ((nd l k).kids.length = 0)) then false else paramsGo r (ns ++ [(nd l k).s]) (given || decide (0 < (nd l k).kids.length))
/-- what may stand in some places alone does so -/
def places : Nat → Int → Bool → Bool → Bool → Bool
  | 0, _, _, _, _ => false
  | n + 1, k, whole, df, lp =>
    if (nd l k).op = 39 ∨ (nd l k).op = 40 then lp
    else if (nd l k).op = 41 then df
    else if (nd l k).op = 42 then whole
    else if (nd l k).op = 47 ∨ (nd l k).op = 43 ∨ (nd l k).op = 44 then (nd l k).kids.all fun j => places n j (whole && decide (k = (l.length : Int) - 1)) df (lp || decide ((nd l k).op = 44))
    else if (nd l k).op = 45 then whole && paramsGo l ((nd l k).kids.take ((nd l k).kids.length - 1)) [] false && places n ((nd l k).kids.getD ((nd l k).kids.length - 1) 0) false true false
    else true
/-- the first node that may not be -/
noncomputable def scan : List Nd → Nat → List Bool → Option Nat
  | [], _, _ => none
  | x :: r, i, u => match fresh x.kids i u with
    | none => some i
    | some u' => if x.n ≠ 0 ∨ fitsB l nameB (i + 1) x = false then some i else scan r (i + 1) u'
/-- who is used, when all may be -/
def used : List Nd → Nat → List Bool → List Bool
  | [], _, u => u
  | x :: r, i, u => used r (i + 1) ((fresh x.kids i u).getD u)
/-- what is amiss with nodes: the place of the first -/
noncomputable def valid : Option Nat :=
  match scan l nameB l 0 (List.replicate l.length false) with
  | some i => some i
  | none =>
    if l.length = 0 ∨ (nd l ((l.length : Int) - 1)).op ≠ 47 ∨ false ∈ (used l 0 (List.replicate l.length false)).take (l.length - 1) ∨ places l l.length ((l.length : Int) - 1) true false false = false then some (l.length - 1) else none
end
/-- kids lie ahead, of all nodes below -/
def Ahead (l : List Nd) (i : Nat) : Prop := ∀ j x, j < i → l[j]? = some x → ∀ k ∈ x.kids, 0 ≤ k ∧ k < (j : Int)
theorem target_more {l : List Nd} {i : Nat} (h : Ahead l i) : ∀ (n m : Nat) (k : Int), 0 ≤ k → k < n → k < m → k < i → target l n k = target l m k := by
  intro n
  induction n with
  | zero => intro m k h0 h1; exact absurd h1 (by omega)
  | succ n ih =>
    intro m k h0 h1 h2 h3
    cases m with
    | zero => exact absurd h2 (by omega)
    | succ m =>
      unfold target
      have hk : ∀ j ∈ (nd l k).kids, 0 ≤ j ∧ j < k := by
        unfold nd
        cases hx : l[k.toNat]? with
        | none => intro j hj; cases hj
        | some x =>
          intro j hj
          have := h k.toNat x (by omega) hx j hj
          omega
      split
      · rfl
      · congr 1
        have key : ∀ (ks : List Int), (∀ j ∈ ks, 0 ≤ j ∧ j < k) → ks.all (target l n) = ks.all (target l m) := by
          intro ks
          induction ks with
          | nil => intro _; rfl
          | cons a r ihr =>
            intro hh
            have ha := hh a (List.mem_cons_self ..)
            rw [List.all_cons, List.all_cons, ihr (fun j hj => hh j (List.mem_cons_of_mem _ hj)), ih m a ha.1 (by omega) (by omega) (by omega)]
        exact key _ hk
theorem target_1 {l : List Nd} {n k : Nat} {x : Nd} (h : l[k]? = some x) : target l (n + 1) (k : Int) = if x.op ≠ 8 then decide (x.op = 6) || decide (x.op = 13) else x.kids.all (target l n) && decide (0 < x.kids.length) := by
  rw [target, nd_at h]
theorem digits_no {s : List UInt8} {i : Nat} (hi : i < s.length) (h : bt s i < 48 ∨ 57 < bt s i) : ¬digitsOk s := fun hd => by
  have := hd.1 (s.getD i 0) (by rw [List.getD_eq_getElem?_getD, List.getElem?_eq_getElem hi]; exact List.getElem_mem hi)
  unfold isDigit at this
  unfold bt at h
  omega
theorem digits_iff {s : List UInt8} (h : ∀ i, i < s.length → 48 ≤ bt s i ∧ bt s i ≤ 57) : digitsOk s ↔ s ≠ [] ∧ s.length ≤ 600 ∧ (s = [48] ∨ bt s 0 ≠ 48) := by
  have hall : ∀ c ∈ s, isDigit c := fun c hc => by
    obtain ⟨i, hi, rfl⟩ := List.mem_iff_getElem.1 hc
    have := h i hi
    unfold bt at this
    rw [List.getD_eq_getElem?_getD, List.getElem?_eq_getElem hi] at this
    exact this
  have e : s ≠ [] → (s[0]? ≠ some 48 ↔ bt s 0 ≠ 48) := fun hs => by
    cases s with
    | nil => exact absurd rfl hs
    | cons c r =>
      show some c ≠ some 48 ↔ c.toNat ≠ 48
      constructor
      · intro h1 h2
        exact h1 (by rw [show c = 48 from UInt8.toNat_inj.1 (by simpa using h2)])
      · intro h1 h2
        exact h1 (by injection h2 with h2; rw [h2]; rfl)
  constructor
  · rintro ⟨_, h1, h2, h3⟩
    exact ⟨h1, h2, h3.imp id (e h1).1⟩
  · rintro ⟨h1, h2, h3⟩
    exact ⟨hall, h1, h2, h3.imp id (e h1).2⟩
theorem digits_b1 {s : List UInt8} (h : ∀ i, i < s.length → 48 ≤ bt s i ∧ bt s i ≤ 57) : (decide (s = [48]) || !decide (s = []) && !decide (bt s 0 = 48) && decide (s.length ≤ 600)) = decide (digitsOk s) := by
  rw [Bool.eq_iff_iff, decide_eq_true_eq, digits_iff h]
  simp only [Bool.and_eq_true, Bool.or_eq_true, decide_eq_true_eq, Bool.not_eq_true', decide_eq_false_iff_not]
  constructor
  · rintro (h | ⟨⟨h1, h2⟩, h3⟩)
    · subst h; decide
    · exact ⟨h1, h3, .inr h2⟩
  · rintro ⟨h1, h2, h3 | h3⟩
    · exact .inl h3
    · exact .inr ⟨⟨h1, h3⟩, h2⟩
theorem digits_b2 {s : List UInt8} (h : ∀ i, i < s.length → 48 ≤ bt s i ∧ bt s i ≤ 57) : (!decide (s = []) && decide (s.length ≤ 600) && (decide (s = [48]) || !decide (bt s 0 = 48))) = decide (digitsOk s) := by
  rw [Bool.eq_iff_iff, decide_eq_true_eq, digits_iff h]
  simp only [Bool.and_eq_true, Bool.or_eq_true, decide_eq_true_eq, Bool.not_eq_true', decide_eq_false_iff_not]
  constructor
  · rintro ⟨⟨h1, h2⟩, h3⟩
    exact ⟨h1, h2, h3⟩
  · rintro ⟨h1, h2, h3⟩
    exact ⟨⟨h1, h2⟩, h3⟩
/-- a checker of nodes, and the nodes -/
structure Cq (w0 : World) (base : Nat) (bq : Nat) (al : Option Addr) (cl : Nat) (uv : Value) (l : List Nd) (A : Rd → List Value → Nd → Prop) : Prop where
  blk : Lies w0 base ⟨bq, 0, none⟩ [.slice al l.length cl, uv]
  nodes : SlAt 5 A (Lies w0 base) al l
theorem Cq.push {w0 w : World} {base : Nat} {its : List It} {bq : Nat} {al : Option Addr} {cl : Nat} {uv : Value} {l : List Nd} {A : Rd → List Value → Nd → Prop} [Kept A] (h : Cq w0 base bq al cl uv l A) (hw : WA w0 base its w) : Cq w w.heap.size bq al cl uv l A := ⟨h.blk.push hw, h.nodes.push hw⟩
theorem getD_mem {ks : List Int} {j : Nat} (h : j < ks.length) : ks.getD j 0 ∈ ks := by
  rw [List.getD_eq_getElem?_getD, List.getElem?_eq_getElem h]
  exact List.getElem_mem h
theorem drop_getD {ks : List Int} {j : Nat} (h : j < ks.length) : ks.drop j = ks.getD j 0 :: ks.drop (j + 1) := by
  rw [List.getD_eq_getElem?_getD, List.getElem?_eq_getElem h]
  exact List.drop_eq_getElem_cons h
theorem allB_drop {l : List Nd} {B : Nd → Bool} {ks : List Int} {j : Nat} (h : j < ks.length) : allB l B (ks.drop j) = (B (nd l (ks.getD j 0)) && allB l B (ks.drop (j + 1))) := by
  rw [drop_getD h]; rfl
theorem all_drop {B : Int → Bool} {ks : List Int} {j : Nat} (h : j < ks.length) : (ks.drop j).all B = (B (ks.getD j 0) && (ks.drop (j + 1)).all B) := by
  rw [drop_getD h]; rfl
theorem drop_end {ks : List Int} {j : Nat} (h : j = ks.length) : ks.drop j = [] := List.drop_of_length_le (by omega)
/-- a closure over a node does what a plain one does, on the nodes below a place -/
structure ClosOk (w0 : World) (base : Nat) (P : Program) (g : FuncId) (fst : Array Value) (l : List Nd) (i : Nat) (B : Nd → Bool) (A : Rd → List Value → Nd → Prop) : Prop where
  ent : Enters P g
  does : ∀ (its : List It) (k : Nat) (x : Nd) (cs : List Value), l[k]? = some x → k < i → A (Lies w0 base) cs x → FnQ P g (fst ++ #[.agg cs.toArray] ++ #[]) (WA w0 base its) (.bool (B x))
/-- a node's cells -/
def ndA (M : Rd) (cs : List Value) (x : Nd) : Prop := ∃ vk, cs = [.int .i64 x.op, .int .i64 x.n, .int .i64 x.pos, str x.s, vk] ∧ SlA 1 intA M vk x.kids ∧ inI x.op ∧ inI x.n ∧ inI x.pos
instance : Kept ndA := ⟨fun hM ⟨vk, h1, h2, h3⟩ => ⟨vk, h1, h2.mono hM, h3⟩⟩
end Go.Tr
