/-
  Proved here: short forms of the rules for walks (for printed walks: they take less room).
-/
import Derived.Test.YteibddakpedogaaMt
import Derived.Test.YteibddakpedogaaAt
namespace Go.SX
open Go.RowKit
section
variable {P : Program} {ops : Array Oper} {n : Nat} {D : List Deferred} {m : Mode} {l l' : Fr} {W W' : World → Prop} {rest : List Oper} {o : Oper} {d : Nat} {v : Value} {Q : Exit → Act → World → Prop}
/-- where an operation that nothing guards puts its value -/
def dstF (n : Nat) (o : Oper) : Option Nat := match o.guard with
  | none => (match o.dst with
    | some d => (match Nat.blt d n with | true => some d | false => none)
    | none => none)
  | some _ => none
theorem dstF_ok (h : dstF n o = some d) : o.guard = none ∧ o.dst = some d ∧ Nat.blt d n = true := by
  unfold dstF at h
  split at h
  · split at h
    · split at h
      · cases h; exact ⟨by assumption, by assumption, by assumption⟩
      · cases h
    · cases h
  · cases h
theorem LX.p (hy : Y P l W o.op o.type v) (h : dstF n o = some d) (hh : LX P ops n D m ((d, v) :: l) W rest) : LX P ops n D m l W (o :: rest) :=
  LX.pure hy (dstF_ok h).1 (dstF_ok h).2.1 (dstF_ok h).2.2 hh
/-- what a move comes to -/
def mvV (l : Fr) : Op → Option Value
  | .move x => evl l x
  | .assign x => evl l x
  | .nilCheck x => (match evl l x with
    | some (.pointer (some a)) => some (.pointer (some a))
    | _ => none)
  | _ => none
theorem mvV_ok {q : Op} {ty : TypeId} (h : mvV l q = some v) : Y P l W q ty v := by
  unfold mvV at h
  split at h
  · exact Y.move h
  · exact Y.assign h
  · split at h
    · rename_i e; cases h; exact Y.nilCheck e
    · cases h
  · cases h
def mvF (n : Nat) (l : Fr) (o : Oper) : Option (Nat × Value) := match dstF n o with
  | some d => (match mvV l o.op with | some v => some (d, v) | none => none)
  | none => none
theorem LX.mv {p : Nat × Value} (h : mvF n l o = some p) (hh : LX P ops n D m (p :: l) W rest) : LX P ops n D m l W (o :: rest) := by
  unfold mvF at h
  split at h
  · split at h
    · rename_i e1 _ _ e2; cases h; exact LX.p (mvV_ok e2) e1 hh
    · cases h
  · cases h
/-- several moves -/
def mvsF (n : Nat) : Nat → Fr → List Oper → Option (Fr × List Oper)
  | 0, l, r => some (l, r)
  | _ + 1, _, [] => none
  | k + 1, l, o :: r => (match mvF n l o with | some p => mvsF n k (p :: l) r | none => none)
theorem LX.ms (k : Nat) {al : List Oper} (h : mvsF n k l al = some (l', rest)) (hh : LX P ops n D m l' W rest) : LX P ops n D m l W al := by
  induction k generalizing l al with
  | zero => simp only [mvsF, Option.some.injEq, Prod.mk.injEq] at h; obtain ⟨rfl, rfl⟩ := h; exact hh
  | succ k ih =>
    cases al with
    | nil => cases h
    | cons o r =>
      unfold mvsF at h
      split at h
      · rename_i e; exact LX.mv e (ih h)
      · cases h
/-- some slots of a frame -/
def selF : List Nat → Fr → Option Fr
  | [], _ => some []
  | k :: ks, l => (match get l k with
    | some v => (match selF ks l with | some r => some ((k, v) :: r) | none => none)
    | none => none)
theorem selF_sub : ∀ {ks : List Nat} {l l' : Fr}, selF ks l = some l' → Sub l' l
  | [], l, l', h => by cases h; trivial
  | k :: ks, l, l', h => by
    unfold selF at h
    split at h
    · rename_i e
      split at h
      · rename_i e'; cases h; exact ⟨e, selF_sub e'⟩
      · cases h
    · cases h
theorem LX.su (ks : List Nat) (h : selF ks l = some l') (hh : LX P ops n D m l' W rest) : LX P ops n D m l W rest := LX.sub (selF_sub h) hh
theorem CX.sr {id : Nat} {c' : Code} {lo : List Oper} (h : LX P lo.toArray n D (.plain (Exit.then (fun a w => c'.wp P Q a w) Q)) l W lo) : CX P n D Q l W (.seq (.region id lo.toArray false) c') := CX.seq (CX.region h)
theorem LX.nt {c : Code} (h : CX P n D Q l W c) : LX P ops n D (.plain (Exit.then (fun a w => c.wp P Q a w) Q)) l W [] := LX.next (PX.thenN h)
theorem LX.wq {w0 : World} {base : Nat} {its : List It} (its' : List It) (e : its = its') (h : LX P ops n D (.plain (fun e a w => Q e a w)) l (WA w0 base its') rest) : LX P ops n D (.plain Q) l (WA w0 base its) rest := by
  subst e; exact h
/-- Another list of what a call owns: each at most as often. -/
theorem cnt_pick {α : Type} : ∀ {b a : List α}, (∀ x, cnt x b ≤ cnt x a) → ∃ c, (b ++ c).Perm a
  | [], a, _ => ⟨a, .refl _⟩
  | y :: b, a, h => by
    have h1 : y ∈ a := by
      have := h y
      rw [cnt_cons, if_pos rfl] at this
      clear h
      induction a with
      | nil => simp [cnt_nil] at this
      | cons z a ih =>
        by_cases e : z = y
        · exact e ▸ List.mem_cons_self
        · rw [cnt_cons, if_neg e, Nat.zero_add] at this
          exact List.mem_cons_of_mem _ (ih this)
    obtain ⟨p, q, rfl⟩ := List.append_of_mem h1
    obtain ⟨c, hc⟩ := cnt_pick (b := b) (a := p ++ q) (fun x => by have := h x; simp only [cnt_append, cnt_cons] at this ⊢; omega)
    exact ⟨c, (hc.cons y).trans List.perm_middle.symm⟩
theorem WA.pick {w0 : World} {base : Nat} {its its' : List It} {w : World} (h : WA w0 base its w) (hp : ∀ x, cnt x its' ≤ cnt x its) : WA w0 base its' w := by
  obtain ⟨c, hc⟩ := cnt_pick hp
  exact (h.perm hc).drop (List.sublist_append_left _ _)
end
/-- rows of numbers, of texts -/
@[reducible] def Ri (g : Option Nat) (c : Nat) (l : List Int) : It := .row g c l.length 3 1 (l.map iv)
@[reducible] def Rs (g : Option Nat) (c : Nat) (l : List (List UInt8)) : It := .row g c l.length 9 1 (l.map str)
theorem pm {α : Type} {a b : List α} (h : ∀ x, cnt x a = cnt x b := by intro x; (try simp only [cnt_append, cnt_cons, cnt_nil, List.cons_append, List.nil_append]); (try omega)) : a.Perm b := perm_cnt h
theorem LX.wp {P : Program} {ops : Array Oper} {n : Nat} {D : List Deferred} {l : Fr} {rest : List Oper} {Q : Exit → Act → World → Prop} {w0 : World} {base : Nat} {its : List It} (its' : List It) (h : LX P ops n D (.plain Q) l (WA w0 base its') rest)
    (hp : ∀ x, cnt x its' = cnt x its := by intro x; (try simp only [cnt_append, cnt_cons, cnt_nil, List.cons_append, List.nil_append]); (try omega)) : LX P ops n D (.plain Q) l (WA w0 base its) rest :=
  LX.world (fun _ hw => hw.perm (perm_cnt hp)) h
/-- a row that grew -/
theorem LX.wa {P : Program} {ops : Array Oper} {n : Nat} {D : List Deferred} {l : Fr} {rest : List Oper} {Q : Exit → Act → World → Prop} {w0 : World} {base : Nat} {its : List It} (its' : List It) (h : LX P ops n D (.plain Q) l (WA w0 base its') rest)
    (hp : ∀ w, WA w0 base its w → WA w0 base its' w := by intro w hw; dsimp only [Ri, Rs]; rw [List.length_append, List.map_append]; exact hw) : LX P ops n D (.plain Q) l (WA w0 base its) rest := LX.world hp h
theorem WA.ct {w0 : World} {base : Nat} {its its' : List It} {w : World} (h : WA w0 base its w) (hp : ∀ x, cnt x its' ≤ cnt x its := by intro x; (try simp only [cnt_append, cnt_cons, cnt_nil, List.cons_append, List.nil_append]); omega) : WA w0 base its' w := h.pick hp
theorem as_ {p : Prop} (h : p := by assumption) : p := h
theorem dc {p : Prop} (h : p := by decide) : p := h
theorem lo {p : Prop} (h : p := by (try simp only [List.length_cons, List.length_nil, List.length_append]); omega) : p := h
end Go.SX
