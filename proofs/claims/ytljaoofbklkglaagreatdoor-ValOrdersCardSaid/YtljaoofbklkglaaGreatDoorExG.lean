/-
  Proved here: a small machine's regions in which operations that change memory come in an order that is drawn.
-/
import Derived.Test.YtljaoofbklkglaaGreatDoorExF
namespace Go.EX
open Go.SX Go.RowKit
section
variable {P : Program} {w0 : World} {base : Nat} {ρ : Rho} {hp hp' : AH} {ro : List AH} {nx : Nat} {its : List It} {E : List (Nat × AV)} {af : AF} {l l' : Fr} {ops : Array Oper} {n : Nat} {D : List Deferred} {Q : Exit → Act → World → Prop} {rest : List Oper} {o : Oper} {d i : Nat} {v : AV} {u : Value} {W W' S : World → Prop} {r : List (Nat × Kd)} {pend : List Nat}
/-- what ends in a panic is not asked what the frame's slots hold -/
def PanicOk (Q : Exit → Act → World → Prop) : Prop := ∀ c a a' w, a.defers = a'.defers → Q (.panic c) a w → Q (.panic c) a' w
theorem put_defers (a : Act) (d : Option Tmp) (v : Value) : (a.put d v).defers = a.defers := by cases d <;> rfl
def MY (P : Program) (ops : Array Oper) (n : Nat) (D : List Deferred) (Q : Exit → Act → World → Prop) (S : World → Prop) (l : Fr) (W : World → Prop) (plan : List (Nat × Kd)) (pend : List Nat) : Prop :=
  ∀ a w, Has n D a l → W w → wpPlan P .any ops Q S plan pend a w
theorem CX.regionY [hst : Stab W] {id : Nat} {lo : List Oper} (plan : List (Nat × Kd)) (hm : P.follows .mixedOrders = true) (hQ : PanicOk Q) (hB : (Region.noSelect lo.toArray && planOk .any lo.toArray plan (Array.replicate lo.toArray.size false) && (plan.length == lo.toArray.size)) = true)
    (h : MY P lo.toArray n D Q S l W plan []) : CX P n D Q l W (.region id lo.toArray true) := by
  intro a w ha hW
  simp only [Bool.and_eq_true, beq_iff_eq] at hB
  refine wp_region_any hm (wpAny_of_M (S := S) _ _ [] _ _ ?_)
  have h1 := wpAnyM_plan (Q := Q) (S := S) hB.1.1 (fun c a w d v h => hQ c _ a w (put_defers a d v) h) plan _ [] a _ hB.1.2 (fun h => absurd rfl h) (h a _ ha (Stab.drew hW))
  rw [hB.2] at h1
  exact h1
theorem MY.lift0 (hi : ops[i]? = some o) (hy : Y P l (fun _ => True) o.op o.type u) (hg : o.guard = none) (hd : o.dst = some d) (hdn : Nat.blt d n = true)
    (h : MY P ops n D Q S ((d, u) :: l) W r pend) : MY P ops n D Q S l W ((i, .anywhere) :: r) pend := by
  intro a w ha hW
  refine ⟨o, u, hi, .inl ⟨wanted_none hg, fun w => hy a.eval ha.eval o rfl rfl w trivial⟩, ?_⟩
  rw [hd]; exact h _ _ (ha.put hdn u) hW
theorem MY.lift1 (hi : ops[i]? = some o) (hWS : ∀ w, W w → S w) (hy : Y P l S o.op o.type u) (hg : o.guard = none) (hd : o.dst = some d) (hdn : Nat.blt d n = true)
    (h : MY P ops n D Q S ((d, u) :: l) W r (i :: still ops .any pend i)) : MY P ops n D Q S l W ((i, .held) :: r) pend := by
  intro a w ha hW
  refine ⟨hWS w hW, o, u, hi, .inl ⟨wanted_none hg, fun w hw => hy a.eval ha.eval o rfl rfl w hw⟩, ?_⟩
  rw [hd]; exact h _ _ (ha.put hdn u) hW
theorem MY.force (hi : ops[i]? = some o)
    (h : LX P ops n D (.plain (Exit.then (fun a w => (still ops .any pend i ≠ [] → S w) ∧ wpPlan P .any ops Q S r (still ops .any pend i) a w) Q)) l W [o]) : MY P ops n D Q S l W ((i, .alone) :: r) pend := by
  intro a w ha hW
  have := h a w ha hW
  unfold wpList at this
  show wpOp P ops Q i _ a w
  unfold wpOp
  simp only [hi]
  split at this
  · rename_i hw
    rw [if_pos hw]
    rcases this with h1 | ⟨h1, a0, w0, h2⟩
    · exact .inl (Oper.upon_mono (fun a w h => h) (fun e a w he h => by cases e <;> first | exact absurd rfl he | exact h) h1)
    · exact .inr ⟨h1, a0, w0, h2⟩
  · rename_i hw
    rw [if_neg hw]
    exact this
theorem MY.done (h : PX n D Q l W .normal) : MY P ops n D Q S l W [] pend := fun a w ha hW => h a w ha hW
/-! what is held of memory while operations that read it may still come -/
/-! the same value still -/
def sameV : Value → Value → Bool
  | .int k a, .int k' b => decide (k = k') && decide (a = b)
  | .bool a, .bool b => a == b
  | .string a, .string b => decide (a.data.toList = b.data.toList)
  | .pointer none, .pointer none => true
  | .slice none 0 0, .slice none 0 0 => true
  | .nilIface, .nilIface => true
  | .nilFunc, .nilFunc => true
  | _, _ => false
theorem sameV_ok {a b : Value} (h : sameV a b = true) : a = b := by
  unfold sameV at h
  split at h
  · simp only [Bool.and_eq_true, decide_eq_true_eq] at h
    rw [h.1, h.2]
  · rename_i a b
    have h1 : a = b := by simpa using h
    rw [h1]
  · rename_i a b
    have h1 : a.data.toList = b.data.toList := by simpa using h
    cases a; cases b
    simp only at h1
    congr 2
    exact Array.toList_inj.1 h1
  · rfl
  · rfl
  · rfl
  · rfl
  · cases h
def sameA : AV → AV → Bool
  | .lit a, .lit b => sameV a b
  | .ptr i o, .ptr i' o' => Nat.beq i i' && Nat.beq o o'
  | .sl i o n k, .sl i' o' n' k' => Nat.beq i i' && (Nat.beq o o' && (Nat.beq n n' && Nat.beq k k'))
  | .opq i, .opq j => Nat.beq i j
  | .iface t a, .iface t' b => Nat.beq t t' && sameA a b
  | .mp i, .mp j => Nat.beq i j
  | _, _ => false
theorem sameA_ok : ∀ {a b : AV}, sameA a b = true → a = b
  | .lit a, .lit b, h => by rw [sameV_ok h]
  | .ptr i o, .ptr i' o', h => by simp [sameA] at h; rw [h.1, h.2]
  | .sl i o n k, .sl i' o' n' k', h => by simp [sameA] at h; rw [h.1, h.2.1, h.2.2.1, h.2.2.2]
  | .opq i, .opq j, h => by simp [sameA] at h; rw [h]
  | .mp i, .mp j, h => by simp [sameA] at h; rw [h]
  | .iface t a, .iface t' b, h => by
    unfold sameA at h
    simp only [Bool.and_eq_true] at h
    rw [sameA_ok h.2, show t = t' by simpa using h.1]
/-! a plan, and how it is gone through -/
end
end Go.EX
