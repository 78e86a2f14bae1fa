/-
  Proved here: a small machine's regions in which operations that change memory come in an order that is drawn.
-/
import Derived.Test.YtickdimknfeddaaGreatDoorExF
namespace Go.EX
open Go.SX Go.RowKit
section
variable {P : Program} {w0 : World} {base : Nat} {ρ : Rho} {hp hp' : AH} {ro : List AH} {nx : Nat} {its : List It} {E : List (Nat × AV)} {af : AF} {l l' : Fr} {ops : Array Oper} {n : Nat} {D : List Deferred} {Q : Exit → Act → World → Prop} {rest : List Oper} {o : Oper} {d i : Nat} {v : AV} {u : Value} {W W' S : World → Prop} {r : List (Nat × Kd)} {pend : List Nat}
def MY (P : Program) (ops : Array Oper) (n : Nat) (D : List Deferred) (Q : Exit → Act → World → Prop) (S : World → Prop) (l : Fr) (W : World → Prop) (plan : List (Nat × Kd)) (pend : List Nat) : Prop :=
  ∀ a w, Has n D a l → W w → wpPlan P .any ops Q S plan pend a w
theorem MY.lift0 (hi : ops[i]? = some o) (hy : Y P l (fun _ => True) o.op o.type u) (hg : o.guard = none) (hd : o.dst = some d) (hdn : Nat.blt d n = true)
    (h : MY P ops n D Q S ((d, u) :: l) W r pend) : MY P ops n D Q S l W ((i, .anywhere) :: r) pend := by
  intro a w ha hW
  refine ⟨o, u, hi, .inl ⟨wanted_none hg, fun w => hy a.eval ha.eval o rfl rfl w trivial⟩, ?_⟩
  rw [hd]; exact h _ _ (ha.put hdn u) hW
theorem MY.lift1 (hi : ops[i]? = some o) (hWS : ∀ w, W w → S w) (hy : Y P l S o.op o.type u) (hg : o.guard = none) (hd : o.dst = some d) (hdn : Nat.blt d n = true)
    (h : MY P ops n D Q S ((d, u) :: l) W r (i :: still ops .any pend i)) : MY P ops n D Q S l W ((i, .held) :: r) pend := by
  intro a w ha hW
  refine ⟨hWS w hW, o, u, hi, .inl ⟨wanted_none hg, fun w hw => hy a.eval ha.eval o rfl rfl w hw⟩, ?_⟩
  rw [hd]; exact h _ _ (ha.put hdn u) hW
theorem MY.force (hi : ops[i]? = some o)
    (h : LX P ops n D (.plain (Exit.then (fun a w => (still ops .any pend i ≠ [] → S w) ∧ wpPlan P .any ops Q S r (still ops .any pend i) a w) Q)) l W [o]) : MY P ops n D Q S l W ((i, .alone) :: r) pend := by
  intro a w ha hW
  have := h a w ha hW
  unfold wpList at this
  show wpOp P ops Q i _ a w
  unfold wpOp
  simp only [hi]
  split at this
  · rename_i hw
    rw [if_pos hw]
    rcases this with h1 | ⟨h1, a0, w0, h2⟩
    · exact .inl (Oper.upon_mono (fun a w h => h) (fun e a w he h => by cases e <;> first | exact absurd rfl he | exact h) h1)
    · exact .inr ⟨h1, a0, w0, h2⟩
  · rename_i hw
    rw [if_neg hw]
    exact this
theorem MY.done (h : PX n D Q l W .normal) : MY P ops n D Q S l W [] pend := fun a w ha hW => h a w ha hW
/-! what is held of memory while operations that read it may still come -/
abbrev Facts := List (Nat × Nat × AV)
def Held (base : Nat) (w0 : World) (ρ : Rho) (F : Facts) (w : World) : Prop :=
  Below base w0 w ∧ ∀ q ∈ F, ∃ p u, rat ρ.blk q.1 = some p ∧ inst ρ q.2.2 = some u ∧ w.cell? ⟨p.1, q.2.1, none⟩ = some u
def cellFacts (id : Nat) : Nat → List AV → Facts
  | _, [] => []
  | off, v :: r => (id, off, v) :: cellFacts id (off + 1) r
/-- a read that may come at any time, while its facts hold -/
def heldA (P : Program) (E : List (Nat × AV)) (ro : List AH) (hp : AH) (af : AF) : Op → Option (AV × Facts)
  | .load t x => match evalA af x with
    | some (.ptr id off) => (lookA hp ro id).bind fun it => match oneT P t with
      | true => (it.cells[off]?).map fun v => (v, [(id, off, v)])
      | false => (aggT P t).bind fun k => match Nat.beq ((it.cells.drop off).take k).length k with
        | true => some (.agg ((it.cells.drop off).take k), cellFacts id off ((it.cells.drop off).take k))
        | false => none
    | some (.lit (.pointer (some ⟨g, 0, none⟩))) => match oneT P t with
      | true => (lookE E g).map fun v => (v, [])
      | false => none
    | _ => none
  | _ => none
/-! the same value still -/
def sameV : Value → Value → Bool
  | .int k a, .int k' b => decide (k = k') && decide (a = b)
  | .bool a, .bool b => a == b
  | .string a, .string b => decide (a.data.toList = b.data.toList)
  | .pointer none, .pointer none => true
  | .slice none 0 0, .slice none 0 0 => true
  | .nilIface, .nilIface => true
  | .nilFunc, .nilFunc => true
  | _, _ => false
theorem sameV_ok {a b : Value} (h : sameV a b = true) : a = b := by
  unfold sameV at h
  split at h
  · simp only [Bool.and_eq_true, decide_eq_true_eq] at h
    rw [h.1, h.2]
  · rename_i a b
    have h1 : a = b := by simpa using h
    rw [h1]
  · rename_i a b
    have h1 : a.data.toList = b.data.toList := by simpa using h
    cases a; cases b
    simp only at h1
    congr 2
    exact Array.toList_inj.1 h1
  · rfl
  · rfl
  · rfl
  · rfl
  · cases h
mutual
def sameA : AV → AV → Bool
  | .lit a, .lit b => sameV a b
  | .ptr i o, .ptr i' o' => Nat.beq i i' && Nat.beq o o'
  | .sl i o n k, .sl i' o' n' k' => Nat.beq i i' && (Nat.beq o o' && (Nat.beq n n' && Nat.beq k k'))
  | .opq i, .opq j => Nat.beq i j
  | .iface t a, .iface t' b => Nat.beq t t' && sameA a b
  | .mp i, .mp j => Nat.beq i j
  | .agg as, .agg bs => sameL as bs
  | _, _ => false
def sameL : List AV → List AV → Bool
  | [], [] => true
  | a :: as, b :: bs => sameA a b && sameL as bs
  | _, _ => false
end
mutual
theorem sameA_ok : ∀ {a b : AV}, sameA a b = true → a = b
  | .lit a, .lit b, h => by unfold sameA at h; rw [sameV_ok h]
  | .ptr i o, .ptr i' o', h => by simp [sameA] at h; rw [h.1, h.2]
  | .sl i o n k, .sl i' o' n' k', h => by simp [sameA] at h; rw [h.1, h.2.1, h.2.2.1, h.2.2.2]
  | .opq i, .opq j, h => by simp [sameA] at h; rw [h]
  | .mp i, .mp j, h => by simp [sameA] at h; rw [h]
  | .iface t a, .iface t' b, h => by
    unfold sameA at h
    simp only [Bool.and_eq_true] at h
    rw [sameA_ok h.2, show t = t' by simpa using h.1]
  | .agg as, .agg bs, h => by
    unfold sameA at h
    rw [sameL_ok h]
theorem sameL_ok : ∀ {as bs : List AV}, sameL as bs = true → as = bs
  | [], [], _ => rfl
  | a :: as, b :: bs, h => by
    unfold sameL at h
    simp only [Bool.and_eq_true] at h
    rw [sameA_ok h.1, sameL_ok h.2]
  | [], _ :: _, h => by simp [sameL] at h
  | _ :: _, [], h => by simp [sameL] at h
end
def factsOk (hp : AH) (ro : List AH) : Facts → Bool
  | [] => true
  | (id, off, v) :: r => (match lookA hp ro id with
    | some it => match it.cells[off]? with
      | some v' => sameA v v'
      | none => false
    | none => false) && factsOk hp ro r
theorem factsOk_ok (hH : instH ρ hp = some its) (hR : RO w0 base ρ ro) {w : World} (hw : WA w0 base its w) : ∀ {F : Facts}, factsOk hp ro F = true → ∀ q ∈ F, ∃ p u, rat ρ.blk q.1 = some p ∧ inst ρ q.2.2 = some u ∧ w.cell? ⟨p.1, q.2.1, none⟩ = some u
  | [], _, q, hq => by cases hq
  | (id, off, v) :: r, h, q, hq => by
    unfold factsOk at h
    simp only [Bool.and_eq_true] at h
    rcases List.mem_cons.1 hq with rfl | hq
    · have h1 := h.1
      split at h1
      · rename_i it hl
        split at h1
        · rename_i v' hv
          obtain rfl := sameA_ok h1
          obtain ⟨p, us, e1, e2, e3, _⟩ := look_ok hH hR hl
          obtain ⟨z, h3, h4⟩ := instL_get e2 hv
          exact ⟨p, z, e1, h4, e3 w hw _ _ h3⟩
        · cases h1
      · cases h1
    · exact factsOk_ok hH hR hw h.2 q hq
/-- names of facts are old ones: they stand for the same -/
theorem Held.back {ρ' : Rho} {F : Facts} (he : Ext ρ ρ') (hold : ∀ q ∈ F, ∃ p u, rat ρ.blk q.1 = some p ∧ inst ρ q.2.2 = some u) {w : World} (hb : Below base w0 w)
    (h : ∀ q ∈ F, ∃ p u, rat ρ'.blk q.1 = some p ∧ inst ρ' q.2.2 = some u ∧ w.cell? ⟨p.1, q.2.1, none⟩ = some u) : Held base w0 ρ F w := by
  refine ⟨hb, fun q hq => ?_⟩
  obtain ⟨p, u, h1, h2⟩ := hold q hq
  obtain ⟨p', u', h3, h4, h5⟩ := h q hq
  rw [he.blk _ _ h1] at h3; cases h3
  rw [inst_ext he _ _ h2] at h4; cases h4
  exact ⟨p, u, h1, h2, h5⟩
/-! a plan, and how it is gone through -/
def isEff : Op → Bool
  | .alloc _ | .box .. | .buildSlice .. | .store .. | .makeSlice .. | .panic _ => true
  | .call c => match c.callee with
    | .builtin .len | .builtin .max | .builtin .min => false
    | _ => true
  | _ => false
def isHeld : Op → Bool
  | .load .. => true
  | _ => false
end
end Go.EX
