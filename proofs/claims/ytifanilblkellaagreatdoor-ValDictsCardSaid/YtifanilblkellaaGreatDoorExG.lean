/-
  Proved here: a small machine's regions in which operations that change memory come in an order that is drawn.
-/
import Derived.Test.YtifanilblkellaaGreatDoorExF
namespace Go.EX
open Go.SX Go.RowKit
section
variable {P : Program} {w0 : World} {base : Nat} {ρ : Rho} {hp hp' : AH} {ro : List AH} {nx : Nat} {its : List It} {E : List (Nat × AV)} {af : AF} {l l' : Fr} {ops : Array Oper} {n : Nat} {D : List Deferred} {Q : Exit → Act → World → Prop} {rest : List Oper} {o : Oper} {d i : Nat} {v : AV} {u : Value} {W W' S : World → Prop} {r : List (Nat × Kd)} {pend : List Nat}
/-- what ends in a panic is not asked what the frame's slots hold -/
def PanicOk (Q : Exit → Act → World → Prop) : Prop := ∀ c a a' w, a.defers = a'.defers → Q (.panic c) a w → Q (.panic c) a' w
theorem put_defers (a : Act) (d : Option Tmp) (v : Value) : (a.put d v).defers = a.defers := by cases d <;> rfl
def MY (P : Program) (ops : Array Oper) (n : Nat) (D : List Deferred) (Q : Exit → Act → World → Prop) (S : World → Prop) (l : Fr) (W : World → Prop) (plan : List (Nat × Kd)) (pend : List Nat) : Prop :=
  ∀ a w, Has n D a l → W w → wpPlan P .any ops Q S plan pend a w
theorem CX.regionY [hst : Stab W] {id : Nat} {lo : List Oper} (plan : List (Nat × Kd)) (hm : P.follows .mixedOrders = true) (hQ : PanicOk Q) (hB : (Region.noSelect lo.toArray && planOk .any lo.toArray plan (Array.replicate lo.toArray.size false) && (plan.length == lo.toArray.size)) = true)
    (h : MY P lo.toArray n D Q S l W plan []) : CX P n D Q l W (.region id lo.toArray true) := by
  intro a w ha hW
  simp only [Bool.and_eq_true, beq_iff_eq] at hB
  refine wp_region_any hm (wpAny_of_M (S := S) _ _ [] _ _ ?_)
  have h1 := wpAnyM_plan (Q := Q) (S := S) hB.1.1 (fun c a w d v h => hQ c _ a w (put_defers a d v) h) plan _ [] a _ hB.1.2 (fun h => absurd rfl h) (h a _ ha (Stab.drew hW))
  rw [hB.2] at h1
  exact h1
theorem MY.lift0 (hi : ops[i]? = some o) (hy : Y P l (fun _ => True) o.op o.type u) (hg : o.guard = none) (hd : o.dst = some d) (hdn : Nat.blt d n = true)
    (h : MY P ops n D Q S ((d, u) :: l) W r pend) : MY P ops n D Q S l W ((i, .anywhere) :: r) pend := by
  intro a w ha hW
  refine ⟨o, u, hi, .inl ⟨wanted_none hg, fun w => hy a.eval ha.eval o rfl rfl w trivial⟩, ?_⟩
  rw [hd]; exact h _ _ (ha.put hdn u) hW
theorem MY.lift1 (hi : ops[i]? = some o) (hWS : ∀ w, W w → S w) (hy : Y P l S o.op o.type u) (hg : o.guard = none) (hd : o.dst = some d) (hdn : Nat.blt d n = true)
    (h : MY P ops n D Q S ((d, u) :: l) W r (i :: still ops .any pend i)) : MY P ops n D Q S l W ((i, .held) :: r) pend := by
  intro a w ha hW
  refine ⟨hWS w hW, o, u, hi, .inl ⟨wanted_none hg, fun w hw => hy a.eval ha.eval o rfl rfl w hw⟩, ?_⟩
  rw [hd]; exact h _ _ (ha.put hdn u) hW
theorem MY.force (hi : ops[i]? = some o)
    (h : LX P ops n D (.plain (Exit.then (fun a w => (still ops .any pend i ≠ [] → S w) ∧ wpPlan P .any ops Q S r (still ops .any pend i) a w) Q)) l W [o]) : MY P ops n D Q S l W ((i, .alone) :: r) pend := by
  intro a w ha hW
  have := h a w ha hW
  unfold wpList at this
  show wpOp P ops Q i _ a w
  unfold wpOp
  simp only [hi]
  split at this
  · rename_i hw
    rw [if_pos hw]
    rcases this with h1 | ⟨h1, a0, w0, h2⟩
    · exact .inl (Oper.upon_mono (fun a w h => h) (fun e a w he h => by cases e <;> first | exact absurd rfl he | exact h) h1)
    · exact .inr ⟨h1, a0, w0, h2⟩
  · rename_i hw
    rw [if_neg hw]
    exact this
theorem MY.done (h : PX n D Q l W .normal) : MY P ops n D Q S l W [] pend := fun a w ha hW => h a w ha hW
/-! what is held of memory while operations that read it may still come -/
abbrev Facts := List (Nat × Nat × AV)
def Held (base : Nat) (w0 : World) (ρ : Rho) (F : Facts) (w : World) : Prop :=
  Below base w0 w ∧ ∀ q ∈ F, ∃ p u, rat ρ.blk q.1 = some p ∧ inst ρ q.2.2 = some u ∧ w.cell? ⟨p.1, q.2.1, none⟩ = some u
def cellFacts (id : Nat) : Nat → List AV → Facts
  | _, [] => []
  | off, v :: r => (id, off, v) :: cellFacts id (off + 1) r
theorem cellFacts_mem {id : Nat} : ∀ (cs : List AV) (off j : Nat) (v : AV), cs[j]? = some v → (id, off + j, v) ∈ cellFacts id off cs
  | [], off, j, v, h => by cases h
  | c :: r, off, 0, v, h => by
    simp only [List.getElem?_cons_zero, Option.some.injEq] at h
    subst h
    exact List.mem_cons_self
  | c :: r, off, j + 1, v, h => by
    have := cellFacts_mem (id := id) r (off + 1) j v (by simpa using h)
    rw [show off + (j + 1) = off + 1 + j by omega]
    exact List.mem_cons_of_mem _ this
/-- a read that may come at any time, while its facts hold -/
def heldA (P : Program) (E : List (Nat × AV)) (ro : List AH) (hp : AH) (af : AF) : Op → Option (AV × Facts)
  | .load t x => match evalA af x with
    | some (.ptr id off) => (lookA hp ro id).bind fun it => match oneT P t with
      | true => (it.cells[off]?).map fun v => (v, [(id, off, v)])
      | false => (aggT P t).bind fun k => match Nat.beq ((it.cells.drop off).take k).length k with
        | true => some (.agg ((it.cells.drop off).take k), cellFacts id off ((it.cells.drop off).take k))
        | false => none
    | some (.lit (.pointer (some ⟨g, 0, none⟩))) => match oneT P t with
      | true => (lookE E g).map fun v => (v, [])
      | false => none
    | _ => none
  | _ => none
theorem heldA_ok (hf : FRel ρ af l) (hE : EE w0 base ρ E) {op : Op} {F F0 : Facts} (h : heldA P E ro hp af op = some (v, F)) (hs : ∀ q ∈ F, q ∈ F0) (hi : ∃ u, inst ρ v = some u) (ty : TypeId) :
    ∃ u, inst ρ v = some u ∧ Y P l (Held base w0 ρ F0) op ty u := by
  unfold heldA at h
  split at h
  · rename_i t x
    split at h
    · rename_i id off hx
      obtain ⟨it, hl, h⟩ := Option.bind_eq_some_iff.1 h
      obtain ⟨ux, h1, h2⟩ := hf.eval hx
      obtain ⟨p, hp', rfl⟩ := inst_ptr h2
      split at h
      · rename_i ht
        cases hc : it.cells[off]? with
        | none => rw [hc] at h; cases h
        | some v' =>
          rw [hc] at h; cases h
          obtain ⟨u, hu⟩ := hi
          refine ⟨u, hu, Y.load (oneT_ok ht) h1 fun w hw => ?_⟩
          obtain ⟨p2, u2, e1, e2, e3⟩ := hw.2 _ (hs (id, off, v) (by simp))
          rw [hp'] at e1; cases e1
          rw [hu] at e2; cases e2
          exact e3
      · obtain ⟨k, hk, h⟩ := Option.bind_eq_some_iff.1 h
        split at h
        · rename_i hlen
          cases h
          obtain ⟨u, hu⟩ := hi
          obtain ⟨us, g1, rfl⟩ := inst_agg hu
          refine ⟨_, hu, Y.loadA (aggT_ok hk) (by rw [instL_len g1]; simpa using hlen) h1 fun w hw j uj hj => ?_⟩
          have hjl : j < ((it.cells.drop off).take k).length := by rw [← instL_len g1]; exact (List.getElem?_eq_some_iff.1 hj).1
          obtain ⟨uj2, g2, g3⟩ := instL_get g1 (List.getElem?_eq_getElem hjl)
          rw [hj] at g2; cases g2
          obtain ⟨p2, u2, e1, e2, e3⟩ := hw.2 _ (hs _ (cellFacts_mem _ off j _ (List.getElem?_eq_getElem hjl)))
          dsimp only at e1 e2 e3
          rw [hp'] at e1; cases e1
          rw [g3] at e2; cases e2
          exact e3
        · cases h
    · rename_i g hx
      split at h
      · rename_i ht
        cases hg : lookE E g with
        | none => rw [hg] at h; cases h
        | some v' =>
          rw [hg] at h; cases h
          obtain ⟨ux, h1, h2⟩ := hf.eval hx
          obtain rfl := inst_lit h2
          obtain ⟨z, h3, h4, h5⟩ := hE g v hg
          exact ⟨z, h3, Y.load (oneT_ok ht) h1 fun w hw => (hw.1.cell (p := ⟨g, 0, none⟩) h5).trans h4⟩
      · cases h
    · cases h
  · cases h
/-- what a read yields stands for something -/
theorem heldA_inst (hf : FRel ρ af l) (hH : instH ρ hp = some its) (hR : RO w0 base ρ ro) (hE : EE w0 base ρ E) {op : Op} {F : Facts} (h : heldA P E ro hp af op = some (v, F)) :
    (∃ u, inst ρ v = some u) ∧ ∀ w, WA w0 base its w → ∀ q ∈ F, ∃ p u, rat ρ.blk q.1 = some p ∧ inst ρ q.2.2 = some u ∧ w.cell? ⟨p.1, q.2.1, none⟩ = some u := by
  unfold heldA at h
  split at h
  · rename_i t x
    split at h
    · rename_i id off hx
      obtain ⟨it, hl, h⟩ := Option.bind_eq_some_iff.1 h
      obtain ⟨p, us, e1, e2, e3, _⟩ := look_ok hH hR hl
      split at h
      · cases hc : it.cells[off]? with
        | none => rw [hc] at h; cases h
        | some v' =>
          rw [hc] at h; cases h
          obtain ⟨z, h3, h4⟩ := instL_get e2 hc
          refine ⟨⟨z, h4⟩, fun w hw q hq => ?_⟩
          simp only [List.mem_singleton] at hq
          subst hq
          exact ⟨p, z, e1, h4, e3 w hw _ _ h3⟩
      · obtain ⟨k, hk, h⟩ := Option.bind_eq_some_iff.1 h
        split at h
        · rename_i hlen
          cases h
          have e4 := instL_take k (instL_drop off e2)
          refine ⟨⟨_, by unfold inst; rw [e4]; rfl⟩, fun w hw => ?_⟩
          have key : ∀ (cs : List AV) (o : Nat), (∀ j c, cs[j]? = some c → it.cells[o + j]? = some c) → ∀ q ∈ cellFacts id o cs, ∃ p u, rat ρ.blk q.1 = some p ∧ inst ρ q.2.2 = some u ∧ w.cell? ⟨p.1, q.2.1, none⟩ = some u := by
            intro cs
            induction cs with
            | nil => intro o _ q hq; cases hq
            | cons c r ih =>
              intro o ho q hq
              rcases List.mem_cons.1 hq with rfl | hq
              · obtain ⟨z, h3, h4⟩ := instL_get e2 (ho 0 c rfl)
                exact ⟨p, z, e1, h4, e3 w hw _ _ h3⟩
              · refine ih (o + 1) (fun j c' hc => ?_) q hq
                have := ho (j + 1) c' (by simpa using hc)
                rwa [show o + 1 + j = o + (j + 1) by omega]
          refine key _ off fun j c hc => ?_
          rw [List.getElem?_take] at hc
          split at hc
          · rw [List.getElem?_drop] at hc; exact hc
          · cases hc
        · cases h
    · rename_i g hx
      split at h
      · cases hg : lookE E g with
        | none => rw [hg] at h; cases h
        | some v' =>
          rw [hg] at h; cases h
          obtain ⟨z, h3, _⟩ := hE g v hg
          exact ⟨⟨z, h3⟩, fun w hw q hq => by cases hq⟩
      · cases h
    · cases h
  · cases h
/-! the same value still -/
def sameV : Value → Value → Bool
  | .int k a, .int k' b => decide (k = k') && decide (a = b)
  | .bool a, .bool b => a == b
  | .string a, .string b => decide (a.data.toList = b.data.toList)
  | .pointer none, .pointer none => true
  | .slice none 0 0, .slice none 0 0 => true
  | .nilIface, .nilIface => true
  | .nilFunc, .nilFunc => true
  | _, _ => false
theorem sameV_ok {a b : Value} (h : sameV a b = true) : a = b := by
  unfold sameV at h
  split at h
  · simp only [Bool.and_eq_true, decide_eq_true_eq] at h
    rw [h.1, h.2]
  · rename_i a b
    have h1 : a = b := by simpa using h
    rw [h1]
  · rename_i a b
    have h1 : a.data.toList = b.data.toList := by simpa using h
    cases a; cases b
    simp only at h1
    congr 2
    exact Array.toList_inj.1 h1
  · rfl
  · rfl
  · rfl
  · rfl
  · cases h
mutual
def sameA : AV → AV → Bool
  | .lit a, .lit b => sameV a b
  | .ptr i o, .ptr i' o' => Nat.beq i i' && Nat.beq o o'
  | .sl i o n k, .sl i' o' n' k' => Nat.beq i i' && (Nat.beq o o' && (Nat.beq n n' && Nat.beq k k'))
  | .opq i, .opq j => Nat.beq i j
  | .iface t a, .iface t' b => Nat.beq t t' && sameA a b
  | .mp i, .mp j => Nat.beq i j
  | .agg as, .agg bs => sameL as bs
  | _, _ => false
def sameL : List AV → List AV → Bool
  | [], [] => true
  | a :: as, b :: bs => sameA a b && sameL as bs
  | _, _ => false
end
mutual
theorem sameA_ok : ∀ {a b : AV}, sameA a b = true → a = b
  | .lit a, .lit b, h => by unfold sameA at h; rw [sameV_ok h]
  | .ptr i o, .ptr i' o', h => by simp [sameA] at h; rw [h.1, h.2]
  | .sl i o n k, .sl i' o' n' k', h => by simp [sameA] at h; rw [h.1, h.2.1, h.2.2.1, h.2.2.2]
  | .opq i, .opq j, h => by simp [sameA] at h; rw [h]
  | .mp i, .mp j, h => by simp [sameA] at h; rw [h]
  | .iface t a, .iface t' b, h => by
    unfold sameA at h
    simp only [Bool.and_eq_true] at h
    rw [sameA_ok h.2, show t = t' by simpa using h.1]
  | .agg as, .agg bs, h => by
    unfold sameA at h
    rw [sameL_ok h]
theorem sameL_ok : ∀ {as bs : List AV}, sameL as bs = true → as = bs
  | [], [], _ => rfl
  | a :: as, b :: bs, h => by
    unfold sameL at h
    simp only [Bool.and_eq_true] at h
    rw [sameA_ok h.1, sameL_ok h.2]
  | [], _ :: _, h => by simp [sameL] at h
  | _ :: _, [], h => by simp [sameL] at h
end
def factsOk (hp : AH) (ro : List AH) : Facts → Bool
  | [] => true
  | (id, off, v) :: r => (match lookA hp ro id with
    | some it => match it.cells[off]? with
      | some v' => sameA v v'
      | none => false
    | none => false) && factsOk hp ro r
theorem factsOk_ok (hH : instH ρ hp = some its) (hR : RO w0 base ρ ro) {w : World} (hw : WA w0 base its w) : ∀ {F : Facts}, factsOk hp ro F = true → ∀ q ∈ F, ∃ p u, rat ρ.blk q.1 = some p ∧ inst ρ q.2.2 = some u ∧ w.cell? ⟨p.1, q.2.1, none⟩ = some u
  | [], _, q, hq => by cases hq
  | (id, off, v) :: r, h, q, hq => by
    unfold factsOk at h
    simp only [Bool.and_eq_true] at h
    rcases List.mem_cons.1 hq with rfl | hq
    · have h1 := h.1
      split at h1
      · rename_i it hl
        split at h1
        · rename_i v' hv
          obtain rfl := sameA_ok h1
          obtain ⟨p, us, e1, e2, e3, _⟩ := look_ok hH hR hl
          obtain ⟨z, h3, h4⟩ := instL_get e2 hv
          exact ⟨p, z, e1, h4, e3 w hw _ _ h3⟩
        · cases h1
      · cases h1
    · exact factsOk_ok hH hR hw h.2 q hq
/-- names of facts are old ones: they stand for the same -/
theorem Held.back {ρ' : Rho} {F : Facts} (he : Ext ρ ρ') (hold : ∀ q ∈ F, ∃ p u, rat ρ.blk q.1 = some p ∧ inst ρ q.2.2 = some u) {w : World} (hb : Below base w0 w)
    (h : ∀ q ∈ F, ∃ p u, rat ρ'.blk q.1 = some p ∧ inst ρ' q.2.2 = some u ∧ w.cell? ⟨p.1, q.2.1, none⟩ = some u) : Held base w0 ρ F w := by
  refine ⟨hb, fun q hq => ?_⟩
  obtain ⟨p, u, h1, h2⟩ := hold q hq
  obtain ⟨p', u', h3, h4, h5⟩ := h q hq
  rw [he.blk _ _ h1] at h3; cases h3
  rw [inst_ext he _ _ h2] at h4; cases h4
  exact ⟨p, u, h1, h2, h5⟩
/-! a plan, and how it is gone through -/
def isEff : Op → Bool
  | .alloc _ | .box .. | .buildSlice .. | .store .. | .makeSlice .. | .panic _ => true
  | .call c => match c.callee with
    | .builtin .len | .builtin .max | .builtin .min => false
    | _ => true
  | _ => false
def isHeld : Op → Bool
  | .load .. => true
  | _ => false
def planGo (ops : Array Oper) : Nat → Array Bool → Option (List (Nat × Kd))
  | 0, _ => some []
  | k + 1, listed => match Region.ready .any ops listed with
    | [] => some []
    | r => match r.find? fun i => !((ops[i]?).map fun o => isEff o.op).getD true with
      | some i => (planGo ops k (listed.setIfInBounds i true)).map fun p => (i, if ((ops[i]?).map fun o => isHeld o.op).getD false then .held else .anywhere) :: p
      | none => match r with
        | [i] => (planGo ops k (listed.setIfInBounds i true)).map fun p => (i, .alone) :: p
        | _ => none
def planOf (ops : Array Oper) : Option (List (Nat × Kd)) := planGo ops ops.size (Array.replicate ops.size false)
/-- the part of a plan ahead of what changes memory -/
def preA (P : Program) (E : List (Nat × AV)) (n : Nat) (ro : List AH) (hp : AH) (all : Array Oper) : List (Nat × Kd) → List Nat → AF → Facts → Option (List (Nat × Kd) × List Nat × AF × Facts)
  | (i, .anywhere) :: r, pend, af, F => match all[i]? with
    | some o => match o.guard, o.dst with
      | none, some d => match Nat.blt d n with
        | true => match (match pureA P af o.op with | some v => some v | none => buildA P af o.op) with
          | some v => preA P E n ro hp all r pend (putA af d v) F
          | none => none
        | false => none
      | _, _ => none
    | none => none
  | (i, .held) :: r, pend, af, F => match all[i]? with
    | some o => match o.guard, o.dst with
      | none, some d => match Nat.blt d n with
        | true => match heldA P E ro hp af o.op with
          | some (v, F') => preA P E n ro hp all r (i :: still all .any pend i) (putA af d v) (F' ++ F)
          | none => none
        | false => none
      | _, _ => none
    | none => none
  | plan, pend, af, F => some (plan, pend, af, F)
/-- the rest of it -/
def postA (P : Program) (E : List (Nat × AV)) (call : CallF) (n : Nat) (ro : List AH) (all : Array Oper) (F : Facts) : List (Nat × Kd) → List Nat → AF → AH → Nat → Option (OX × AF × AH × Nat)
  | [], _, af, hp, nx => some (.norm, af, hp, nx)
  | (i, .anywhere) :: r, pend, af, hp, nx => match all[i]? with
    | some o => match o.guard, o.dst with
      | none, some d => match Nat.blt d n with
        | true => match (match pureA P af o.op with | some v => some v | none => buildA P af o.op) with
          | some v => postA P E call n ro all F r pend (putA af d v) hp nx
          | none => none
        | false => none
      | _, _ => none
    | none => none
  | (_, .held) :: _, _, _, _, _ => none
  | (i, .alone) :: r, pend, af, hp, nx => match all[i]? with
    | some o => match opsA P E call n ro all [o] af hp nx with
      | some (.norm, af', hp', nx') => match still all .any pend i with
        | [] => postA P E call n ro all F r [] af' hp' nx'
        | p :: ps => match factsOk hp' ro F with
          | true => postA P E call n ro all F r (p :: ps) af' hp' nx'
          | false => none
      | some (.pan v, af', hp', nx') => some (.pan v, af', hp', nx')
      | none => none
    | none => none
theorem pureB_ok (hf : FRel ρ af l) {op : Op} (h : (match pureA P af op with | some v => some v | none => buildA P af op) = some v) (W : World → Prop) (ty : TypeId) : ∃ u, inst ρ v = some u ∧ Y P l W op ty u := by
  cases hp : pureA P af op with
  | some v' => rw [hp] at h; cases h; exact pureA_ok hf hp W ty
  | none => rw [hp] at h; exact buildA_ok hf h W ty
theorem postA_ok {call : CallF} (hC : CallOk P E call) {F : Facts} {ρ0 : Rho} (hold : ∀ q ∈ F, ∃ p u, rat ρ0.blk q.1 = some p ∧ inst ρ0 q.2.2 = some u) : ∀ (plan : List (Nat × Kd)) {pend : List Nat} {af : AF} {hp : AH} {nx : Nat} {r : OX} {af' : AF} {hp' : AH} {nx' : Nat} {ρ : Rho} {l : Fr} {its : List It},
    postA P E call n ro ops F plan pend af hp nx = some (r, af', hp', nx') → FRel ρ af l → instH ρ hp = some its → Fresh ρ nx → RO w0 base ρ ro → EE w0 base ρ E → Ext ρ0 ρ → EndX n D Q w0 base ρ r af' hp' nx' →
    MY P ops n D Q (Held base w0 ρ0 F) l (WA w0 base its) plan pend
  | [], pend, af, hp, nx, r, af', hp', nx', ρ, l, its, h, hf, hH, hF, hR, hE, he, hk => by
    cases h
    exact MY.done (hk ρ l its (Ext.refl _) hF hf hH)
  | (i, .anywhere) :: pl, pend, af, hp, nx, r, af', hp', nx', ρ, l, its, h, hf, hH, hF, hR, hE, he, hk => by
    unfold postA at h
    split at h
    · rename_i o ho
      split at h
      · rename_i d hg hd
        split at h
        · rename_i hdn
          split at h
          · rename_i v hv
            obtain ⟨u, h1, h2⟩ := pureB_ok hf hv (fun _ => True) o.type
            exact MY.lift0 ho h2 hg hd hdn (postA_ok hC hold pl h (hf.put d h1) hH hF hR hE he hk)
          · cases h
        · cases h
      · cases h
    · cases h
  | (i, .held) :: pl, pend, af, hp, nx, r, af', hp', nx', ρ, l, its, h, hf, hH, hF, hR, hE, he, hk => by cases h
  | (i, .alone) :: pl, pend, af, hp, nx, r, af', hp', nx', ρ, l, its, h, hf, hH, hF, hR, hE, he, hk => by
    unfold postA at h
    split at h
    · rename_i o ho
      split at h
      · rename_i af1 hp1 nx1 hop
        refine MY.force ho (opsA_ok hC [o] hop hf hH hF hR hE fun ρ' l' its' e1 e2 e3 e4 => ?_)
        split at h
        · rename_i hst
          intro a w ha hW
          refine ⟨fun hne => absurd hst hne, ?_⟩
          rw [hst]
          exact postA_ok hC hold pl h e3 e4 e2 (hR.ext e1) (hE.ext e1) (he.trans e1) (hk.ext e1) a w ha hW
        · rename_i p ps hst
          split at h
          · rename_i hfa
            intro a w ha hW
            refine ⟨fun _ => Held.back (he.trans e1) hold hW.below (factsOk_ok e4 (hR.ext e1) hW hfa), ?_⟩
            rw [hst]
            exact postA_ok hC hold pl h e3 e4 e2 (hR.ext e1) (hE.ext e1) (he.trans e1) (hk.ext e1) a w ha hW
          · cases h
      · rename_i v af1 hp1 nx1 hop
        cases h
        exact MY.force ho (opsA_ok hC [o] hop hf hH hF hR hE fun ρ' l' its' e1 e2 e3 e4 => fun u hu => hk ρ' l' its' e1 e2 e3 e4 u hu)
      · cases h
    · cases h
theorem preA_sub : ∀ {plan : List (Nat × Kd)} {pend : List Nat} {af : AF} {F : Facts} {plan' : List (Nat × Kd)} {pend' : List Nat} {af' : AF} {F' : Facts}, preA P E n ro hp ops plan pend af F = some (plan', pend', af', F') → ∀ q ∈ F, q ∈ F' := by
  intro plan
  induction plan with
  | nil => intro pend af F plan' pend' af' F' h q hq; unfold preA at h; cases h; exact hq
  | cons x pl ih =>
    intro pend af F plan' pend' af' F' h q hq
    obtain ⟨i, k⟩ := x
    cases k with
    | anywhere =>
      unfold preA at h
      split at h
      · split at h
        · split at h
          · split at h
            · exact ih h q hq
            · cases h
          · cases h
        · cases h
      · cases h
    | held =>
      unfold preA at h
      split at h
      · split at h
        · split at h
          · split at h
            · exact ih h q (List.mem_append_right _ hq)
            · cases h
          · cases h
        · cases h
      · cases h
    | alone => unfold preA at h; cases h; exact hq
theorem preA_ok (hH : instH ρ hp = some its) (hR : RO w0 base ρ ro) (hE : EE w0 base ρ E) {plan' : List (Nat × Kd)} {pend' : List Nat} {af' : AF} {F0 : Facts} (hk : ∀ l', FRel ρ af' l' → MY P ops n D Q (Held base w0 ρ F0) l' (WA w0 base its) plan' pend')
    (hall : ∀ w, WA w0 base its w → Held base w0 ρ F0 w) : ∀ {plan : List (Nat × Kd)} {pend : List Nat} {af : AF} {F : Facts} {l : Fr}, preA P E n ro hp ops plan pend af F = some (plan', pend', af', F0) → FRel ρ af l →
    MY P ops n D Q (Held base w0 ρ F0) l (WA w0 base its) plan pend := by
  intro plan
  induction plan with
  | nil => intro pend af F l h hf; unfold preA at h; cases h; exact hk l hf
  | cons x pl ih =>
    intro pend af F l h hf
    obtain ⟨i, k⟩ := x
    cases k with
    | anywhere =>
      unfold preA at h
      split at h
      · rename_i o ho
        split at h
        · rename_i d hg hd
          split at h
          · rename_i hdn
            split at h
            · rename_i v hv
              obtain ⟨u, h1, h2⟩ := pureB_ok hf hv (fun _ => True) o.type
              exact MY.lift0 ho h2 hg hd hdn (ih h (hf.put d h1))
            · cases h
          · cases h
        · cases h
      · cases h
    | held =>
      unfold preA at h
      split at h
      · rename_i o ho
        split at h
        · rename_i d hg hd
          split at h
          · rename_i hdn
            split at h
            · rename_i v F' hv
              have hsub : ∀ q ∈ F', q ∈ F0 := fun q hq => preA_sub h q (List.mem_append_left _ hq)
              obtain ⟨u, h1, h2⟩ := heldA_ok hf hE hv hsub (heldA_inst hf hH hR hE hv).1 o.type
              exact MY.lift1 ho hall h2 hg hd hdn (ih h (hf.put d h1))
            · cases h
          · cases h
        · cases h
      · cases h
    | alone => unfold preA at h; cases h; exact hk l hf
/-- all facts that are taken hold where the region begins -/
theorem preA_facts (hH : instH ρ hp = some its) (hR : RO w0 base ρ ro) (hE : EE w0 base ρ E) {w : World} (hw : WA w0 base its w) : ∀ {plan : List (Nat × Kd)} {pend : List Nat} {af : AF} {F : Facts} {l : Fr} {plan' : List (Nat × Kd)} {pend' : List Nat} {af' : AF} {F0 : Facts}, preA P E n ro hp ops plan pend af F = some (plan', pend', af', F0) → FRel ρ af l →
    (∀ q ∈ F, ∃ p u, rat ρ.blk q.1 = some p ∧ inst ρ q.2.2 = some u ∧ w.cell? ⟨p.1, q.2.1, none⟩ = some u) → ∀ q ∈ F0, ∃ p u, rat ρ.blk q.1 = some p ∧ inst ρ q.2.2 = some u ∧ w.cell? ⟨p.1, q.2.1, none⟩ = some u := by
  intro plan
  induction plan with
  | nil => intro pend af F l plan' pend' af' F0 h hf hall; unfold preA at h; cases h; exact hall
  | cons x pl ih =>
    intro pend af F l plan' pend' af' F0 h hf hall
    obtain ⟨i, k⟩ := x
    cases k with
    | anywhere =>
      unfold preA at h
      split at h
      · rename_i o ho
        split at h
        · rename_i d hg hd
          split at h
          · split at h
            · rename_i v hv
              obtain ⟨u, h1, _⟩ := pureB_ok hf hv (fun _ => True) o.type
              exact ih h (hf.put d h1) hall
            · cases h
          · cases h
        · cases h
      · cases h
    | held =>
      unfold preA at h
      split at h
      · rename_i o ho
        split at h
        · rename_i d hg hd
          split at h
          · split at h
            · rename_i v F' hv
              obtain ⟨⟨u, h1⟩, h2⟩ := heldA_inst hf hH hR hE hv
              refine ih h (hf.put d h1) fun q hq => ?_
              rcases List.mem_append.1 hq with hq | hq
              · exact h2 w hw q hq
              · exact hall q hq
            · cases h
          · cases h
        · cases h
      · cases h
    | alone => unfold preA at h; cases h; exact hall
end
/-- a region whose order is drawn, and that changes memory -/
def mixA (P : Program) (E : List (Nat × AV)) (call : CallF) (n : Nat) (ro : List AH) (ops : Array Oper) (af : AF) (hp : AH) (nx : Nat) : Option (OX × AF × AH × Nat) :=
  match planOf ops with
  | some plan => match Region.noSelect ops && planOk .any ops plan (Array.replicate ops.size false) && (plan.length == ops.size) with
    | true => (preA P E n ro hp ops plan [] af []).bind fun q => postA P E call n ro ops q.2.2.2 q.1 q.2.1 q.2.2.1 hp nx
    | false => none
  | none => none
theorem mixA_ok {P : Program} {w0 : World} {base : Nat} {ρ : Rho} {hp hp' : AH} {ro : List AH} {nx nx' : Nat} {its : List It} {E : List (Nat × AV)} {af af' : AF} {l : Fr} {n : Nat} {D : List Deferred} {Q : Exit → Act → World → Prop} {r : OX} {call : CallF} (hC : CallOk P E call) {id : Nat} {lo : List Oper}
    (hm : P.follows .mixedOrders = true) (hQ : PanicOk Q) (h : mixA P E call n ro lo.toArray af hp nx = some (r, af', hp', nx')) (hf : FRel ρ af l) (hH : instH ρ hp = some its) (hF : Fresh ρ nx) (hR : RO w0 base ρ ro) (hE : EE w0 base ρ E) (hk : EndX n D Q w0 base ρ r af' hp' nx') :
    CX P n D Q l (WA w0 base its) (.region id lo.toArray true) := by
  unfold mixA at h
  split at h
  · rename_i plan hp1
    split at h
    · rename_i hB
      obtain ⟨⟨plan', pend', af1, F0⟩, h1, h2⟩ := Option.bind_eq_some_iff.1 h
      have hall : ∀ w, WA w0 base its w → Held base w0 ρ F0 w := fun w hw => ⟨hw.below, preA_facts hH hR hE hw h1 hf (fun q hq => by cases hq)⟩
      by_cases hex : ∃ w, WA w0 base its w
      · obtain ⟨w, hw⟩ := hex
        have hold : ∀ q ∈ F0, ∃ p u, rat ρ.blk q.1 = some p ∧ inst ρ q.2.2 = some u := fun q hq => by
          obtain ⟨p, u, e1, e2, _⟩ := (hall w hw).2 q hq
          exact ⟨p, u, e1, e2⟩
        exact CX.regionY (S := Held base w0 ρ F0) plan hm hQ hB (preA_ok hH hR hE (fun l' hl' => postA_ok hC hold _ h2 hl' hH hF hR hE (Ext.refl _) hk) hall h1 hf)
      · exact fun a w ha hW => absurd ⟨w, hW⟩ hex
    · cases h
  · cases h
end Go.EX
