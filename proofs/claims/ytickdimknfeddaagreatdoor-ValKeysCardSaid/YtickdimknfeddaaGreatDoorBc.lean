/-
  Proved here: a small machine's regions, code and calls, with deferred calls that recover: what they come to is what the model's machine comes to, whatever the world.
-/
import Derived.Test.YtickdimknfeddaaGreatDoorBb
namespace Go.EB
open Go.SX Go.EX Go.RowKit
section
variable {P : Program} {w0 : World} {base : Nat} {ρ ρ0 : Rho} {hp hp' : AH} {ro : List AH} {nx nx' : Nat} {its : List It} {E : List (Nat × AV)} {af : AF} {l : Fr} {ops : Array Oper} {n : Nat} {D : List Deferred} {Q : Exit → Act → World → Prop} {rest : List Oper} {o : Oper} {d i : Nat} {v : AV} {W S : World → Prop} {t : TypeId} {x y : Operand} {ext : ExtF} {call : CallB} {r : List (Nat × Kd)} {pend : List Nat} {u : Value} {F : Facts}
/-! regions whose order is drawn -/
def pureC (P : Program) (af : AF) (o : Op) : Option AV :=
  match pureA P af o with
  | some v => some v
  | none => match buildA P af o with
    | some v => some v
    | none => match o with
      | .field s x f => fieldB P af s x f
      | .typeAssert x _ kk ok => asB P af x kk ok
      | _ => none
theorem pureC_ok (hf : FRel ρ af l) {op : Op} (h : pureC P af op = some v) (W : World → Prop) (ty : TypeId) : ∃ u, inst ρ v = some u ∧ Y P l W op ty u := by
  unfold pureC at h
  split at h
  · rename_i v' hp'
    cases h
    exact pureA_ok hf hp' W ty
  · split at h
    · rename_i v' hb
      cases h
      exact buildA_ok hf hb W ty
    · split at h
      · exact fieldB_ok hf h W ty
      · exact asB_ok hf h W ty
      · cases h
def cellFactsS (id : Nat) : Nat → List AV → Facts
  | _, [] => []
  | off, v :: r => match sameA v v with
    | true => (id, off, v) :: cellFactsS id (off + 1) r
    | false => cellFactsS id (off + 1) r
/-- the cells that the frame's pointers lead to -/
def ptrFacts (hp : AH) (ro : List AH) : AF → Facts
  | [] => []
  | (_, v) :: r => match v with
    | .ptr id _ => match lookA hp ro id with
      | some (.obj cs _) => cellFactsS id 0 cs ++ ptrFacts hp ro r
      | _ => ptrFacts hp ro r
    | .iface _ (.ptr id _) => match lookA hp ro id with
      | some (.obj cs _) => cellFactsS id 0 cs ++ ptrFacts hp ro r
      | _ => ptrFacts hp ro r
    | _ => ptrFacts hp ro r
def findF : Facts → Nat → Nat → Option AV
  | [], _, _ => none
  | (i, o, v) :: r, id, off => match Nat.beq i id && Nat.beq o off with
    | true => some v
    | false => findF r id off
theorem findF_mem : ∀ {F : Facts} {id off : Nat} {v : AV}, findF F id off = some v → (id, off, v) ∈ F
  | [], _, _, _, h => by cases h
  | (i, o, v') :: r, id, off, v, h => by
    unfold findF at h
    split at h
    · rename_i hb
      cases h
      simp only [Bool.and_eq_true] at hb
      have h1 : i = id := by simpa using hb.1
      have h2 : o = off := by simpa using hb.2
      subst h1; subst h2
      exact List.mem_cons_self
    · exact List.mem_cons_of_mem _ (findF_mem h)
def cellsF (F : Facts) (id : Nat) : Nat → Nat → Option (List AV)
  | _, 0 => some []
  | off, k + 1 => (findF F id off).bind fun v => (cellsF F id (off + 1) k).map fun cs => v :: cs
theorem cellsF_ok (hold : ∀ q ∈ F, ∃ p u, rat ρ0.blk q.1 = some p ∧ inst ρ0 q.2.2 = some u) (he : Ext ρ0 ρ) {id : Nat} {p : Nat × Nat} (hp : rat ρ.blk id = some p) : ∀ {k off : Nat} {cs : List AV}, cellsF F id off k = some cs →
    ∃ us, instL ρ cs = some us ∧ us.length = k ∧ ∀ w, Held base w0 ρ0 F w → ∀ j u, us[j]? = some u → w.cell? ⟨p.1, off + j, none⟩ = some u
  | 0, off, cs, h => by
    cases h
    exact ⟨[], rfl, rfl, fun w _ j u hj => by cases hj⟩
  | k + 1, off, cs, h => by
    unfold cellsF at h
    obtain ⟨v, h1, h⟩ := Option.bind_eq_some_iff.1 h
    cases hc : cellsF F id (off + 1) k with
    | none => rw [hc] at h; cases h
    | some cs' =>
      rw [hc] at h; cases h
      obtain ⟨us, e1, e2, e3⟩ := cellsF_ok hold he hp hc
      obtain ⟨p2, u, g1, g2⟩ := hold _ (findF_mem h1)
      have g3 := he.blk _ _ g1
      dsimp only at g3
      rw [hp] at g3; cases g3
      refine ⟨u :: us, instL_mk (inst_ext he _ _ g2) e1, by simp [e2], fun w hw j z hj => ?_⟩
      cases j with
      | zero =>
        simp only [List.getElem?_cons_zero, Option.some.injEq] at hj
        subst hj
        obtain ⟨p3, u3, q1, q2, q3⟩ := hw.2 _ (findF_mem h1)
        dsimp only at q1 q2 q3 g1 g2
        rw [g1] at q1; cases q1
        rw [g2] at q2; cases q2
        exact q3
      | succ j =>
        have := e3 w hw j z (by simpa using hj)
        rwa [show off + 1 + j = off + (j + 1) by omega] at this
/-- a read of what stays as it is -/
def heldB (P : Program) (E : List (Nat × AV)) (F : Facts) (af : AF) : Op → Option AV
  | .load t x => match evalA af x with
    | some (.ptr id off) => match oneT P t with
      | true => findF F id off
      | false => (aggT P t).bind fun k => (cellsF F id off k).map .agg
    | some (.lit (.pointer (some ⟨g, 0, none⟩))) => match oneT P t with
      | true => lookE E g
      | false => none
    | _ => none
  | _ => none
theorem heldB_ok (hold : ∀ q ∈ F, ∃ p u, rat ρ0.blk q.1 = some p ∧ inst ρ0 q.2.2 = some u) (he : Ext ρ0 ρ) (hf : FRel ρ af l) (hE : EE w0 base ρ E) {op : Op} (h : heldB P E F af op = some v) (ty : TypeId) :
    ∃ u, inst ρ v = some u ∧ Y P l (Held base w0 ρ0 F) op ty u := by
  unfold heldB at h
  split at h
  · rename_i t x
    split at h
    · rename_i id off hx
      obtain ⟨ux, h1, h2⟩ := hf.eval hx
      obtain ⟨p, hp', rfl⟩ := inst_ptr h2
      split at h
      · rename_i ht
        have hm := findF_mem h
        obtain ⟨p2, u, g1, g2⟩ := hold _ hm
        have g3 := he.blk _ _ g1
        dsimp only at g1 g2 g3
        rw [hp'] at g3; cases g3
        refine ⟨u, inst_ext he _ _ g2, Y.load (oneT_ok ht) h1 fun w hw => ?_⟩
        obtain ⟨p3, u3, q1, q2, q3⟩ := hw.2 _ hm
        dsimp only at q1 q2 q3
        rw [g1] at q1; cases q1
        rw [g2] at q2; cases q2
        exact q3
      · obtain ⟨k, hk, h⟩ := Option.bind_eq_some_iff.1 h
        cases hc : cellsF F id off k with
        | none => rw [hc] at h; cases h
        | some cs =>
          rw [hc] at h; cases h
          obtain ⟨us, e1, e2, e3⟩ := cellsF_ok (w0 := w0) (base := base) hold he hp' hc
          refine ⟨.agg us.toArray, by unfold inst; rw [e1]; rfl, Y.loadA (aggT_ok hk) e2 h1 fun w hw j uj hj => e3 w hw j uj hj⟩
    · rename_i g hx
      split at h
      · rename_i ht
        obtain ⟨ux, h1, h2⟩ := hf.eval hx
        obtain rfl := inst_lit h2
        obtain ⟨z, h3, h4, h5⟩ := hE g v h
        exact ⟨z, h3, Y.load (oneT_ok ht) h1 fun w hw => (hw.1.cell (p := ⟨g, 0, none⟩) h5).trans h4⟩
      · cases h
    · cases h
  · cases h
theorem CX.regionZ [hst : Stab W] {id : Nat} {lo : List Oper} (plan : List (Nat × Kd)) (hm : P.follows .mixedOrders = true) (hB : (Region.noSelect lo.toArray && planOk .any lo.toArray plan (Array.replicate lo.toArray.size false) && (plan.length == lo.toArray.size)) = true)
    (h : MY P lo.toArray n D (noPanic Q) S l W plan []) : CX P n D Q l W (.region id lo.toArray true) := by
  intro a w ha hW
  simp only [Bool.and_eq_true, beq_iff_eq] at hB
  refine wp_mono ?_ (noPanic_imp (Q := Q))
  refine wp_region_any hm (wpAny_of_M (S := S) _ _ [] _ _ ?_)
  have h1 := wpAnyM_plan (Q := noPanic Q) (S := S) hB.1.1 (fun _ _ _ _ _ h => h) plan _ [] a _ hB.1.2 (fun h => absurd rfl h) (h a _ ha (Stab.drew hW))
  rw [hB.2] at h1
  exact h1
theorem MY.lift0g (hi : ops[i]? = some o) (hw : ∀ a, Has n D a l → Region.wanted o (yielded ops a.tmps) = true) (hy : Y P l (fun _ => True) o.op o.type u) (hd : o.dst = some d) (hdn : Nat.blt d n = true)
    (h : MY P ops n D Q S ((d, u) :: l) W r pend) : MY P ops n D Q S l W ((i, .anywhere) :: r) pend := by
  intro a w ha hW
  refine ⟨o, u, hi, .inl ⟨hw a ha, fun w => hy a.eval ha.eval o rfl rfl w trivial⟩, ?_⟩
  rw [hd]; exact h _ _ (ha.put hdn u) hW
theorem MY.skip0 (hi : ops[i]? = some o) (hw : ∀ a, Has n D a l → Region.wanted o (yielded ops a.tmps) = false) (hd : o.dst = some d) (hdn : Nat.blt d n = true)
    (h : MY P ops n D Q S ((d, undef) :: l) W r pend) : MY P ops n D Q S l W ((i, .anywhere) :: r) pend := by
  intro a w ha hW
  refine ⟨o, undef, hi, .inr ⟨hw a ha, rfl⟩, ?_⟩
  rw [hd]; exact h _ _ (ha.put hdn undef) hW
theorem MY.lift1g (hi : ops[i]? = some o) (hWS : ∀ w, W w → S w) (hw : ∀ a, Has n D a l → Region.wanted o (yielded ops a.tmps) = true) (hy : Y P l S o.op o.type u) (hd : o.dst = some d) (hdn : Nat.blt d n = true)
    (h : MY P ops n D Q S ((d, u) :: l) W r (i :: still ops .any pend i)) : MY P ops n D Q S l W ((i, .held) :: r) pend := by
  intro a w ha hW
  refine ⟨hWS w hW, o, u, hi, .inl ⟨hw a ha, fun w hw => hy a.eval ha.eval o rfl rfl w hw⟩, ?_⟩
  rw [hd]; exact h _ _ (ha.put hdn u) hW
theorem MY.skip1 (hi : ops[i]? = some o) (hWS : ∀ w, W w → S w) (hw : ∀ a, Has n D a l → Region.wanted o (yielded ops a.tmps) = false) (hd : o.dst = some d) (hdn : Nat.blt d n = true)
    (h : MY P ops n D Q S ((d, undef) :: l) W r (i :: still ops .any pend i)) : MY P ops n D Q S l W ((i, .held) :: r) pend := by
  intro a w ha hW
  refine ⟨hWS w hW, o, undef, hi, .inr ⟨hw a ha, rfl⟩, ?_⟩
  rw [hd]; exact h _ _ (ha.put hdn undef) hW
def heldC (P : Program) (E : List (Nat × AV)) (F : Facts) (af : AF) (o : Op) : Option AV :=
  match heldB P E F af o with
  | some v => some v
  | none => pureC P af o
theorem heldC_ok (hold : ∀ q ∈ F, ∃ p u, rat ρ0.blk q.1 = some p ∧ inst ρ0 q.2.2 = some u) (he : Ext ρ0 ρ) (hf : FRel ρ af l) (hE : EE w0 base ρ E) {op : Op} (h : heldC P E F af op = some v) (ty : TypeId) :
    ∃ u, inst ρ v = some u ∧ Y P l (Held base w0 ρ0 F) op ty u := by
  unfold heldC at h
  split at h
  · rename_i v' hv
    cases h
    exact heldB_ok hold he hf hE hv ty
  · exact pureC_ok hf h _ ty
def isEffB : Op → Bool
  | .makeMap .. | .mapUpdate .. | .lookup .. | .defer _ | .typeAssert _ _ _ false => true
  | o => isEff o
/-- a plan: what waits for something that is read is held, too -/
def planGoB (ops : Array Oper) : Nat → Array Bool → List Nat → Option (List (Nat × Kd))
  | 0, _, _ => some []
  | k + 1, listed, pend => match Region.ready .any ops listed with
    | [] => some []
    | r => match r.find? fun i => !((ops[i]?).map fun o => isEffB o.op).getD true with
      | some i => match ((ops[i]?).map fun o => isHeld o.op).getD false || Nat.blt (still ops .any pend i).length pend.length with
        | true => (planGoB ops k (listed.setIfInBounds i true) (i :: still ops .any pend i)).map fun p => (i, .held) :: p
        | false => (planGoB ops k (listed.setIfInBounds i true) pend).map fun p => (i, .anywhere) :: p
      | none => match r with
        | [i] => (planGoB ops k (listed.setIfInBounds i true) (still ops .any pend i)).map fun p => (i, .alone) :: p
        | _ => none
def planB (ops : Array Oper) : Option (List (Nat × Kd)) := planGoB ops ops.size (Array.replicate ops.size false) []
/-- whether something is read still that must stay as it is -/
def needsB (r : List (Nat × Kd)) (pend : List Nat) : Bool := !pend.isEmpty || r.any fun q => match q.2 with | .held => true | _ => false
def postB (P : Program) (E : List (Nat × AV)) (ext : ExtF) (call : CallB) (n : Nat) (ro : List AH) (all : Array Oper) (F : Facts) : List (Nat × Kd) → List Nat → AF → DF → AH → Nat → Option (AF × DF × AH × Nat)
  | [], _, af, df, hp, nx => some (af, df, hp, nx)
  | (i, k) :: r, pend, af, df, hp, nx => match all[i]? with
    | none => none
    | some o => match k with
      | .alone => match opsB P E ext call n ro all [o] false af df hp nx with
        | some (af', df', hp', nx') => match needsB r (still all .any pend i) with
          | false => postB P E ext call n ro all F r (still all .any pend i) af' df' hp' nx'
          | true => match factsOk hp' ro F with
            | true => postB P E ext call n ro all F r (still all .any pend i) af' df' hp' nx'
            | false => none
        | none => none
      | .anywhere => match o.dst with
        | some d => match Nat.blt d n, wantA all af o.guard with
          | true, some true => match pureC P af o.op with
            | some v => postB P E ext call n ro all F r pend (putA af d v) df hp nx
            | none => none
          | true, some false => postB P E ext call n ro all F r pend (putA af d (.lit (.tuple #[]))) df hp nx
          | _, _ => none
        | none => none
      | .held => match o.dst with
        | some d => match Nat.blt d n, wantA all af o.guard with
          | true, some true => match heldC P E F af o.op with
            | some v => postB P E ext call n ro all F r (i :: still all .any pend i) (putA af d v) df hp nx
            | none => none
          | true, some false => postB P E ext call n ro all F r (i :: still all .any pend i) (putA af d (.lit (.tuple #[]))) df hp nx
          | _, _ => none
        | none => none
theorem needs_any (h : needsB r pend = true) : needsB ((i, .anywhere) :: r) pend = true := by
  unfold needsB at h ⊢
  simpa using h
theorem needs_held : needsB ((i, .held) :: r) pend = true := by
  unfold needsB
  simp
theorem postB_ok (hX : ExtOk P ext) (hC : CallBOk P E call) (hold : ∀ q ∈ F, ∃ p u, rat ρ0.blk q.1 = some p ∧ inst ρ0 q.2.2 = some u) : ∀ (plan : List (Nat × Kd)) {pend : List Nat} {af : AF} {df : DF} {hp : AH} {nx : Nat} {af' : AF} {df' : DF} {hp' : AH} {nx' : Nat} {ρ : Rho} {l : Fr} {its : List It} {D : List Deferred},
    postB P E ext call n ro ops F plan pend af df hp nx = some (af', df', hp', nx') → FRel ρ af l → instH ρ hp = some its → instD ρ df = some D → Fresh ρ nx → RO w0 base ρ ro → EE w0 base ρ E → Ext ρ0 ρ → (needsB plan pend = true → ∀ w, WA w0 base its w → Held base w0 ρ0 F w) → EndB n Q w0 base ρ .normal af' df' hp' nx' →
    MY P ops n D Q (Held base w0 ρ0 F) l (WA w0 base its) plan pend
  | [], pend, af, df, hp, nx, af', df', hp', nx', ρ, l, its, D, h, hf, hH, hD, hF, hR, hE, he, hS, hk => by
    cases h
    exact MY.done (hk ρ l its D (Ext.refl _) hF hf hH hD)
  | (i, k) :: pl, pend, af, df, hp, nx, af', df', hp', nx', ρ, l, its, D, h, hf, hH, hD, hF, hR, hE, he, hS, hk => by
    unfold postB at h
    split at h
    · cases h
    · rename_i o ho
      cases k with
      | alone =>
        dsimp only at h
        split at h
        · rename_i af1 df1 hp1 nx1 hop
          split at h
          · rename_i hnd
            refine MY.force ho (opsB_ok hX hC [o] hop hf hH hD hF hR hE fun ρ' l' its' D' e1 e2 e3 e4 e5 => ?_)
            intro a w ha hW
            refine ⟨fun hne => ?_, postB_ok hX hC hold pl h e3 e4 e5 e2 (hR.ext e1) (hE.ext e1) (he.trans e1) (fun h => by rw [hnd] at h; cases h) (hk.up e1) a w ha hW⟩
            unfold needsB at hnd
            cases hst : still ops .any pend i with
            | nil => exact absurd hst hne
            | cons x y => rw [hst] at hnd; simp at hnd
          · split at h <;> try (cases h; done)
            rename_i hfa
            refine MY.force ho (opsB_ok hX hC [o] hop hf hH hD hF hR hE fun ρ' l' its' D' e1 e2 e3 e4 e5 => ?_)
            intro a w ha hW
            have hS' : ∀ w, WA w0 base its' w → Held base w0 ρ0 F w := fun w hW => Held.back (he.trans e1) hold hW.below (factsOk_ok e4 (hR.ext e1) hW hfa)
            exact ⟨fun _ => hS' w hW, postB_ok hX hC hold pl h e3 e4 e5 e2 (hR.ext e1) (hE.ext e1) (he.trans e1) (fun _ => hS') (hk.up e1) a w ha hW⟩
        · cases h
      | anywhere =>
        dsimp only at h
        split at h
        · rename_i d hd
          split at h
          · rename_i hdn hw
            split at h
            · rename_i v hv
              obtain ⟨u, h1, h2⟩ := pureC_ok hf hv (fun _ => True) o.type
              exact MY.lift0g ho (wantA_ok hf hw) h2 hd hdn (postB_ok hX hC hold pl h (hf.put d h1) hH hD hF hR hE he (fun hn => hS (needs_any hn)) hk)
            · cases h
          · rename_i hdn hw
            exact MY.skip0 ho (wantA_ok hf hw) hd hdn (postB_ok hX hC hold pl h (hf.put d rfl) hH hD hF hR hE he (fun hn => hS (needs_any hn)) hk)
          · cases h
        · cases h
      | held =>
        dsimp only at h
        split at h
        · rename_i d hd
          split at h
          · rename_i hdn hw
            split at h
            · rename_i v hv
              obtain ⟨u, h1, h2⟩ := heldC_ok hold he hf hE hv o.type
              exact MY.lift1g ho (hS needs_held) (wantA_ok hf hw) h2 hd hdn (postB_ok hX hC hold pl h (hf.put d h1) hH hD hF hR hE he (fun _ => hS needs_held) hk)
            · cases h
          · rename_i hdn hw
            exact MY.skip1 ho (hS needs_held) (wantA_ok hf hw) hd hdn (postB_ok hX hC hold pl h (hf.put d rfl) hH hD hF hR hE he (fun _ => hS needs_held) hk)
          · cases h
        · cases h
/-- what is read ahead of all that changes memory -/
def gatherB (P : Program) (E : List (Nat × AV)) (ro : List AH) (hp : AH) (all : Array Oper) : List (Nat × Kd) → AF → Facts
  | [], _ => []
  | (i, k) :: r, af => match all[i]? with
    | none => []
    | some o => match k, o.dst with
      | .anywhere, some d => match wantA all af o.guard with
        | some true => match pureC P af o.op with
          | some v => gatherB P E ro hp all r (putA af d v)
          | none => []
        | _ => gatherB P E ro hp all r (putA af d (.lit (.tuple #[])))
      | .held, some d => match wantA all af o.guard with
        | some true => match heldA P E ro hp af o.op with
          | some (v, F) => F.filter (fun q => sameA q.2.2 q.2.2) ++ gatherB P E ro hp all r (putA af d v)
          | none => match pureC P af o.op with
            | some v => gatherB P E ro hp all r (putA af d v)
            | none => []
        | _ => gatherB P E ro hp all r (putA af d (.lit (.tuple #[])))
      | _, _ => []
/-- whether something is read behind what changes memory -/
def lateB (ops : Array Oper) : List (Nat × Kd) → Bool → Bool
  | [], _ => false
  | (i, k) :: r, seen => match k with
    | .alone => lateB ops r true
    | .held => (seen && ((ops[i]?).map fun o => isHeld o.op).getD false) || lateB ops r seen
    | .anywhere => lateB ops r seen
def factsB (P : Program) (E : List (Nat × AV)) (ro : List AH) (hp : AH) (all : Array Oper) (plan : List (Nat × Kd)) (af : AF) : Facts := gatherB P E ro hp all plan af ++ match lateB all plan false with | true => ptrFacts hp ro af | false => []
def mixB (P : Program) (E : List (Nat × AV)) (ext : ExtF) (call : CallB) (n : Nat) (ro : List AH) (ops : Array Oper) (af : AF) (df : DF) (hp : AH) (nx : Nat) : Option (AF × DF × AH × Nat) :=
  match planB ops with
  | some plan => match Region.noSelect ops && planOk .any ops plan (Array.replicate ops.size false) && (plan.length == ops.size) with
    | true => match factsOk hp ro (factsB P E ro hp ops plan af) with
      | true => postB P E ext call n ro ops (factsB P E ro hp ops plan af) plan [] af df hp nx
      | false => none
    | false => none
  | none => none
theorem factsOk_inst (hH : instH ρ hp = some its) (hR : RO w0 base ρ ro) : ∀ {F : Facts}, factsOk hp ro F = true → ∀ q ∈ F, ∃ p u, rat ρ.blk q.1 = some p ∧ inst ρ q.2.2 = some u
  | [], _, q, hq => by cases hq
  | (id, off, v) :: r, h, q, hq => by
    unfold factsOk at h
    simp only [Bool.and_eq_true] at h
    rcases List.mem_cons.1 hq with rfl | hq
    · have h1 := h.1
      split at h1
      · rename_i it hl
        split at h1
        · rename_i v' hv
          obtain rfl := sameA_ok h1
          obtain ⟨p, us, e1, e2, e3, _⟩ := look_ok hH hR hl
          obtain ⟨z, h3, h4⟩ := instL_get e2 hv
          exact ⟨p, z, e1, h4⟩
        · cases h1
      · cases h1
    · exact factsOk_inst hH hR h.2 q hq
theorem mixB_ok (hX : ExtOk P ext) (hC : CallBOk P E call) {id : Nat} {lo : List Oper} {df df' : DF} {af' : AF}
    (hm : P.follows .mixedOrders = true) (h : mixB P E ext call n ro lo.toArray af df hp nx = some (af', df', hp', nx')) (hf : FRel ρ af l) (hH : instH ρ hp = some its) (hD : instD ρ df = some D) (hF : Fresh ρ nx) (hR : RO w0 base ρ ro) (hE : EE w0 base ρ E) (hk : EndB n Q w0 base ρ .normal af' df' hp' nx') :
    CX P n D Q l (WA w0 base its) (.region id lo.toArray true) := by
  unfold mixB at h
  split at h
  · rename_i plan hpl
    split at h
    · rename_i hB
      split at h
      · rename_i hfa
        exact CX.regionZ plan hm hB (postB_ok hX hC (factsOk_inst hH hR hfa) plan h hf hH hD hF hR hE (Ext.refl _) (fun _ w hW => ⟨hW.below, factsOk_ok hH hR hW hfa⟩) (fun ρ' l' its' D' e1 e2 e3 e4 e5 => hk ρ' l' its' D' e1 e2 e3 e4 e5))
      · cases h
    · cases h
  · cases h
def loudB (o : Oper) : Bool :=
  match o.op with
  | .alloc _ | .box .. | .buildSlice .. | .store .. | .makeSlice .. | .makeMap .. | .mapUpdate .. => true
  | .call c => match c.callee with
    | .builtin .append => true
    | _ => false
  | _ => false
def regB (P : Program) (E : List (Nat × AV)) (ext : ExtF) (call : CallB) (n : Nat) (ro : List AH) (ops : Array Oper) (draw : Bool) (af : AF) (df : DF) (hp : AH) (nx : Nat) : Option (AF × DF × AH × Nat) :=
  match draw with
  | false => opsB P E ext call n ro ops ops.toList false af df hp nx
  | true => match ops.toList.any loudB with
    | true => mixB P E ext call n ro ops af df hp nx
    | false => match Region.lexB .any ops with
      | true => match opsQB P E ext call n ro ops hp nx ops.toList af with
        | some af' => some (af', df, hp, nx)
        | none => mixB P E ext call n ro ops af df hp nx
      | false => mixB P E ext call n ro ops af df hp nx
theorem regB_ok (hX : ExtOk P ext) (hC : CallBOk P E call) (hm : P.follows .mixedOrders = true) {id : Nat} {ops : Array Oper} {draw : Bool} {df df' : DF} {af' : AF} (h : regB P E ext call n ro ops draw af df hp nx = some (af', df', hp', nx')) (hf : FRel ρ af l) (hH : instH ρ hp = some its) (hD : instD ρ df = some D) (hF : Fresh ρ nx) (hR : RO w0 base ρ ro) (hE : EE w0 base ρ E)
    (hk : EndB n Q w0 base ρ .normal af' df' hp' nx') : CX P n D Q l (WA w0 base its) (.region id ops draw) := by
  obtain ⟨lo⟩ := ops
  unfold regB at h
  split at h
  · exact CX.region (opsB_ok hX hC lo h hf hH hD hF hR hE hk)
  · split at h
    · exact mixB_ok hX hC hm h hf hH hD hF hR hE hk
    · split at h
      · rename_i hB
        split at h
        · rename_i af1 hq
          cases h
          exact CX.regionQ hm hB (opsQB_ok hX hC hH hF hR hE (fun l' hl' => hk ρ l' its D (Ext.refl _) hF hl' hH hD) lo hq hf)
        · exact mixB_ok hX hC hm h hf hH hD hF hR hE hk
      · exact mixB_ok hX hC hm h hf hH hD hF hR hE hk
/-! code -/
inductive XB where
  | norm
  | exit (id : Nat)
  | ret
def XB.e : XB → Exit
  | .norm => .normal
  | .exit i => .exit i
  | .ret => .ret
abbrev StepB := AF → DF → AH → Nat → Option (XB × AF × DF × AH × Nat)
def loopB (step : StepB) : Nat → StepB
  | 0, _, _, _, _ => none
  | k + 1, af, df, hp, nx => match step af df hp nx with
    | some (.norm, af', df', hp', nx') => loopB step k af' df' hp' nx'
    | r => r
def codeB (P : Program) (E : List (Nat × AV)) (ext : ExtF) (call : CallB) (n : Nat) (ro : List AH) : Code → StepB
  | .skip => fun af df hp nx => some (.norm, af, df, hp, nx)
  | .region _ ops draw => fun af df hp nx => match regB P E ext call n ro ops draw af df hp nx with
    | some s => some (.norm, s)
    | none => none
  | .seq a b => fun af df hp nx => match codeB P E ext call n ro a af df hp nx with
    | some (.norm, af', df', hp', nx') => codeB P E ext call n ro b af' df' hp' nx'
    | r => r
  | .cond x a b => fun af df hp nx => match evalA af x with
    | some (.lit (.bool true)) => codeB P E ext call n ro a af df hp nx
    | some (.lit (.bool false)) => codeB P E ext call n ro b af df hp nx
    | _ => none
  | .block id c => fun af df hp nx => match codeB P E ext call n ro c af df hp nx with
    | some (.exit i, s) => match Nat.beq i id with
      | true => some (.norm, s)
      | false => some (.exit i, s)
    | r => r
  | .loop c => loopB (codeB P E ext call n ro c) 1000000
  | .exit id => fun af df hp nx => some (.exit id, af, df, hp, nx)
  | .ret => fun af df hp nx => some (.ret, af, df, hp, nx)
  | _ => fun _ _ _ _ => none
/-- a loop at its head -/
def LoopAt (P : Program) (c : Code) (Q : Exit → Act → World → Prop) (a : Act) (w : World) : Prop :=
  ∀ b k cs, ∃ e a' w', Q e a' w' ∧ Arrives P (lone (b.at a (.code c :: .inLoop c :: k)) cs w) b k cs e a' w'
theorem loopAt_wp {c : Code} {a : Act} {w : World} (h : LoopAt P c Q a w) : (Code.loop c).wp P Q a w := fun b k cs => by
  obtain ⟨e, a', w', hq, harr⟩ := h b k cs
  exact ⟨e, a', w', hq, .of_steps (.one step_loop) harr⟩
theorem loopAt_next {c : Code} {a : Act} {w : World} (h : c.wp P (Exit.then (fun a w => LoopAt P c Q a w) Q) a w) : LoopAt P c Q a w := by
  intro b k cs
  obtain ⟨e, a₁, w₁, hq, harr⟩ := h b (.inLoop c :: k) cs
  cases e with
  | normal =>
    obtain ⟨e₂, a₂, w₂, hq₂, harr₂⟩ := hq b k cs
    exact ⟨e₂, a₂, w₂, hq₂, .of_steps (Steps.trans harr (.one step_inLoop)) harr₂⟩
  | exit id => exact ⟨_, a₁, w₁, hq, .pass (x := .inLoop c) rfl (fun _ _ => .inl (by simp)) harr⟩
  | goto l => exact ⟨_, a₁, w₁, hq, .pass (x := .inLoop c) rfl (fun _ _ => .inl (by simp)) harr⟩
  | ret => exact ⟨_, a₁, w₁, hq, .pass (x := .inLoop c) rfl (fun _ _ => .inl (by simp)) harr⟩
  | panic ch => exact ⟨_, a₁, w₁, hq, .pass (x := .inLoop c) rfl (fun _ _ => .inl (by simp)) harr⟩
  | outgrown => exact ⟨_, a₁, w₁, hq, .pass (x := .inLoop c) rfl (fun _ _ => .inl (by simp)) harr⟩
theorem codeB_ok (hX : ExtOk P ext) (hC : CallBOk P E call) (hm : P.follows .mixedOrders = true) : ∀ (c : Code) {af : AF} {df : DF} {hp : AH} {nx : Nat} {r : XB} {af' : AF} {df' : DF} {hp' : AH} {nx' : Nat} {ρ : Rho} {l : Fr} {its : List It} {D : List Deferred} {Q : Exit → Act → World → Prop},
    codeB P E ext call n ro c af df hp nx = some (r, af', df', hp', nx') → FRel ρ af l → instH ρ hp = some its → instD ρ df = some D → Fresh ρ nx → RO w0 base ρ ro → EE w0 base ρ E → EndB n Q w0 base ρ r.e af' df' hp' nx' → CX P n D Q l (WA w0 base its) c := by
  intro c
  induction c with
  | skip =>
    intro af df hp nx r af' df' hp' nx' ρ l its D Q h hf hH hD hF hR hE hk
    unfold codeB at h
    cases h
    exact CX.skip (hk ρ l its D (Ext.refl _) hF hf hH hD)
  | region id ops draw =>
    intro af df hp nx r af' df' hp' nx' ρ l its D Q h hf hH hD hF hR hE hk
    unfold codeB at h
    cases hr : regB P E ext call n ro ops draw af df hp nx with
    | none => rw [hr] at h; cases h
    | some s =>
      rw [hr] at h
      cases h
      exact regB_ok hX hC hm hr hf hH hD hF hR hE hk
  | seq x y ihx ihy =>
    intro af df hp nx r af' df' hp' nx' ρ l its D Q h hf hH hD hF hR hE hk
    unfold codeB at h
    refine CX.seq ?_
    cases hx : codeB P E ext call n ro x af df hp nx with
    | none => rw [hx] at h; cases h
    | some q =>
      obtain ⟨o, af1, df1, hp1, nx1⟩ := q
      rw [hx] at h
      cases o with
      | norm => exact ihx hx hf hH hD hF hR hE fun ρ' l' its' D' e1 e2 e3 e4 e5 => PX.thenN (ihy h e3 e4 e5 e2 (hR.ext e1) (hE.ext e1) (hk.up e1))
      | exit i =>
        cases h
        exact ihx hx hf hH hD hF hR hE fun ρ' l' its' D' e1 e2 e3 e4 e5 => PX.thenE (hk ρ' l' its' D' e1 e2 e3 e4 e5)
      | ret =>
        cases h
        exact ihx hx hf hH hD hF hR hE fun ρ' l' its' D' e1 e2 e3 e4 e5 => PX.thenR (hk ρ' l' its' D' e1 e2 e3 e4 e5)
  | cond x a b iha ihb =>
    intro af df hp nx r af' df' hp' nx' ρ l its D Q h hf hH hD hF hR hE hk
    unfold codeB at h
    split at h
    · rename_i hx
      obtain ⟨u, h1, h2⟩ := hf.eval hx
      obtain rfl := inst_lit h2
      exact CX.cond h1 (fun _ => iha h hf hH hD hF hR hE hk) (fun hb => by cases hb)
    · rename_i hx
      obtain ⟨u, h1, h2⟩ := hf.eval hx
      obtain rfl := inst_lit h2
      exact CX.cond h1 (fun hb => by cases hb) (fun _ => ihb h hf hH hD hF hR hE hk)
    · cases h
  | block id x ih =>
    intro af df hp nx r af' df' hp' nx' ρ l its D Q h hf hH hD hF hR hE hk
    unfold codeB at h
    refine CX.block ?_
    cases hx : codeB P E ext call n ro x af df hp nx with
    | none => rw [hx] at h; cases h
    | some q =>
      obtain ⟨o, af1, df1, hp1, nx1⟩ := q
      rw [hx] at h
      cases o with
      | norm =>
        cases h
        exact ih hx hf hH hD hF hR hE fun ρ' l' its' D' e1 e2 e3 e4 e5 => PX.blockN (hk ρ' l' its' D' e1 e2 e3 e4 e5)
      | exit i =>
        dsimp only at h
        split at h
        · rename_i hb
          cases h
          have : i = id := by simpa using hb
          subst this
          exact ih hx hf hH hD hF hR hE fun ρ' l' its' D' e1 e2 e3 e4 e5 => PX.blockE (hk ρ' l' its' D' e1 e2 e3 e4 e5)
        · rename_i hb
          cases h
          exact ih hx hf hH hD hF hR hE fun ρ' l' its' D' e1 e2 e3 e4 e5 => PX.blockO hb (hk ρ' l' its' D' e1 e2 e3 e4 e5)
      | ret =>
        cases h
        exact ih hx hf hH hD hF hR hE fun ρ' l' its' D' e1 e2 e3 e4 e5 => PX.blockR (hk ρ' l' its' D' e1 e2 e3 e4 e5)
  | loop x ih =>
    intro af df hp nx r af' df' hp' nx' ρ l its D Q h hf hH hD hF hR hE hk
    unfold codeB at h
    have key : ∀ (k : Nat) {af : AF} {df : DF} {hp : AH} {nx : Nat} {ρ : Rho} {l : Fr} {its : List It} {D : List Deferred}, loopB (codeB P E ext call n ro x) k af df hp nx = some (r, af', df', hp', nx') → FRel ρ af l → instH ρ hp = some its → instD ρ df = some D → Fresh ρ nx → RO w0 base ρ ro → EE w0 base ρ E → EndB n Q w0 base ρ r.e af' df' hp' nx' →
        ∀ a w, Has n D a l → WA w0 base its w → LoopAt P x Q a w := by
      intro k
      induction k with
      | zero => intro af df hp nx ρ l its D h; cases h
      | succ k ihk =>
        intro af df hp nx ρ l its D h hf hH hD hF hR hE hk a w ha hW
        unfold loopB at h
        refine loopAt_next ?_
        cases hx : codeB P E ext call n ro x af df hp nx with
        | none => rw [hx] at h; cases h
        | some q =>
          obtain ⟨o, af1, df1, hp1, nx1⟩ := q
          rw [hx] at h
          have fin : ∀ (K : EndB n (Exit.then (fun a w => LoopAt P x Q a w) Q) w0 base ρ o.e af1 df1 hp1 nx1), x.wp P (Exit.then (fun a w => LoopAt P x Q a w) Q) a w := fun K => ih hx hf hH hD hF hR hE K a w ha hW
          cases o with
          | norm => exact fin fun ρ' l' its' D' e1 e2 e3 e4 e5 a' w' ha' hW' => ihk h e3 e4 e5 e2 (hR.ext e1) (hE.ext e1) (hk.up e1) a' w' ha' hW'
          | exit i => cases h; exact fin fun ρ' l' its' D' e1 e2 e3 e4 e5 => PX.thenE (hk ρ' l' its' D' e1 e2 e3 e4 e5)
          | ret => cases h; exact fin fun ρ' l' its' D' e1 e2 e3 e4 e5 => PX.thenR (hk ρ' l' its' D' e1 e2 e3 e4 e5)
    exact fun a w ha hW => loopAt_wp (key _ h hf hH hD hF hR hE hk a w ha hW)
  | exit id =>
    intro af df hp nx r af' df' hp' nx' ρ l its D Q h hf hH hD hF hR hE hk
    unfold codeB at h
    cases h
    exact CX.exit (hk ρ l its D (Ext.refl _) hF hf hH hD)
  | ret =>
    intro af df hp nx r af' df' hp' nx' ρ l its D Q h hf hH hD hF hR hE hk
    unfold codeB at h
    cases h
    exact CX.ret (hk ρ l its D (Ext.refl _) hF hf hH hD)
  | _ => intro af df hp nx r af' df' hp' nx' ρ l its D Q h; unfold codeB at h; cases h
end
end Go.EB
