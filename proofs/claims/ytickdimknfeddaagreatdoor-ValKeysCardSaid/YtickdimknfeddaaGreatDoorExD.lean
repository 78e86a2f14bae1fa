/-
  Proved here: a small machine's operations that change memory: they do what the model's do.
-/
import Derived.Test.YtickdimknfeddaaGreatDoorExC
import Derived.Great.BuildSlice
namespace Go.EX
open Go.SX Go.RowKit
def AV.seen : AV → Bool
  | _ => true
theorem AV.seen_ok {v : AV} (_h : v.seen = true) : True := trivial
def overlay (cs : List AV) (off : Nat) (vs : List AV) : List AV := cs.take off ++ (vs ++ cs.drop (off + vs.length))
def overlayV (cs : List Value) (off : Nat) (vs : List Value) : List Value := cs.take off ++ (vs ++ cs.drop (off + vs.length))
theorem overlay_ok {ρ : Rho} {cs vs : List AV} {us zs : List Value} (off : Nat) (h : instL ρ cs = some us) (h' : instL ρ vs = some zs) : instL ρ (overlay cs off vs) = some (overlayV us off zs) := by
  unfold overlay overlayV
  rw [instL_len h']
  exact instL_app (instL_take _ h) (instL_app h' (instL_drop _ h))
theorem foldl_overlay (off : Nat) (l : List Value) (cs : Array Value) (h : off + l.length ≤ cs.size) : (l.zipIdx 0).foldl (fun cs (x : Value × Nat) => cs.setIfInBounds (off + x.2) x.1) cs = (overlayV cs.toList off l).toArray := by
  obtain ⟨h1, h2⟩ := Great.foldl_set off l 0 cs
  apply Array.ext_getElem?
  intro k
  rw [h2 k]
  unfold overlayV
  simp only [Nat.add_zero, List.getElem?_toArray]
  by_cases ha : k < off
  · rw [if_neg (by omega), List.getElem?_append_left (by simp; omega), List.getElem?_take, if_pos ha, Array.getElem?_toList]
  · rw [List.getElem?_append_right (by simp; omega)]
    have e1 : (cs.toList.take off).length = off := by simp; omega
    rw [e1]
    by_cases hb : k < off + l.length
    · rw [if_pos ⟨by omega, hb, by omega⟩, List.getElem?_append_left (by omega)]
    · rw [if_neg (by omega), List.getElem?_append_right (by omega), List.getElem?_drop, Array.getElem?_toList]
      congr 1
      omega
/-- the parts of a literal laid into its cells -/
def fillA (places : List (Nat × Nat)) : List AV → List (Nat × AV) → Option (List AV)
  | cells, [] => some cells
  | cells, (i, v) :: rest => match places[i]? with
    | some (off, size) => match v.seen && (Nat.beq v.cells.length size && Nat.ble (off + v.cells.length) cells.length) with
      | true => fillA places (overlay cells off v.cells) rest
      | false => none
    | none => none
def instP (ρ : Rho) : List (Nat × AV) → Option (List (Nat × Value))
  | [] => some []
  | (i, v) :: r => (inst ρ v).bind fun u => (instP ρ r).map fun us => (i, u) :: us
theorem fillA_ok {ρ : Rho} {places : List (Nat × Nat)} : ∀ {parts : List (Nat × AV)} {cells r : List AV} {us : List Value} {ps : List (Nat × Value)}, fillA places cells parts = some r → instL ρ cells = some us → instP ρ parts = some ps →
    ∃ rs, Instr.fill (places.toArray[·]?) us.toArray ps = some rs ∧ instL ρ r = some rs.toList
  | [], cells, r, us, ps, h, hc, hp => by
    cases h; cases hp
    exact ⟨us.toArray, rfl, by simpa using hc⟩
  | (i, v) :: rest, cells, r, us, ps, h, hc, hp => by
    unfold instP at hp
    cases hv : inst ρ v with
    | none => rw [hv] at hp; cases hp
    | some u =>
      cases hr : instP ρ rest with
      | none => rw [hv, hr] at hp; cases hp
      | some us' =>
        rw [hv, hr] at hp; cases hp
        unfold fillA at h
        split at h
        · rename_i off size hpl
          split at h
          · rename_i hb
            simp only [Bool.and_eq_true] at hb
            have h1 : v.cells.length = size := by simpa using hb.2.1
            have h2 : off + v.cells.length ≤ cells.length := by simpa using hb.2.2
            have hcv := cells_ok hv (AV.seen_ok hb.1)
            have h3 := instL_len hcv
            have h4 := instL_len hc
            obtain ⟨rs, e1, e2⟩ := fillA_ok h (overlay_ok off hc hcv) hr
            refine ⟨rs, ?_, e2⟩
            unfold Instr.fill
            have e3 : (places.toArray[i]?) = some (off, size) := by simpa using hpl
            simp only [e3]
            rw [if_neg (by simp at h3 ⊢; omega)]
            rw [← e1]
            congr 1
            rw [← Array.foldl_toList, Array.toList_zipIdx, foldl_overlay off u.cells.toList us.toArray (by simp at h3 ⊢; omega)]
          · cases h
        · cases h
def partsA (af : AF) : List (Nat × Operand) → Option (List (Nat × AV))
  | [] => some []
  | (i, x) :: r => (evalA af x).bind fun v => (partsA af r).map fun vs => (i, v) :: vs
theorem partsA_ok {ρ : Rho} {af : AF} {l : Fr} (hf : FRel ρ af l) : ∀ {ps : List (Nat × Operand)} {vs : List (Nat × AV)}, partsA af ps = some vs → ∃ us, evps l ps = some us ∧ instP ρ vs = some us
  | [], vs, h => by cases h; exact ⟨[], rfl, rfl⟩
  | (i, x) :: r, vs, h => by
    unfold partsA at h
    cases hx : evalA af x with
    | none => rw [hx] at h; cases h
    | some v =>
      cases hr : partsA af r with
      | none => rw [hx, hr] at h; cases h
      | some vs' =>
        rw [hx, hr] at h; cases h
        obtain ⟨u, h1, h2⟩ := hf.eval hx
        obtain ⟨us, h3, h4⟩ := partsA_ok hf hr
        exact ⟨(i, u) :: us, by unfold evps; rw [h1, h3], by unfold instP; rw [h2, h4]; rfl⟩
def placesA (P : Program) (t : TypeId) : Option (List Value × List (Nat × Nat)) :=
  match P.info? t, P.underlying t with
  | some it, some (.struct fields) =>
    match it.zero, fields.toList.mapM (fun f => (P.info? f.type).map fun i => (f.offset, i.size)) with
    | some z, some places => some (z.cells.toList, places)
    | _, _ => none
  | _, _ => none
theorem placesA_ok {P : Program} {t : TypeId} {zs : List Value} {places : List (Nat × Nat)} (h : placesA P t = some (zs, places)) (w : World) {ps : List (Nat × Value)} {rs : Array Value} (hr : Instr.fill (places.toArray[·]?) zs.toArray ps = some rs) :
    (Instr.build t ps.toArray).run P w = .ok (.agg rs) w := by
  refine run_build w t ps.toArray rs ?_
  unfold placesA at h
  unfold Program.built
  cases hit : P.info? t with
  | none => rw [hit] at h; cases h
  | some it =>
    cases hu : P.underlying t with
    | none => rw [hit, hu] at h; cases h
    | some d =>
      rw [hit, hu] at h
      cases d <;> first | (cases h; done) | skip
      rename_i fields
      simp only at h ⊢
      cases hz : it.zero with
      | none => rw [hz] at h; cases h
      | some z =>
        cases hm : fields.toList.mapM (fun f => (P.info? f.type).map fun i => (f.offset, i.size)) with
        | none => rw [hz, hm] at h; cases h
        | some pl =>
          rw [hz, hm] at h
          cases h
          simpa using hr
/-- a struct's literal -/
def buildA (P : Program) (af : AF) : Op → Option AV
  | .build t parts => (placesA P t).bind fun q => (partsA af parts.toList).bind fun ps => (fillA q.2 (q.1.map .lit) ps).map .agg
  | _ => none
theorem evps_arr {l : Fr} {parts : Array (Nat × Operand)} {us : List (Nat × Value)} (h : evps l parts.toList = some us) {σ : Operand → Value} (hσ : ∀ x u, evl l x = some u → σ x = u) : (parts.map fun x => match x with | (i, x) => (i, σ x)) = us.toArray := by
  have := evps_map hσ _ _ h
  rw [← this, ← List.map_toArray]
theorem buildA_ok {P : Program} {ρ : Rho} {af : AF} {l : Fr} (hf : FRel ρ af l) {o : Op} {v : AV} (h : buildA P af o = some v) (W : World → Prop) (ty : TypeId) : ∃ u, inst ρ v = some u ∧ Y P l W o ty u := by
  unfold buildA at h
  split at h
  · rename_i t parts
    obtain ⟨q, hq, h⟩ := Option.bind_eq_some_iff.1 h
    obtain ⟨ps, hps, h⟩ := Option.bind_eq_some_iff.1 h
    cases hfl : fillA q.2 (q.1.map .lit) ps with
    | none => rw [hfl] at h; cases h
    | some r =>
      rw [hfl] at h; cases h
      obtain ⟨us, h1, h2⟩ := partsA_ok hf hps
      obtain ⟨rs, h3, h4⟩ := fillA_ok hfl (instL_lit ρ q.1) h2
      refine ⟨.agg rs, by unfold inst; rw [h4]; simp, Y.of1 fun σ hσ o' ho _ w => ?_⟩
      simp only [execOp, ho]
      refine run_bindv ?_
      rw [evps_arr h1 hσ]
      exact placesA_ok hq w h3
  · cases h
/-! a slice's literal -/
def denseA (size : Nat) : Nat → List (Nat × AV) → Option (List AV)
  | _, [] => some []
  | i, (j, v) :: r => match v.seen && (Nat.beq i j && Nat.beq v.cells.length size) with
    | true => (denseA size (i + 1) r).map fun vs => v :: vs
    | false => none
theorem denseA_ok {ρ : Rho} {size : Nat} : ∀ {ps : List (Nat × AV)} {i : Nat} {vs : List AV} {us : List (Nat × Value)}, denseA size i ps = some vs → instP ρ ps = some us →
    ∃ zs : List Value, us = (zs.zipIdx i).map (fun x => (x.2, x.1)) ∧ zs.length = ps.length ∧ (∀ v ∈ zs, v.cells.size = size) ∧ instL ρ (vs.flatMap AV.cells) = some (zs.flatMap fun v => v.cells.toList)
  | [], i, vs, us, h, h' => by cases h; cases h'; exact ⟨[], rfl, rfl, ⟨fun v h => absurd h (List.not_mem_nil), rfl⟩⟩
  | (j, v) :: r, i, vs, us, h, h' => by
    unfold instP at h'
    cases hv : inst ρ v with
    | none => rw [hv] at h'; cases h'
    | some u =>
      cases hr : instP ρ r with
      | none => rw [hv, hr] at h'; cases h'
      | some us' =>
        rw [hv, hr] at h'; cases h'
        unfold denseA at h
        split at h
        · rename_i hb
          simp only [Bool.and_eq_true] at hb
          have hij : i = j := by simpa using hb.2.1
          have hlen : v.cells.length = size := by simpa using hb.2.2
          cases hd : denseA size (i + 1) r with
          | none => rw [hd] at h; cases h
          | some vs' =>
            rw [hd] at h; cases h
            obtain ⟨zs, e1, e2, e3, e4⟩ := denseA_ok hd hr
            have hcv := cells_ok hv (AV.seen_ok hb.1)
            have h3 := instL_len hcv
            refine ⟨u :: zs, by simp [e1, hij], by simp [e2], fun x hx => ?_, ?_⟩
            · rcases List.mem_cons.1 hx with rfl | hx
              · simp at h3; omega
              · exact e3 x hx
            · simp only [List.flatMap_cons]
              exact instL_app hcv e4
        · cases h
/-- values whose making lays memory; the machine's memory behind it -/
def newA (P : Program) (hp : AH) (nx : Nat) (af : AF) : Op → Option (AV × AH)
  | .alloc t => ((P.info? t).bind (·.zero)).map fun z => (.ptr nx 0, (nx, .obj (z.cells.toList.map .lit) t) :: hp)
  | .box t x => (evalA af x).bind fun v => match v.seen with
    | true => some (.ptr nx 0, (nx, .obj v.cells t) :: hp)
    | false => none
  | .buildSlice t k parts => match elemT P t, partsA af parts.toList with
    | some (e, size, _, _), some ps => match Nat.beq ps.length k && Nat.blt 0 (k * size) && Nat.ble (k * size) 16777216 with
      | true => (denseA size 0 ps).map fun vs => (.sl nx 0 k 0, (nx, .row k e size (vs.flatMap AV.cells)) :: hp)
      | false => none
    | _, _ => none
  | .makeSlice t x y => match elemT P t, evalA af x, evalA af y with
    | some (e, size, by', z), some (.lit (.int _ (.ofNat i))), some (.lit (.int _ (.ofNat c))) => match Nat.ble (by' * c) 1000000 && Nat.ble c 1000000 with
      | true => match i with
        | 0 => some (.sl nx 0 0 0, (nx, .row 0 e size []) :: hp)
        | i' + 1 => match Nat.beq (i' + 1) c with
          | true => some (.sl nx 0 (i' + 1) 0, (nx, .row (i' + 1) e size ((madeCells z.cells ((i' + 1) * size)).toList.map .lit)) :: hp)
          | false => none
      | false => none
    | _, _, _ => none
  | _ => none
section
variable {P : Program} {w0 : World} {base : Nat} {ρ : Rho} {hp hp' : AH} {nx : Nat} {its : List It} {af : AF} {l : Fr} {ops : Array Oper} {n : Nat} {D : List Deferred} {Q : Exit → Act → World → Prop} {rest : List Oper} {o : Oper} {d : Nat} {v : AV}
theorem instI_mkobj {id b c : Nat} {cs : List AV} {vs : List Value} {T : TypeId} (h : rat ρ.blk id = some (b, c)) (h' : instL ρ cs = some vs) : instI ρ id (.obj cs T) = some (SX.blk b vs T) := by
  dsimp only [instI]; rw [h, h']; rfl
theorem instI_mkrow {id b c n e s : Nat} {cs : List AV} {vs : List Value} (h : rat ρ.blk id = some (b, c)) (h' : instL ρ cs = some vs) : instI ρ id (.row n e s cs) = some (.row (some b) c n e s vs) := by
  dsimp only [instI]; rw [h, h']; rfl
/-- what is to be shown of the rest, whatever the new names stand for -/
def Next (P : Program) (ops : Array Oper) (n : Nat) (D : List Deferred) (Q : Exit → Act → World → Prop) (w0 : World) (base : Nat) (ρ : Rho) (hp' : AH) (nx' : Nat) (v : AV) (d : Nat) (l : Fr) (rest : List Oper) : Prop :=
  ∀ ρ' u its', Ext ρ ρ' → Fresh ρ' nx' → inst ρ' v = some u → instH ρ' hp' = some its' → LX P ops n D (.plain Q) ((d, u) :: l) (WA w0 base its') rest
theorem newA_ok (hf : FRel ρ af l) (hH : instH ρ hp = some its) (hF : Fresh ρ nx) (h : newA P hp nx af o.op = some (v, hp')) (hg : o.guard = none) (hd : o.dst = some d) (hdn : Nat.blt d n = true)
    (hk : Next P ops n D Q w0 base ρ hp' (nx + 1) v d l rest) : LX P ops n D (.plain Q) l (WA w0 base its) (o :: rest) := by
  unfold newA at h
  split at h
  · rename_i t ho
    cases hz : (P.info? t).bind (·.zero) with
    | none => rw [hz] at h; cases h
    | some z =>
      rw [hz] at h; cases h
      refine LX.alloc ho (zero_run hz) hg hd hdn fun b => ?_
      have hE := Ext.add hF b 0
      exact hk (ρ.add nx b 0) _ _ hE (hF.add b 0) (by unfold inst; rw [rat_add]; rfl) (instH_mk (instI_mkobj (rat_add _ _ _ _) (instL_lit _ _)) (instH_ext hE hH))
  · rename_i t x ho
    obtain ⟨v', hx, h⟩ := Option.bind_eq_some_iff.1 h
    split at h
    · rename_i hno
      cases h
      obtain ⟨u, h1, h2⟩ := hf.eval hx
      refine LX.box ho h1 hg hd hdn fun b => ?_
      have hE := Ext.add hF b 0
      exact hk (ρ.add nx b 0) _ _ hE (hF.add b 0) (by unfold inst; rw [rat_add]; rfl) (instH_mk (instI_mkobj (rat_add _ _ _ _) (instL_ext hE _ _ (cells_ok h2 (AV.seen_ok hno)))) (instH_ext hE hH))
    · cases h
  · rename_i t k parts ho
    split at h
    · rename_i e size by' z ps he hps
      split at h
      · rename_i hb
        cases hdn' : denseA size 0 ps with
        | none => rw [hdn'] at h; cases h
        | some vs =>
          rw [hdn'] at h; cases h
          simp only [Bool.and_eq_true] at hb
          have hlen : ps.length = k := by simpa using hb.1.1
          have hpos : 0 < k * size := by simpa using hb.1.2
          have hsm : k * size ≤ 16777216 := by simpa using hb.2
          obtain ⟨us, h1, h2⟩ := partsA_ok hf hps
          obtain ⟨zs, e1, e2, e3, e4⟩ := denseA_ok hdn' h2
          obtain ⟨hEl, _, _⟩ := elemT_ok he
          obtain ⟨inf, z', i1, i2, i3, i4, i5⟩ := hEl.ex
          have hs0 : 0 < size := Nat.pos_of_mul_pos_left hpos
          have hflat : flat us = zs.flatMap fun v => v.cells.toList := by
            unfold flat
            rw [e1, List.flatMap_map]
            rw [show (fun a : Value × Nat => (a.2, a.1).2.cells.toList) = (fun v : Value => v.cells.toList) ∘ (fun a : Value × Nat => a.1) from rfl]
            have e9 : ∀ (l : List Value) (i : Nat), (l.zipIdx i).flatMap ((fun v : Value => v.cells.toList) ∘ fun a => a.1) = l.flatMap fun v => v.cells.toList := by
              intro l
              induction l with
              | nil => intro i; rfl
              | cons x r ih => intro i; simp only [List.zipIdx_cons, List.flatMap_cons, ih]; rfl
            exact e9 zs 0
          have hfl : (flat us).length = k * size := by
            rw [hflat, List.length_flatMap]
            have e9 : ∀ l : List Value, (∀ v ∈ l, v.cells.size = size) → (l.map fun v => v.cells.toList.length).sum = l.length * size := by
              intro l
              induction l with
              | nil => intro _; simp
              | cons x r ih =>
                intro hx
                have := hx x (by simp)
                have ih' := ih (fun v hv => hx v (by simp [hv]))
                rw [List.map_cons, List.sum_cons, ih', List.length_cons, Nat.add_mul, Nat.one_mul, Array.length_toList, this]
                omega
            rw [e9 zs e3, e2, hlen]
          have hrun : ∀ w, (Instr.buildSlice t k us.toArray).run P w = .ok (.slice (some ⟨w.heap.size, 0, none⟩) k k) (w.alloc (.cells (flat us).toArray e)) := fun w => by
            refine run_buildSlice w t e k us.toArray (flat us).toArray inf z' hEl.ht i1 i2 (by rw [i3]; omega) (by rw [i3]; omega) ?_
            rw [i3, hflat]
            have hsz : ((Array.range (k * size)).map (z'.cells[· % z'.cells.size]!)).size = k * size := by simp
            have := Great.fill_whole hs0 zs ((Array.range (k * size)).map (z'.cells[· % z'.cells.size]!)) e3 (by rw [hsz, e2, hlen])
            rw [← e1] at this
            simpa using this
          have hpa : parts.toList.toArray = parts := by simp
          rw [← hpa] at ho
          refine LX.buildSlice (e := e) (size := size) ho h1 hrun hfl (by have := Nat.le_mul_of_pos_right k hs0; omega) hg hd hdn fun b => ?_
          have hE := Ext.add hF b k
          exact hk (ρ.add nx b k) _ _ hE (hF.add b k) (by unfold inst; rw [rat_add]; rfl) (instH_mk (instI_mkrow (rat_add _ _ _ _) (by rw [hflat]; exact instL_ext hE _ _ e4)) (instH_ext hE hH))
      · cases h
    · cases h
  · rename_i t x y ho
    split at h
    · rename_i e size by' z kk i kk' c he hx hy
      split at h
      · rename_i hb
        simp only [Bool.and_eq_true] at hb
        have hb1 : by' * c ≤ 1000000 := by simpa using hb.1
        have hb2 : c ≤ 1000000 := by simpa using hb.2
        obtain ⟨hEl, _, hz⟩ := elemT_ok he
        obtain ⟨u, h1, h2⟩ := hf.eval hx
        obtain rfl := inst_lit h2
        obtain ⟨u', h3, h4⟩ := hf.eval hy
        obtain rfl := inst_lit h4
        split at h
        · cases h
          refine LX.make0 (c := c) hEl ho h1 h3 (by omega) (by omega) hg hd hdn fun b => ?_
          have hE := Ext.add hF b c
          exact hk (ρ.add nx b c) _ _ hE (hF.add b c) (by unfold inst; rw [rat_add]; rfl) (instH_mk (instI_mkrow (rat_add _ _ _ _) rfl) (instH_ext hE hH))
        · rename_i i'
          split at h
          · rename_i hic
            have hic' : i' + 1 = c := by simpa using hic
            cases h
            subst hic'
            refine LX.makeN (k := i' + 1) hEl hz ho h1 h3 (by omega) (by omega) hg hd hdn fun b => ?_
            have hE := Ext.add hF b (i' + 1)
            exact hk (ρ.add nx b (i' + 1)) _ _ hE (hF.add b (i' + 1)) (by unfold inst; rw [rat_add]; rfl) (instH_mk (instI_mkrow (rat_add _ _ _ _) (instL_lit _ _)) (instH_ext hE hH))
          · cases h
      · cases h
    · cases h
  · cases h
end
end Go.EX
