/-
  Proved here: the steps of a machine of mine that change memory, its calls, and how they go on.
-/
import Derived.Test.YtljaoofbklkglaaGreatDoorEyC
import Derived.Laws.OwnMore
namespace Go.EY
open Go.SX Go.EX Go.RowKit
section
variable {P : Program} {w0 : World} {base : Nat} {ρ0 ρ : Rho} {T : HT} {ro : List HT} {nx : Nat} {its : List It} {E : List (Nat × AV)} {af : AF} {l : Fr}
variable {ops : Array Oper} {n : Nat} {D : List Deferred} {Q : Exit → Act → World → Prop} {rest : List Oper} {o : Oper} {d : Nat}
variable {r : AR} {T' : HT} {n' c : Nat} {x y : Operand} {a b v : AV} {t t2 : TypeId}
/-- what is to be shown of the rest behind a step that laid a new item -/
def After (P : Program) (ops : Array Oper) (n : Nat) (D : List Deferred) (Q : Exit → Act → World → Prop) (w0 : World) (base : Nat) (E : List (Nat × AV)) (ρ0 : Rho) (ro : List HT) (its : List It) (T1 : HT) (n1 : Nat) (af : AF) (rest : List Oper) : Prop :=
  ∀ ρ1 its1, ST w0 base E ρ0 ρ1 T1 ro n1 its1 → (∀ w, WA w0 base its1 w → WA w0 base its w) → LV P ops n D (.plain Q) w0 base ρ1 its1 af rest
theorem ST.new (hS : ST w0 base E ρ0 ρ T ro nx its) {hp : AH} (hs : EY.Sub T hp) (hH : instH ρ hp = some its) (b cap : Nat) {m : MI} {it : AI} {xi : It} (hm : MRel m it) (hi : instI (ρ.add nx b cap) nx it = some xi) : ST w0 base E ρ0 (ρ.add nx b cap) (T.ins nx m) ro (nx + 1) (xi :: its) := by
  have hE := Ext.add hS.fresh b cap
  exact ⟨⟨(nx, it) :: hp, hs.new hm, instH_mk hi (instH_ext hE hH)⟩, hS.fresh.add b cap, hS.ro.ext hE, hS.env.ext hE, hS.ext.trans hE, hS.opq.ext hE⟩
theorem FRel.ext' {ρ ρ' : Rho} {af : AF} (h : FRel ρ af l) (he : Ext ρ ρ') : FRel ρ' af l := h.ext he
noncomputable def newK (T : HT) (nx : Nat) (m : MI) (k : AV → HT → Nat → R) : R := T.insK nx m fun T1 => k (.ptr nx 0) T1 (Nat.add nx 1)
theorem newK_eq (T : HT) (nx : Nat) (m : MI) (k : AV → HT → Nat → R) : newK T nx m k = k (.ptr nx 0) (T.ins nx m) (nx + 1) := HT.insK_eq _ _ _ _
theorem LV.alloc {zs : List AV} {k : AV → HT → Nat → R} (hS : ST w0 base E ρ0 ρ T ro nx its) (h : newK T nx (.obj zs t) k = .ok r T' n') (ho : o.op = .alloc t) (hz : ((P.info? t).bind (·.zero)).map (fun z => z.cells.toList.map AV.lit) = some zs)
    (hw : wantA ops af o.guard = some true) (hd : o.dst = some d) (hdn : Nat.blt d n = true)
    (hk : ∀ v T1 n1, k v T1 n1 = .ok r T' n' → After P ops n D Q w0 base E ρ0 ro its T1 n1 ((d, v) :: af) rest) : LV P ops n D (.plain Q) w0 base ρ its af (o :: rest) := fun l hf => by
  rw [newK_eq] at h
  refine LX.unguard (wantA_ok hf hw) ?_
  cases hz' : (P.info? t).bind (·.zero) with
  | none => rw [hz'] at hz; cases hz
  | some z =>
    rw [hz'] at hz
    cases hz
    obtain ⟨hp, hs, hH⟩ := hS.hp
    refine LX.alloc (o := { o with guard := none }) ho (zero_run hz') rfl hd hdn fun b => ?_
    have hE := Ext.add hS.fresh b 0
    have hST := hS.new hs hH b 0 (m := .obj (z.cells.toList.map AV.lit) t) rfl (instI_mkobj (rat_add _ _ _ _) (instL_lit _ _))
    exact hk _ _ _ h _ _ hST (fun w hw => hw.drop (List.sublist_cons_self _ _)) _ (FRel.cons (hf.ext hE) d (by unfold inst; rw [rat_add]; rfl))
noncomputable def boxK (c : Nat) (T : HT) (nx : Nat) (v : AV) (t : TypeId) (k : AV → HT → Nat → R) : R := bif v.seen then newK T nx (.obj v.cells t) k else .bad c
theorem LV.box {k : AV → HT → Nat → R} (hS : ST w0 base E ρ0 ρ T ro nx its) (h : boxK c T nx a t k = .ok r T' n') (hx : evalA af x = some a) (ho : o.op = .box t x)
    (hw : wantA ops af o.guard = some true) (hd : o.dst = some d) (hdn : Nat.blt d n = true)
    (hk : ∀ v T1 n1, k v T1 n1 = .ok r T' n' → After P ops n D Q w0 base E ρ0 ro its T1 n1 ((d, v) :: af) rest) : LV P ops n D (.plain Q) w0 base ρ its af (o :: rest) := fun l hf => by
  obtain ⟨hseen, h⟩ := bif_ok h
  rw [newK_eq] at h
  refine LX.unguard (wantA_ok hf hw) ?_
  obtain ⟨hp, hs, hH⟩ := hS.hp
  obtain ⟨u, h1, h2⟩ := hf.eval hx
  refine LX.box (o := { o with guard := none }) ho h1 rfl hd hdn fun b => ?_
  have hE := Ext.add hS.fresh b 0
  have hST := hS.new hs hH b 0 (m := .obj a.cells t) rfl (instI_mkobj (rat_add _ _ _ _) (instL_ext hE _ _ (cells_ok h2 (AV.seen_ok hseen))))
  exact hk _ _ _ h _ _ hST (fun w hw => hw.drop (List.sublist_cons_self _ _)) _ (FRel.cons (hf.ext hE) d (by unfold inst; rw [rat_add]; rfl))
/-! rows -/
def vtOf : List AV → Nat → VT → VT
  | [], _, vt => vt
  | v :: r, i, vt => vtOf r (i + 1) (vt.ins i v)
noncomputable def vtK (l : List AV) : Nat → VT → (VT → R) → R :=
  List.rec (motive := fun _ => Nat → VT → (VT → R) → R) (fun _ vt k => k vt) (fun v _ ih i vt k => vt.insK i v fun vt' => ih (Nat.add i 1) vt' k) l
theorem vtK_eq : ∀ (l : List AV) (i : Nat) (vt : VT) (k : VT → R), vtK l i vt k = k (vtOf l i vt) := by
  intro l
  induction l with
  | nil => intro i vt k; rfl
  | cons v r ih =>
    intro i vt k
    show vt.insK i v (fun vt' => vtK r (i + 1) vt' k) = _
    rw [VT.insK_eq, ih]
    rfl
theorem vtOf_rel : ∀ (l : List AV) (cs : List AV) (vt : VT), VRel vt cs → VRel (vtOf l (cs.length + 1) vt) (cs ++ l) := by
  intro l
  induction l with
  | nil => intro cs vt h; simpa [vtOf] using h
  | cons v r ih =>
    intro cs vt h
    have := ih (cs ++ [v]) _ (h.push v)
    simpa [vtOf] using this
noncomputable def bsK (c : Nat) (T : HT) (nx : Nat) (q : Nat) (e : TypeId) (size : Nat) (ps : List (Nat × AV)) (k : AV → HT → Nat → R) : R :=
  Option.rec (.bad c) (fun vs => vtK (vs.flatMap AV.cells) 1 .nil fun vt => T.insK nx (.row q e size vt) fun T1 => k (.sl nx 0 q 0) T1 (Nat.add nx 1)) (denseA size 0 ps)
theorem buildSlice_ok {t e size by' q : Nat} {z : Value} {parts : Array (Nat × Operand)} {ps : List (Nat × AV)} {vs : List AV} {us : List (Nat × Value)} (he : elemT P t = some (e, size, by', z)) (hlen : ps.length = q) (hpos : 0 < q * size) (hsm : q * size ≤ 16777216)
    (hd0 : denseA size 0 ps = some vs) (h1 : evps l parts.toList = some us) (h2 : instP ρ ps = some us) (ho : o.op = .buildSlice t q parts) (hg : o.guard = none) (hd : o.dst = some d) (hdn : Nat.blt d n = true)
    (hk : ∀ b, instL ρ (vs.flatMap AV.cells) = some (flat us) → LX P ops n D (.plain Q) ((d, .slice (some ⟨b, 0, none⟩) q q) :: l) (WA w0 base (.row (some b) q q e size (flat us) :: its)) rest) : LX P ops n D (.plain Q) l (WA w0 base its) (o :: rest) := by
  obtain ⟨zs, e1, e2, e3, e4⟩ := denseA_ok hd0 h2
  obtain ⟨hEl, _, _⟩ := elemT_ok he
  obtain ⟨inf, z', i1, i2, i3, i4, i5⟩ := hEl.ex
  have hs0 : 0 < size := Nat.pos_of_mul_pos_left hpos
  have hflat : flat us = zs.flatMap fun v => v.cells.toList := by
    unfold flat
    rw [e1, List.flatMap_map]
    rw [show (fun a : Value × Nat => (a.2, a.1).2.cells.toList) = (fun v : Value => v.cells.toList) ∘ (fun a : Value × Nat => a.1) from rfl]
    have e9 : ∀ (l : List Value) (i : Nat), (l.zipIdx i).flatMap ((fun v : Value => v.cells.toList) ∘ fun a => a.1) = l.flatMap fun v => v.cells.toList := by
      intro l
      induction l with
      | nil => intro i; rfl
      | cons x r ih => intro i; simp only [List.zipIdx_cons, List.flatMap_cons, ih]; rfl
    exact e9 zs 0
  have hfl : (flat us).length = q * size := by
    rw [hflat, List.length_flatMap]
    have e9 : ∀ l : List Value, (∀ v ∈ l, v.cells.size = size) → (l.map fun v => v.cells.toList.length).sum = l.length * size := by
      intro l
      induction l with
      | nil => intro _; simp
      | cons x r ih =>
        intro hx
        have := hx x (by simp)
        have ih' := ih (fun v hv => hx v (by simp [hv]))
        rw [List.map_cons, List.sum_cons, ih', List.length_cons, Nat.add_mul, Nat.one_mul, Array.length_toList, this]
        omega
    rw [e9 zs e3, e2, hlen]
  have hrun : ∀ w, (Instr.buildSlice t q us.toArray).run P w = .ok (.slice (some ⟨w.heap.size, 0, none⟩) q q) (w.alloc (.cells (flat us).toArray e)) := fun w => by
    refine run_buildSlice w t e q us.toArray (flat us).toArray inf z' hEl.ht i1 i2 (by rw [i3]; omega) (by rw [i3]; omega) ?_
    rw [i3, hflat]
    have hsz : ((Array.range (q * size)).map (z'.cells[· % z'.cells.size]!)).size = q * size := by simp
    have := Great.fill_whole hs0 zs ((Array.range (q * size)).map (z'.cells[· % z'.cells.size]!)) e3 (by rw [hsz, e2, hlen])
    rw [← e1] at this
    simpa using this
  have hpa : parts.toList.toArray = parts := by simp
  rw [← hpa] at ho
  exact LX.buildSlice (e := e) (size := size) ho h1 hrun hfl (by have := Nat.le_mul_of_pos_right q hs0; omega) hg hd hdn fun b => hk b (by rw [hflat]; exact e4)
theorem LV.bslice {k : AV → HT → Nat → R} {e size by' q : Nat} {z : Value} {parts : Array (Nat × Operand)} {ps : List (Nat × AV)} (hS : ST w0 base E ρ0 ρ T ro nx its) (h : bsK c T nx q e size ps k = .ok r T' n') (hps : partsA af parts.toList = some ps) (ho : o.op = .buildSlice t q parts) (he : elemT P t = some (e, size, by', z))
    (hlen : (Nat.beq ps.length q && Nat.blt 0 (q * size) && Nat.ble (q * size) 16777216) = true) (hw : wantA ops af o.guard = some true) (hd : o.dst = some d) (hdn : Nat.blt d n = true)
    (hk : ∀ v T1 n1, k v T1 n1 = .ok r T' n' → After P ops n D Q w0 base E ρ0 ro its T1 n1 ((d, v) :: af) rest) : LV P ops n D (.plain Q) w0 base ρ its af (o :: rest) := fun l hf => by
  unfold bsK at h
  cases hdn' : denseA size 0 ps with
  | none => rw [hdn'] at h; cases h
  | some vs =>
    rw [hdn'] at h
    have h' : vtK (vs.flatMap AV.cells) 1 .nil (fun vt => T.insK nx (.row q e size vt) fun T1 => k (.sl nx 0 q 0) T1 (Nat.add nx 1)) = _ := h
    rw [vtK_eq, HT.insK_eq] at h'
    simp only [Bool.and_eq_true] at hlen
    obtain ⟨hp, hs, hH⟩ := hS.hp
    obtain ⟨us, h1, h2⟩ := partsA_ok hf hps
    refine LX.unguard (wantA_ok hf hw) ?_
    refine buildSlice_ok (o := { o with guard := none }) he (beqT hlen.1.1) (by simpa using hlen.1.2) (by simpa using hlen.2) hdn' h1 h2 ho rfl hd hdn fun b hcs => ?_
    have hE := Ext.add hS.fresh b q
    have hST := hS.new hs hH b q (m := .row q e size (vtOf (vs.flatMap AV.cells) 1 .nil)) ⟨_, rfl, by simpa using vtOf_rel (vs.flatMap AV.cells) [] .nil (VRel.nil _)⟩ (instI_mkrow (rat_add _ _ _ _) (instL_ext hE _ _ hcs))
    exact hk _ _ _ h' _ _ hST (fun w hw => hw.drop (List.sublist_cons_self _ _)) _ (FRel.cons (hf.ext hE) d (by unfold inst; rw [rat_add]; simp))
/-- cells that are all alike -/
def vtRep (v : AV) : Nat → Nat → VT → VT
  | 0, _, vt => vt
  | q + 1, i, vt => vtRep v q (i + 1) (vt.ins i v)
noncomputable def repK (v : AV) (q : Nat) : Nat → VT → (VT → R) → R :=
  Nat.rec (motive := fun _ => Nat → VT → (VT → R) → R) (fun _ vt k => k vt) (fun _ ih i vt k => vt.insK i v fun vt' => ih (Nat.add i 1) vt' k) q
theorem repK_eq (v : AV) : ∀ (q i : Nat) (vt : VT) (k : VT → R), repK v q i vt k = k (vtRep v q i vt) := by
  intro q
  induction q with
  | zero => intro i vt k; rfl
  | succ q ih =>
    intro i vt k
    show vt.insK i v (fun vt' => repK v q (i + 1) vt' k) = _
    rw [VT.insK_eq, ih]
    rfl
theorem vtRep_eq (v : AV) : ∀ (q i : Nat) (vt : VT), vtRep v q i vt = vtOf (List.replicate q v) i vt := by
  intro q
  induction q with
  | zero => intro i vt; rfl
  | succ q ih => intro i vt; rw [List.replicate_succ]; exact ih _ _
/-- 'make(T, k)' of elements of one cell -/
noncomputable def mkK (c : Nat) (T : HT) (nx : Nat) (e : TypeId) (by' : Nat) (z : AV) (a : AV) (k : AV → HT → Nat → R) : R :=
  natK c a fun q => bif Nat.ble (Nat.mul by' q) 1000000 then bif Nat.ble q 1000000 then bif Nat.beq q 0 then T.insK nx (.row 0 e 1 .nil) fun T1 => k (.sl nx 0 0 0) T1 (Nat.add nx 1) else repK z q 1 .nil fun vt => T.insK nx (.row q e 1 vt) fun T1 => k (.sl nx 0 q 0) T1 (Nat.add nx 1) else .bad c else .bad c
theorem LV.mk {k : AV → HT → Nat → R} {e by' : Nat} {z : Value} (hS : ST w0 base E ρ0 ρ T ro nx its) (h : mkK c T nx e by' (.lit z) a k = .ok r T' n') (hx : evalA af x = some a) (hy : evalA af y = some a) (ho : o.op = .makeSlice t x y) (he : elemT P t = some (e, 1, by', z)) (hz1 : z.cells = #[z])
    (hw : wantA ops af o.guard = some true) (hd : o.dst = some d) (hdn : Nat.blt d n = true)
    (hk : ∀ v T1 n1, k v T1 n1 = .ok r T' n' → After P ops n D Q w0 base E ρ0 ro its T1 n1 ((d, v) :: af) rest) : LV P ops n D (.plain Q) w0 base ρ its af (o :: rest) := fun l hf => by
  obtain ⟨kk, q, rfl, h⟩ := natK_inv h
  obtain ⟨hb1, h⟩ := bif_ok h
  obtain ⟨hb2, h⟩ := bif_ok h
  have hb1' : by' * q ≤ 1000000 := by simpa using hb1
  have hb2' : q ≤ 1000000 := by simpa using hb2
  obtain ⟨hEl, _, hz⟩ := elemT_ok he
  obtain ⟨hp, hs, hH⟩ := hS.hp
  refine LX.unguard (wantA_ok hf hw) ?_
  cases hq : Nat.beq q 0 with
  | true =>
    obtain rfl := beqT hq
    rw [hq, cond_true, HT.insK_eq] at h
    refine LX.make0 (o := { o with guard := none }) (c := 0) hEl ho (evlit hf hx) (evlit hf hy) (by omega) (by omega) rfl hd hdn fun b => ?_
    have hE := Ext.add hS.fresh b 0
    have hST := hS.new hs hH b 0 (m := .row 0 e 1 .nil) ⟨[], rfl, VRel.nil _⟩ (instI_mkrow (rat_add _ _ _ _) rfl)
    exact hk _ _ _ h _ _ hST (fun w hw => hw.drop (List.sublist_cons_self _ _)) _ (FRel.cons (hf.ext hE) d (by unfold inst; rw [rat_add]; rfl))
  | false =>
    rw [hq, cond_false, repK_eq, HT.insK_eq] at h
    refine LX.makeN (o := { o with guard := none }) (k := q) hEl hz ho (evlit hf hx) (evlit hf hy) (by omega) (by omega) rfl hd hdn fun b => ?_
    have hE := Ext.add hS.fresh b q
    have e1 : (madeCells z.cells (q * 1)).toList = List.replicate q z := by rw [hz1, Nat.mul_one, toList_madeCells_one]
    rw [e1]
    have hST := hS.new hs hH b q (m := .row q e 1 (vtRep (.lit z) q 1 .nil)) (it := .row q e 1 (List.replicate q (.lit z))) ⟨_, rfl, by rw [vtRep_eq]; simpa using vtOf_rel (List.replicate q (.lit z)) [] .nil (VRel.nil _)⟩
      (instI_mkrow (rat_add _ _ _ _) (by have := instL_lit (ρ.add nx b q) (List.replicate q z); rwa [List.map_replicate] at this))
    exact hk _ _ _ h _ _ hST (fun w hw => hw.drop (List.sublist_cons_self _ _)) _ (FRel.cons (hf.ext hE) d (by unfold inst; rw [rat_add]; simp))
/-- 'make(T, 0, k)' -/
noncomputable def mk0K (c : Nat) (T : HT) (nx : Nat) (e : TypeId) (size by' : Nat) (b : AV) (k : AV → HT → Nat → R) : R :=
  natK c b fun q => bif Nat.ble (Nat.mul by' q) 1000000 then bif Nat.ble q 1000000 then T.insK nx (.row 0 e size .nil) fun T1 => k (.sl nx 0 0 0) T1 (Nat.add nx 1) else .bad c else .bad c
theorem LV.mk0 {k : AV → HT → Nat → R} {e size by' : Nat} {z : Value} {kl : IntKind} (hS : ST w0 base E ρ0 ρ T ro nx its) (h : mk0K c T nx e size by' b k = .ok r T' n') (hx : evalA af x = some (.lit (.int kl 0))) (hy : evalA af y = some b) (ho : o.op = .makeSlice t x y) (he : elemT P t = some (e, size, by', z))
    (hw : wantA ops af o.guard = some true) (hd : o.dst = some d) (hdn : Nat.blt d n = true)
    (hk : ∀ v T1 n1, k v T1 n1 = .ok r T' n' → After P ops n D Q w0 base E ρ0 ro its T1 n1 ((d, v) :: af) rest) : LV P ops n D (.plain Q) w0 base ρ its af (o :: rest) := fun l hf => by
  obtain ⟨kk, q, rfl, h⟩ := natK_inv h
  obtain ⟨hb1, h⟩ := bif_ok h
  obtain ⟨hb2, h⟩ := bif_ok h
  have hb1' : by' * q ≤ 1000000 := by simpa using hb1
  have hb2' : q ≤ 1000000 := by simpa using hb2
  obtain ⟨hEl, _, _⟩ := elemT_ok he
  obtain ⟨hp, hs, hH⟩ := hS.hp
  refine LX.unguard (wantA_ok hf hw) ?_
  rw [HT.insK_eq] at h
  refine LX.make0 (o := { o with guard := none }) (c := q) hEl ho (evlit hf hx) (evlit hf hy) (by omega) (by omega) rfl hd hdn fun b => ?_
  have hE := Ext.add hS.fresh b q
  have hST := hS.new hs hH b q (m := .row 0 e size .nil) ⟨[], rfl, VRel.nil _⟩ (instI_mkrow (rat_add _ _ _ _) rfl)
  exact hk _ _ _ h _ _ hST (fun w hw => hw.drop (List.sublist_cons_self _ _)) _ (FRel.cons (hf.ext hE) d (by unfold inst; rw [rat_add]; rfl))
/-! stores -/
noncomputable def stK (c : Nat) (T : HT) (a v : AV) (k : HT → R) : R :=
  ptrK c a fun id off => bif v.one then T.getK (fun m => MI.rec (fun cs ty => lsetK c cs off v fun cs' => T.insK id (.obj cs' ty) k) (fun q e s vt => vt.updK c (Nat.add off 1) v fun vt' => T.insK id (.row q e s vt') k) (fun _ _ _ _ => .bad c) m) (.bad c) id else .bad c
/-- an item's cell is written -/
theorem store_go {id off i : Nat} {it : AI} {u : Value} {hp : AH} (hS : ST w0 base E ρ0 ρ T ro nx its) (hs : EY.Sub T hp) (hH : instH ρ hp = some its) (hfd : findA hp id 0 = some (i, it)) {m' : MI} {v : AV} (hm : MRel m' (putIt it (it.cells.set off v))) (hlt : off < it.cells.length) (hv : inst ρ v = some u) (h1 : u.oneCell' = true) {p : Nat × Nat} (hp1 : rat ρ.blk id = some p)
    (ho : o.op = .store t x y) (hx : evl l x = some (.pointer (some ⟨p.1, off, none⟩))) (hy : evl l y = some u) (hz : sizeT P t = some 1) (hg : o.guard = none) (hd : o.dst = none)
    (hgo : ∀ its1, ST w0 base E ρ0 ρ (T.ins id m') ro nx its1 → LX P ops n D (.plain Q) l (WA w0 base its1) rest) : LX P ops n D (.plain Q) l (WA w0 base its) (o :: rest) := by
  obtain ⟨xi, _, hxs, hi⟩ := findA_ok hH hfd
  rw [Nat.sub_zero] at hxs
  cases it with
  | obj c0 T0 =>
    obtain ⟨p2, us, g1, g2, rfl⟩ := instI_obj hi
    rw [hp1] at g1; cases g1
    have hlen := instL_len g2
    have e := setH_ok hH hfd (instI_mkobj (ρ := ρ) (id := id) (T := T0) hp1 (instL_set off g2 hv))
    exact LX.storeB i (sizeT_ok hz) ho hx hy h1 hxs (List.getElem?_eq_getElem (show off < us.length by rw [hlen]; exact hlt)) hg hd (hgo _ ⟨⟨_, hs.set hfd hm, e⟩, hS.fresh, hS.ro, hS.env, hS.ext, hS.opq⟩)
  | row q e s c0 =>
    obtain ⟨p2, us, g1, g2, rfl⟩ := instI_row hi
    rw [hp1] at g1; cases g1
    have hlen := instL_len g2
    have e' := setH_ok hH hfd (instI_mkrow (ρ := ρ) (id := id) (n := q) (e := e) (s := s) hp1 (instL_set off g2 hv))
    exact LX.storeR (g := some p.1) i (sizeT_ok hz) ho hx hy h1 hxs (show off < us.length by rw [hlen]; exact hlt) hg hd (hgo _ ⟨⟨_, hs.set hfd hm, e'⟩, hS.fresh, hS.ro, hS.env, hS.ext, hS.opq⟩)
  | mp ks vs bs ck => exact absurd hlt (by simp [AI.cells])
theorem LV.st {k : HT → R} (hS : ST w0 base E ρ0 ρ T ro nx its) (h : stK c T a v k = .ok r T' n') (hx : evalA af x = some a) (hy : evalA af y = some v) (ho : o.op = .store t x y) (hz : sizeT P t = some 1)
    (hw : wantA ops af o.guard = some true) (hd : o.dst = none)
    (hk : ∀ T1 its1, k T1 = .ok r T' n' → ST w0 base E ρ0 ρ T1 ro nx its1 → LV P ops n D (.plain Q) w0 base ρ its1 af rest) : LV P ops n D (.plain Q) w0 base ρ its af (o :: rest) := fun l hf => by
  obtain ⟨id, off, rfl, h⟩ := ptrK_inv h
  obtain ⟨hone, h⟩ := bif_ok h
  refine LX.unguard (wantA_ok hf hw) ?_
  obtain ⟨ux, g1, g2⟩ := hf.eval hx
  obtain ⟨p, hp1, rfl⟩ := inst_ptr g2
  obtain ⟨uy, g3, g4⟩ := hf.eval hy
  obtain ⟨hp, hs, hH⟩ := hS.hp
  rcases HT.getK_inv h with ⟨m, h1, h2⟩ | ⟨_, h2⟩
  · obtain ⟨i, it, hfd, hm⟩ := hs id m h1
    cases m with
    | obj cs ty =>
      obtain rfl := hm
      obtain ⟨hlt, h3⟩ := lsetK_inv (h2 : lsetK c cs off v (fun cs' => T.insK id (.obj cs' ty) k) = _)
      rw [HT.insK_eq] at h3
      exact store_go (o := { o with guard := none }) hS hs hH hfd (m' := .obj (cs.set off v) ty) rfl hlt g4 (AV.one_ok g4 hone) hp1 ho g1 g3 hz rfl hd fun its1 hST => hk _ _ h3 hST l hf
    | row q e s vt =>
      obtain ⟨cs, rfl, hv⟩ := hm
      obtain ⟨y0, h3, h4⟩ := VT.updK_inv (h2 : vt.updK c (off + 1) v (fun vt' => T.insK id (.row q e s vt') k) = _)
      rw [HT.insK_eq] at h4
      have hlt := hv.lt h3
      exact store_go (o := { o with guard := none }) hS hs hH hfd (m' := .row q e s (vt.ins (off + 1) v)) ⟨_, rfl, hv.set hlt v⟩ hlt g4 (AV.one_ok g4 hone) hp1 ho g1 g3 hz rfl hd fun its1 hST => hk _ _ h4 hST l hf
    | mp ks vs bs ck => cases h2
  · cases h2
/-- several cells -/
noncomputable def lsetsK (c : Nat) (l : List AV) : List AV → Nat → (List AV → R) → R :=
  List.rec (motive := fun _ => List AV → Nat → (List AV → R) → R) (fun cs _ k => k cs) (fun v _ ih cs off k => bif v.one then lsetK c cs off v fun cs' => ih cs' (Nat.add off 1) k else .bad c) l
def asets : List AV → List AV → Nat → List AV
  | [], cs, _ => cs
  | v :: r, cs, off => asets r (cs.set off v) (off + 1)
theorem lsetsK_inv {l : List AV} : ∀ {cs : List AV} {off : Nat} {k : List AV → R}, lsetsK c l cs off k = .ok r T' n' → l.all (·.one) = true ∧ (l = [] ∨ off + l.length ≤ cs.length) ∧ k (asets l cs off) = .ok r T' n' := by
  induction l with
  | nil => intro cs off k h; exact ⟨rfl, .inl rfl, h⟩
  | cons v t ih =>
    intro cs off k h
    have h' : (bif v.one then lsetK c cs off v (fun cs' => lsetsK c t cs' (off + 1) k) else .bad c) = _ := h
    obtain ⟨h1, h2⟩ := bif_ok h'
    obtain ⟨h3, h4⟩ := lsetK_inv h2
    obtain ⟨h5, h6, h7⟩ := ih h4
    refine ⟨by simp [h1, h5], .inr ?_, h7⟩
    rcases h6 with rfl | h6
    · simp; omega
    · simp at h6 ⊢; omega
noncomputable def vsetsK (c : Nat) (l : List AV) : VT → Nat → (VT → R) → R :=
  List.rec (motive := fun _ => VT → Nat → (VT → R) → R) (fun cs _ k => k cs) (fun v _ ih vt off k => bif v.one then vt.updK c (Nat.add off 1) v fun vt' => ih vt' (Nat.add off 1) k else .bad c) l
def vsets : List AV → VT → Nat → VT
  | [], vt, _ => vt
  | v :: r, vt, off => vsets r (vt.ins (off + 1) v) (off + 1)
theorem vsetsK_inv {l : List AV} : ∀ {vt : VT} {cs : List AV} {off : Nat} {k : VT → R}, VRel vt cs → vsetsK c l vt off k = .ok r T' n' → l.all (·.one) = true ∧ (l = [] ∨ off + l.length ≤ cs.length) ∧ VRel (vsets l vt off) (asets l cs off) ∧ k (vsets l vt off) = .ok r T' n' := by
  induction l with
  | nil => intro vt cs off k hv h; exact ⟨rfl, .inl rfl, hv, h⟩
  | cons v t ih =>
    intro vt cs off k hv h
    have h' : (bif v.one then vt.updK c (off + 1) v (fun vt' => vsetsK c t vt' (off + 1) k) else .bad c) = _ := h
    obtain ⟨h1, h2⟩ := bif_ok h'
    obtain ⟨y0, h3, h4⟩ := VT.updK_inv h2
    have hlt := hv.lt h3
    obtain ⟨h5, h6, h7, h8⟩ := ih (hv.set hlt v) h4
    refine ⟨by simp [h1, h5], .inr ?_, h7, h8⟩
    rcases h6 with rfl | h6
    · simp; omega
    · simp at h6 ⊢; omega
theorem asets_over : ∀ (l cs : List AV) (off : Nat), off + l.length ≤ cs.length → asets l cs off = overlay cs off l
  | [], cs, off, _ => by simp [asets, overlay]
  | v :: r, cs, off, h => by
    have h' : off < cs.length := by simp at h; omega
    unfold asets
    rw [asets_over r (cs.set off v) (off + 1) (by simp at h ⊢; omega)]
    unfold overlay
    rw [List.take_succ_eq_append_getElem (by simpa using h'), List.drop_set_of_lt (by omega), List.take_set_of_le (Nat.le_refl _)]
    simp [Nat.add_assoc, Nat.add_comm 1]
def aggK (c : Nat) (v : AV) (f : List AV → R) : R :=
  match v with
  | .agg cs => f cs
  | .lit (.agg cs) => f (cs.toList.map .lit)
  | _ => .bad c
noncomputable def stAK (c : Nat) (T : HT) (a v : AV) (q : Nat) (k : HT → R) : R :=
  ptrK c a fun id off => aggK c v fun l => bif Nat.beq l.length q then T.getK (fun m => MI.rec (fun cs ty => lsetsK c l cs off fun cs' => T.insK id (.obj cs' ty) k) (fun q e s vt => vsetsK c l vt off fun vt' => T.insK id (.row q e s vt') k) (fun _ _ _ _ => .bad c) m) (.bad c) id else .bad c
theorem LV.stA {k : HT → R} {q : Nat} (hS : ST w0 base E ρ0 ρ T ro nx its) (h : stAK c T a v q k = .ok r T' n') (hx : evalA af x = some a) (hy : evalA af y = some v) (ho : o.op = .store t x y) (hz : aggT P t = some q) (hq : Nat.blt 0 q = true)
    (hw : wantA ops af o.guard = some true) (hd : o.dst = none)
    (hk : ∀ T1 its1, k T1 = .ok r T' n' → ST w0 base E ρ0 ρ T1 ro nx its1 → LV P ops n D (.plain Q) w0 base ρ its1 af rest) : LV P ops n D (.plain Q) w0 base ρ its af (o :: rest) := fun l hf => by
  obtain ⟨id, off, rfl, hh⟩ := ptrK_inv h
  refine LX.unguard (wantA_ok hf hw) ?_
  obtain ⟨ux, g1, g2⟩ := hf.eval hx
  obtain ⟨p, hp1, rfl⟩ := inst_ptr g2
  obtain ⟨uy, g3, g4⟩ := hf.eval hy
  obtain ⟨hp, hs, hH⟩ := hS.hp
  have key : ∃ cs vs, instL ρ cs = some vs ∧ uy = .agg vs.toArray ∧ (bif Nat.beq cs.length q then T.getK (fun m => MI.rec (fun cs0 ty => lsetsK c cs cs0 off fun cs' => T.insK id (.obj cs' ty) k) (fun q e s vt => vsetsK c cs vt off fun vt' => T.insK id (.row q e s vt') k) (fun _ _ _ _ => .bad c) m) (.bad c) id else .bad c) = .ok r T' n' := by
    unfold aggK at hh
    split at hh
    · rename_i cs
      obtain ⟨vs, e1, rfl⟩ := inst_agg g4
      exact ⟨cs, vs, e1, rfl, hh⟩
    · rename_i cs
      obtain rfl := inst_lit g4
      exact ⟨_, cs.toList, instL_lit ρ _, by simp, hh⟩
    · cases hh
  obtain ⟨cs, vs, hcs, rfl, h⟩ := key
  obtain ⟨hlq, h⟩ := bif_ok h
  have hlq := beqT hlq
  have hq0 : 0 < q := by simpa using hq
  have hvl := instL_len hcs
  rcases HT.getK_inv h with ⟨m, h1, h2⟩ | ⟨_, h2⟩
  · obtain ⟨i, it, hfd, hm⟩ := hs id m h1
    have go : ∀ (m' : MI), cs.all (·.one) = true → off + cs.length ≤ it.cells.length → MRel m' (putIt it (overlay it.cells off cs)) → k (T.ins id m') = .ok r T' n' → LX P ops n D (.plain Q) l (WA w0 base its) ({ o with guard := none } :: rest) := fun m' hall hle hm' hk' =>
      storeN_go (o := { o with guard := none }) hH hfd (aggT_ok hz) ho hp1 g1 g3 hcs (ones_ok hcs hall) (by rw [hvl]; exact hlq) (by rw [hvl]; exact hle) rfl hd fun its' e => hk _ _ hk' ⟨⟨_, hs.set hfd hm', e⟩, hS.fresh, hS.ro, hS.env, hS.ext, hS.opq⟩ l hf
    cases m with
    | obj c0 ty =>
      obtain rfl := hm
      obtain ⟨e1, e2, e3⟩ := lsetsK_inv (h2 : lsetsK c cs c0 off (fun cs' => T.insK id (.obj cs' ty) k) = _)
      rw [HT.insK_eq] at e3
      have hle : off + cs.length ≤ c0.length := by
        rcases e2 with rfl | e2
        · simp at hlq; omega
        · exact e2
      exact go _ e1 hle (by rw [asets_over _ _ _ hle]; rfl) e3
    | row q' e s vt =>
      obtain ⟨c0, rfl, hv⟩ := hm
      obtain ⟨e1, e2, e4, e3⟩ := vsetsK_inv hv (h2 : vsetsK c cs vt off (fun vt' => T.insK id (.row q' e s vt') k) = _)
      rw [HT.insK_eq] at e3
      have hle : off + cs.length ≤ c0.length := by
        rcases e2 with rfl | e2
        · simp at hlq; omega
        · exact e2
      exact go (.row q' e s (vsets cs vt off)) e1 hle ⟨_, by rw [asets_over cs c0 off hle]; rfl, e4⟩ e3
    | mp ks vs bs ck => cases h2
  · cases h2
end
end Go.EY
