/-
  Proved here: a small machine's stores, appends and calls, and its lists of operations: they do what the model's do.
-/
import Derived.Test.YtickdimknfeddaaGreatDoorExD
namespace Go.EX
open Go.SX Go.RowKit
def setK : AH → Nat → Nat → AI → AH
  | [], _, _, _ => []
  | (k, it) :: t, id, k', x => match Nat.beq k id with | true => (k', x) :: t | false => (k, it) :: setK t id k' x
theorem setK_ok {ρ : Rho} {y : It} {z : AI} {k' : Nat} : ∀ {hp : AH} {xs : List It} {id j i : Nat} {it : AI}, instH ρ hp = some xs → findA hp id j = some (i, it) → instI ρ k' z = some y → instH ρ (setK hp id k' z) = some (xs.set (i - j) y)
  | [], _, _, _, _, _, _, h, _ => by cases h
  | (k, it') :: t, xs, id, j, i, it, hx, h, hz => by
    obtain ⟨x, xs', rfl, h1, h2⟩ := instH_cons hx
    unfold findA at h
    unfold setK
    cases hb : Nat.beq k id with
    | true =>
      rw [hb] at h
      cases h
      rw [Nat.sub_self]
      exact instH_mk hz h2
    | false =>
      rw [hb] at h
      obtain ⟨y', h3, _, _⟩ := findA_ok h2 h
      have := setK_ok (z := z) h2 h hz
      rw [show i - j = (i - (j + 1)) + 1 by omega]
      exact instH_mk h1 this
section
variable {P : Program} {w0 : World} {base : Nat} {ρ : Rho} {hp hp' : AH} {ro : List AH} {nx : Nat} {its : List It} {E : List (Nat × AV)} {af : AF} {l : Fr} {ops : Array Oper} {n : Nat} {D : List Deferred} {Q : Exit → Act → World → Prop} {rest : List Oper} {o : Oper} {d : Nat} {v : AV}
/-! append -/
def rowOf (hp : AH) (x : AV) (e size : Nat) : Option (Option Nat × Nat × List AV) :=
  match x with
  | .lit (.slice none 0 0) => some (none, 0, [])
  | .sl id 0 n 0 => match findA hp id 0 with
    | some (_, .row m e' s' cs) => match Nat.beq m n && (Nat.beq e e' && Nat.beq size s') with
      | true => some (some id, n, cs)
      | false => none
    | _ => none
  | _ => none
def newsOf (hp : AH) (ro : List AH) (y : AV) (size : Nat) : Option (Nat × List AV) :=
  match y with
  | .sl id off j _ => (lookA hp ro id).bind fun it => match Nat.beq ((it.cells.drop off).take (j * size)).length (j * size) && ((it.cells.drop off).take (j * size)).all (·.one) with
    | true => some (j, (it.cells.drop off).take (j * size))
    | false => none
  | _ => none
def appA (P : Program) (ro : List AH) (hp : AH) (nx : Nat) (af : AF) (c : Call) : Option (AV × AH) :=
  match c.callee, c.args.toList, c.argTypes.toList with
  | .builtin .append, [x, y], [t, t'] => match Nat.beq t t', elemT P t with
    | true, some (e, size, by', _) => (evalA af x).bind fun vx => (evalA af y).bind fun vy => (rowOf hp vx e size).bind fun r => (newsOf hp ro vy size).bind fun q =>
      match Nat.blt 0 q.1 && (Nat.ble ((r.2.1 + q.1) * by') 140737488355328 && Nat.ble (r.2.1 + q.1) 9223372036854775807) with
      | true => some (.sl nx 0 (r.2.1 + q.1) 0, match r.1 with
        | some id => setK hp id nx (.row (r.2.1 + q.1) e size (r.2.2 ++ q.2))
        | none => (nx, .row (r.2.1 + q.1) e size (r.2.2 ++ q.2)) :: hp)
      | false => none
    | _, _ => none
  | _, _, _ => none
theorem append_go {t e size bytes j c cap k i : Nat} {g : Option Nat} {xs news : List Value} {a : Addr} {x y : Operand} {cs : List AV} {ats : Array TypeId} (he : Elem P t e size bytes)
    (ho : o.op = .call { callee := .builtin .append, args := #[x, y], argTypes := ats }) (hat : ats = #[t, t])
    (hx : evl l x = some (rv g k cap)) (hy : evl l y = some (.slice (some a) j c)) (hi : its[i]? = some (.row g cap k e size xs))
    (hl : news.length = j * size) (hnews : ∀ w, WA w0 base its w → ∀ q u, news[q]? = some u → w.cell? (a.add q) = some u) (h1 : news.all (·.oneCell') = true)
    (hbytes : (k + j) * bytes ≤ 140737488355328) (h63 : k + j ≤ 9223372036854775807) (hj : 0 < j) (hF : Fresh ρ nx) (hcs : ∀ ρ', Ext ρ ρ' → instL ρ' cs = some (xs ++ news))
    (hH : ∀ b c, instI (ρ.add nx b c) nx (.row (k + j) e size cs) = some (.row (some b) c (k + j) e size (xs ++ news)) → instH (ρ.add nx b c) hp' = some (its.set i (.row (some b) c (k + j) e size (xs ++ news))))
    (hg : o.guard = none) (hd : o.dst = some d) (hdn : Nat.blt d n = true)
    (hk : Next P ops n D Q w0 base ρ hp' (nx + 1) (.sl nx 0 (k + j) 0) d l rest) : LX P ops n D (.plain Q) l (WA w0 base its) (o :: rest) := by
  refine LX.append0 i he ho hat hx hy hi hl hnews h1 hbytes h63 hg hd hdn fun g' cap' => ?_
  have hlt : i < its.length := (List.getElem?_eq_some_iff.1 hi).1
  cases g' with
  | none =>
    refine LX.never fun w hw => ?_
    have h2 := hw.get (i := i) (it := .row none cap' (k + j) e size (xs ++ news)) (List.getElem?_set_self hlt)
    obtain ⟨b, _, hb, _⟩ := row_some h2 (by omega)
    cases hb
  | some b =>
    have hE := Ext.add hF b cap'
    have hI := instI_mkrow (ρ := ρ.add nx b cap') (id := nx) (n := k + j) (e := e) (s := size) (rat_add _ _ _ _) (hcs _ hE)
    exact hk (ρ.add nx b cap') _ _ hE (hF.add b cap') (by unfold inst; rw [rat_add]; rfl) (hH b cap' hI)
theorem appA_ok (hf : FRel ρ af l) (hH : instH ρ hp = some its) (hR : RO w0 base ρ ro) (hF : Fresh ρ nx) {c : Call} (ho : o.op = .call c) (h : appA P ro hp nx af c = some (v, hp')) (hg : o.guard = none) (hd : o.dst = some d) (hdn : Nat.blt d n = true)
    (hk : Next P ops n D Q w0 base ρ hp' (nx + 1) v d l rest) : LX P ops n D (.plain Q) l (WA w0 base its) (o :: rest) := by
  unfold appA at h
  split at h
  · rename_i x y t t' hc ha hat
    split at h
    · rename_i e size by' z htt he
      obtain ⟨vx, hx, h⟩ := Option.bind_eq_some_iff.1 h
      obtain ⟨vy, hy, h⟩ := Option.bind_eq_some_iff.1 h
      obtain ⟨r, hr, h⟩ := Option.bind_eq_some_iff.1 h
      obtain ⟨q, hq, h⟩ := Option.bind_eq_some_iff.1 h
      split at h
      · rename_i hb
        simp only [Bool.and_eq_true] at hb
        have hj : 0 < q.1 := by simpa using hb.1
        have hby : (r.2.1 + q.1) * by' ≤ 140737488355328 := by simpa using hb.2.1
        have h63 : r.2.1 + q.1 ≤ 9223372036854775807 := by simpa using hb.2.2
        have htt' : t = t' := by simpa using htt
        subst htt'
        obtain ⟨hEl, _, _⟩ := elemT_ok he
        have ho' : o.op = .call { callee := .builtin .append, args := #[x, y], argTypes := c.argTypes } := by
          rw [ho]; congr 1; cases c; simp only at hc ha ⊢; subst hc; congr 1; rw [← ha]
        have hat' : c.argTypes = #[t, t] := by
          rw [← Array.toArray_toList (xs := c.argTypes), hat]
        obtain ⟨ux, h1, h2⟩ := hf.eval hx
        obtain ⟨uy, h3, h4⟩ := hf.eval hy
        unfold newsOf at hq
        split at hq
        · rename_i id2 off2 j2 skip2 heqv
          obtain ⟨it, hl, hq⟩ := Option.bind_eq_some_iff.1 hq
          split at hq
          · rename_i hb2
            cases hq
            simp only [Bool.and_eq_true] at hb2
            obtain ⟨p, us, e1, e2, e3, _⟩ := look_ok hH hR hl
            obtain ⟨p', hp', rfl⟩ := inst_sl h4
            rw [e1] at hp'; cases hp'
            have e4 := instL_take (j2 * size) (instL_drop off2 e2)
            have hlen : ((us.drop off2).take (j2 * size)).length = j2 * size := by rw [instL_len e4]; simpa using hb2.1
            have hnews : ∀ w, WA w0 base its w → ∀ q u, ((us.drop off2).take (j2 * size))[q]? = some u → w.cell? ((⟨p.1, off2, none⟩ : Addr).add q) = some u := fun w hw q u hu => by
              rw [Addr.add_lit]
              refine e3 w hw _ _ ?_
              rw [List.getElem?_take] at hu
              split at hu
              · rw [List.getElem?_drop] at hu; exact hu
              · cases hu
            have h1c := ones_ok e4 hb2.2
            unfold rowOf at hr
            split at hr
            · cases hr
              cases h
              obtain rfl := inst_lit h2
              simp only [Nat.zero_add] at hk hby h63 ⊢
              refine LX.world (W' := WA w0 base (.row none 0 0 e size [] :: its)) (fun w hw => hw.nilRow e size) ?_
              refine append_go (i := 0) (k := 0) (g := none) (cap := 0) (xs := []) (cs := [] ++ (it.cells.drop off2).take (j2 * size)) hEl ho' hat' h1 h3 rfl hlen (fun w hw => hnews w (hw.drop (List.sublist_cons_self _ _))) h1c (by rw [Nat.zero_add]; exact hby) (by omega) hj hF
                (fun ρ' hE => by simpa using instL_ext hE _ _ e4) (fun b c hI => ?_) hg hd hdn (by simp only [Nat.zero_add]; exact hk)
              simp only [Nat.zero_add] at hI ⊢
              exact instH_mk hI (instH_ext (Ext.add hF b c) hH)
            · rename_i id n'
              split at hr
              · rename_i i m e' s' cs hfd
                split at hr
                · rename_i hb3
                  cases hr
                  cases h
                  simp only [Bool.and_eq_true] at hb3
                  have hm : m = n' := by simpa using hb3.1
                  have hee : e = e' := by simpa using hb3.2.1
                  have hss : size = s' := by simpa using hb3.2.2
                  subst hm; subst hee; subst hss
                  obtain ⟨px, hpx, rfl⟩ := inst_sl h2
                  obtain ⟨x', _, hxs, hi⟩ := findA_ok hH hfd
                  obtain ⟨p2, us2, g1, g2, rfl⟩ := instI_row hi
                  rw [hpx] at g1; cases g1
                  have h1' : evl l x = some (rv (some px.1) m px.2) := h1
                  refine append_go (cs := cs ++ (it.cells.drop off2).take (j2 * size)) hEl ho' hat' h1' h3 hxs hlen hnews h1c hby h63 hj hF
                    (fun ρ' hE => instL_app (instL_ext hE _ _ g2) (instL_ext hE _ _ e4)) (fun b c hI => ?_) hg hd hdn hk
                  exact setK_ok (instH_ext (Ext.add hF b c) hH) hfd hI
                · cases hr
              · cases hr
            · cases hr
          · cases hq
        · cases hq
      · cases h
    · cases h
  · cases h
/-! stores -/
theorem setAll_over : ∀ (vs cs : List Value) (off : Nat), off + vs.length ≤ cs.length → setAll cs off vs = overlayV cs off vs
  | [], cs, off, _ => by simp [setAll, overlayV]
  | v :: r, cs, off, h => by
    have h' : off < cs.length := by simp at h; omega
    unfold setAll
    rw [setAll_over r (cs.set off v) (off + 1) (by simp at h ⊢; omega)]
    unfold overlayV
    rw [List.take_succ_eq_append_getElem (by simpa using h'), List.drop_set_of_lt (by omega), List.take_set_of_le (Nat.le_refl _)]
    simp [Nat.add_assoc, Nat.add_comm 1]
theorem WA.setRowCells {i cap k e size : Nat} {g : Option Nat} : ∀ (vs cs : List Value) (off : Nat) {its : List It} {w : World}, off + vs.length ≤ cs.length → WA w0 base its w → its[i]? = some (.row g cap k e size cs) → WA w0 base (its.set i (.row g cap k e size (setAll cs off vs))) (w.setCells (g.getD 0) off vs)
  | [], cs, off, its, w, _, h, hi => by
    have : its.set i (.row g cap k e size cs) = its := by
      have hlt : i < its.length := (List.getElem?_eq_some_iff.1 hi).1
      have hget : its[i] = .row g cap k e size cs := (List.getElem?_eq_some_iff.1 hi).2
      rw [← hget]; exact List.set_getElem_self hlt
    show WA w0 base (its.set i (.row g cap k e size cs)) w
    rw [this]; exact h
  | v :: r, cs, off, its, w, hle, h, hi => by
    have hlt : i < its.length := (List.getElem?_eq_some_iff.1 hi).1
    have h1 := h.setRowCell (off := off) hi (by simp at hle; omega) v
    have h2 := WA.setRowCells r (cs.set off v) (off + 1) (by simp at hle ⊢; omega) h1 (List.getElem?_set_self hlt)
    rw [List.set_set] at h2
    exact h2
/-- a value of several cells is written into what is owned -/
theorem LX.storeN {b off k : Nat} {vs : List Value} {t : TypeId} {x y : Operand} {W' : World → Prop} (ht : AggT P t k) (ho : o.op = .store t x y) (hx : evl l x = some (.pointer (some ⟨b, off, none⟩))) (hy : evl l y = some (.agg vs.toArray)) (h1 : vs.all (·.oneCell') = true) (hk : vs.length = k)
    (hW : ∀ w, WA w0 base its w → (∀ j, j < k → (∃ u, w.cell? ⟨b, off + j, none⟩ = some u) ∧ w.frozen? ⟨b, off + j, none⟩ = false) ∧ W' (w.setCells b off vs)) (hg : o.guard = none) (hd : o.dst = none) (h : LX P ops n D (.plain Q) l W' rest) :
    LX P ops n D (.plain Q) l (WA w0 base its) (o :: rest) := by
  intro a w ha hw
  obtain ⟨g1, g2⟩ := hW w hw
  have h2 := run_storeAt_mid (P := P) w b off t vs.toArray (fun j hj => by
    obtain ⟨⟨u, hu⟩, hf⟩ := g1 j (by simp at hj; omega)
    exact ⟨by rw [hu]; rfl, hf⟩) (by rw [ht.info]; simp [hk]) (all_oneCell_toArray (List.all_eq_true.1 h1))
  unfold wpList
  rw [if_pos (wanted_none hg)]
  left
  unfold Oper.wp
  have : (execOp a.eval o).run P w = .ok .skip (w.setCells b off vs) := by
    simp only [execOp, ho, ha.eval _ _ hx, ha.eval _ _ hy]
    rw [Sem.run_bind, h2]
    rfl
  rw [this]
  simp only [Oper.upon, hd]
  exact h _ _ ha g2
def putIt (it : AI) (cs : List AV) : AI :=
  match it with
  | .obj _ T => .obj cs T
  | .row n e s _ => .row n e s cs
  | .mp ks vs bs ck => .mp ks vs bs ck
def storeA (P : Program) (hp : AH) (af : AF) (t : TypeId) (x y : Operand) : Option AH :=
  match evalA af x with
  | some (.ptr id off) => match findA hp id 0 with
    | some (_, it) => (evalA af y).bind fun v => match oneT P t with
      | true => match sizeT P t with
        | some 1 => match v.one && Nat.blt off it.cells.length with
          | true => some (setH hp id (putIt it (it.cells.set off v)))
          | false => none
        | _ => none
      | false => match aggT P t, v with
        | some k, .agg cs => match Nat.beq cs.length k && (cs.all (·.one) && Nat.ble (off + cs.length) it.cells.length) with
          | true => some (setH hp id (putIt it (overlay it.cells off cs)))
          | false => none
        | some k, .lit (.agg cs) => match Nat.beq cs.size k && (cs.toList.all (·.oneCell') && Nat.ble (off + cs.size) it.cells.length) with
          | true => some (setH hp id (putIt it (overlay it.cells off (cs.toList.map .lit))))
          | false => none
        | _, _ => none
    | none => none
  | _ => none
theorem storeN_go {id off k i : Nat} {it : AI} {cs : List AV} {vs : List Value} {t : TypeId} {x y : Operand} (hH : instH ρ hp = some its) (hfd : findA hp id 0 = some (i, it)) (ht : AggT P t k) (ho : o.op = .store t x y) {p : Nat × Nat} (hp1 : rat ρ.blk id = some p) (hx : evl l x = some (.pointer (some ⟨p.1, off, none⟩))) (hy : evl l y = some (.agg vs.toArray))
    (hcs : instL ρ cs = some vs) (h1 : vs.all (·.oneCell') = true) (hk : vs.length = k) (hle : off + vs.length ≤ it.cells.length) (hg : o.guard = none) (hd : o.dst = none)
    (hgo : ∀ its', instH ρ (setH hp id (putIt it (overlay it.cells off cs))) = some its' → LX P ops n D (.plain Q) l (WA w0 base its') rest) : LX P ops n D (.plain Q) l (WA w0 base its) (o :: rest) := by
  obtain ⟨xi, _, hxs, hi⟩ := findA_ok hH hfd
  rw [Nat.sub_zero] at hxs
  cases it with
  | obj c0 T =>
    obtain ⟨p2, us, g1, g2, rfl⟩ := instI_obj hi
    rw [hp1] at g1; cases g1
    have hlen := instL_len g2
    have hle' : off + vs.length ≤ us.length := by rw [hlen]; exact hle
    have e := setH_ok hH hfd (instI_mkobj (ρ := ρ) (id := id) (T := T) hp1 (overlay_ok off g2 hcs))
    refine LX.storeN (W' := WA w0 base (its.set i (SX.blk p.1 (overlayV us off vs) T))) ht ho hx hy h1 hk (fun w hw => ⟨fun j hj => ⟨⟨_, hw.cell hxs (List.getElem?_eq_getElem (by omega))⟩, hw.frozen hxs⟩, ?_⟩) hg hd (hgo _ e)
    rw [← setAll_over vs us off hle']
    exact WA.setCells vs us off hw hxs
  | row m e s c0 =>
    obtain ⟨p2, us, g1, g2, rfl⟩ := instI_row hi
    rw [hp1] at g1; cases g1
    have hlen := instL_len g2
    have hle' : off + vs.length ≤ us.length := by rw [hlen]; exact hle
    have e' := setH_ok hH hfd (instI_mkrow (ρ := ρ) (id := id) (n := m) (e := e) (s := s) hp1 (overlay_ok off g2 hcs))
    refine LX.storeN (W' := WA w0 base (its.set i (.row (some p.1) p.2 m e s (overlayV us off vs)))) ht ho hx hy h1 hk (fun w hw => ⟨fun j hj => ?_, ?_⟩) hg hd (hgo _ e')
    · have := hw.rowCell hxs (List.getElem?_eq_getElem (show off + j < us.length by omega))
      exact ⟨⟨_, this.1⟩, this.2.1⟩
    · rw [← setAll_over vs us off hle']
      exact WA.setRowCells vs us off hle' hw hxs
  | mp ks0 vs0 bs0 ck0 =>
    have hz : vs = [] := List.eq_nil_of_length_eq_zero (by have : off + vs.length ≤ 0 := hle; omega)
    subst hz
    have e := setH_ok hH hfd hi
    have hs : its.set (i - 0) xi = its := by
      rw [Nat.sub_zero]
      refine List.ext_getElem? fun j => ?_
      by_cases hij : i = j
      · subst hij
        rw [List.getElem?_set_self (List.getElem?_eq_some_iff.1 hxs).1, hxs]
      · rw [List.getElem?_set_ne hij]
    rw [hs] at e
    exact LX.storeN (W' := WA w0 base its) ht ho hx hy h1 hk (fun w hw => ⟨fun j hj => absurd hj (by simp at hk; omega), hw⟩) hg hd (hgo _ e)
theorem storeA_ok (hf : FRel ρ af l) (hH : instH ρ hp = some its) {t : TypeId} {x y : Operand} (ho : o.op = .store t x y) (h : storeA P hp af t x y = some hp') (hg : o.guard = none) (hd : o.dst = none)
    (hgo : ∀ its', instH ρ hp' = some its' → LX P ops n D (.plain Q) l (WA w0 base its') rest) : LX P ops n D (.plain Q) l (WA w0 base its) (o :: rest) := by
  unfold storeA at h
  split at h
  · rename_i id off hx
    split at h
    · rename_i i it hfd
      obtain ⟨v, hy, h⟩ := Option.bind_eq_some_iff.1 h
      obtain ⟨u, h1, h2⟩ := hf.eval hx
      obtain ⟨p, hp1, rfl⟩ := inst_ptr h2
      obtain ⟨uy, h3, h4⟩ := hf.eval hy
      split at h
      · split at h
        · rename_i hs
          split at h
          · rename_i hb
            cases h
            simp only [Bool.and_eq_true] at hb
            have hlt : off < it.cells.length := by simpa using hb.2
            have hone := AV.one_ok h4 hb.1
            obtain ⟨xi, _, hxs, hi⟩ := findA_ok hH hfd
            rw [Nat.sub_zero] at hxs
            cases it with
            | obj c0 T =>
              obtain ⟨p2, us, g1, g2, rfl⟩ := instI_obj hi
              rw [hp1] at g1; cases g1
              have hlen := instL_len g2
              have e := setH_ok hH hfd (instI_mkobj (ρ := ρ) (id := id) (T := T) hp1 (instL_set off g2 h4))
              exact LX.storeB i (sizeT_ok hs) ho h1 h3 hone hxs (List.getElem?_eq_getElem (show off < us.length by rw [hlen]; exact hlt)) hg hd (hgo _ e)
            | row m e s c0 =>
              obtain ⟨p2, us, g1, g2, rfl⟩ := instI_row hi
              rw [hp1] at g1; cases g1
              have hlen := instL_len g2
              have e' := setH_ok hH hfd (instI_mkrow (ρ := ρ) (id := id) (n := m) (e := e) (s := s) hp1 (instL_set off g2 h4))
              exact LX.storeR (g := some p.1) i (sizeT_ok hs) ho h1 h3 hone hxs (show off < us.length by rw [hlen]; exact hlt) hg hd (hgo _ e')
            | mp ks0 vs0 bs0 ck0 => exact absurd hlt (by simp [AI.cells])
          · cases h
        · cases h
      · split at h
        · rename_i k cs hk
          split at h
          · rename_i hb
            cases h
            simp only [Bool.and_eq_true] at hb
            obtain ⟨vs, g1, rfl⟩ := inst_agg h4
            have hl := instL_len g1
            exact storeN_go hH hfd (aggT_ok hk) ho hp1 h1 h3 g1 (ones_ok g1 hb.2.1) (by rw [hl]; simpa using hb.1) (by rw [hl]; simpa using hb.2.2) hg hd hgo
          · cases h
        · rename_i k cs hk
          split at h
          · rename_i hb
            cases h
            simp only [Bool.and_eq_true] at hb
            obtain rfl := inst_lit h4
            have h3' : evl l y = some (.agg cs.toList.toArray) := by simpa using h3
            exact storeN_go hH hfd (aggT_ok hk) ho hp1 h1 h3' (instL_lit ρ _) hb.2.1 (by simpa using hb.1) (by simpa using hb.2.2) hg hd hgo
          · cases h
        · cases h
    · cases h
  · cases h
end
end Go.EX
