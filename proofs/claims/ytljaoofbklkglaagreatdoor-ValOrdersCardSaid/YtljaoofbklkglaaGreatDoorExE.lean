/-
  Proved here: a small machine's stores, appends and calls, and its lists of operations: they do what the model's do.
-/
import Derived.Test.YtljaoofbklkglaaGreatDoorExD
namespace Go.EX
open Go.SX Go.RowKit
def setK : AH → Nat → Nat → AI → AH
  | [], _, _, _ => []
  | (k, it) :: t, id, k', x => match Nat.beq k id with | true => (k', x) :: t | false => (k, it) :: setK t id k' x
theorem setK_ok {ρ : Rho} {y : It} {z : AI} {k' : Nat} : ∀ {hp : AH} {xs : List It} {id j i : Nat} {it : AI}, instH ρ hp = some xs → findA hp id j = some (i, it) → instI ρ k' z = some y → instH ρ (setK hp id k' z) = some (xs.set (i - j) y)
  | [], _, _, _, _, _, _, h, _ => by cases h
  | (k, it') :: t, xs, id, j, i, it, hx, h, hz => by
    obtain ⟨x, xs', rfl, h1, h2⟩ := instH_cons hx
    unfold findA at h
    unfold setK
    cases hb : Nat.beq k id with
    | true =>
      rw [hb] at h
      cases h
      rw [Nat.sub_self]
      exact instH_mk hz h2
    | false =>
      rw [hb] at h
      obtain ⟨y', h3, _, _⟩ := findA_ok h2 h
      have := setK_ok (z := z) h2 h hz
      rw [show i - j = (i - (j + 1)) + 1 by omega]
      exact instH_mk h1 this
section
variable {P : Program} {w0 : World} {base : Nat} {ρ : Rho} {hp hp' : AH} {ro : List AH} {nx : Nat} {its : List It} {E : List (Nat × AV)} {af : AF} {l : Fr} {ops : Array Oper} {n : Nat} {D : List Deferred} {Q : Exit → Act → World → Prop} {rest : List Oper} {o : Oper} {d : Nat} {v : AV}
/-! append -/
theorem append_go {t e size bytes j c cap k i : Nat} {g : Option Nat} {xs news : List Value} {a : Addr} {x y : Operand} {cs : List AV} {ats : Array TypeId} (he : Elem P t e size bytes)
    (ho : o.op = .call { callee := .builtin .append, args := #[x, y], argTypes := ats }) (hat : ats = #[t, t])
    (hx : evl l x = some (rv g k cap)) (hy : evl l y = some (.slice (some a) j c)) (hi : its[i]? = some (.row g cap k e size xs))
    (hl : news.length = j * size) (hnews : ∀ w, WA w0 base its w → ∀ q u, news[q]? = some u → w.cell? (a.add q) = some u) (h1 : news.all (·.oneCell') = true)
    (hbytes : (k + j) * bytes ≤ 140737488355328) (h63 : k + j ≤ 9223372036854775807) (hj : 0 < j) (hF : Fresh ρ nx) (hcs : ∀ ρ', Ext ρ ρ' → instL ρ' cs = some (xs ++ news))
    (hH : ∀ b c, instI (ρ.add nx b c) nx (.row (k + j) e size cs) = some (.row (some b) c (k + j) e size (xs ++ news)) → instH (ρ.add nx b c) hp' = some (its.set i (.row (some b) c (k + j) e size (xs ++ news))))
    (hg : o.guard = none) (hd : o.dst = some d) (hdn : Nat.blt d n = true)
    (hk : Next P ops n D Q w0 base ρ hp' (nx + 1) (.sl nx 0 (k + j) 0) d l rest) : LX P ops n D (.plain Q) l (WA w0 base its) (o :: rest) := by
  refine LX.append0 i he ho hat hx hy hi hl hnews h1 hbytes h63 hg hd hdn fun g' cap' => ?_
  have hlt : i < its.length := (List.getElem?_eq_some_iff.1 hi).1
  cases g' with
  | none =>
    refine LX.never fun w hw => ?_
    have h2 := hw.get (i := i) (it := .row none cap' (k + j) e size (xs ++ news)) (List.getElem?_set_self hlt)
    obtain ⟨b, _, hb, _⟩ := row_some h2 (by omega)
    cases hb
  | some b =>
    have hE := Ext.add hF b cap'
    have hI := instI_mkrow (ρ := ρ.add nx b cap') (id := nx) (n := k + j) (e := e) (s := size) (rat_add _ _ _ _) (hcs _ hE)
    exact hk (ρ.add nx b cap') _ _ hE (hF.add b cap') (by unfold inst; rw [rat_add]; rfl) (hH b cap' hI)
/-! stores -/
theorem setAll_over : ∀ (vs cs : List Value) (off : Nat), off + vs.length ≤ cs.length → setAll cs off vs = overlayV cs off vs
  | [], cs, off, _ => by simp [setAll, overlayV]
  | v :: r, cs, off, h => by
    have h' : off < cs.length := by simp at h; omega
    unfold setAll
    rw [setAll_over r (cs.set off v) (off + 1) (by simp at h ⊢; omega)]
    unfold overlayV
    rw [List.take_succ_eq_append_getElem (by simpa using h'), List.drop_set_of_lt (by omega), List.take_set_of_le (Nat.le_refl _)]
    simp [Nat.add_assoc, Nat.add_comm 1]
theorem WA.setRowCells {i cap k e size : Nat} {g : Option Nat} : ∀ (vs cs : List Value) (off : Nat) {its : List It} {w : World}, off + vs.length ≤ cs.length → WA w0 base its w → its[i]? = some (.row g cap k e size cs) → WA w0 base (its.set i (.row g cap k e size (setAll cs off vs))) (w.setCells (g.getD 0) off vs)
  | [], cs, off, its, w, _, h, hi => by
    have : its.set i (.row g cap k e size cs) = its := by
      have hlt : i < its.length := (List.getElem?_eq_some_iff.1 hi).1
      have hget : its[i] = .row g cap k e size cs := (List.getElem?_eq_some_iff.1 hi).2
      rw [← hget]; exact List.set_getElem_self hlt
    show WA w0 base (its.set i (.row g cap k e size cs)) w
    rw [this]; exact h
  | v :: r, cs, off, its, w, hle, h, hi => by
    have hlt : i < its.length := (List.getElem?_eq_some_iff.1 hi).1
    have h1 := h.setRowCell (off := off) hi (by simp at hle; omega) v
    have h2 := WA.setRowCells r (cs.set off v) (off + 1) (by simp at hle ⊢; omega) h1 (List.getElem?_set_self hlt)
    rw [List.set_set] at h2
    exact h2
/-- a value of several cells is written into what is owned -/
theorem LX.storeN {b off k : Nat} {vs : List Value} {t : TypeId} {x y : Operand} {W' : World → Prop} (ht : AggT P t k) (ho : o.op = .store t x y) (hx : evl l x = some (.pointer (some ⟨b, off, none⟩))) (hy : evl l y = some (.agg vs.toArray)) (h1 : vs.all (·.oneCell') = true) (hk : vs.length = k)
    (hW : ∀ w, WA w0 base its w → (∀ j, j < k → (∃ u, w.cell? ⟨b, off + j, none⟩ = some u) ∧ w.frozen? ⟨b, off + j, none⟩ = false) ∧ W' (w.setCells b off vs)) (hg : o.guard = none) (hd : o.dst = none) (h : LX P ops n D (.plain Q) l W' rest) :
    LX P ops n D (.plain Q) l (WA w0 base its) (o :: rest) := by
  intro a w ha hw
  obtain ⟨g1, g2⟩ := hW w hw
  have h2 := run_storeAt_mid (P := P) w b off t vs.toArray (fun j hj => by
    obtain ⟨⟨u, hu⟩, hf⟩ := g1 j (by simp at hj; omega)
    exact ⟨by rw [hu]; rfl, hf⟩) (by rw [ht.info]; simp [hk]) (all_oneCell_toArray (List.all_eq_true.1 h1))
  unfold wpList
  rw [if_pos (wanted_none hg)]
  left
  unfold Oper.wp
  have : (execOp a.eval o).run P w = .ok .skip (w.setCells b off vs) := by
    simp only [execOp, ho, ha.eval _ _ hx, ha.eval _ _ hy]
    rw [Sem.run_bind, h2]
    rfl
  rw [this]
  simp only [Oper.upon, hd]
  exact h _ _ ha g2
def putIt (it : AI) (cs : List AV) : AI :=
  match it with
  | .obj _ T => .obj cs T
  | .row n e s _ => .row n e s cs
  | .mp ks vs bs ck => .mp ks vs bs ck
def storeA (P : Program) (hp : AH) (af : AF) (t : TypeId) (x y : Operand) : Option AH :=
  match evalA af x with
  | some (.ptr id off) => match findA hp id 0 with
    | some (_, it) => (evalA af y).bind fun v => match oneT P t with
      | true => match sizeT P t with
        | some 1 => match v.one && Nat.blt off it.cells.length with
          | true => some (setH hp id (putIt it (it.cells.set off v)))
          | false => none
        | _ => none
      | false => match aggT P t, v with
        | some k, .agg cs => match Nat.beq cs.length k && (cs.all (·.one) && Nat.ble (off + cs.length) it.cells.length) with
          | true => some (setH hp id (putIt it (overlay it.cells off cs)))
          | false => none
        | some k, .lit (.agg cs) => match Nat.beq cs.size k && (cs.toList.all (·.oneCell') && Nat.ble (off + cs.size) it.cells.length) with
          | true => some (setH hp id (putIt it (overlay it.cells off (cs.toList.map .lit))))
          | false => none
        | _, _ => none
    | none => none
  | _ => none
theorem storeN_go {id off k i : Nat} {it : AI} {cs : List AV} {vs : List Value} {t : TypeId} {x y : Operand} (hH : instH ρ hp = some its) (hfd : findA hp id 0 = some (i, it)) (ht : AggT P t k) (ho : o.op = .store t x y) {p : Nat × Nat} (hp1 : rat ρ.blk id = some p) (hx : evl l x = some (.pointer (some ⟨p.1, off, none⟩))) (hy : evl l y = some (.agg vs.toArray))
    (hcs : instL ρ cs = some vs) (h1 : vs.all (·.oneCell') = true) (hk : vs.length = k) (hle : off + vs.length ≤ it.cells.length) (hg : o.guard = none) (hd : o.dst = none)
    (hgo : ∀ its', instH ρ (setH hp id (putIt it (overlay it.cells off cs))) = some its' → LX P ops n D (.plain Q) l (WA w0 base its') rest) : LX P ops n D (.plain Q) l (WA w0 base its) (o :: rest) := by
  obtain ⟨xi, _, hxs, hi⟩ := findA_ok hH hfd
  rw [Nat.sub_zero] at hxs
  cases it with
  | obj c0 T =>
    obtain ⟨p2, us, g1, g2, rfl⟩ := instI_obj hi
    rw [hp1] at g1; cases g1
    have hlen := instL_len g2
    have hle' : off + vs.length ≤ us.length := by rw [hlen]; exact hle
    have e := setH_ok hH hfd (instI_mkobj (ρ := ρ) (id := id) (T := T) hp1 (overlay_ok off g2 hcs))
    refine LX.storeN (W' := WA w0 base (its.set i (SX.blk p.1 (overlayV us off vs) T))) ht ho hx hy h1 hk (fun w hw => ⟨fun j hj => ⟨⟨_, hw.cell hxs (List.getElem?_eq_getElem (by omega))⟩, hw.frozen hxs⟩, ?_⟩) hg hd (hgo _ e)
    rw [← setAll_over vs us off hle']
    exact WA.setCells vs us off hw hxs
  | row m e s c0 =>
    obtain ⟨p2, us, g1, g2, rfl⟩ := instI_row hi
    rw [hp1] at g1; cases g1
    have hlen := instL_len g2
    have hle' : off + vs.length ≤ us.length := by rw [hlen]; exact hle
    have e' := setH_ok hH hfd (instI_mkrow (ρ := ρ) (id := id) (n := m) (e := e) (s := s) hp1 (overlay_ok off g2 hcs))
    refine LX.storeN (W' := WA w0 base (its.set i (.row (some p.1) p.2 m e s (overlayV us off vs)))) ht ho hx hy h1 hk (fun w hw => ⟨fun j hj => ?_, ?_⟩) hg hd (hgo _ e')
    · have := hw.rowCell hxs (List.getElem?_eq_getElem (show off + j < us.length by omega))
      exact ⟨⟨_, this.1⟩, this.2.1⟩
    · rw [← setAll_over vs us off hle']
      exact WA.setRowCells vs us off hle' hw hxs
  | mp ks0 vs0 bs0 ck0 =>
    have hz : vs = [] := List.eq_nil_of_length_eq_zero (by have : off + vs.length ≤ 0 := hle; omega)
    subst hz
    have e := setH_ok hH hfd hi
    have hs : its.set (i - 0) xi = its := by
      rw [Nat.sub_zero]
      refine List.ext_getElem? fun j => ?_
      by_cases hij : i = j
      · subst hij
        rw [List.getElem?_set_self (List.getElem?_eq_some_iff.1 hxs).1, hxs]
      · rw [List.getElem?_set_ne hij]
    rw [hs] at e
    exact LX.storeN (W' := WA w0 base its) ht ho hx hy h1 hk (fun w hw => ⟨fun j hj => absurd hj (by simp at hk; omega), hw⟩) hg hd (hgo _ e)
end
end Go.EX
