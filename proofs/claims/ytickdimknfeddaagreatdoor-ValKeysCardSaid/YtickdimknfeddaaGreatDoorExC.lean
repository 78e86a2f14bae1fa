/-
  Proved here: a small machine's operations that read memory or change it: they do what the model's do.
-/
import Derived.Test.YtickdimknfeddaaGreatDoorExB
namespace Go.EX
open Go.SX Go.RowKit
def AI.cells : AI → List AV
  | .obj cs _ => cs
  | .row _ _ _ cs => cs
  | .mp _ _ _ _ => []
def findRO : List AH → Nat → Option AI
  | [], _ => none
  | h :: t, id => match findA h id 0 with
    | some (_, it) => some it
    | none => findRO t id
/-- an item that is owned, or that may be read -/
def lookA (hp : AH) (ro : List AH) (id : Nat) : Option AI :=
  match findA hp id 0 with
  | some (_, it) => some it
  | none => findRO ro id
/-- what may be read: it lies below all that is owned -/
def RO (w0 : World) (base : Nat) (ρ : Rho) (ro : List AH) : Prop :=
  ∀ id it, findRO ro id = some it → ∃ p us, rat ρ.blk id = some p ∧ instL ρ it.cells = some us ∧ p.1 < base ∧ (∀ off u, us[off]? = some u → w0.cell? ⟨p.1, off, none⟩ = some u) ∧ (∀ n e s cs, it = .row n e s cs → n ≤ p.2)
theorem RO.ext {w0 : World} {base : Nat} {ρ ρ' : Rho} {ro : List AH} (h : RO w0 base ρ ro) (he : Ext ρ ρ') : RO w0 base ρ' ro := fun id it hi => by
  obtain ⟨p, us, h1, h2, h3⟩ := h id it hi
  exact ⟨p, us, he.blk _ _ h1, instL_ext he _ _ h2, h3⟩
/-- the program's variables that are known -/
def lookE : List (Nat × AV) → Nat → Option AV
  | [], _ => none
  | (k, v) :: t, g => match Nat.beq k g with | true => some v | false => lookE t g
def EE (w0 : World) (base : Nat) (ρ : Rho) (E : List (Nat × AV)) : Prop := ∀ g v, lookE E g = some v → ∃ u, inst ρ v = some u ∧ w0.cell? ⟨g, 0, none⟩ = some u ∧ g < base
theorem EE.ext {w0 : World} {base : Nat} {ρ ρ' : Rho} {E : List (Nat × AV)} (h : EE w0 base ρ E) (he : Ext ρ ρ') : EE w0 base ρ' E := fun g v hg => by
  obtain ⟨u, h1, h2⟩ := h g v hg
  exact ⟨u, inst_ext he _ _ h1, h2⟩
section
variable {P : Program} {w0 : World} {base : Nat} {ρ : Rho} {hp : AH} {ro : List AH} {its : List It} {E : List (Nat × AV)} {af : AF} {l : Fr}
theorem instI_row {id n e s : Nat} {cs : List AV} {x : It} (h : instI ρ id (.row n e s cs) = some x) : ∃ p us, rat ρ.blk id = some p ∧ instL ρ cs = some us ∧ x = .row (some p.1) p.2 n e s us := by
  dsimp only [instI] at h
  cases hr : rat ρ.blk id with
  | none => rw [hr] at h; cases h
  | some p =>
    cases hs : instL ρ cs with
    | none => rw [hr, hs] at h; cases h
    | some us => rw [hr, hs] at h; cases h; exact ⟨p, us, rfl, rfl, rfl⟩
theorem instI_obj {id : Nat} {T : TypeId} {cs : List AV} {x : It} (h : instI ρ id (.obj cs T) = some x) : ∃ p us, rat ρ.blk id = some p ∧ instL ρ cs = some us ∧ x = SX.blk p.1 us T := by
  dsimp only [instI] at h
  cases hr : rat ρ.blk id with
  | none => rw [hr] at h; cases h
  | some p =>
    cases hs : instL ρ cs with
    | none => rw [hr, hs] at h; cases h
    | some us => rw [hr, hs] at h; cases h; exact ⟨p, us, rfl, rfl, rfl⟩
theorem instI_mp {id : Nat} {ks vs : List AV} {bs : List Nat} {ck : Nat} {x : It} (h : instI ρ id (.mp ks vs bs ck) = some x) : ∃ p us xs, rat ρ.blk id = some p ∧ instL ρ ks = some us ∧ instL ρ vs = some xs ∧ x = .obj p.1 (.map (mkEs us xs bs).toArray ck) := by
  dsimp only [instI] at h
  cases hr : rat ρ.blk id with
  | none => rw [hr] at h; cases h
  | some p =>
    cases hs : instL ρ ks with
    | none => rw [hr, hs] at h; cases h
    | some us =>
      cases hq : instL ρ vs with
      | none => rw [hr, hs, hq] at h; cases h
      | some xs => rw [hr, hs, hq] at h; cases h; exact ⟨p, us, xs, rfl, rfl, rfl, rfl⟩
/-- what is known of an item that is looked up -/
theorem look_ok (hH : instH ρ hp = some its) (hR : RO w0 base ρ ro) {id : Nat} {it : AI} (h : lookA hp ro id = some it) :
    ∃ p us, rat ρ.blk id = some p ∧ instL ρ it.cells = some us ∧ (∀ w, WA w0 base its w → ∀ off u, us[off]? = some u → w.cell? ⟨p.1, off, none⟩ = some u) ∧ (∀ n e s cs, it = .row n e s cs → ∀ w, WA w0 base its w → n ≤ p.2) := by
  unfold lookA at h
  cases hf : findA hp id 0 with
  | some q =>
    obtain ⟨i, it'⟩ := q
    rw [hf] at h
    cases h
    obtain ⟨x, _, hx, hi⟩ := findA_ok hH hf
    cases it with
    | obj cs T =>
      obtain ⟨p, us, h1, h2, rfl⟩ := instI_obj hi
      exact ⟨p, us, h1, h2, fun w hw off u hu => hw.cell hx hu, fun n e s cs h => by cases h⟩
    | row n e s cs =>
      obtain ⟨p, us, h1, h2, rfl⟩ := instI_row hi
      refine ⟨p, us, h1, h2, fun w hw off u hu => (hw.rowCell hx hu).1, fun n' e' s' cs' h w hw => ?_⟩
      cases h
      exact (row_len (hw.get hx)).2
    | mp ks vs bs ck =>
      obtain ⟨p, us, xs, h1, h2, h3, rfl⟩ := instI_mp hi
      exact ⟨p, [], h1, rfl, (fun w hw off u hu => by cases hu), fun n e s cs h => by cases h⟩
  | none =>
    rw [hf] at h
    obtain ⟨p, us, h1, h2, h3, h4, h5⟩ := hR id it h
    exact ⟨p, us, h1, h2, fun w hw off u hu => hw.old (a := ⟨p.1, off, none⟩) h3 (h4 off u hu), fun n e s cs h w hw => h5 n e s cs h⟩
def bytesA : List AV → Option (List UInt8)
  | [] => some []
  | .lit (.int .u8 (.ofNat k)) :: r => match Nat.blt k 256 with
    | true => (bytesA r).map fun bs => k.toUInt8 :: bs
    | false => none
  | _ :: _ => none
theorem bytesA_ok : ∀ {cs : List AV} {bs : List UInt8} {us : List Value}, bytesA cs = some bs → instL ρ cs = some us → us = bs.map b8 := by
  intro cs
  induction cs with
  | nil => intro bs us h h'; cases h; cases h'; rfl
  | cons c r ih =>
    intro bs us h h'
    obtain ⟨u, us', rfl, h1, h2⟩ := instL_cons h'
    unfold bytesA at h
    split at h
    · rename_i hh; cases hh
    · rename_i k r' hk
      injection hk with hk1 hk2
      subst hk1; subst hk2
      split at h
      · rename_i hb
        cases hr : bytesA r with
        | none => rw [hr] at h; cases h
        | some bs' =>
          rw [hr] at h; cases h
          obtain rfl := inst_lit h1
          have hk : k < 256 := by simpa using hb
          rw [ih hr h2]
          simp only [List.map_cons, List.cons.injEq, and_true, b8]
          have : (k.toUInt8).toNat = k := by simp; omega
          rw [this]; rfl
      · cases h
    · cases h
/-- values that memory is asked for -/
def readA (P : Program) (E : List (Nat × AV)) (ro : List AH) (hp : AH) (af : AF) : Op → Option AV
  | .load t x => match evalA af x with
    | some (.ptr id off) => (lookA hp ro id).bind fun it => match oneT P t with
      | true => it.cells[off]?
      | false => (aggT P t).bind fun k => match Nat.beq ((it.cells.drop off).take k).length k with
        | true => some (.agg ((it.cells.drop off).take k))
        | false => none
    | some (.lit (.pointer (some ⟨g, 0, none⟩))) => match oneT P t with
      | true => lookE E g
      | false => none
    | _ => none
  | .slice t x lo hi none => match evalA af x, elemT P t with
    | some (.sl id off n skip), some (_, size, _, _) => match lookA hp ro id with
      | some (.row m _ _ _) => match Nat.ble (n + skip) m, lo, hi with
        | true, none, some b => match evalA af b with
          | some (.lit (.int _ (.ofNat k))) => match Nat.ble k n with
            | true => some (.sl id off k skip)
            | false => none
          | _ => none
        | true, some a, none => match evalA af a with
          | some (.lit (.int _ (.ofNat j))) => match Nat.blt j n with
            | true => some (.sl id (off + j * size) (n - j) (skip + j))
            | false => none
          | _ => none
        | true, some a, some b => match evalA af a, evalA af b with
          | some (.lit (.int _ (.ofNat j))), some (.lit (.int _ (.ofNat k))) => match Nat.ble k n && Nat.blt j k with
            | true => some (.sl id (off + j * size) (k - j) (skip + j))
            | false => none
          | _, _ => none
        | _, _, _ => none
      | _ => none
    | _, _ => none
  | .convert s d x => match evalA af x with
    | some (.sl id 0 n 0) => match findA hp id 0, P.underlying s, P.underlying d with
      | some (_, .row m e 1 cs), some (.slice e'), some .string => match P.underlying e' with
        | some (.int .u8) => match Nat.beq m n && Nat.beq e e' with
          | true => (bytesA cs).map fun bs => .lit (str bs)
          | false => none
        | _ => none
      | _, _, _ => none
    | _ => none
  | _ => none
theorem readA_ok (hf : FRel ρ af l) (hH : instH ρ hp = some its) (hR : RO w0 base ρ ro) (hE : EE w0 base ρ E) {o : Op} {v : AV} (h : readA P E ro hp af o = some v) (ty : TypeId) :
    ∃ u, inst ρ v = some u ∧ Y P l (WA w0 base its) o ty u := by
  unfold readA at h
  split at h
  · rename_i t x
    split at h
    · rename_i id off hx
      obtain ⟨it, hl, h⟩ := Option.bind_eq_some_iff.1 h
      obtain ⟨u, h1, h2⟩ := hf.eval hx
      obtain ⟨p, hp', rfl⟩ := inst_ptr h2
      obtain ⟨p2, us, e1, e2, e3, _⟩ := look_ok hH hR hl
      rw [hp'] at e1; cases e1
      split at h
      · rename_i ht
        obtain ⟨z, h3, h4⟩ := instL_get e2 h
        exact ⟨z, h4, Y.load (oneT_ok ht) h1 fun w hw => e3 w hw _ _ h3⟩
      · obtain ⟨k, hk, h⟩ := Option.bind_eq_some_iff.1 h
        split at h
        · rename_i hlen
          cases h
          have e4 := instL_take k (instL_drop off e2)
          have hlen' : ((us.drop off).take k).length = k := by rw [instL_len e4]; simpa using hlen
          refine ⟨_, by unfold inst; rw [e4]; rfl, Y.loadA (aggT_ok hk) hlen' h1 fun w hw j u hj => e3 w hw _ _ ?_⟩
          rw [List.getElem?_take] at hj
          split at hj
          · rw [List.getElem?_drop] at hj; exact hj
          · cases hj
        · cases h
    · rename_i g hx
      split at h
      · rename_i ht
        obtain ⟨u, h1, h2⟩ := hf.eval hx
        obtain rfl := inst_lit h2
        obtain ⟨z, h3, h4, h5⟩ := hE g v h
        exact ⟨z, h3, Y.ldO (oneT_ok ht) h1 h4 h5⟩
      · cases h
    · cases h
  · rename_i t x lo hi
    split at h
    · rename_i id off n skip e size by' z hx he
      split at h
      · rename_i m e' s' cs' hl
        obtain ⟨u, h1, h2⟩ := hf.eval hx
        obtain ⟨p, hp', rfl⟩ := inst_sl h2
        obtain ⟨p2, us, e1, e2, _, e3⟩ := look_ok hH hR hl
        rw [hp'] at e1; cases e1
        obtain ⟨hEl, hS, _⟩ := elemT_ok he
        split at h
        · rename_i lo' hi' b hm
          split at h
          · rename_i kk k hb
            split at h
            · rename_i hk
              cases h
              obtain ⟨ub, h3, h4⟩ := hf.eval hb
              obtain rfl := inst_lit h4
              have hk' : k ≤ n := by simpa using hk
              have hm' : n + skip ≤ m := by simpa using hm
              refine ⟨_, by unfold inst; rw [hp']; rfl, fun σ hσ o' ho ht w hw => ?_⟩
              have := e3 _ _ _ _ rfl w hw
              exact Y.cutHi (W := WA w0 base its) hEl.ht hS h1 h3 (by omega) σ hσ o' ho ht w hw
            · cases h
          · cases h
        · rename_i lo' hi' a hm
          split at h
          · rename_i kk j ha
            split at h
            · rename_i hj
              cases h
              obtain ⟨ub, h3, h4⟩ := hf.eval ha
              obtain rfl := inst_lit h4
              have hj' : j < n := by simpa using hj
              have hm' : n + skip ≤ m := by simpa using hm
              refine ⟨.slice (some ⟨p.1, off + j * size, none⟩) (n - j) (p.2 - (skip + j)), by unfold inst; rw [hp']; rfl, fun σ hσ o' ho ht w hw => ?_⟩
              have h5 := e3 _ _ _ _ rfl w hw
              have h6 := Y.cutLo (W := WA w0 base its) (ty := ty) hEl.ht hS h1 h3 (by omega) σ hσ o' ho ht w hw
              rw [if_neg (by omega)] at h6
              simpa [Addr.add_lit, Nat.sub_sub] using h6
            · cases h
          · cases h
        · rename_i lo' hi' a b hm
          split at h
          · rename_i kk j kk' k ha hb
            split at h
            · rename_i hjk
              cases h
              simp only [Bool.and_eq_true] at hjk
              obtain ⟨ua, h3, h4⟩ := hf.eval ha
              obtain rfl := inst_lit h4
              obtain ⟨ub, h5, h6⟩ := hf.eval hb
              obtain rfl := inst_lit h6
              have hk' : k ≤ n := by simpa using hjk.1
              have hj' : j < k := by simpa using hjk.2
              have hm' : n + skip ≤ m := by simpa using hm
              refine ⟨.slice (some ⟨p.1, off + j * size, none⟩) (k - j) (p.2 - (skip + j)), by unfold inst; rw [hp']; rfl, fun σ hσ o' ho ht w hw => ?_⟩
              have h7 := e3 _ _ _ _ rfl w hw
              have h8 := Y.cutBoth (W := WA w0 base its) (ty := ty) hEl.ht hS h1 h3 h5 (by omega) (by omega) σ hσ o' ho ht w hw
              rw [if_neg (by omega)] at h8
              simpa [Addr.add_lit, Nat.sub_sub] using h8
            · cases h
          · cases h
        · cases h
      · cases h
    · cases h
  · rename_i s d x
    split at h
    · rename_i id n hx
      split at h
      · rename_i i m e cs e' hfd hs hd
        split at h
        · rename_i he
          split at h
          · rename_i hb
            cases hbs : bytesA cs with
            | none => rw [hbs] at h; cases h
            | some bs =>
              rw [hbs] at h; cases h
              simp only [Bool.and_eq_true] at hb
              have hm : m = n := by simpa using hb.1
              have he' : e = e' := by simpa using hb.2
              subst hm; subst he'
              obtain ⟨u, h1, h2⟩ := hf.eval hx
              obtain ⟨p, hp', rfl⟩ := inst_sl h2
              obtain ⟨x', _, hxs, hi⟩ := findA_ok hH hfd
              obtain ⟨p2, us, e1, e2, rfl⟩ := instI_row hi
              rw [hp'] at e1; cases e1
              have := bytesA_ok hbs e2
              subst this
              have h1' : evl l x = some (rv (some p.1) m p.2) := h1
              exact ⟨_, rfl, Y.str _ h1' hxs hs he hd⟩
          · cases h
        · cases h
      · cases h
    · cases h
  · cases h
def valA (P : Program) (E : List (Nat × AV)) (ro : List AH) (hp : AH) (af : AF) (o : Op) : Option AV :=
  match pureA P af o with
  | some v => some v
  | none => readA P E ro hp af o
theorem valA_ok (hf : FRel ρ af l) (hH : instH ρ hp = some its) (hR : RO w0 base ρ ro) (hE : EE w0 base ρ E) {o : Op} {v : AV} (h : valA P E ro hp af o = some v) (ty : TypeId) :
    ∃ u, inst ρ v = some u ∧ Y P l (WA w0 base its) o ty u := by
  unfold valA at h
  cases hp' : pureA P af o with
  | some v' => rw [hp'] at h; cases h; exact pureA_ok hf hp' _ ty
  | none => rw [hp'] at h; exact readA_ok hf hH hR hE h ty
end
end Go.EX
