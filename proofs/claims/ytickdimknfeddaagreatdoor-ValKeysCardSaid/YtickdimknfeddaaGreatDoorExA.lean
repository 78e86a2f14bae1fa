/-
  Proved here: the values, frames and memory that a small machine of mine computes on, and what they stand for in the model's worlds.
-/
import Derived.Test.YtickdimknfeddaaGreatDoorAgg
import Derived.Test.YtickdimknfeddaaGreatDoorMk
namespace Go.EX
open Go.SX Go.RowKit
/-- a value whose addresses are names -/
inductive AV where
  | lit (v : Value)
  | ptr (id off : Nat)
  | sl (id off len skip : Nat)
  | opq (i : Nat)
  | agg (cs : List AV)
  | tup (cs : List AV)
  | iface (t : TypeId) (v : AV)
  | fn (f : Fn) (first captured : List AV)
  | mp (id : Nat)
/-- what the names stand for: a name's block, and how many elements it has room for; values that are not looked into -/
structure Rho where
  blk : List (Nat × Nat × Nat)
  opq : Nat → Value
  one : ∀ i, (opq i).oneCell' = true := by first | exact fun _ => rfl | assumption
def rat : List (Nat × Nat × Nat) → Nat → Option (Nat × Nat)
  | [], _ => none
  | (k, v) :: t, i => match Nat.beq k i with | true => some v | false => rat t i
theorem rat_same (k : Nat) (v : Nat × Nat) (l : List (Nat × Nat × Nat)) : rat ((k, v) :: l) k = some v := by simp [rat]
theorem rat_ne {k i : Nat} (v : Nat × Nat) (l : List (Nat × Nat × Nat)) (h : k ≠ i) : rat ((k, v) :: l) i = rat l i := by
  have : Nat.beq k i = false := by simpa [← Bool.not_eq_true] using h
  simp [rat, this]
mutual
def inst (ρ : Rho) : AV → Option Value
  | .lit v => some v
  | .ptr id off => (rat ρ.blk id).map fun p => .pointer (some ⟨p.1, off, none⟩)
  | .sl id off len skip => (rat ρ.blk id).map fun p => .slice (some ⟨p.1, off, none⟩) len (p.2 - skip)
  | .opq i => some (ρ.opq i)
  | .agg cs => (instL ρ cs).map fun vs => .agg vs.toArray
  | .tup cs => (instL ρ cs).map fun vs => .tuple vs.toArray
  | .iface t v => (inst ρ v).map fun u => .iface t u
  | .fn f a b => (instL ρ a).bind fun x => (instL ρ b).map fun y => .func f x.toArray y.toArray
  | .mp id => (rat ρ.blk id).map fun p => .map (some p.1)
def instL (ρ : Rho) : List AV → Option (List Value)
  | [] => some []
  | v :: r => (inst ρ v).bind fun x => (instL ρ r).map fun y => x :: y
end
/-- more names are known -/
structure Ext (ρ ρ' : Rho) : Prop where
  blk : ∀ id p, rat ρ.blk id = some p → rat ρ'.blk id = some p
  opq : ρ'.opq = ρ.opq
theorem Ext.refl (ρ : Rho) : Ext ρ ρ := ⟨fun _ _ h => h, rfl⟩
theorem Ext.trans {a b c : Rho} (h : Ext a b) (h' : Ext b c) : Ext a c := ⟨fun i p hp => h'.blk i p (h.blk i p hp), h'.opq.trans h.opq⟩
mutual
theorem inst_ext {ρ ρ' : Rho} (h : Ext ρ ρ') : ∀ (v : AV) (u : Value), inst ρ v = some u → inst ρ' v = some u
  | .lit v, u, e => e
  | .ptr id off, u, e => by
    unfold inst at e ⊢
    cases hr : rat ρ.blk id with
    | none => rw [hr] at e; cases e
    | some p => rw [hr] at e; rw [h.blk _ _ hr]; exact e
  | .sl id off len skip, u, e => by
    unfold inst at e ⊢
    cases hr : rat ρ.blk id with
    | none => rw [hr] at e; cases e
    | some p => rw [hr] at e; rw [h.blk _ _ hr]; exact e
  | .opq i, u, e => by unfold inst at e ⊢; rw [h.opq]; exact e
  | .agg cs, u, e => by
    unfold inst at e ⊢
    cases hr : instL ρ cs with
    | none => rw [hr] at e; cases e
    | some p => rw [hr] at e; rw [instL_ext h _ _ hr]; exact e
  | .tup cs, u, e => by
    unfold inst at e ⊢
    cases hr : instL ρ cs with
    | none => rw [hr] at e; cases e
    | some p => rw [hr] at e; rw [instL_ext h _ _ hr]; exact e
  | .iface t v, u, e => by
    unfold inst at e ⊢
    cases hr : inst ρ v with
    | none => rw [hr] at e; cases e
    | some p => rw [hr] at e; rw [inst_ext h _ _ hr]; exact e
  | .fn f a b, u, e => by
    unfold inst at e ⊢
    cases hr : instL ρ a with
    | none => rw [hr] at e; cases e
    | some p =>
      cases hs : instL ρ b with
      | none => rw [hr, hs] at e; cases e
      | some q => rw [hr, hs] at e; rw [instL_ext h _ _ hr, instL_ext h _ _ hs]; exact e
  | .mp id, u, e => by
    unfold inst at e ⊢
    cases hr : rat ρ.blk id with
    | none => rw [hr] at e; cases e
    | some p => rw [hr] at e; rw [h.blk _ _ hr]; exact e
theorem instL_ext {ρ ρ' : Rho} (h : Ext ρ ρ') : ∀ (l : List AV) (us : List Value), instL ρ l = some us → instL ρ' l = some us
  | [], us, e => e
  | v :: r, us, e => by
    unfold instL at e ⊢
    cases hr : inst ρ v with
    | none => rw [hr] at e; cases e
    | some p =>
      cases hs : instL ρ r with
      | none => rw [hr, hs] at e; cases e
      | some q => rw [hr, hs] at e; rw [inst_ext h _ _ hr, instL_ext h _ _ hs]; exact e
end
theorem instL_cons {ρ : Rho} {v : AV} {r : List AV} {us : List Value} (h : instL ρ (v :: r) = some us) : ∃ u us', us = u :: us' ∧ inst ρ v = some u ∧ instL ρ r = some us' := by
  unfold instL at h
  cases hr : inst ρ v with
  | none => rw [hr] at h; cases h
  | some p =>
    cases hs : instL ρ r with
    | none => rw [hr, hs] at h; cases h
    | some q => rw [hr, hs] at h; cases h; exact ⟨p, q, rfl, rfl, rfl⟩
theorem instL_mk {ρ : Rho} {v : AV} {r : List AV} {u : Value} {us : List Value} (h1 : inst ρ v = some u) (h2 : instL ρ r = some us) : instL ρ (v :: r) = some (u :: us) := by
  unfold instL; rw [h1, h2]; rfl
theorem instL_len {ρ : Rho} : ∀ {l : List AV} {us : List Value}, instL ρ l = some us → us.length = l.length
  | [], us, h => by cases h; rfl
  | v :: r, us, h => by
    obtain ⟨u, us', rfl, _, h2⟩ := instL_cons h
    simp [instL_len h2]
theorem instL_get {ρ : Rho} : ∀ {l : List AV} {us : List Value} {i : Nat} {v : AV}, instL ρ l = some us → l[i]? = some v → ∃ u, us[i]? = some u ∧ inst ρ v = some u
  | [], us, i, v, _, h => by cases h
  | x :: r, us, 0, v, h, hv => by
    obtain ⟨u, us', rfl, h1, _⟩ := instL_cons h
    cases hv; exact ⟨u, rfl, h1⟩
  | x :: r, us, i + 1, v, h, hv => by
    obtain ⟨u, us', rfl, _, h2⟩ := instL_cons h
    obtain ⟨z, h3, h4⟩ := instL_get (l := r) (us := us') (i := i) (v := v) h2 (by simpa using hv)
    exact ⟨z, by simpa using h3, h4⟩
theorem instL_set {ρ : Rho} : ∀ {l : List AV} {us : List Value} {v : AV} {u : Value} (i : Nat), instL ρ l = some us → inst ρ v = some u → instL ρ (l.set i v) = some (us.set i u)
  | [], us, v, u, i, h, _ => by cases h; rfl
  | x :: r, us, v, u, 0, h, hv => by
    obtain ⟨u', us', rfl, _, h2⟩ := instL_cons h
    exact instL_mk hv h2
  | x :: r, us, v, u, i + 1, h, hv => by
    obtain ⟨u', us', rfl, h1, h2⟩ := instL_cons h
    exact instL_mk h1 (instL_set i h2 hv)
theorem instL_app {ρ : Rho} : ∀ {l l' : List AV} {us us' : List Value}, instL ρ l = some us → instL ρ l' = some us' → instL ρ (l ++ l') = some (us ++ us')
  | [], l', us, us', h, h' => by cases h; exact h'
  | x :: r, l', us, us', h, h' => by
    obtain ⟨u, us1, rfl, h1, h2⟩ := instL_cons h
    exact instL_mk h1 (instL_app h2 h')
theorem instL_take {ρ : Rho} : ∀ {l : List AV} {us : List Value} (n : Nat), instL ρ l = some us → instL ρ (l.take n) = some (us.take n)
  | [], us, n, h => by cases h; simp [instL]
  | x :: r, us, 0, h => by simp [instL]
  | x :: r, us, n + 1, h => by
    obtain ⟨u, us', rfl, h1, h2⟩ := instL_cons h
    exact instL_mk h1 (instL_take n h2)
theorem instL_drop {ρ : Rho} : ∀ {l : List AV} {us : List Value} (n : Nat), instL ρ l = some us → instL ρ (l.drop n) = some (us.drop n)
  | [], us, n, h => by cases h; simp [instL]
  | x :: r, us, 0, h => h
  | x :: r, us, n + 1, h => by
    obtain ⟨u, us', rfl, _, h2⟩ := instL_cons h
    exact instL_drop n h2
theorem instL_lit (ρ : Rho) : ∀ vs : List Value, instL ρ (vs.map .lit) = some vs
  | [] => rfl
  | v :: r => instL_mk rfl (instL_lit ρ r)
/-- a value of one cell -/
def AV.one : AV → Bool
  | .lit v => v.oneCell'
  | .agg _ | .tup _ => false
  | _ => true
theorem AV.one_ok {ρ : Rho} {v : AV} {u : Value} (h : inst ρ v = some u) (h1 : v.one = true) : u.oneCell' = true := by
  cases v with
  | lit v => cases h; exact h1
  | ptr id off =>
    unfold inst at h
    cases hr : rat ρ.blk id with
    | none => rw [hr] at h; cases h
    | some p => rw [hr] at h; cases h; rfl
  | sl id off len skip =>
    unfold inst at h
    cases hr : rat ρ.blk id with
    | none => rw [hr] at h; cases h
    | some p => rw [hr] at h; cases h; rfl
  | opq i => cases h; exact ρ.one i
  | agg cs => cases h1
  | tup cs => cases h1
  | iface t v =>
    unfold inst at h
    cases hr : inst ρ v with
    | none => rw [hr] at h; cases h
    | some p => rw [hr] at h; cases h; rfl
  | fn f a b =>
    unfold inst at h
    cases hr : instL ρ a with
    | none => rw [hr] at h; cases h
    | some p =>
      cases hs : instL ρ b with
      | none => rw [hr, hs] at h; cases h
      | some q => rw [hr, hs] at h; cases h; rfl
  | mp id =>
    unfold inst at h
    cases hr : rat ρ.blk id with
    | none => rw [hr] at h; cases h
    | some p => rw [hr] at h; cases h; rfl
theorem ones_ok {ρ : Rho} : ∀ {l : List AV} {us : List Value}, instL ρ l = some us → l.all (·.one) = true → us.all (·.oneCell') = true
  | [], us, h, _ => by cases h; rfl
  | v :: r, us, h, h1 => by
    obtain ⟨u, us', rfl, h2, h3⟩ := instL_cons h
    simp only [List.all_cons, Bool.and_eq_true] at h1 ⊢
    exact ⟨AV.one_ok h2 h1.1, ones_ok h3 h1.2⟩
/-- a value's cells -/
def AV.cells : AV → List AV
  | .lit v => v.cells.toList.map .lit
  | .agg cs => cs
  | v => [v]
theorem cells_one {u : Value} (h : u.oneCell' = true) : u.cells.toList = [u] := by cases u <;> first | rfl | cases h
theorem cells_ok {ρ : Rho} {v : AV} {u : Value} (h : inst ρ v = some u) (_hv : True) : instL ρ v.cells = some u.cells.toList := by
  cases v with
  | lit v => cases h; exact instL_lit ρ _
  | opq i => rw [cells_one (AV.one_ok h rfl)]; exact instL_mk h rfl
  | agg cs =>
    unfold inst at h
    cases hr : instL ρ cs with
    | none => rw [hr] at h; cases h
    | some p => rw [hr] at h; cases h; exact hr
  | tup cs =>
    have h' := h
    unfold inst at h
    cases hr : instL ρ cs with
    | none => rw [hr] at h; cases h
    | some p => rw [hr] at h; cases h; exact instL_mk h' rfl
  | ptr id off => rw [cells_one (AV.one_ok h rfl)]; exact instL_mk h rfl
  | sl id off len skip => rw [cells_one (AV.one_ok h rfl)]; exact instL_mk h rfl
  | iface t v => rw [cells_one (AV.one_ok h rfl)]; exact instL_mk h rfl
  | fn f a b => rw [cells_one (AV.one_ok h rfl)]; exact instL_mk h rfl
  | mp id => rw [cells_one (AV.one_ok h rfl)]; exact instL_mk h rfl
/-! frames -/
abbrev AF := List (Nat × AV)
def getA : AF → Nat → Option AV
  | [], _ => none
  | (k, v) :: t, i => match Nat.beq k i with | true => some v | false => getA t i
def delA : AF → Nat → AF
  | [], _ => []
  | (k, v) :: t, i => match Nat.beq k i with | true => t | false => (k, v) :: delA t i
def putA (af : AF) (d : Nat) (v : AV) : AF := (d, v) :: delA af d
/-- what a frame of names stands for -/
def FRel (ρ : Rho) (af : AF) (l : Fr) : Prop := ∀ i v, getA af i = some v → ∃ u, get l i = some u ∧ inst ρ v = some u
theorem getA_same (d : Nat) (v : AV) (l : AF) : getA ((d, v) :: l) d = some v := by simp [getA]
theorem getA_ne {d i : Nat} (v : AV) (l : AF) (h : d ≠ i) : getA ((d, v) :: l) i = getA l i := by
  have : Nat.beq d i = false := by simpa [← Bool.not_eq_true] using h
  simp [getA, this]
theorem getA_del : ∀ (l : AF) (d i : Nat), d ≠ i → getA (delA l d) i = getA l i
  | [], _, _, _ => rfl
  | (k, v) :: t, d, i, h => by
    unfold delA
    cases hb : Nat.beq k d with
    | true =>
      have : k = d := by simpa using hb
      subst this
      rw [getA_ne _ _ h]
    | false =>
      simp only [getA]
      rw [getA_del t d i h]
theorem FRel.put {ρ : Rho} {af : AF} {l : Fr} (h : FRel ρ af l) {v : AV} {u : Value} (d : Nat) (hv : inst ρ v = some u) : FRel ρ (putA af d v) ((d, u) :: l) := by
  intro i x hx
  by_cases hi : d = i
  · subst hi
    rw [putA, getA_same] at hx
    cases hx
    exact ⟨u, get_cons_same _ _ _, hv⟩
  · rw [putA, getA_ne _ _ hi, getA_del _ _ _ hi] at hx
    obtain ⟨u', h1, h2⟩ := h i x hx
    exact ⟨u', by rw [get_cons_ne _ _ hi]; exact h1, h2⟩
theorem FRel.ext {ρ ρ' : Rho} {af : AF} {l : Fr} (h : FRel ρ af l) (he : Ext ρ ρ') : FRel ρ' af l := fun i v hv => by
  obtain ⟨u, h1, h2⟩ := h i v hv
  exact ⟨u, h1, inst_ext he _ _ h2⟩
def evalA (af : AF) : Operand → Option AV
  | .tmp t => getA af t
  | .const v => some (.lit v)
  | .global g => some (.lit (.pointer (some ⟨g, 0, none⟩)))
  | .func f => some (.lit (.func (.func f) #[] #[]))
theorem FRel.eval {ρ : Rho} {af : AF} {l : Fr} (h : FRel ρ af l) {x : Operand} {v : AV} (hx : evalA af x = some v) : ∃ u, evl l x = some u ∧ inst ρ v = some u := by
  cases x with
  | tmp t => exact h t v hx
  | const v' => cases hx; exact ⟨_, rfl, rfl⟩
  | global g => cases hx; exact ⟨_, rfl, rfl⟩
  | func f => cases hx; exact ⟨_, rfl, rfl⟩
/-! memory -/
inductive AI where
  | obj (cells : List AV) (T : TypeId)
  | row (n e size : Nat) (cells : List AV)
  | mp (ks vs : List AV) (bs : List Nat) (ck : Nat)
/-- a map's entries -/
def mkEs : List Value → List Value → List Nat → List MapEntry
  | k :: ks, v :: vs, b :: bs => ⟨k, v, b⟩ :: mkEs ks vs bs
  | _, _, _ => []
abbrev AH := List (Nat × AI)
def instI (ρ : Rho) (id : Nat) : AI → Option It
  | .obj cs T => (rat ρ.blk id).bind fun p => (instL ρ cs).map fun vs => SX.blk p.1 vs T
  | .row n e size cs => (rat ρ.blk id).bind fun p => (instL ρ cs).map fun vs => .row (some p.1) p.2 n e size vs
  | .mp ks vs bs ck => (rat ρ.blk id).bind fun p => (instL ρ ks).bind fun us => (instL ρ vs).map fun xs => .obj p.1 (.map (mkEs us xs bs).toArray ck)
def instH (ρ : Rho) : AH → Option (List It)
  | [] => some []
  | (id, it) :: r => (instI ρ id it).bind fun x => (instH ρ r).map fun y => x :: y
theorem instI_ext {ρ ρ' : Rho} (h : Ext ρ ρ') {id : Nat} {it : AI} {x : It} (hx : instI ρ id it = some x) : instI ρ' id it = some x := by
  cases it with
  | obj cs T =>
    dsimp only [instI] at hx ⊢
    cases hr : rat ρ.blk id with
    | none => rw [hr] at hx; cases hx
    | some p =>
      cases hs : instL ρ cs with
      | none => rw [hr, hs] at hx; cases hx
      | some q => rw [hr, hs] at hx; rw [h.blk _ _ hr, instL_ext h _ _ hs]; exact hx
  | row n e size cs =>
    dsimp only [instI] at hx ⊢
    cases hr : rat ρ.blk id with
    | none => rw [hr] at hx; cases hx
    | some p =>
      cases hs : instL ρ cs with
      | none => rw [hr, hs] at hx; cases hx
      | some q => rw [hr, hs] at hx; rw [h.blk _ _ hr, instL_ext h _ _ hs]; exact hx
  | mp ks vs bs ck =>
    dsimp only [instI] at hx ⊢
    cases hr : rat ρ.blk id with
    | none => rw [hr] at hx; cases hx
    | some p =>
      cases hs : instL ρ ks with
      | none => rw [hr, hs] at hx; cases hx
      | some q =>
        cases hq : instL ρ vs with
        | none => rw [hr, hs, hq] at hx; cases hx
        | some z => rw [hr, hs, hq] at hx; rw [h.blk _ _ hr, instL_ext h _ _ hs, instL_ext h _ _ hq]; exact hx
theorem instH_cons {ρ : Rho} {id : Nat} {it : AI} {r : AH} {xs : List It} (h : instH ρ ((id, it) :: r) = some xs) : ∃ x xs', xs = x :: xs' ∧ instI ρ id it = some x ∧ instH ρ r = some xs' := by
  unfold instH at h
  cases hr : instI ρ id it with
  | none => rw [hr] at h; cases h
  | some p =>
    cases hs : instH ρ r with
    | none => rw [hr, hs] at h; cases h
    | some q => rw [hr, hs] at h; cases h; exact ⟨p, q, rfl, rfl, rfl⟩
theorem instH_mk {ρ : Rho} {id : Nat} {it : AI} {r : AH} {x : It} {xs : List It} (h1 : instI ρ id it = some x) (h2 : instH ρ r = some xs) : instH ρ ((id, it) :: r) = some (x :: xs) := by
  unfold instH; rw [h1, h2]; rfl
theorem instH_ext {ρ ρ' : Rho} (h : Ext ρ ρ') : ∀ {hp : AH} {xs : List It}, instH ρ hp = some xs → instH ρ' hp = some xs
  | [], xs, e => e
  | (id, it) :: r, xs, e => by
    obtain ⟨x, xs', rfl, h1, h2⟩ := instH_cons e
    exact instH_mk (instI_ext h h1) (instH_ext h h2)
/-- an item by its name: its place, too -/
def findA : AH → Nat → Nat → Option (Nat × AI)
  | [], _, _ => none
  | (k, it) :: t, id, j => match Nat.beq k id with | true => some (j, it) | false => findA t id (j + 1)
def setH : AH → Nat → AI → AH
  | [], _, _ => []
  | (k, it) :: t, id, x => match Nat.beq k id with | true => (k, x) :: t | false => (k, it) :: setH t id x
theorem findA_ok {ρ : Rho} : ∀ {hp : AH} {xs : List It} {id j i : Nat} {it : AI}, instH ρ hp = some xs → findA hp id j = some (i, it) → ∃ x, j ≤ i ∧ xs[i - j]? = some x ∧ instI ρ id it = some x
  | [], _, _, _, _, _, _, h => by cases h
  | (k, it') :: t, xs, id, j, i, it, hx, h => by
    obtain ⟨x, xs', rfl, h1, h2⟩ := instH_cons hx
    unfold findA at h
    cases hb : Nat.beq k id with
    | true =>
      rw [hb] at h
      cases h
      have : k = id := by simpa using hb
      subst this
      exact ⟨x, Nat.le_refl _, by simp, h1⟩
    | false =>
      rw [hb] at h
      obtain ⟨y, h3, h4, h5⟩ := findA_ok h2 h
      refine ⟨y, by omega, ?_, h5⟩
      rw [show i - j = (i - (j + 1)) + 1 by omega]
      exact h4
theorem setH_ok {ρ : Rho} {y : It} {z : AI} : ∀ {hp : AH} {xs : List It} {id j i : Nat} {it : AI}, instH ρ hp = some xs → findA hp id j = some (i, it) → instI ρ id z = some y → instH ρ (setH hp id z) = some (xs.set (i - j) y)
  | [], _, _, _, _, _, _, h, _ => by cases h
  | (k, it') :: t, xs, id, j, i, it, hx, h, hz => by
    obtain ⟨x, xs', rfl, h1, h2⟩ := instH_cons hx
    unfold findA at h
    unfold setH
    cases hb : Nat.beq k id with
    | true =>
      rw [hb] at h
      cases h
      have : k = id := by simpa using hb
      subst this
      rw [Nat.sub_self]
      exact instH_mk hz h2
    | false =>
      rw [hb] at h
      obtain ⟨y', h3, _, _⟩ := findA_ok h2 h
      have := setH_ok (z := z) h2 h hz
      rw [show i - j = (i - (j + 1)) + 1 by omega]
      exact instH_mk h1 this
/-- names not yet used -/
def Fresh (ρ : Rho) (nx : Nat) : Prop := ∀ id, nx ≤ id → rat ρ.blk id = none
def Rho.add (ρ : Rho) (id b c : Nat) : Rho := { ρ with blk := (id, b, c) :: ρ.blk }
theorem Ext.add {ρ : Rho} {nx : Nat} (h : Fresh ρ nx) (b c : Nat) : Ext ρ (ρ.add nx b c) := by
  refine ⟨fun id p hp => ?_, rfl⟩
  have : nx ≠ id := by rintro rfl; rw [h nx (Nat.le_refl _)] at hp; cases hp
  show rat ((nx, b, c) :: ρ.blk) id = _
  rw [rat_ne _ _ this]; exact hp
theorem Fresh.add {ρ : Rho} {nx : Nat} (h : Fresh ρ nx) (b c : Nat) : Fresh (ρ.add nx b c) (nx + 1) := by
  intro id hid
  show rat ((nx, b, c) :: ρ.blk) id = _
  rw [rat_ne _ _ (by omega)]; exact h id (by omega)
theorem rat_add (ρ : Rho) (id b c : Nat) : rat (ρ.add id b c).blk id = some (b, c) := rat_same _ _ _
end Go.EX
