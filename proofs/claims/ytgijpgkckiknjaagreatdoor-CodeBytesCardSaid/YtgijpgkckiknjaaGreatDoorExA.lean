/-
  Proved here: the values, frames and memory that a small machine of mine computes on, and what they stand for in the model's worlds.
-/
import Derived.Test.YtgijpgkckiknjaaGreatDoorAgg
import Derived.Test.YtgijpgkckiknjaaGreatDoorMk
import Derived.Great.BuildSlice
namespace Go.EX
open Go.SX Go.RowKit
/-- a value whose addresses are names -/
inductive AV where
  | lit (v : Value)
  | ptr (id off : Nat)
  | sl (id off len skip : Nat)
  | opq (i : Nat)
  | agg (cs : List AV)
  | tup (cs : List AV)
  | iface (t : TypeId) (v : AV)
  | fn (f : Fn) (first captured : List AV)
  | mp (id : Nat)
/-- what the names stand for: a name's block, and how many elements it has room for; values that are not looked into -/
structure Rho where
  blk : List (Nat × Nat × Nat)
  opq : Nat → Value
  one : ∀ i, (opq i).oneCell' = true := by first | exact fun _ => rfl | assumption
def rat : List (Nat × Nat × Nat) → Nat → Option (Nat × Nat)
  | [], _ => none
  | (k, v) :: t, i => match Nat.beq k i with | true => some v | false => rat t i
theorem rat_same (k : Nat) (v : Nat × Nat) (l : List (Nat × Nat × Nat)) : rat ((k, v) :: l) k = some v := by simp [rat]
theorem rat_ne {k i : Nat} (v : Nat × Nat) (l : List (Nat × Nat × Nat)) (h : k ≠ i) : rat ((k, v) :: l) i = rat l i := by
  have : Nat.beq k i = false := by simpa [← Bool.not_eq_true] using h
  simp [rat, this]
mutual
def inst (ρ : Rho) : AV → Option Value
  | .lit v => some v
  | .ptr id off => (rat ρ.blk id).map fun p => .pointer (some ⟨p.1, off, none⟩)
  | .sl id off len skip => (rat ρ.blk id).map fun p => .slice (some ⟨p.1, off, none⟩) len (p.2 - skip)
  | .opq i => some (ρ.opq i)
  | .agg cs => (instL ρ cs).map fun vs => .agg vs.toArray
  | .tup cs => (instL ρ cs).map fun vs => .tuple vs.toArray
  | .iface t v => (inst ρ v).map fun u => .iface t u
  | .fn f a b => (instL ρ a).bind fun x => (instL ρ b).map fun y => .func f x.toArray y.toArray
  | .mp id => (rat ρ.blk id).map fun p => .map (some p.1)
def instL (ρ : Rho) : List AV → Option (List Value)
  | [] => some []
  | v :: r => (inst ρ v).bind fun x => (instL ρ r).map fun y => x :: y
end
/-- more names are known -/
structure Ext (ρ ρ' : Rho) : Prop where
  blk : ∀ id p, rat ρ.blk id = some p → rat ρ'.blk id = some p
  opq : ρ'.opq = ρ.opq
theorem Ext.refl (ρ : Rho) : Ext ρ ρ := ⟨fun _ _ h => h, rfl⟩
theorem Ext.trans {a b c : Rho} (h : Ext a b) (h' : Ext b c) : Ext a c := ⟨fun i p hp => h'.blk i p (h.blk i p hp), h'.opq.trans h.opq⟩
mutual
theorem inst_ext {ρ ρ' : Rho} (h : Ext ρ ρ') : ∀ (v : AV) (u : Value), inst ρ v = some u → inst ρ' v = some u
  | .lit v, u, e => e
  | .ptr id off, u, e => by
    unfold inst at e ⊢
    cases hr : rat ρ.blk id with
    | none => rw [hr] at e; cases e
    | some p => rw [hr] at e; rw [h.blk _ _ hr]; exact e
  | .sl id off len skip, u, e => by
    unfold inst at e ⊢
    cases hr : rat ρ.blk id with
    | none => rw [hr] at e; cases e
    | some p => rw [hr] at e; rw [h.blk _ _ hr]; exact e
  | .opq i, u, e => by unfold inst at e ⊢; rw [h.opq]; exact e
  | .agg cs, u, e => by
    unfold inst at e ⊢
    cases hr : instL ρ cs with
    | none => rw [hr] at e; cases e
    | some p => rw [hr] at e; rw [instL_ext h _ _ hr]; exact e
  | .tup cs, u, e => by
    unfold inst at e ⊢
    cases hr : instL ρ cs with
    | none => rw [hr] at e; cases e
    | some p => rw [hr] at e; rw [instL_ext h _ _ hr]; exact e
  | .iface t v, u, e => by
    unfold inst at e ⊢
    cases hr : inst ρ v with
    | none => rw [hr] at e; cases e
    | some p => rw [hr] at e; rw [inst_ext h _ _ hr]; exact e
  | .fn f a b, u, e => by
    unfold inst at e ⊢
    cases hr : instL ρ a with
    | none => rw [hr] at e; cases e
    | some p =>
      cases hs : instL ρ b with
      | none => rw [hr, hs] at e; cases e
      | some q => rw [hr, hs] at e; rw [instL_ext h _ _ hr, instL_ext h _ _ hs]; exact e
  | .mp id, u, e => by
    unfold inst at e ⊢
    cases hr : rat ρ.blk id with
    | none => rw [hr] at e; cases e
    | some p => rw [hr] at e; rw [h.blk _ _ hr]; exact e
theorem instL_ext {ρ ρ' : Rho} (h : Ext ρ ρ') : ∀ (l : List AV) (us : List Value), instL ρ l = some us → instL ρ' l = some us
  | [], us, e => e
  | v :: r, us, e => by
    unfold instL at e ⊢
    cases hr : inst ρ v with
    | none => rw [hr] at e; cases e
    | some p =>
      cases hs : instL ρ r with
      | none => rw [hr, hs] at e; cases e
      | some q => rw [hr, hs] at e; rw [inst_ext h _ _ hr, instL_ext h _ _ hs]; exact e
end
theorem instL_cons {ρ : Rho} {v : AV} {r : List AV} {us : List Value} (h : instL ρ (v :: r) = some us) : ∃ u us', us = u :: us' ∧ inst ρ v = some u ∧ instL ρ r = some us' := by
  unfold instL at h
  cases hr : inst ρ v with
  | none => rw [hr] at h; cases h
  | some p =>
    cases hs : instL ρ r with
    | none => rw [hr, hs] at h; cases h
    | some q => rw [hr, hs] at h; cases h; exact ⟨p, q, rfl, rfl, rfl⟩
theorem instL_mk {ρ : Rho} {v : AV} {r : List AV} {u : Value} {us : List Value} (h1 : inst ρ v = some u) (h2 : instL ρ r = some us) : instL ρ (v :: r) = some (u :: us) := by
  unfold instL; rw [h1, h2]; rfl
theorem instL_len {ρ : Rho} : ∀ {l : List AV} {us : List Value}, instL ρ l = some us → us.length = l.length
  | [], us, h => by cases h; rfl
  | v :: r, us, h => by
    obtain ⟨u, us', rfl, _, h2⟩ := instL_cons h
    simp [instL_len h2]
theorem instL_get {ρ : Rho} : ∀ {l : List AV} {us : List Value} {i : Nat} {v : AV}, instL ρ l = some us → l[i]? = some v → ∃ u, us[i]? = some u ∧ inst ρ v = some u
  | [], us, i, v, _, h => by cases h
  | x :: r, us, 0, v, h, hv => by
    obtain ⟨u, us', rfl, h1, _⟩ := instL_cons h
    cases hv; exact ⟨u, rfl, h1⟩
  | x :: r, us, i + 1, v, h, hv => by
    obtain ⟨u, us', rfl, _, h2⟩ := instL_cons h
    obtain ⟨z, h3, h4⟩ := instL_get (l := r) (us := us') (i := i) (v := v) h2 (by simpa using hv)
    exact ⟨z, by simpa using h3, h4⟩
theorem instL_set {ρ : Rho} : ∀ {l : List AV} {us : List Value} {v : AV} {u : Value} (i : Nat), instL ρ l = some us → inst ρ v = some u → instL ρ (l.set i v) = some (us.set i u)
  | [], us, v, u, i, h, _ => by cases h; rfl
  | x :: r, us, v, u, 0, h, hv => by
    obtain ⟨u', us', rfl, _, h2⟩ := instL_cons h
    exact instL_mk hv h2
  | x :: r, us, v, u, i + 1, h, hv => by
    obtain ⟨u', us', rfl, h1, h2⟩ := instL_cons h
    exact instL_mk h1 (instL_set i h2 hv)
theorem instL_app {ρ : Rho} : ∀ {l l' : List AV} {us us' : List Value}, instL ρ l = some us → instL ρ l' = some us' → instL ρ (l ++ l') = some (us ++ us')
  | [], l', us, us', h, h' => by cases h; exact h'
  | x :: r, l', us, us', h, h' => by
    obtain ⟨u, us1, rfl, h1, h2⟩ := instL_cons h
    exact instL_mk h1 (instL_app h2 h')
theorem instL_take {ρ : Rho} : ∀ {l : List AV} {us : List Value} (n : Nat), instL ρ l = some us → instL ρ (l.take n) = some (us.take n)
  | [], us, n, h => by cases h; simp [instL]
  | x :: r, us, 0, h => by simp [instL]
  | x :: r, us, n + 1, h => by
    obtain ⟨u, us', rfl, h1, h2⟩ := instL_cons h
    exact instL_mk h1 (instL_take n h2)
theorem instL_drop {ρ : Rho} : ∀ {l : List AV} {us : List Value} (n : Nat), instL ρ l = some us → instL ρ (l.drop n) = some (us.drop n)
  | [], us, n, h => by cases h; simp [instL]
  | x :: r, us, 0, h => h
  | x :: r, us, n + 1, h => by
    obtain ⟨u, us', rfl, _, h2⟩ := instL_cons h
    exact instL_drop n h2
theorem instL_lit (ρ : Rho) : ∀ vs : List Value, instL ρ (vs.map .lit) = some vs
  | [] => rfl
  | v :: r => instL_mk rfl (instL_lit ρ r)
/-- a value of one cell -/
def AV.one : AV → Bool
  | .lit v => v.oneCell'
  | .agg _ | .tup _ => false
  | _ => true
theorem AV.one_ok {ρ : Rho} {v : AV} {u : Value} (h : inst ρ v = some u) (h1 : v.one = true) : u.oneCell' = true := by
  cases v with
  | lit v => cases h; exact h1
  | ptr id off =>
    unfold inst at h
    cases hr : rat ρ.blk id with
    | none => rw [hr] at h; cases h
    | some p => rw [hr] at h; cases h; rfl
  | sl id off len skip =>
    unfold inst at h
    cases hr : rat ρ.blk id with
    | none => rw [hr] at h; cases h
    | some p => rw [hr] at h; cases h; rfl
  | opq i => cases h; exact ρ.one i
  | agg cs => cases h1
  | tup cs => cases h1
  | iface t v =>
    unfold inst at h
    cases hr : inst ρ v with
    | none => rw [hr] at h; cases h
    | some p => rw [hr] at h; cases h; rfl
  | fn f a b =>
    unfold inst at h
    cases hr : instL ρ a with
    | none => rw [hr] at h; cases h
    | some p =>
      cases hs : instL ρ b with
      | none => rw [hr, hs] at h; cases h
      | some q => rw [hr, hs] at h; cases h; rfl
  | mp id =>
    unfold inst at h
    cases hr : rat ρ.blk id with
    | none => rw [hr] at h; cases h
    | some p => rw [hr] at h; cases h; rfl
theorem ones_ok {ρ : Rho} : ∀ {l : List AV} {us : List Value}, instL ρ l = some us → l.all (·.one) = true → us.all (·.oneCell') = true
  | [], us, h, _ => by cases h; rfl
  | v :: r, us, h, h1 => by
    obtain ⟨u, us', rfl, h2, h3⟩ := instL_cons h
    simp only [List.all_cons, Bool.and_eq_true] at h1 ⊢
    exact ⟨AV.one_ok h2 h1.1, ones_ok h3 h1.2⟩
/-- a value's cells -/
def AV.cells : AV → List AV
  | .lit v => v.cells.toList.map .lit
  | .agg cs => cs
  | v => [v]
theorem cells_one {u : Value} (h : u.oneCell' = true) : u.cells.toList = [u] := by cases u <;> first | rfl | cases h
theorem cells_ok {ρ : Rho} {v : AV} {u : Value} (h : inst ρ v = some u) (_hv : True) : instL ρ v.cells = some u.cells.toList := by
  cases v with
  | lit v => cases h; exact instL_lit ρ _
  | opq i => rw [cells_one (AV.one_ok h rfl)]; exact instL_mk h rfl
  | agg cs =>
    unfold inst at h
    cases hr : instL ρ cs with
    | none => rw [hr] at h; cases h
    | some p => rw [hr] at h; cases h; exact hr
  | tup cs =>
    have h' := h
    unfold inst at h
    cases hr : instL ρ cs with
    | none => rw [hr] at h; cases h
    | some p => rw [hr] at h; cases h; exact instL_mk h' rfl
  | ptr id off => rw [cells_one (AV.one_ok h rfl)]; exact instL_mk h rfl
  | sl id off len skip => rw [cells_one (AV.one_ok h rfl)]; exact instL_mk h rfl
  | iface t v => rw [cells_one (AV.one_ok h rfl)]; exact instL_mk h rfl
  | fn f a b => rw [cells_one (AV.one_ok h rfl)]; exact instL_mk h rfl
  | mp id => rw [cells_one (AV.one_ok h rfl)]; exact instL_mk h rfl
/-! frames -/
abbrev AF := List (Nat × AV)
def getA : AF → Nat → Option AV
  | [], _ => none
  | (k, v) :: t, i => match Nat.beq k i with | true => some v | false => getA t i
def delA : AF → Nat → AF
  | [], _ => []
  | (k, v) :: t, i => match Nat.beq k i with | true => t | false => (k, v) :: delA t i
def putA (af : AF) (d : Nat) (v : AV) : AF := (d, v) :: delA af d
/-- what a frame of names stands for -/
def FRel (ρ : Rho) (af : AF) (l : Fr) : Prop := ∀ i v, getA af i = some v → ∃ u, get l i = some u ∧ inst ρ v = some u
theorem getA_same (d : Nat) (v : AV) (l : AF) : getA ((d, v) :: l) d = some v := by simp [getA]
theorem getA_ne {d i : Nat} (v : AV) (l : AF) (h : d ≠ i) : getA ((d, v) :: l) i = getA l i := by
  have : Nat.beq d i = false := by simpa [← Bool.not_eq_true] using h
  simp [getA, this]
theorem getA_del : ∀ (l : AF) (d i : Nat), d ≠ i → getA (delA l d) i = getA l i
  | [], _, _, _ => rfl
  | (k, v) :: t, d, i, h => by
    unfold delA
    cases hb : Nat.beq k d with
    | true =>
      have : k = d := by simpa using hb
      subst this
      rw [getA_ne _ _ h]
    | false =>
      simp only [getA]
      rw [getA_del t d i h]
theorem FRel.put {ρ : Rho} {af : AF} {l : Fr} (h : FRel ρ af l) {v : AV} {u : Value} (d : Nat) (hv : inst ρ v = some u) : FRel ρ (putA af d v) ((d, u) :: l) := by
  intro i x hx
  by_cases hi : d = i
  · subst hi
    rw [putA, getA_same] at hx
    cases hx
    exact ⟨u, get_cons_same _ _ _, hv⟩
  · rw [putA, getA_ne _ _ hi, getA_del _ _ _ hi] at hx
    obtain ⟨u', h1, h2⟩ := h i x hx
    exact ⟨u', by rw [get_cons_ne _ _ hi]; exact h1, h2⟩
theorem FRel.ext {ρ ρ' : Rho} {af : AF} {l : Fr} (h : FRel ρ af l) (he : Ext ρ ρ') : FRel ρ' af l := fun i v hv => by
  obtain ⟨u, h1, h2⟩ := h i v hv
  exact ⟨u, h1, inst_ext he _ _ h2⟩
def evalA (af : AF) : Operand → Option AV
  | .tmp t => getA af t
  | .const v => some (.lit v)
  | .global g => some (.lit (.pointer (some ⟨g, 0, none⟩)))
  | .func f => some (.lit (.func (.func f) #[] #[]))
theorem FRel.eval {ρ : Rho} {af : AF} {l : Fr} (h : FRel ρ af l) {x : Operand} {v : AV} (hx : evalA af x = some v) : ∃ u, evl l x = some u ∧ inst ρ v = some u := by
  cases x with
  | tmp t => exact h t v hx
  | const v' => cases hx; exact ⟨_, rfl, rfl⟩
  | global g => cases hx; exact ⟨_, rfl, rfl⟩
  | func f => cases hx; exact ⟨_, rfl, rfl⟩
/-! memory -/
inductive AI where
  | obj (cells : List AV) (T : TypeId)
  | row (n e size : Nat) (cells : List AV)
  | mp (ks vs : List AV) (bs : List Nat) (ck : Nat)
/-- a map's entries -/
def mkEs : List Value → List Value → List Nat → List MapEntry
  | k :: ks, v :: vs, b :: bs => ⟨k, v, b⟩ :: mkEs ks vs bs
  | _, _, _ => []
abbrev AH := List (Nat × AI)
def instI (ρ : Rho) (id : Nat) : AI → Option It
  | .obj cs T => (rat ρ.blk id).bind fun p => (instL ρ cs).map fun vs => SX.blk p.1 vs T
  | .row n e size cs => (rat ρ.blk id).bind fun p => (instL ρ cs).map fun vs => .row (some p.1) p.2 n e size vs
  | .mp ks vs bs ck => (rat ρ.blk id).bind fun p => (instL ρ ks).bind fun us => (instL ρ vs).map fun xs => .obj p.1 (.map (mkEs us xs bs).toArray ck)
def instH (ρ : Rho) : AH → Option (List It)
  | [] => some []
  | (id, it) :: r => (instI ρ id it).bind fun x => (instH ρ r).map fun y => x :: y
theorem instI_ext {ρ ρ' : Rho} (h : Ext ρ ρ') {id : Nat} {it : AI} {x : It} (hx : instI ρ id it = some x) : instI ρ' id it = some x := by
  cases it with
  | obj cs T =>
    dsimp only [instI] at hx ⊢
    cases hr : rat ρ.blk id with
    | none => rw [hr] at hx; cases hx
    | some p =>
      cases hs : instL ρ cs with
      | none => rw [hr, hs] at hx; cases hx
      | some q => rw [hr, hs] at hx; rw [h.blk _ _ hr, instL_ext h _ _ hs]; exact hx
  | row n e size cs =>
    dsimp only [instI] at hx ⊢
    cases hr : rat ρ.blk id with
    | none => rw [hr] at hx; cases hx
    | some p =>
      cases hs : instL ρ cs with
      | none => rw [hr, hs] at hx; cases hx
      | some q => rw [hr, hs] at hx; rw [h.blk _ _ hr, instL_ext h _ _ hs]; exact hx
  | mp ks vs bs ck =>
    dsimp only [instI] at hx ⊢
    cases hr : rat ρ.blk id with
    | none => rw [hr] at hx; cases hx
    | some p =>
      cases hs : instL ρ ks with
      | none => rw [hr, hs] at hx; cases hx
      | some q =>
        cases hq : instL ρ vs with
        | none => rw [hr, hs, hq] at hx; cases hx
        | some z => rw [hr, hs, hq] at hx; rw [h.blk _ _ hr, instL_ext h _ _ hs, instL_ext h _ _ hq]; exact hx
theorem instH_cons {ρ : Rho} {id : Nat} {it : AI} {r : AH} {xs : List It} (h : instH ρ ((id, it) :: r) = some xs) : ∃ x xs', xs = x :: xs' ∧ instI ρ id it = some x ∧ instH ρ r = some xs' := by
  unfold instH at h
  cases hr : instI ρ id it with
  | none => rw [hr] at h; cases h
  | some p =>
    cases hs : instH ρ r with
    | none => rw [hr, hs] at h; cases h
    | some q => rw [hr, hs] at h; cases h; exact ⟨p, q, rfl, rfl, rfl⟩
theorem instH_mk {ρ : Rho} {id : Nat} {it : AI} {r : AH} {x : It} {xs : List It} (h1 : instI ρ id it = some x) (h2 : instH ρ r = some xs) : instH ρ ((id, it) :: r) = some (x :: xs) := by
  unfold instH; rw [h1, h2]; rfl
theorem instH_ext {ρ ρ' : Rho} (h : Ext ρ ρ') : ∀ {hp : AH} {xs : List It}, instH ρ hp = some xs → instH ρ' hp = some xs
  | [], xs, e => e
  | (id, it) :: r, xs, e => by
    obtain ⟨x, xs', rfl, h1, h2⟩ := instH_cons e
    exact instH_mk (instI_ext h h1) (instH_ext h h2)
/-- an item by its name: its place, too -/
def findA : AH → Nat → Nat → Option (Nat × AI)
  | [], _, _ => none
  | (k, it) :: t, id, j => match Nat.beq k id with | true => some (j, it) | false => findA t id (j + 1)
def setH : AH → Nat → AI → AH
  | [], _, _ => []
  | (k, it) :: t, id, x => match Nat.beq k id with | true => (k, x) :: t | false => (k, it) :: setH t id x
def dropH : AH → Nat → AH
  | [], _ => []
  | (k, it) :: t, id => match Nat.beq k id with | true => t | false => (k, it) :: dropH t id
theorem findA_ok {ρ : Rho} : ∀ {hp : AH} {xs : List It} {id j i : Nat} {it : AI}, instH ρ hp = some xs → findA hp id j = some (i, it) → ∃ x, j ≤ i ∧ xs[i - j]? = some x ∧ instI ρ id it = some x
  | [], _, _, _, _, _, _, h => by cases h
  | (k, it') :: t, xs, id, j, i, it, hx, h => by
    obtain ⟨x, xs', rfl, h1, h2⟩ := instH_cons hx
    unfold findA at h
    cases hb : Nat.beq k id with
    | true =>
      rw [hb] at h
      cases h
      have : k = id := by simpa using hb
      subst this
      exact ⟨x, Nat.le_refl _, by simp, h1⟩
    | false =>
      rw [hb] at h
      obtain ⟨y, h3, h4, h5⟩ := findA_ok h2 h
      refine ⟨y, by omega, ?_, h5⟩
      rw [show i - j = (i - (j + 1)) + 1 by omega]
      exact h4
theorem setH_ok {ρ : Rho} {y : It} {z : AI} : ∀ {hp : AH} {xs : List It} {id j i : Nat} {it : AI}, instH ρ hp = some xs → findA hp id j = some (i, it) → instI ρ id z = some y → instH ρ (setH hp id z) = some (xs.set (i - j) y)
  | [], _, _, _, _, _, _, h, _ => by cases h
  | (k, it') :: t, xs, id, j, i, it, hx, h, hz => by
    obtain ⟨x, xs', rfl, h1, h2⟩ := instH_cons hx
    unfold findA at h
    unfold setH
    cases hb : Nat.beq k id with
    | true =>
      rw [hb] at h
      cases h
      have : k = id := by simpa using hb
      subst this
      rw [Nat.sub_self]
      exact instH_mk hz h2
    | false =>
      rw [hb] at h
      obtain ⟨y', h3, _, _⟩ := findA_ok h2 h
      have := setH_ok (z := z) h2 h hz
      rw [show i - j = (i - (j + 1)) + 1 by omega]
      exact instH_mk h1 this
theorem dropH_ok {ρ : Rho} : ∀ {hp : AH} {xs : List It} (id : Nat), instH ρ hp = some xs → ∃ xs', instH ρ (dropH hp id) = some xs' ∧ xs'.Sublist xs
  | [], xs, id, h => ⟨xs, h, List.Sublist.refl _⟩
  | (k, it') :: t, xs, id, hx => by
    obtain ⟨x, xs', rfl, h1, h2⟩ := instH_cons hx
    unfold dropH
    cases hb : Nat.beq k id with
    | true => exact ⟨xs', h2, List.sublist_cons_self _ _⟩
    | false =>
      obtain ⟨ys, h3, h4⟩ := dropH_ok id h2
      exact ⟨x :: ys, instH_mk h1 h3, h4.cons_cons _⟩
/-- names not yet used -/
def Fresh (ρ : Rho) (nx : Nat) : Prop := ∀ id, nx ≤ id → rat ρ.blk id = none
def Rho.add (ρ : Rho) (id b c : Nat) : Rho := { ρ with blk := (id, b, c) :: ρ.blk }
theorem Ext.add {ρ : Rho} {nx : Nat} (h : Fresh ρ nx) (b c : Nat) : Ext ρ (ρ.add nx b c) := by
  refine ⟨fun id p hp => ?_, rfl⟩
  have : nx ≠ id := by rintro rfl; rw [h nx (Nat.le_refl _)] at hp; cases hp
  show rat ((nx, b, c) :: ρ.blk) id = _
  rw [rat_ne _ _ this]; exact hp
theorem Fresh.add {ρ : Rho} {nx : Nat} (h : Fresh ρ nx) (b c : Nat) : Fresh (ρ.add nx b c) (nx + 1) := by
  intro id hid
  show rat ((nx, b, c) :: ρ.blk) id = _
  rw [rat_ne _ _ (by omega)]; exact h id (by omega)
theorem rat_add (ρ : Rho) (id b c : Nat) : rat (ρ.add id b c).blk id = some (b, c) := rat_same _ _ _
end Go.EX

namespace Go.EX
open Go.SX Go.RowKit
/-- a computation that asks the world nothing -/
def pureRun {α : Type} (P : Program) : Sem α → Option α
  | .pure a => some a
  | .program k => pureRun P (k P)
  | .mark _ k => pureRun P k
  | .choose q k => match q.forced with | true => pureRun P (k 0) | false => none
  | _ => none
theorem pureRun_ok {α : Type} {P : Program} : ∀ (m : Sem α) {a : α}, pureRun P m = some a → ∀ w, m.run P w = .ok a w
  | .pure _, a, h, w => by cases h; rfl
  | .program k, a, h, w => by
    unfold Sem.run
    exact pureRun_ok (k P) h w
  | .mark _ k, a, h, w => by
    unfold Sem.run
    exact pureRun_ok k h w
  | .choose q k, a, h, w => by
    unfold pureRun at h
    unfold Sem.run
    cases hq : q.forced with
    | true => rw [hq] at h; simp only [↓reduceIte]; exact pureRun_ok (k 0) h w
    | false => rw [hq] at h; cases h
  | .load .., a, h, w => by cases h
  | .store .., a, h, w => by cases h
  | .new .., a, h, w => by cases h
  | .shape .., a, h, w => by cases h
  | .freeze .., a, h, w => by cases h
  | .frozen .., a, h, w => by cases h
  | .getObj .., a, h, w => by cases h
  | .setObj .., a, h, w => by cases h
  | .sys .., a, h, w => by cases h
  | .halt .., a, h, w => by cases h
/-- a type of one cell -/
def oneT (P : Program) (t : TypeId) : Bool :=
  match P.underlying t with
  | some (.struct _) | some (.array _ _) | none => false
  | some _ => true
theorem oneT_ok {P : Program} {t : TypeId} (h : oneT P t = true) : One P t := by
  intro w
  unfold oneT at h
  cases hu : P.underlying t with
  | none => rw [hu] at h; cases h
  | some d =>
    have := run_underlying hu w
    cases d <;> first | (rw [hu] at h; cases h; done) | simp [isAgg, this]
/-- a type of cells, and how many -/
def aggT (P : Program) (t : TypeId) : Option Nat :=
  match P.underlying t with
  | some (.struct _) | some (.array _ _) => (P.info? t).map (·.size)
  | _ => none
theorem aggT_ok {P : Program} {t : TypeId} {n : Nat} (h : aggT P t = some n) : AggT P t n := by
  unfold aggT at h
  cases hu : P.underlying t with
  | none => rw [hu] at h; cases h
  | some d =>
    refine AggT.of ?_ (by rw [hu] at h; cases d <;> first | exact h | cases h)
    rw [hu] at h ⊢
    cases d <;> first | rfl | cases h
def fieldOff (P : Program) (s f : Nat) : Option Nat :=
  match P.underlying s with
  | some (.struct fs) => match fs[f]? with
    | some fd => match (P.info? fd.type).map (·.size) with
      | some (_ + 1) => some fd.offset
      | _ => none
    | none => none
  | _ => none
theorem fieldOff_ok {P : Program} {s f d : Nat} (h : fieldOff P s f = some d) : FieldOff P s f d := by
  intro b o w
  unfold fieldOff at h
  cases hu : P.underlying s with
  | none => rw [hu] at h; cases h
  | some ds =>
    rw [hu] at h
    cases ds <;> first | (cases h; done) | skip
    rename_i fs
    simp only at h
    cases hf : fs[f]? with
    | none => rw [hf] at h; cases h
    | some fd =>
      rw [hf] at h
      simp only at h
      cases hi : P.info? fd.type with
      | none => rw [hi] at h; cases h
      | some inf =>
        rw [hi] at h
        simp only [Option.map_some] at h
        cases hz : inf.size with
        | zero => rw [hz] at h; cases h
        | succ k =>
          rw [hz] at h
          cases h
          have h1 := run_underlying hu w
          have h2 : (sizeOf fd.type).run P w = .ok inf.size w := by simp [sizeOf, typeInfo, hi]
          simp [Instr.fieldAt, h1, hf, Instr.sureAddr, fieldPlace, h2, hz, Addr.add_lit]
def sizeT (P : Program) (t : TypeId) : Option Nat := (P.info? t).map (·.size)
theorem sizeT_ok {P : Program} {t : TypeId} {n : Nat} (h : sizeT P t = some n) : SizeIs P t n := by
  intro w
  unfold sizeT at h
  cases hi : P.info? t with
  | none => rw [hi] at h; cases h
  | some inf => rw [hi] at h; cases h; simp [sizeOf, typeInfo, hi]
/-- a slice's element type, its cells and bytes, its zero -/
def elemT (P : Program) (t : TypeId) : Option (TypeId × Nat × Nat × Value) :=
  match P.underlying t with
  | some (.slice e) => match P.info? e with
    | some i => match i.zero with
      | some z => match Nat.beq z.cells.size i.size with
        | true => some (e, i.size, i.bytes, z)
        | false => none
      | none => none
    | none => none
  | _ => none
theorem elemT_ok {P : Program} {t e size bytes : Nat} {z : Value} (h : elemT P t = some (e, size, bytes, z)) : Elem P t e size bytes ∧ SizeIs P e size ∧ (P.info? e).map (·.zero) = some (some z) := by
  unfold elemT at h
  cases hu : P.underlying t with
  | none => rw [hu] at h; cases h
  | some d =>
    rw [hu] at h
    cases d <;> first | (cases h; done) | skip
    rename_i e'
    simp only at h
    cases hi : P.info? e' with
    | none => rw [hi] at h; cases h
    | some i =>
      rw [hi] at h
      simp only at h
      cases hz : i.zero with
      | none => rw [hz] at h; cases h
      | some z' =>
        rw [hz] at h
        simp only at h
        cases hb : Nat.beq z'.cells.size i.size with
        | false => rw [hb] at h; cases h
        | true =>
          rw [hb] at h
          cases h
          refine ⟨⟨hu, i, _, hi, hz, rfl, rfl, by simpa using hb⟩, fun w => by simp [sizeOf, typeInfo, hi], by rw [hi]; simp [hz]⟩
def isIface (P : Program) (t : TypeId) : Bool := match P.underlying t with | some (.interface _) => true | _ => false
theorem isIface_ok {P : Program} {t : TypeId} (h : isIface P t = true) : ∃ ms, P.underlying t = some (.interface ms) := by
  unfold isIface at h
  cases hu : P.underlying t with
  | none => rw [hu] at h; cases h
  | some d =>
    rw [hu] at h
    cases d <;> first | (cases h; done) | exact ⟨_, rfl⟩
def noIface (P : Program) (t : TypeId) : Bool := match P.underlying t with | some (.interface _) | none => false | _ => true
theorem noIface_ok {P : Program} {t : TypeId} (h : noIface P t = true) : NoIface P t ∧ NotIface P t := by
  unfold noIface at h
  cases hu : P.underlying t with
  | none => rw [hu] at h; cases h
  | some d =>
    rw [hu] at h
    refine ⟨fun w v => ?_, ⟨d, hu, fun ms hd => by subst hd; cases h⟩⟩
    have := run_underlying hu w
    cases d <;> first | (cases h; done) | simp [Instr.makeInterface, this]
def isPtr (P : Program) (t : TypeId) : Bool := match P.underlying t with | some (.pointer _) => true | _ => false
theorem isPtr_ok {P : Program} {t : TypeId} (h : isPtr P t = true) : ∃ e, P.underlying t = some (.pointer e) := by
  unfold isPtr at h
  cases hu : P.underlying t with
  | none => rw [hu] at h; cases h
  | some d =>
    rw [hu] at h
    cases d <;> first | (cases h; done) | exact ⟨_, rfl⟩
def litL : List AV → Option (List Value)
  | [] => some []
  | .lit v :: r => (litL r).map fun vs => v :: vs
  | _ :: _ => none
theorem litL_ok {ρ : Rho} : ∀ {l : List AV} {vs : List Value}, litL l = some vs → instL ρ l = some vs
  | [], vs, h => by cases h; rfl
  | .lit v :: r, vs, h => by
    unfold litL at h
    cases hr : litL r with
    | none => rw [hr] at h; cases h
    | some us => rw [hr] at h; cases h; exact instL_mk rfl (litL_ok hr)
  | .ptr .. :: r, vs, h => by cases h
  | .sl .. :: r, vs, h => by cases h
  | .opq .. :: r, vs, h => by cases h
  | .agg .. :: r, vs, h => by cases h
  | .tup .. :: r, vs, h => by cases h
  | .iface .. :: r, vs, h => by cases h
  | .fn .. :: r, vs, h => by cases h
def evalsA (af : AF) : List Operand → Option (List AV)
  | [] => some []
  | x :: r => (evalA af x).bind fun v => (evalsA af r).map fun vs => v :: vs
theorem evalsA_ok {ρ : Rho} {af : AF} {l : Fr} (h : FRel ρ af l) : ∀ {xs : List Operand} {vs : List AV}, evalsA af xs = some vs → ∃ us, evals l xs = some us ∧ instL ρ vs = some us
  | [], vs, e => by cases e; exact ⟨[], rfl, rfl⟩
  | x :: r, vs, e => by
    unfold evalsA at e
    cases hx : evalA af x with
    | none => rw [hx] at e; cases e
    | some v =>
      cases hr : evalsA af r with
      | none => rw [hx, hr] at e; cases e
      | some vs' =>
        rw [hx, hr] at e
        cases e
        obtain ⟨u, h1, h2⟩ := h.eval hx
        obtain ⟨us, h3, h4⟩ := evalsA_ok h hr
        exact ⟨u :: us, by unfold evals; rw [h1, h3], instL_mk h2 h4⟩
theorem inst_lit {ρ : Rho} {v u : Value} (h : inst ρ (.lit v) = some u) : u = v := by cases h; rfl
theorem inst_ptr {ρ : Rho} {id off : Nat} {u : Value} (h : inst ρ (.ptr id off) = some u) : ∃ p, rat ρ.blk id = some p ∧ u = .pointer (some ⟨p.1, off, none⟩) := by
  unfold inst at h
  cases hr : rat ρ.blk id with
  | none => rw [hr] at h; cases h
  | some p => rw [hr] at h; cases h; exact ⟨p, rfl, rfl⟩
theorem inst_sl {ρ : Rho} {id off n k : Nat} {u : Value} (h : inst ρ (.sl id off n k) = some u) : ∃ p, rat ρ.blk id = some p ∧ u = .slice (some ⟨p.1, off, none⟩) n (p.2 - k) := by
  unfold inst at h
  cases hr : rat ρ.blk id with
  | none => rw [hr] at h; cases h
  | some p => rw [hr] at h; cases h; exact ⟨p, rfl, rfl⟩
theorem inst_tup {ρ : Rho} {cs : List AV} {u : Value} (h : inst ρ (.tup cs) = some u) : ∃ us, instL ρ cs = some us ∧ u = .tuple us.toArray := by
  unfold inst at h
  cases hr : instL ρ cs with
  | none => rw [hr] at h; cases h
  | some p => rw [hr] at h; cases h; exact ⟨p, rfl, rfl⟩
theorem inst_agg {ρ : Rho} {cs : List AV} {u : Value} (h : inst ρ (.agg cs) = some u) : ∃ us, instL ρ cs = some us ∧ u = .agg us.toArray := by
  unfold inst at h
  cases hr : instL ρ cs with
  | none => rw [hr] at h; cases h
  | some p => rw [hr] at h; cases h; exact ⟨p, rfl, rfl⟩
theorem inst_if {ρ : Rho} {t : TypeId} {v : AV} {u : Value} (h : inst ρ (.iface t v) = some u) : ∃ x, inst ρ v = some x ∧ u = .iface t x := by
  unfold inst at h
  cases hr : inst ρ v with
  | none => rw [hr] at h; cases h
  | some p => rw [hr] at h; cases h; exact ⟨p, rfl, rfl⟩
theorem inst_fn {ρ : Rho} {f : Fn} {a b : List AV} {u : Value} (h : inst ρ (.fn f a b) = some u) : ∃ x y, instL ρ a = some x ∧ instL ρ b = some y ∧ u = .func f x.toArray y.toArray := by
  unfold inst at h
  cases hr : instL ρ a with
  | none => rw [hr] at h; cases h
  | some p =>
    cases hs : instL ρ b with
    | none => rw [hr, hs] at h; cases h
    | some q => rw [hr, hs] at h; cases h; exact ⟨p, q, rfl, rfl, rfl⟩
/-- two values held against each other; only where one is nil -/
def eqNilA (P : Program) (t : TypeId) (y : Operand) (v w : AV) : Option Bool :=
  match v, w, y with
  | .iface _ _, .lit .nilIface, _ => match isIface P t with | true => some false | false => none
  | .lit .nilIface, .lit .nilIface, .const .nilIface => match isIface P t with | true => some true | false => none
  | .ptr _ _, .lit (.pointer none), .const (.pointer none) => match isPtr P t with | true => some false | false => none
  | _, _, _ => none
def nilA (P : Program) (op : BinOp) (t : TypeId) (y : Operand) (v w : AV) : Option AV :=
  match op with
  | .eql => (eqNilA P t y v w).map fun b => .lit (.bool b)
  | .neq => (eqNilA P t y v w).map fun b => .lit (.bool !b)
  | _ => none
def orLit (o : Option Value) (e : Option AV) : Option AV :=
  match o with
  | some r => some (.lit r)
  | none => e
def binA (P : Program) (op : BinOp) (t : TypeId) (x y : Operand) (v w : AV) : Option AV :=
  match v with
  | .lit a => match w with
    | .lit b => orLit (pureRun P (do eqGuard op t x y a b; binOp op t a b)) (nilA P op t y (.lit a) (.lit b))
    | w => nilA P op t y (.lit a) w
  | v => nilA P op t y v w
theorem Y.nePtrNil {P : Program} {l : Fr} {W : World → Prop} {t ty ty2 e : TypeId} {x : Operand} {a : Addr} (h : P.underlying t = some (.pointer e)) (hx : evl l x = some (.pointer (some a))) : Y P l W (.binOp .neq t x (.const (.pointer none)) ty2) ty (.bool true) := by
  refine Y.bin hx rfl fun w _ => ?_
  have e1 : (Op.equalIn 10000 t (.pointer (some a)) (.pointer none)).run P w = .ok false w := by
    have h1 := run_underlying h w
    have h2 : ∀ d : Nat, (Op.equalIn (d + 1) t (.pointer (some a)) (.pointer none)).run P w = .ok false w := fun d => by simp [Op.equalIn, h1]
    exact h2 9999
  have e2 : binOp .neq t (.pointer (some a)) (.pointer none) = (do pure (.bool (!(← Op.equalIn 10000 t (.pointer (some a)) (.pointer none))))) := rfl
  have e3 : eqGuard .neq t x (.const (.pointer none)) (.pointer (some a)) (.pointer none) = pure () := rfl
  simp only [e3, e2, pure_bind, Sem.run_bind, Sem.run_pure, Result.andThen_ok, e1, Bool.not_false]
theorem eqNil_both {P : Program} {t ty2 ty : TypeId} {x y : Operand} {l : Fr} {W : World → Prop} {b : Bool} {v w : AV} {ρ : Rho} {u u' : Value} (h : eqNilA P t y v w = some b) (hx : evl l x = some u) (hy : evl l y = some u') (hv : inst ρ v = some u) (hw : inst ρ w = some u') :
    Y P l W (.binOp .eql t x y ty2) ty (.bool b) ∧ Y P l W (.binOp .neq t x y ty2) ty (.bool !b) := by
  unfold eqNilA at h
  split at h
  · split at h
    · rename_i hi
      cases h
      obtain ⟨ms, hm⟩ := isIface_ok hi
      obtain rfl := inst_lit hw
      obtain ⟨z, _, rfl⟩ := inst_if hv
      exact ⟨Y.eqNil hm hx hy, Y.neNil hm hx hy⟩
    · cases h
  · split at h
    · rename_i hi
      cases h
      obtain ⟨ms, hm⟩ := isIface_ok hi
      obtain rfl := inst_lit hv
      exact ⟨Y.eqNilNil hm hx, Y.neNilNil hm hx⟩
    · cases h
  · split at h
    · rename_i hi
      cases h
      obtain ⟨e, he⟩ := isPtr_ok hi
      obtain ⟨p, _, rfl⟩ := inst_ptr hv
      exact ⟨SX.Y.eqPtrNil he hx, Y.nePtrNil he hx⟩
    · cases h
  · cases h
theorem nilA_ok {P : Program} {op : BinOp} {t ty2 ty : TypeId} {x y : Operand} {l : Fr} {W : World → Prop} {v w r : AV} {ρ : Rho} {u u' : Value} (h : nilA P op t y v w = some r) (hx : evl l x = some u) (hy : evl l y = some u') (hv : inst ρ v = some u) (hw : inst ρ w = some u') :
    ∃ z, inst ρ r = some z ∧ Y P l W (.binOp op t x y ty2) ty z := by
  unfold nilA at h
  cases hb : eqNilA P t y v w with
  | none => rw [hb] at h; cases op <;> cases h
  | some b =>
    rw [hb] at h
    cases op <;> first | (cases h; done) | skip
    · cases h; exact ⟨_, rfl, (eqNil_both hb hx hy hv hw).1⟩
    · cases h; exact ⟨_, rfl, (eqNil_both hb hx hy hv hw).2⟩
theorem binA_ok {P : Program} {op : BinOp} {t ty2 ty : TypeId} {x y : Operand} {l : Fr} {W : World → Prop} {v w r : AV} {ρ : Rho} {u u' : Value} (h : binA P op t x y v w = some r) (hx : evl l x = some u) (hy : evl l y = some u') (hv : inst ρ v = some u) (hw : inst ρ w = some u') :
    ∃ z, inst ρ r = some z ∧ Y P l W (.binOp op t x y ty2) ty z := by
  cases v with
  | lit a =>
    cases w with
    | lit b =>
      dsimp only [binA] at h
      cases hr : pureRun P (do eqGuard op t x y a b; binOp op t a b) with
      | some r' =>
        rw [hr] at h
        cases h
        obtain rfl := inst_lit hv
        obtain rfl := inst_lit hw
        exact ⟨r', rfl, Y.bin hx hy fun w _ => pureRun_ok _ hr w⟩
      | none => rw [hr] at h; exact nilA_ok h hx hy hv hw
    | _ => exact nilA_ok h hx hy hv hw
  | _ => exact nilA_ok h hx hy hv hw
/-- a part of a value, laid over its cells -/
def layA : List AV → Nat → List AV → Option (List AV)
  | cs, 0, [] => some cs
  | [], _, _ => none
  | _ :: t, 0, v :: r => (layA t 0 r).map fun x => v :: x
  | c :: t, o + 1, vs => (layA t o vs).map fun x => c :: x
def pickA (af : AF) (c x y : Operand) : Option AV :=
  match evalA af c with
  | some (.lit (.bool true)) => evalA af x
  | some (.lit (.bool false)) => evalA af y
  | _ => none
def nilckA (af : AF) (x : Operand) : Option AV :=
  match evalA af x with
  | some (.ptr id off) => some (.ptr id off)
  | _ => none
def extrA (af : AF) (x : Operand) (k : Nat) : Option AV :=
  match evalA af x with
  | some (.tup vs) => vs[k]?
  | _ => none
def fieldA (P : Program) (af : AF) (s : TypeId) (x : Operand) (f : Nat) : Option AV :=
  match evalA af x, fieldOff P s f with
  | some (.ptr id off), some d => some (.ptr id (off + d))
  | _, _ => none
def lit1 (P : Program) (af : AF) (x : Operand) (f : Value → Sem Value) : Option AV :=
  match evalA af x with
  | some (.lit v) => (pureRun P (f v)).map .lit
  | _ => none
def lit2 (P : Program) (af : AF) (x y : Operand) (f : Value → Value → Sem Value) : Option AV :=
  match evalA af x, evalA af y with
  | some (.lit u), some (.lit v) => (pureRun P (f u v)).map .lit
  | _, _ => none
def idxA (P : Program) (af : AF) (t : TypeId) (x y : Operand) : Option AV :=
  match evalA af x, evalA af y, elemT P t with
  | some (.sl id off len _), some (.lit (.int _ (.ofNat i))), some (_, size, _, _) => match Nat.blt i len with
    | true => some (.ptr id (off + i * size))
    | false => none
  | _, _, _ => none
def mkIA (P : Program) (af : AF) (t : TypeId) (x : Operand) : Option AV :=
  match noIface P t with
  | true => (evalA af x).map fun v => .iface t v
  | false => none
def zeroA (P : Program) (k : TypeId) : Option AV := ((P.info? k).bind (·.zero)).map fun z => .tup [.lit z, .lit (.bool false)]
def assertA (P : Program) (af : AF) (x : Operand) (k : TypeId) : Option AV :=
  match noIface P k, evalA af x with
  | true, some (.iface t v) => match Nat.beq t k with
    | true => some (.tup [v, .lit (.bool true)])
    | false => zeroA P k
  | true, some (.lit .nilIface) => zeroA P k
  | _, _ => none
def sliceLit (P : Program) (af : AF) (t : TypeId) (x : Operand) (lo hi : Option Operand) : Option AV :=
  match lo, hi with
  | some a, none => lit2 P af x a fun v a => Instr.sliceAt t v (some a) none none
  | none, some b => lit2 P af x b fun v b => Instr.sliceAt t v none (some b) none
  | some a, some b => match evalA af a with
    | some (.lit u) => lit2 P af x b fun v b => Instr.sliceAt t v (some u) (some b) none
    | _ => none
  | _, _ => none
def lenA (P : Program) (af : AF) (x : Operand) (t : Option TypeId) : Option AV :=
  match evalA af x, t.bind P.underlying with
  | some (.sl _ _ n _), some (.slice _) => some (.lit (.int .i64 n))
  | some (.lit (.slice _ n _)), some (.slice _) => some (.lit (.int .i64 n))
  | some (.lit (.string s)), some .string => some (.lit (.int .i64 s.size))
  | _, _ => none
def mmA (af : AF) (x y : Operand) (mx : Bool) : Option AV :=
  match evalA af x, evalA af y with
  | some (.lit (.int k a)), some (.lit (.int _ b)) => some (.lit (.int k (match mx with | true => if b > a then b else a | false => if b < a then b else a)))
  | _, _ => none
def builtA (P : Program) (af : AF) (b : Builtin) (args : List Operand) (ats : Array TypeId) : Option AV :=
  match b with
  | .len => match args with
    | [x] => lenA P af x ats[0]?
    | _ => none
  | .max => match args with
    | [x, y] => mmA af x y true
    | _ => none
  | .min => match args with
    | [x, y] => mmA af x y false
    | _ => none
  | _ => none
def callPure (P : Program) (af : AF) (c : Call) : Option AV :=
  match c.callee with
  | .builtin b => builtA P af b c.args.toList c.argTypes
  | _ => none
/-- the values of operations that ask neither memory nor the world -/
def pureA (P : Program) (af : AF) (o : Op) : Option AV :=
  match o with
  | .move x => evalA af x
  | .assign x => evalA af x
  | .pick c x y => pickA af c x y
  | .nilCheck x => nilckA af x
  | .extract x k => extrA af x k
  | .fieldAddr s x f => fieldA P af s x f
  | .binOp op t x y _ => (evalA af x).bind fun v => (evalA af y).bind fun w => binA P op t x y v w
  | .unOp op _ x => lit1 P af x fun v => Op.unary op v
  | .convert s d x => lit1 P af x fun v => Go.convert s d v
  | .index t x y => lit2 P af x y fun u v => Instr.index t u v
  | .indexAddr t x y => idxA P af t x y
  | .makeInterface t x => mkIA P af t x
  | .makeFunc f a b => (evalsA af a.toList).bind fun x => (evalsA af b.toList).map fun y => .fn f x y
  | .typeAssert x _ k ok => match ok with
    | true => assertA P af x k
    | false => none
  | .slice t x lo hi mx => match mx with
    | none => sliceLit P af t x lo hi
    | some _ => none
  | .call c => callPure P af c
  | _ => none
theorem run_bindv {P : Program} {s : Sem Value} {v : Value} {w : World} (h : s.run P w = .ok v w) : ((do pure (.value (← s))) : Sem Next).run P w = .ok (.value v) w := by
  rw [Sem.run_bind, h]; rfl
theorem Y.of1 {P : Program} {l : Fr} {W : World → Prop} {ty : TypeId} {o : Op} {v : Value} (h : ∀ (ρ : Operand → Value), (∀ x u, evl l x = some u → ρ x = u) → ∀ (o' : Oper), o'.op = o → o'.type = ty → ∀ w, (execOp ρ o').run P w = .ok (.value v) w) : Y P l W o ty v := fun ρ hρ o' ho ht w _ => h ρ hρ o' ho ht w
theorem zero_run {P : Program} {k : TypeId} {z : Value} (h : (P.info? k).bind (·.zero) = some z) (w : World) : (zeroValue k).run P w = .ok z w := by
  cases hi : P.info? k with
  | none => rw [hi] at h; cases h
  | some i =>
    rw [hi] at h
    have : i.zero = some z := h
    simp [zeroValue, typeInfo, hi, this]
theorem evals_split {l : Fr} : ∀ {a b : List Operand} {us : List Value}, evals l (a ++ b) = some us → ∃ x y, evals l a = some x ∧ evals l b = some y ∧ us = x ++ y
  | [], b, us, h => ⟨[], us, rfl, h, rfl⟩
  | p :: r, b, us, h => by
    simp only [List.cons_append] at h
    unfold evals at h
    split at h
    · rename_i v vs h1 h2
      cases h
      obtain ⟨x, y, e1, e2, rfl⟩ := evals_split h2
      exact ⟨v :: x, y, by unfold evals; rw [h1, e1], e2, rfl⟩
    · cases h
theorem evals_one {l : Fr} {x : Operand} {us : List Value} (h : evals l [x] = some us) : ∃ u, us = [u] ∧ evl l x = some u := by
  unfold evals at h
  split at h
  · rename_i v vs h1 h2
    unfold evals at h2
    cases h2; cases h
    exact ⟨v, rfl, h1⟩
  · cases h
theorem evals_two {l : Fr} {x y : Operand} {us : List Value} (h : evals l [x, y] = some us) : ∃ u v, us = [u, v] ∧ evl l x = some u ∧ evl l y = some v := by
  obtain ⟨a, b, h1, h2, rfl⟩ := evals_split (a := [x]) (b := [y]) h
  obtain ⟨u, rfl, e1⟩ := evals_one h1
  obtain ⟨v, rfl, e2⟩ := evals_one h2
  exact ⟨u, v, rfl, e1, e2⟩
theorem litL_inst {ρ : Rho} {as : List AV} {vs us : List Value} (h : litL as = some vs) (h' : instL ρ as = some us) : us = vs := by
  rw [litL_ok h] at h'; cases h'; rfl
section
variable {P : Program} {ρ : Rho} {af : AF} {l : Fr}
theorem lit1_ok (hf : FRel ρ af l) {x : Operand} {f : Value → Sem Value} {v : AV} (h : lit1 P af x f = some v) : ∃ u r, evl l x = some u ∧ v = .lit r ∧ ∀ w, (f u).run P w = .ok r w := by
  unfold lit1 at h
  split at h
  · rename_i v' hx
    obtain ⟨u, h1, h2⟩ := hf.eval hx
    obtain rfl := inst_lit h2
    cases hr : pureRun P (f u) with
    | none => rw [hr] at h; cases h
    | some r => rw [hr] at h; cases h; exact ⟨u, r, h1, rfl, fun w => pureRun_ok _ hr w⟩
  · cases h
theorem lit2_ok (hf : FRel ρ af l) {x y : Operand} {f : Value → Value → Sem Value} {v : AV} (h : lit2 P af x y f = some v) : ∃ u u' r, evl l x = some u ∧ evl l y = some u' ∧ v = .lit r ∧ ∀ w, (f u u').run P w = .ok r w := by
  unfold lit2 at h
  split at h
  · rename_i a b hx hy
    obtain ⟨u, h1, h2⟩ := hf.eval hx
    obtain rfl := inst_lit h2
    obtain ⟨u', h3, h4⟩ := hf.eval hy
    obtain rfl := inst_lit h4
    cases hr : pureRun P (f u u') with
    | none => rw [hr] at h; cases h
    | some r => rw [hr] at h; cases h; exact ⟨u, u', r, h1, h3, rfl, fun w => pureRun_ok _ hr w⟩
  · cases h
theorem lenA_ok (hf : FRel ρ af l) {x : Operand} {c : Call} {v : AV} (h : lenA P af x c.argTypes[0]? = some v) (hc : c.callee = .builtin .len) (ha : c.args.toList = [x]) (W : World → Prop) (ty : TypeId) : ∃ u, inst ρ v = some u ∧ Y P l W (.call c) ty u := by
  have hc' : c = { callee := .builtin .len, args := #[x], argTypes := c.argTypes } := by
    cases c; simp only at hc ha ⊢; subst hc; congr 1; rw [← ha]
  unfold lenA at h
  split at h
  · rename_i hx hu
    cases h
    obtain ⟨u, h1, h2⟩ := hf.eval hx
    obtain ⟨p, hp, rfl⟩ := inst_sl h2
    obtain ⟨t, ht, hu'⟩ := Option.bind_eq_some_iff.1 hu
    exact ⟨_, rfl, by rw [hc']; exact Y.lenSl h1 hu' ht⟩
  · rename_i hx hu
    cases h
    obtain ⟨u, h1, h2⟩ := hf.eval hx
    obtain rfl := inst_lit h2
    obtain ⟨t, ht, hu'⟩ := Option.bind_eq_some_iff.1 hu
    exact ⟨_, rfl, by rw [hc']; exact Y.lenSl h1 hu' ht⟩
  · rename_i s hx hu
    cases h
    obtain ⟨u, h1, h2⟩ := hf.eval hx
    obtain rfl := inst_lit h2
    obtain ⟨t, ht, hu'⟩ := Option.bind_eq_some_iff.1 hu
    refine ⟨_, rfl, Y.of1 fun σ hσ o' ho _ w => ?_⟩
    rw [hc'] at ho
    simp [execOp, ho, hσ _ _ h1, resolve, invoke, builtin, Builtin.len_, ht, run_underlying hu', goInt]
  · cases h
theorem zeroA_ok {k : TypeId} {v : AV} (h : zeroA P k = some v) : ∃ z, (∀ w, (zeroValue k).run P w = .ok z w) ∧ inst ρ v = some (.tuple #[z, .bool false]) := by
  unfold zeroA at h
  cases hz : (P.info? k).bind (·.zero) with
  | none => rw [hz] at h; cases h
  | some z => rw [hz] at h; cases h; exact ⟨z, zero_run hz, by unfold inst; rw [instL_mk rfl (instL_mk rfl rfl)]; rfl⟩
theorem pureA_ok (hf : FRel ρ af l) {o : Op} {v : AV} (h : pureA P af o = some v) (W : World → Prop) (ty : TypeId) : ∃ u, inst ρ v = some u ∧ Y P l W o ty u := by
  cases o with
  | move x =>
    obtain ⟨u, h1, h2⟩ := hf.eval (x := x) h
    exact ⟨u, h2, Y.move h1⟩
  | assign x =>
    obtain ⟨u, h1, h2⟩ := hf.eval (x := x) h
    exact ⟨u, h2, Y.assign h1⟩
  | pick c x y =>
    dsimp only [pureA] at h
    unfold pickA at h
    split at h
    · rename_i hc
      obtain ⟨c, h1, h2⟩ := hf.eval hc
      obtain rfl := inst_lit h2
      obtain ⟨u, h3, h4⟩ := hf.eval h
      exact ⟨u, h4, Y.pickT h1 rfl h3⟩
    · rename_i hc
      obtain ⟨c, h1, h2⟩ := hf.eval hc
      obtain rfl := inst_lit h2
      obtain ⟨u, h3, h4⟩ := hf.eval h
      exact ⟨u, h4, Y.pickF h1 rfl h3⟩
    · cases h
  | nilCheck x =>
    dsimp only [pureA] at h
    unfold nilckA at h
    split at h
    · rename_i hx
      cases h
      obtain ⟨u, h1, h2⟩ := hf.eval hx
      refine ⟨u, h2, ?_⟩
      obtain ⟨p, _, rfl⟩ := inst_ptr h2
      exact Y.nilCheck h1
    · cases h
  | extract x k =>
    dsimp only [pureA] at h
    unfold extrA at h
    split at h
    · rename_i vs hx
      obtain ⟨u, h1, h2⟩ := hf.eval hx
      obtain ⟨us, h3, rfl⟩ := inst_tup h2
      obtain ⟨z, h4, h5⟩ := instL_get h3 h
      exact ⟨z, h5, Y.extract h1 (by simpa using h4)⟩
    · cases h
  | fieldAddr s x f =>
    dsimp only [pureA] at h
    unfold fieldA at h
    split at h
    · rename_i hx hd
      cases h
      obtain ⟨u, h1, h2⟩ := hf.eval hx
      obtain ⟨p, hp, rfl⟩ := inst_ptr h2
      exact ⟨_, by unfold inst; rw [hp]; rfl, Y.fieldAddr (fieldOff_ok hd) h1⟩
    · cases h
  | binOp op t x y ty2 =>
    dsimp only [pureA] at h
    obtain ⟨a, hx, h⟩ := Option.bind_eq_some_iff.1 h
    obtain ⟨b, hy, h⟩ := Option.bind_eq_some_iff.1 h
    obtain ⟨u, h1, h2⟩ := hf.eval hx
    obtain ⟨u', h3, h4⟩ := hf.eval hy
    exact binA_ok h h1 h3 h2 h4
  | unOp op t x =>
    obtain ⟨u, r, h1, rfl, h2⟩ := lit1_ok hf h
    refine ⟨r, rfl, Y.of1 fun σ hσ o' ho _ w => ?_⟩
    simp only [execOp, ho, hσ _ _ h1]
    exact run_bindv (h2 w)
  | convert s d x =>
    obtain ⟨u, r, h1, rfl, h2⟩ := lit1_ok hf h
    refine ⟨r, rfl, Y.of1 fun σ hσ o' ho _ w => ?_⟩
    simp only [execOp, ho, hσ _ _ h1]
    exact run_bindv (h2 w)
  | index t x y =>
    obtain ⟨u, u', r, h1, h3, rfl, h2⟩ := lit2_ok hf h
    refine ⟨r, rfl, Y.of1 fun σ hσ o' ho _ w => ?_⟩
    simp only [execOp, ho, hσ _ _ h1, hσ _ _ h3]
    exact run_bindv (h2 w)
  | indexAddr t x y =>
    dsimp only [pureA] at h
    unfold idxA at h
    split at h
    · rename_i id off len sk kk i e size by' z hx hy he
      split at h
      · rename_i hlt
        cases h
        obtain ⟨u, h1, h2⟩ := hf.eval hx
        obtain ⟨p, hp, rfl⟩ := inst_sl h2
        obtain ⟨u', h3, h4⟩ := hf.eval hy
        obtain rfl := inst_lit h4
        obtain ⟨hE, hS, _⟩ := elemT_ok he
        exact ⟨_, by unfold inst; rw [hp]; rfl, Y.idx hE.ht hS h1 h3 (by simpa using hlt)⟩
      · cases h
    · cases h
  | makeInterface t x =>
    dsimp only [pureA] at h
    unfold mkIA at h
    split at h
    · rename_i hn
      cases hx : evalA af x with
      | none => rw [hx] at h; cases h
      | some a =>
        rw [hx] at h; cases h
        obtain ⟨u, h1, h2⟩ := hf.eval hx
        exact ⟨_, by unfold inst; rw [h2]; rfl, Y.mkI (noIface_ok hn).1 h1⟩
    · cases h
  | makeFunc f a b =>
    dsimp only [pureA] at h
    obtain ⟨xs, hx, h⟩ := Option.bind_eq_some_iff.1 h
    cases hy : evalsA af b.toList with
    | none => rw [hy] at h; cases h
    | some ys =>
      rw [hy] at h; cases h
      obtain ⟨us, h1, h2⟩ := evalsA_ok hf hx
      obtain ⟨us', h3, h4⟩ := evalsA_ok hf hy
      refine ⟨.func f us.toArray us'.toArray, by unfold inst; rw [h2, h4]; rfl, Y.of1 fun σ hσ o' ho _ w => ?_⟩
      have e1 : a.map σ = us.toArray := by
        have := evals_map hσ _ _ h1
        rw [← this, ← List.map_toArray]
      have e2 : b.map σ = us'.toArray := by
        have := evals_map hσ _ _ h3
        rw [← this, ← List.map_toArray]
      simp only [execOp, ho, e1, e2, Instr.makeFunc]
      rfl
  | typeAssert x s k ok =>
    dsimp only [pureA] at h
    cases ok with
    | false => cases h
    | true =>
      simp only at h
      unfold assertA at h
      split at h
      · rename_i t v' hn hx
        obtain ⟨u, h1, h2⟩ := hf.eval hx
        obtain ⟨z, h3, rfl⟩ := inst_if h2
        split at h
        · rename_i hb
          cases h
          have : t = k := by simpa using hb
          subst this
          exact ⟨_, by unfold inst; rw [instL_mk h3 (instL_mk rfl rfl)]; rfl, Y.assertYes (noIface_ok hn).2 h1⟩
        · rename_i hb
          obtain ⟨zz, e1, e2⟩ := zeroA_ok (ρ := ρ) h
          exact ⟨_, e2, Y.assertNo (noIface_ok hn).2 h1 (fun he => by subst he; simp at hb) e1⟩
      · rename_i hn hx
        obtain ⟨u, h1, h2⟩ := hf.eval hx
        obtain rfl := inst_lit h2
        obtain ⟨zz, e1, e2⟩ := zeroA_ok (ρ := ρ) h
        refine ⟨_, e2, Y.of1 fun σ hσ o' ho _ w => ?_⟩
        obtain ⟨d, hd, hne⟩ := (noIface_ok hn).2
        have e3 := run_underlying hd w
        have e4 := e1 w
        simp only [execOp, ho, hσ _ _ h1]
        refine run_bindv ?_
        cases d <;> first | exact absurd rfl (hne _) | simp [Instr.typeAssert, e3, e4]
      · cases h
  | slice t x lo hi mx =>
    dsimp only [pureA] at h
    cases mx with
    | some m => cases h
    | none =>
      simp only at h
      unfold sliceLit at h
      split at h
      · obtain ⟨u, u', r, h1, h3, rfl, h2⟩ := lit2_ok hf h
        refine ⟨r, rfl, Y.of1 fun σ hσ o' ho _ w => ?_⟩
        simp only [execOp, ho, hσ _ _ h1, Option.map_some, Option.map_none, hσ _ _ h3]
        exact run_bindv (h2 w)
      · obtain ⟨u, u', r, h1, h3, rfl, h2⟩ := lit2_ok hf h
        refine ⟨r, rfl, Y.of1 fun σ hσ o' ho _ w => ?_⟩
        simp only [execOp, ho, hσ _ _ h1, Option.map_some, Option.map_none, hσ _ _ h3]
        exact run_bindv (h2 w)
      · split at h
        · rename_i ha
          obtain ⟨ua, h5, h6⟩ := hf.eval ha
          obtain rfl := inst_lit h6
          obtain ⟨u, u', r, h1, h3, rfl, h2⟩ := lit2_ok hf h
          refine ⟨r, rfl, Y.of1 fun σ hσ o' ho _ w => ?_⟩
          simp only [execOp, ho, hσ _ _ h1, Option.map_some, Option.map_none, hσ _ _ h3, hσ _ _ h5]
          exact run_bindv (h2 w)
        · cases h
      · cases h
  | call c =>
    dsimp only [pureA] at h
    unfold callPure at h
    cases hc : c.callee with
    | value f => rw [hc] at h; cases h
    | invoke r m => rw [hc] at h; cases h
    | builtin b =>
      rw [hc] at h
      dsimp only at h
      have mm : ∀ {x y : Operand} {mx : Bool}, mmA af x y mx = some v → ∃ k k' a b', evl l x = some (.int k a) ∧ evl l y = some (.int k' b') ∧ v = .lit (.int k (match mx with | true => if b' > a then b' else a | false => if b' < a then b' else a)) := by
        intro x y mx h
        unfold mmA at h
        split at h
        · rename_i hx hy
          cases h
          obtain ⟨u, h1, h2⟩ := hf.eval hx
          obtain rfl := inst_lit h2
          obtain ⟨u', h3, h4⟩ := hf.eval hy
          obtain rfl := inst_lit h4
          exact ⟨_, _, _, _, h1, h3, rfl⟩
        · cases h
      cases b with
      | len =>
        dsimp only [builtA] at h
        split at h
        · rename_i x ha
          exact lenA_ok hf h hc ha W ty
        · cases h
      | max =>
        dsimp only [builtA] at h
        split at h
        · rename_i x y ha
          obtain ⟨k, k', a, b', h1, h2, rfl⟩ := mm h
          have hc' : c = { callee := .builtin .max, args := #[x, y], argTypes := c.argTypes } := by
            cases c; simp only at hc ha ⊢; subst hc; congr 1; rw [← ha]
          exact ⟨_, rfl, by rw [hc']; exact Y.max2 h1 h2⟩
        · cases h
      | min =>
        dsimp only [builtA] at h
        split at h
        · rename_i x y ha
          obtain ⟨k, k', a, b', h1, h2, rfl⟩ := mm h
          have hc' : c = { callee := .builtin .min, args := #[x, y], argTypes := c.argTypes } := by
            cases c; simp only at hc ha ⊢; subst hc; congr 1; rw [← ha]
          exact ⟨_, rfl, by rw [hc']; exact Y.min2 h1 h2⟩
        · cases h
      | _ => cases h
  | _ => cases h
end
end Go.EX

namespace Go.EX
open Go.SX Go.RowKit
def AI.cells : AI → List AV
  | .obj cs _ => cs
  | .row _ _ _ cs => cs
  | .mp _ _ _ _ => []
def findRO : List AH → Nat → Option AI
  | [], _ => none
  | h :: t, id => match findA h id 0 with
    | some (_, it) => some it
    | none => findRO t id
/-- an item that is owned, or that may be read -/
def lookA (hp : AH) (ro : List AH) (id : Nat) : Option AI :=
  match findA hp id 0 with
  | some (_, it) => some it
  | none => findRO ro id
/-- what may be read: it lies below all that is owned -/
def RO (w0 : World) (base : Nat) (ρ : Rho) (ro : List AH) : Prop :=
  ∀ id it, findRO ro id = some it → ∃ p us, rat ρ.blk id = some p ∧ instL ρ it.cells = some us ∧ p.1 < base ∧ (∀ off u, us[off]? = some u → w0.cell? ⟨p.1, off, none⟩ = some u) ∧ (∀ n e s cs, it = .row n e s cs → n ≤ p.2)
theorem RO.ext {w0 : World} {base : Nat} {ρ ρ' : Rho} {ro : List AH} (h : RO w0 base ρ ro) (he : Ext ρ ρ') : RO w0 base ρ' ro := fun id it hi => by
  obtain ⟨p, us, h1, h2, h3⟩ := h id it hi
  exact ⟨p, us, he.blk _ _ h1, instL_ext he _ _ h2, h3⟩
/-- the program's variables that are known -/
def lookE : List (Nat × AV) → Nat → Option AV
  | [], _ => none
  | (k, v) :: t, g => match Nat.beq k g with | true => some v | false => lookE t g
def EE (w0 : World) (base : Nat) (ρ : Rho) (E : List (Nat × AV)) : Prop := ∀ g v, lookE E g = some v → ∃ u, inst ρ v = some u ∧ w0.cell? ⟨g, 0, none⟩ = some u ∧ g < base
theorem EE.ext {w0 : World} {base : Nat} {ρ ρ' : Rho} {E : List (Nat × AV)} (h : EE w0 base ρ E) (he : Ext ρ ρ') : EE w0 base ρ' E := fun g v hg => by
  obtain ⟨u, h1, h2⟩ := h g v hg
  exact ⟨u, inst_ext he _ _ h1, h2⟩
section
variable {P : Program} {w0 : World} {base : Nat} {ρ : Rho} {hp : AH} {ro : List AH} {its : List It} {E : List (Nat × AV)} {af : AF} {l : Fr}
theorem instI_row {id n e s : Nat} {cs : List AV} {x : It} (h : instI ρ id (.row n e s cs) = some x) : ∃ p us, rat ρ.blk id = some p ∧ instL ρ cs = some us ∧ x = .row (some p.1) p.2 n e s us := by
  dsimp only [instI] at h
  cases hr : rat ρ.blk id with
  | none => rw [hr] at h; cases h
  | some p =>
    cases hs : instL ρ cs with
    | none => rw [hr, hs] at h; cases h
    | some us => rw [hr, hs] at h; cases h; exact ⟨p, us, rfl, rfl, rfl⟩
theorem instI_obj {id : Nat} {T : TypeId} {cs : List AV} {x : It} (h : instI ρ id (.obj cs T) = some x) : ∃ p us, rat ρ.blk id = some p ∧ instL ρ cs = some us ∧ x = SX.blk p.1 us T := by
  dsimp only [instI] at h
  cases hr : rat ρ.blk id with
  | none => rw [hr] at h; cases h
  | some p =>
    cases hs : instL ρ cs with
    | none => rw [hr, hs] at h; cases h
    | some us => rw [hr, hs] at h; cases h; exact ⟨p, us, rfl, rfl, rfl⟩
theorem instI_mp {id : Nat} {ks vs : List AV} {bs : List Nat} {ck : Nat} {x : It} (h : instI ρ id (.mp ks vs bs ck) = some x) : ∃ p us xs, rat ρ.blk id = some p ∧ instL ρ ks = some us ∧ instL ρ vs = some xs ∧ x = .obj p.1 (.map (mkEs us xs bs).toArray ck) := by
  dsimp only [instI] at h
  cases hr : rat ρ.blk id with
  | none => rw [hr] at h; cases h
  | some p =>
    cases hs : instL ρ ks with
    | none => rw [hr, hs] at h; cases h
    | some us =>
      cases hq : instL ρ vs with
      | none => rw [hr, hs, hq] at h; cases h
      | some xs => rw [hr, hs, hq] at h; cases h; exact ⟨p, us, xs, rfl, rfl, rfl, rfl⟩
/-- what is known of an item that is looked up -/
theorem look_ok (hH : instH ρ hp = some its) (hR : RO w0 base ρ ro) {id : Nat} {it : AI} (h : lookA hp ro id = some it) :
    ∃ p us, rat ρ.blk id = some p ∧ instL ρ it.cells = some us ∧ (∀ w, WA w0 base its w → ∀ off u, us[off]? = some u → w.cell? ⟨p.1, off, none⟩ = some u) ∧ (∀ n e s cs, it = .row n e s cs → ∀ w, WA w0 base its w → n ≤ p.2) := by
  unfold lookA at h
  cases hf : findA hp id 0 with
  | some q =>
    obtain ⟨i, it'⟩ := q
    rw [hf] at h
    cases h
    obtain ⟨x, _, hx, hi⟩ := findA_ok hH hf
    cases it with
    | obj cs T =>
      obtain ⟨p, us, h1, h2, rfl⟩ := instI_obj hi
      exact ⟨p, us, h1, h2, fun w hw off u hu => hw.cell hx hu, fun n e s cs h => by cases h⟩
    | row n e s cs =>
      obtain ⟨p, us, h1, h2, rfl⟩ := instI_row hi
      refine ⟨p, us, h1, h2, fun w hw off u hu => (hw.rowCell hx hu).1, fun n' e' s' cs' h w hw => ?_⟩
      cases h
      exact (row_len (hw.get hx)).2
    | mp ks vs bs ck =>
      obtain ⟨p, us, xs, h1, h2, h3, rfl⟩ := instI_mp hi
      exact ⟨p, [], h1, rfl, (fun w hw off u hu => by cases hu), fun n e s cs h => by cases h⟩
  | none =>
    rw [hf] at h
    obtain ⟨p, us, h1, h2, h3, h4, h5⟩ := hR id it h
    exact ⟨p, us, h1, h2, fun w hw off u hu => hw.old (a := ⟨p.1, off, none⟩) h3 (h4 off u hu), fun n e s cs h w hw => h5 n e s cs h⟩
def bytesA : List AV → Option (List UInt8)
  | [] => some []
  | .lit (.int .u8 (.ofNat k)) :: r => match Nat.blt k 256 with
    | true => (bytesA r).map fun bs => k.toUInt8 :: bs
    | false => none
  | _ :: _ => none
theorem bytesA_ok : ∀ {cs : List AV} {bs : List UInt8} {us : List Value}, bytesA cs = some bs → instL ρ cs = some us → us = bs.map b8 := by
  intro cs
  induction cs with
  | nil => intro bs us h h'; cases h; cases h'; rfl
  | cons c r ih =>
    intro bs us h h'
    obtain ⟨u, us', rfl, h1, h2⟩ := instL_cons h'
    unfold bytesA at h
    split at h
    · rename_i hh; cases hh
    · rename_i k r' hk
      injection hk with hk1 hk2
      subst hk1; subst hk2
      split at h
      · rename_i hb
        cases hr : bytesA r with
        | none => rw [hr] at h; cases h
        | some bs' =>
          rw [hr] at h; cases h
          obtain rfl := inst_lit h1
          have hk : k < 256 := by simpa using hb
          rw [ih hr h2]
          simp only [List.map_cons, List.cons.injEq, and_true, b8]
          have : (k.toUInt8).toNat = k := by simp; omega
          rw [this]; rfl
      · cases h
    · cases h
/-- values that memory is asked for -/
def readA (P : Program) (E : List (Nat × AV)) (ro : List AH) (hp : AH) (af : AF) : Op → Option AV
  | .load t x => match evalA af x with
    | some (.ptr id off) => (lookA hp ro id).bind fun it => match oneT P t with
      | true => it.cells[off]?
      | false => (aggT P t).bind fun k => match Nat.beq ((it.cells.drop off).take k).length k with
        | true => some (.agg ((it.cells.drop off).take k))
        | false => none
    | some (.lit (.pointer (some ⟨g, 0, none⟩))) => match oneT P t with
      | true => lookE E g
      | false => none
    | _ => none
  | .slice t x lo hi none => match evalA af x, elemT P t with
    | some (.sl id off n skip), some (_, size, _, _) => match lookA hp ro id with
      | some (.row m _ _ _) => match Nat.ble (n + skip) m, lo, hi with
        | true, none, some b => match evalA af b with
          | some (.lit (.int _ (.ofNat k))) => match Nat.ble k n with
            | true => some (.sl id off k skip)
            | false => none
          | _ => none
        | true, some a, none => match evalA af a with
          | some (.lit (.int _ (.ofNat j))) => match Nat.blt j n with
            | true => some (.sl id (off + j * size) (n - j) (skip + j))
            | false => none
          | _ => none
        | true, some a, some b => match evalA af a, evalA af b with
          | some (.lit (.int _ (.ofNat j))), some (.lit (.int _ (.ofNat k))) => match Nat.ble k n && Nat.blt j k with
            | true => some (.sl id (off + j * size) (k - j) (skip + j))
            | false => none
          | _, _ => none
        | _, _, _ => none
      | _ => none
    | _, _ => none
  | .convert s d x => match evalA af x with
    | some (.sl id 0 n 0) => match findA hp id 0, P.underlying s, P.underlying d with
      | some (_, .row m e 1 cs), some (.slice e'), some .string => match P.underlying e' with
        | some (.int .u8) => match Nat.beq m n && Nat.beq e e' with
          | true => (bytesA cs).map fun bs => .lit (str bs)
          | false => none
        | _ => none
      | _, _, _ => none
    | _ => none
  | _ => none
theorem readA_ok (hf : FRel ρ af l) (hH : instH ρ hp = some its) (hR : RO w0 base ρ ro) (hE : EE w0 base ρ E) {o : Op} {v : AV} (h : readA P E ro hp af o = some v) (ty : TypeId) :
    ∃ u, inst ρ v = some u ∧ Y P l (WA w0 base its) o ty u := by
  unfold readA at h
  split at h
  · rename_i t x
    split at h
    · rename_i id off hx
      obtain ⟨it, hl, h⟩ := Option.bind_eq_some_iff.1 h
      obtain ⟨u, h1, h2⟩ := hf.eval hx
      obtain ⟨p, hp', rfl⟩ := inst_ptr h2
      obtain ⟨p2, us, e1, e2, e3, _⟩ := look_ok hH hR hl
      rw [hp'] at e1; cases e1
      split at h
      · rename_i ht
        obtain ⟨z, h3, h4⟩ := instL_get e2 h
        exact ⟨z, h4, Y.load (oneT_ok ht) h1 fun w hw => e3 w hw _ _ h3⟩
      · obtain ⟨k, hk, h⟩ := Option.bind_eq_some_iff.1 h
        split at h
        · rename_i hlen
          cases h
          have e4 := instL_take k (instL_drop off e2)
          have hlen' : ((us.drop off).take k).length = k := by rw [instL_len e4]; simpa using hlen
          refine ⟨_, by unfold inst; rw [e4]; rfl, Y.loadA (aggT_ok hk) hlen' h1 fun w hw j u hj => e3 w hw _ _ ?_⟩
          rw [List.getElem?_take] at hj
          split at hj
          · rw [List.getElem?_drop] at hj; exact hj
          · cases hj
        · cases h
    · rename_i g hx
      split at h
      · rename_i ht
        obtain ⟨u, h1, h2⟩ := hf.eval hx
        obtain rfl := inst_lit h2
        obtain ⟨z, h3, h4, h5⟩ := hE g v h
        exact ⟨z, h3, Y.ldO (oneT_ok ht) h1 h4 h5⟩
      · cases h
    · cases h
  · rename_i t x lo hi
    split at h
    · rename_i id off n skip e size by' z hx he
      split at h
      · rename_i m e' s' cs' hl
        obtain ⟨u, h1, h2⟩ := hf.eval hx
        obtain ⟨p, hp', rfl⟩ := inst_sl h2
        obtain ⟨p2, us, e1, e2, _, e3⟩ := look_ok hH hR hl
        rw [hp'] at e1; cases e1
        obtain ⟨hEl, hS, _⟩ := elemT_ok he
        split at h
        · rename_i lo' hi' b hm
          split at h
          · rename_i kk k hb
            split at h
            · rename_i hk
              cases h
              obtain ⟨ub, h3, h4⟩ := hf.eval hb
              obtain rfl := inst_lit h4
              have hk' : k ≤ n := by simpa using hk
              have hm' : n + skip ≤ m := by simpa using hm
              refine ⟨_, by unfold inst; rw [hp']; rfl, fun σ hσ o' ho ht w hw => ?_⟩
              have := e3 _ _ _ _ rfl w hw
              exact Y.cutHi (W := WA w0 base its) hEl.ht hS h1 h3 (by omega) σ hσ o' ho ht w hw
            · cases h
          · cases h
        · rename_i lo' hi' a hm
          split at h
          · rename_i kk j ha
            split at h
            · rename_i hj
              cases h
              obtain ⟨ub, h3, h4⟩ := hf.eval ha
              obtain rfl := inst_lit h4
              have hj' : j < n := by simpa using hj
              have hm' : n + skip ≤ m := by simpa using hm
              refine ⟨.slice (some ⟨p.1, off + j * size, none⟩) (n - j) (p.2 - (skip + j)), by unfold inst; rw [hp']; rfl, fun σ hσ o' ho ht w hw => ?_⟩
              have h5 := e3 _ _ _ _ rfl w hw
              have h6 := Y.cutLo (W := WA w0 base its) (ty := ty) hEl.ht hS h1 h3 (by omega) σ hσ o' ho ht w hw
              rw [if_neg (by omega)] at h6
              simpa [Addr.add_lit, Nat.sub_sub] using h6
            · cases h
          · cases h
        · rename_i lo' hi' a b hm
          split at h
          · rename_i kk j kk' k ha hb
            split at h
            · rename_i hjk
              cases h
              simp only [Bool.and_eq_true] at hjk
              obtain ⟨ua, h3, h4⟩ := hf.eval ha
              obtain rfl := inst_lit h4
              obtain ⟨ub, h5, h6⟩ := hf.eval hb
              obtain rfl := inst_lit h6
              have hk' : k ≤ n := by simpa using hjk.1
              have hj' : j < k := by simpa using hjk.2
              have hm' : n + skip ≤ m := by simpa using hm
              refine ⟨.slice (some ⟨p.1, off + j * size, none⟩) (k - j) (p.2 - (skip + j)), by unfold inst; rw [hp']; rfl, fun σ hσ o' ho ht w hw => ?_⟩
              have h7 := e3 _ _ _ _ rfl w hw
              have h8 := Y.cutBoth (W := WA w0 base its) (ty := ty) hEl.ht hS h1 h3 h5 (by omega) (by omega) σ hσ o' ho ht w hw
              rw [if_neg (by omega)] at h8
              simpa [Addr.add_lit, Nat.sub_sub] using h8
            · cases h
          · cases h
        · cases h
      · cases h
    · cases h
  · rename_i s d x
    split at h
    · rename_i id n hx
      split at h
      · rename_i i m e cs e' hfd hs hd
        split at h
        · rename_i he
          split at h
          · rename_i hb
            cases hbs : bytesA cs with
            | none => rw [hbs] at h; cases h
            | some bs =>
              rw [hbs] at h; cases h
              simp only [Bool.and_eq_true] at hb
              have hm : m = n := by simpa using hb.1
              have he' : e = e' := by simpa using hb.2
              subst hm; subst he'
              obtain ⟨u, h1, h2⟩ := hf.eval hx
              obtain ⟨p, hp', rfl⟩ := inst_sl h2
              obtain ⟨x', _, hxs, hi⟩ := findA_ok hH hfd
              obtain ⟨p2, us, e1, e2, rfl⟩ := instI_row hi
              rw [hp'] at e1; cases e1
              have := bytesA_ok hbs e2
              subst this
              have h1' : evl l x = some (rv (some p.1) m p.2) := h1
              exact ⟨_, rfl, Y.str _ h1' hxs hs he hd⟩
          · cases h
        · cases h
      · cases h
    · cases h
  · cases h
def valA (P : Program) (E : List (Nat × AV)) (ro : List AH) (hp : AH) (af : AF) (o : Op) : Option AV :=
  match pureA P af o with
  | some v => some v
  | none => readA P E ro hp af o
theorem valA_ok (hf : FRel ρ af l) (hH : instH ρ hp = some its) (hR : RO w0 base ρ ro) (hE : EE w0 base ρ E) {o : Op} {v : AV} (h : valA P E ro hp af o = some v) (ty : TypeId) :
    ∃ u, inst ρ v = some u ∧ Y P l (WA w0 base its) o ty u := by
  unfold valA at h
  cases hp' : pureA P af o with
  | some v' => rw [hp'] at h; cases h; exact pureA_ok hf hp' _ ty
  | none => rw [hp'] at h; exact readA_ok hf hH hR hE h ty
end
end Go.EX

namespace Go.EX
open Go.SX Go.RowKit
def AV.seen : AV → Bool
  | _ => true
theorem AV.seen_ok {v : AV} (_h : v.seen = true) : True := trivial
def overlay (cs : List AV) (off : Nat) (vs : List AV) : List AV := cs.take off ++ (vs ++ cs.drop (off + vs.length))
def overlayV (cs : List Value) (off : Nat) (vs : List Value) : List Value := cs.take off ++ (vs ++ cs.drop (off + vs.length))
theorem overlay_ok {ρ : Rho} {cs vs : List AV} {us zs : List Value} (off : Nat) (h : instL ρ cs = some us) (h' : instL ρ vs = some zs) : instL ρ (overlay cs off vs) = some (overlayV us off zs) := by
  unfold overlay overlayV
  rw [instL_len h']
  exact instL_app (instL_take _ h) (instL_app h' (instL_drop _ h))
theorem foldl_overlay (off : Nat) (l : List Value) (cs : Array Value) (h : off + l.length ≤ cs.size) : (l.zipIdx 0).foldl (fun cs (x : Value × Nat) => cs.setIfInBounds (off + x.2) x.1) cs = (overlayV cs.toList off l).toArray := by
  obtain ⟨h1, h2⟩ := Great.foldl_set off l 0 cs
  apply Array.ext_getElem?
  intro k
  rw [h2 k]
  unfold overlayV
  simp only [Nat.add_zero, List.getElem?_toArray]
  by_cases ha : k < off
  · rw [if_neg (by omega), List.getElem?_append_left (by simp; omega), List.getElem?_take, if_pos ha, Array.getElem?_toList]
  · rw [List.getElem?_append_right (by simp; omega)]
    have e1 : (cs.toList.take off).length = off := by simp; omega
    rw [e1]
    by_cases hb : k < off + l.length
    · rw [if_pos ⟨by omega, hb, by omega⟩, List.getElem?_append_left (by omega)]
    · rw [if_neg (by omega), List.getElem?_append_right (by omega), List.getElem?_drop, Array.getElem?_toList]
      congr 1
      omega
/-- the parts of a literal laid into its cells -/
def fillA (places : List (Nat × Nat)) : List AV → List (Nat × AV) → Option (List AV)
  | cells, [] => some cells
  | cells, (i, v) :: rest => match places[i]? with
    | some (off, size) => match v.seen && (Nat.beq v.cells.length size && Nat.ble (off + v.cells.length) cells.length) with
      | true => fillA places (overlay cells off v.cells) rest
      | false => none
    | none => none
def instP (ρ : Rho) : List (Nat × AV) → Option (List (Nat × Value))
  | [] => some []
  | (i, v) :: r => (inst ρ v).bind fun u => (instP ρ r).map fun us => (i, u) :: us
theorem fillA_ok {ρ : Rho} {places : List (Nat × Nat)} : ∀ {parts : List (Nat × AV)} {cells r : List AV} {us : List Value} {ps : List (Nat × Value)}, fillA places cells parts = some r → instL ρ cells = some us → instP ρ parts = some ps →
    ∃ rs, Instr.fill (places.toArray[·]?) us.toArray ps = some rs ∧ instL ρ r = some rs.toList
  | [], cells, r, us, ps, h, hc, hp => by
    cases h; cases hp
    exact ⟨us.toArray, rfl, by simpa using hc⟩
  | (i, v) :: rest, cells, r, us, ps, h, hc, hp => by
    unfold instP at hp
    cases hv : inst ρ v with
    | none => rw [hv] at hp; cases hp
    | some u =>
      cases hr : instP ρ rest with
      | none => rw [hv, hr] at hp; cases hp
      | some us' =>
        rw [hv, hr] at hp; cases hp
        unfold fillA at h
        split at h
        · rename_i off size hpl
          split at h
          · rename_i hb
            simp only [Bool.and_eq_true] at hb
            have h1 : v.cells.length = size := by simpa using hb.2.1
            have h2 : off + v.cells.length ≤ cells.length := by simpa using hb.2.2
            have hcv := cells_ok hv (AV.seen_ok hb.1)
            have h3 := instL_len hcv
            have h4 := instL_len hc
            obtain ⟨rs, e1, e2⟩ := fillA_ok h (overlay_ok off hc hcv) hr
            refine ⟨rs, ?_, e2⟩
            unfold Instr.fill
            have e3 : (places.toArray[i]?) = some (off, size) := by simpa using hpl
            simp only [e3]
            rw [if_neg (by simp at h3 ⊢; omega)]
            rw [← e1]
            congr 1
            rw [← Array.foldl_toList, Array.toList_zipIdx, foldl_overlay off u.cells.toList us.toArray (by simp at h3 ⊢; omega)]
          · cases h
        · cases h
def partsA (af : AF) : List (Nat × Operand) → Option (List (Nat × AV))
  | [] => some []
  | (i, x) :: r => (evalA af x).bind fun v => (partsA af r).map fun vs => (i, v) :: vs
theorem partsA_ok {ρ : Rho} {af : AF} {l : Fr} (hf : FRel ρ af l) : ∀ {ps : List (Nat × Operand)} {vs : List (Nat × AV)}, partsA af ps = some vs → ∃ us, evps l ps = some us ∧ instP ρ vs = some us
  | [], vs, h => by cases h; exact ⟨[], rfl, rfl⟩
  | (i, x) :: r, vs, h => by
    unfold partsA at h
    cases hx : evalA af x with
    | none => rw [hx] at h; cases h
    | some v =>
      cases hr : partsA af r with
      | none => rw [hx, hr] at h; cases h
      | some vs' =>
        rw [hx, hr] at h; cases h
        obtain ⟨u, h1, h2⟩ := hf.eval hx
        obtain ⟨us, h3, h4⟩ := partsA_ok hf hr
        exact ⟨(i, u) :: us, by unfold evps; rw [h1, h3], by unfold instP; rw [h2, h4]; rfl⟩
def placesA (P : Program) (t : TypeId) : Option (List Value × List (Nat × Nat)) :=
  match P.info? t, P.underlying t with
  | some it, some (.struct fields) =>
    match it.zero, fields.toList.mapM (fun f => (P.info? f.type).map fun i => (f.offset, i.size)) with
    | some z, some places => some (z.cells.toList, places)
    | _, _ => none
  | _, _ => none
theorem placesA_ok {P : Program} {t : TypeId} {zs : List Value} {places : List (Nat × Nat)} (h : placesA P t = some (zs, places)) (w : World) {ps : List (Nat × Value)} {rs : Array Value} (hr : Instr.fill (places.toArray[·]?) zs.toArray ps = some rs) :
    (Instr.build t ps.toArray).run P w = .ok (.agg rs) w := by
  refine run_build w t ps.toArray rs ?_
  unfold placesA at h
  unfold Program.built
  cases hit : P.info? t with
  | none => rw [hit] at h; cases h
  | some it =>
    cases hu : P.underlying t with
    | none => rw [hit, hu] at h; cases h
    | some d =>
      rw [hit, hu] at h
      cases d <;> first | (cases h; done) | skip
      rename_i fields
      simp only at h ⊢
      cases hz : it.zero with
      | none => rw [hz] at h; cases h
      | some z =>
        cases hm : fields.toList.mapM (fun f => (P.info? f.type).map fun i => (f.offset, i.size)) with
        | none => rw [hz, hm] at h; cases h
        | some pl =>
          rw [hz, hm] at h
          cases h
          simpa using hr
/-- a struct's literal -/
def buildA (P : Program) (af : AF) : Op → Option AV
  | .build t parts => (placesA P t).bind fun q => (partsA af parts.toList).bind fun ps => (fillA q.2 (q.1.map .lit) ps).map .agg
  | _ => none
theorem evps_arr {l : Fr} {parts : Array (Nat × Operand)} {us : List (Nat × Value)} (h : evps l parts.toList = some us) {σ : Operand → Value} (hσ : ∀ x u, evl l x = some u → σ x = u) : (parts.map fun x => match x with | (i, x) => (i, σ x)) = us.toArray := by
  have := evps_map hσ _ _ h
  rw [← this, ← List.map_toArray]
theorem buildA_ok {P : Program} {ρ : Rho} {af : AF} {l : Fr} (hf : FRel ρ af l) {o : Op} {v : AV} (h : buildA P af o = some v) (W : World → Prop) (ty : TypeId) : ∃ u, inst ρ v = some u ∧ Y P l W o ty u := by
  unfold buildA at h
  split at h
  · rename_i t parts
    obtain ⟨q, hq, h⟩ := Option.bind_eq_some_iff.1 h
    obtain ⟨ps, hps, h⟩ := Option.bind_eq_some_iff.1 h
    cases hfl : fillA q.2 (q.1.map .lit) ps with
    | none => rw [hfl] at h; cases h
    | some r =>
      rw [hfl] at h; cases h
      obtain ⟨us, h1, h2⟩ := partsA_ok hf hps
      obtain ⟨rs, h3, h4⟩ := fillA_ok hfl (instL_lit ρ q.1) h2
      refine ⟨.agg rs, by unfold inst; rw [h4]; simp, Y.of1 fun σ hσ o' ho _ w => ?_⟩
      simp only [execOp, ho]
      refine run_bindv ?_
      rw [evps_arr h1 hσ]
      exact placesA_ok hq w h3
  · cases h
/-! a slice's literal -/
def denseA (size : Nat) : Nat → List (Nat × AV) → Option (List AV)
  | _, [] => some []
  | i, (j, v) :: r => match v.seen && (Nat.beq i j && Nat.beq v.cells.length size) with
    | true => (denseA size (i + 1) r).map fun vs => v :: vs
    | false => none
theorem denseA_ok {ρ : Rho} {size : Nat} : ∀ {ps : List (Nat × AV)} {i : Nat} {vs : List AV} {us : List (Nat × Value)}, denseA size i ps = some vs → instP ρ ps = some us →
    ∃ zs : List Value, us = (zs.zipIdx i).map (fun x => (x.2, x.1)) ∧ zs.length = ps.length ∧ (∀ v ∈ zs, v.cells.size = size) ∧ instL ρ (vs.flatMap AV.cells) = some (zs.flatMap fun v => v.cells.toList)
  | [], i, vs, us, h, h' => by cases h; cases h'; exact ⟨[], rfl, rfl, ⟨fun v h => absurd h (List.not_mem_nil), rfl⟩⟩
  | (j, v) :: r, i, vs, us, h, h' => by
    unfold instP at h'
    cases hv : inst ρ v with
    | none => rw [hv] at h'; cases h'
    | some u =>
      cases hr : instP ρ r with
      | none => rw [hv, hr] at h'; cases h'
      | some us' =>
        rw [hv, hr] at h'; cases h'
        unfold denseA at h
        split at h
        · rename_i hb
          simp only [Bool.and_eq_true] at hb
          have hij : i = j := by simpa using hb.2.1
          have hlen : v.cells.length = size := by simpa using hb.2.2
          cases hd : denseA size (i + 1) r with
          | none => rw [hd] at h; cases h
          | some vs' =>
            rw [hd] at h; cases h
            obtain ⟨zs, e1, e2, e3, e4⟩ := denseA_ok hd hr
            have hcv := cells_ok hv (AV.seen_ok hb.1)
            have h3 := instL_len hcv
            refine ⟨u :: zs, by simp [e1, hij], by simp [e2], fun x hx => ?_, ?_⟩
            · rcases List.mem_cons.1 hx with rfl | hx
              · simp at h3; omega
              · exact e3 x hx
            · simp only [List.flatMap_cons]
              exact instL_app hcv e4
        · cases h
/-- values whose making lays memory; the machine's memory behind it -/
def newA (P : Program) (hp : AH) (nx : Nat) (af : AF) : Op → Option (AV × AH)
  | .alloc t => ((P.info? t).bind (·.zero)).map fun z => (.ptr nx 0, (nx, .obj (z.cells.toList.map .lit) t) :: hp)
  | .box t x => (evalA af x).bind fun v => match v.seen with
    | true => some (.ptr nx 0, (nx, .obj v.cells t) :: hp)
    | false => none
  | .buildSlice t k parts => match elemT P t, partsA af parts.toList with
    | some (e, size, _, _), some ps => match Nat.beq ps.length k && Nat.blt 0 (k * size) && Nat.ble (k * size) 16777216 with
      | true => (denseA size 0 ps).map fun vs => (.sl nx 0 k 0, (nx, .row k e size (vs.flatMap AV.cells)) :: hp)
      | false => none
    | _, _ => none
  | .makeSlice t x y => match elemT P t, evalA af x, evalA af y with
    | some (e, size, by', z), some (.lit (.int _ (.ofNat i))), some (.lit (.int _ (.ofNat c))) => match Nat.ble (by' * c) 1000000 && Nat.ble c 1000000 with
      | true => match i with
        | 0 => some (.sl nx 0 0 0, (nx, .row 0 e size []) :: hp)
        | i' + 1 => match Nat.beq (i' + 1) c with
          | true => some (.sl nx 0 (i' + 1) 0, (nx, .row (i' + 1) e size ((madeCells z.cells ((i' + 1) * size)).toList.map .lit)) :: hp)
          | false => none
      | false => none
    | _, _, _ => none
  | _ => none
section
variable {P : Program} {w0 : World} {base : Nat} {ρ : Rho} {hp hp' : AH} {nx : Nat} {its : List It} {af : AF} {l : Fr} {ops : Array Oper} {n : Nat} {D : List Deferred} {Q : Exit → Act → World → Prop} {rest : List Oper} {o : Oper} {d : Nat} {v : AV}
theorem instI_mkobj {id b c : Nat} {cs : List AV} {vs : List Value} {T : TypeId} (h : rat ρ.blk id = some (b, c)) (h' : instL ρ cs = some vs) : instI ρ id (.obj cs T) = some (SX.blk b vs T) := by
  dsimp only [instI]; rw [h, h']; rfl
theorem instI_mkrow {id b c n e s : Nat} {cs : List AV} {vs : List Value} (h : rat ρ.blk id = some (b, c)) (h' : instL ρ cs = some vs) : instI ρ id (.row n e s cs) = some (.row (some b) c n e s vs) := by
  dsimp only [instI]; rw [h, h']; rfl
/-- what is to be shown of the rest, whatever the new names stand for -/
def Next (P : Program) (ops : Array Oper) (n : Nat) (D : List Deferred) (Q : Exit → Act → World → Prop) (w0 : World) (base : Nat) (ρ : Rho) (hp' : AH) (nx' : Nat) (v : AV) (d : Nat) (l : Fr) (rest : List Oper) : Prop :=
  ∀ ρ' u its', Ext ρ ρ' → Fresh ρ' nx' → inst ρ' v = some u → instH ρ' hp' = some its' → LX P ops n D (.plain Q) ((d, u) :: l) (WA w0 base its') rest
theorem newA_ok (hf : FRel ρ af l) (hH : instH ρ hp = some its) (hF : Fresh ρ nx) (h : newA P hp nx af o.op = some (v, hp')) (hg : o.guard = none) (hd : o.dst = some d) (hdn : Nat.blt d n = true)
    (hk : Next P ops n D Q w0 base ρ hp' (nx + 1) v d l rest) : LX P ops n D (.plain Q) l (WA w0 base its) (o :: rest) := by
  unfold newA at h
  split at h
  · rename_i t ho
    cases hz : (P.info? t).bind (·.zero) with
    | none => rw [hz] at h; cases h
    | some z =>
      rw [hz] at h; cases h
      refine LX.alloc ho (zero_run hz) hg hd hdn fun b => ?_
      have hE := Ext.add hF b 0
      exact hk (ρ.add nx b 0) _ _ hE (hF.add b 0) (by unfold inst; rw [rat_add]; rfl) (instH_mk (instI_mkobj (rat_add _ _ _ _) (instL_lit _ _)) (instH_ext hE hH))
  · rename_i t x ho
    obtain ⟨v', hx, h⟩ := Option.bind_eq_some_iff.1 h
    split at h
    · rename_i hno
      cases h
      obtain ⟨u, h1, h2⟩ := hf.eval hx
      refine LX.box ho h1 hg hd hdn fun b => ?_
      have hE := Ext.add hF b 0
      exact hk (ρ.add nx b 0) _ _ hE (hF.add b 0) (by unfold inst; rw [rat_add]; rfl) (instH_mk (instI_mkobj (rat_add _ _ _ _) (instL_ext hE _ _ (cells_ok h2 (AV.seen_ok hno)))) (instH_ext hE hH))
    · cases h
  · rename_i t k parts ho
    split at h
    · rename_i e size by' z ps he hps
      split at h
      · rename_i hb
        cases hdn' : denseA size 0 ps with
        | none => rw [hdn'] at h; cases h
        | some vs =>
          rw [hdn'] at h; cases h
          simp only [Bool.and_eq_true] at hb
          have hlen : ps.length = k := by simpa using hb.1.1
          have hpos : 0 < k * size := by simpa using hb.1.2
          have hsm : k * size ≤ 16777216 := by simpa using hb.2
          obtain ⟨us, h1, h2⟩ := partsA_ok hf hps
          obtain ⟨zs, e1, e2, e3, e4⟩ := denseA_ok hdn' h2
          obtain ⟨hEl, _, _⟩ := elemT_ok he
          obtain ⟨inf, z', i1, i2, i3, i4, i5⟩ := hEl.ex
          have hs0 : 0 < size := Nat.pos_of_mul_pos_left hpos
          have hflat : flat us = zs.flatMap fun v => v.cells.toList := by
            unfold flat
            rw [e1, List.flatMap_map]
            rw [show (fun a : Value × Nat => (a.2, a.1).2.cells.toList) = (fun v : Value => v.cells.toList) ∘ (fun a : Value × Nat => a.1) from rfl]
            have e9 : ∀ (l : List Value) (i : Nat), (l.zipIdx i).flatMap ((fun v : Value => v.cells.toList) ∘ fun a => a.1) = l.flatMap fun v => v.cells.toList := by
              intro l
              induction l with
              | nil => intro i; rfl
              | cons x r ih => intro i; simp only [List.zipIdx_cons, List.flatMap_cons, ih]; rfl
            exact e9 zs 0
          have hfl : (flat us).length = k * size := by
            rw [hflat, List.length_flatMap]
            have e9 : ∀ l : List Value, (∀ v ∈ l, v.cells.size = size) → (l.map fun v => v.cells.toList.length).sum = l.length * size := by
              intro l
              induction l with
              | nil => intro _; simp
              | cons x r ih =>
                intro hx
                have := hx x (by simp)
                have ih' := ih (fun v hv => hx v (by simp [hv]))
                rw [List.map_cons, List.sum_cons, ih', List.length_cons, Nat.add_mul, Nat.one_mul, Array.length_toList, this]
                omega
            rw [e9 zs e3, e2, hlen]
          have hrun : ∀ w, (Instr.buildSlice t k us.toArray).run P w = .ok (.slice (some ⟨w.heap.size, 0, none⟩) k k) (w.alloc (.cells (flat us).toArray e)) := fun w => by
            refine run_buildSlice w t e k us.toArray (flat us).toArray inf z' hEl.ht i1 i2 (by rw [i3]; omega) (by rw [i3]; omega) ?_
            rw [i3, hflat]
            have hsz : ((Array.range (k * size)).map (z'.cells[· % z'.cells.size]!)).size = k * size := by simp
            have := Great.fill_whole hs0 zs ((Array.range (k * size)).map (z'.cells[· % z'.cells.size]!)) e3 (by rw [hsz, e2, hlen])
            rw [← e1] at this
            simpa using this
          have hpa : parts.toList.toArray = parts := by simp
          rw [← hpa] at ho
          refine LX.buildSlice (e := e) (size := size) ho h1 hrun hfl (by have := Nat.le_mul_of_pos_right k hs0; omega) hg hd hdn fun b => ?_
          have hE := Ext.add hF b k
          exact hk (ρ.add nx b k) _ _ hE (hF.add b k) (by unfold inst; rw [rat_add]; rfl) (instH_mk (instI_mkrow (rat_add _ _ _ _) (by rw [hflat]; exact instL_ext hE _ _ e4)) (instH_ext hE hH))
      · cases h
    · cases h
  · rename_i t x y ho
    split at h
    · rename_i e size by' z kk i kk' c he hx hy
      split at h
      · rename_i hb
        simp only [Bool.and_eq_true] at hb
        have hb1 : by' * c ≤ 1000000 := by simpa using hb.1
        have hb2 : c ≤ 1000000 := by simpa using hb.2
        obtain ⟨hEl, _, hz⟩ := elemT_ok he
        obtain ⟨u, h1, h2⟩ := hf.eval hx
        obtain rfl := inst_lit h2
        obtain ⟨u', h3, h4⟩ := hf.eval hy
        obtain rfl := inst_lit h4
        split at h
        · cases h
          refine LX.make0 (c := c) hEl ho h1 h3 (by omega) (by omega) hg hd hdn fun b => ?_
          have hE := Ext.add hF b c
          exact hk (ρ.add nx b c) _ _ hE (hF.add b c) (by unfold inst; rw [rat_add]; rfl) (instH_mk (instI_mkrow (rat_add _ _ _ _) rfl) (instH_ext hE hH))
        · rename_i i'
          split at h
          · rename_i hic
            have hic' : i' + 1 = c := by simpa using hic
            cases h
            subst hic'
            refine LX.makeN (k := i' + 1) hEl hz ho h1 h3 (by omega) (by omega) hg hd hdn fun b => ?_
            have hE := Ext.add hF b (i' + 1)
            exact hk (ρ.add nx b (i' + 1)) _ _ hE (hF.add b (i' + 1)) (by unfold inst; rw [rat_add]; rfl) (instH_mk (instI_mkrow (rat_add _ _ _ _) (instL_lit _ _)) (instH_ext hE hH))
          · cases h
      · cases h
    · cases h
  · cases h
end
end Go.EX

namespace Go.EX
open Go.SX Go.RowKit
def setK : AH → Nat → Nat → AI → AH
  | [], _, _, _ => []
  | (k, it) :: t, id, k', x => match Nat.beq k id with | true => (k', x) :: t | false => (k, it) :: setK t id k' x
theorem setK_ok {ρ : Rho} {y : It} {z : AI} {k' : Nat} : ∀ {hp : AH} {xs : List It} {id j i : Nat} {it : AI}, instH ρ hp = some xs → findA hp id j = some (i, it) → instI ρ k' z = some y → instH ρ (setK hp id k' z) = some (xs.set (i - j) y)
  | [], _, _, _, _, _, _, h, _ => by cases h
  | (k, it') :: t, xs, id, j, i, it, hx, h, hz => by
    obtain ⟨x, xs', rfl, h1, h2⟩ := instH_cons hx
    unfold findA at h
    unfold setK
    cases hb : Nat.beq k id with
    | true =>
      rw [hb] at h
      cases h
      rw [Nat.sub_self]
      exact instH_mk hz h2
    | false =>
      rw [hb] at h
      obtain ⟨y', h3, _, _⟩ := findA_ok h2 h
      have := setK_ok (z := z) h2 h hz
      rw [show i - j = (i - (j + 1)) + 1 by omega]
      exact instH_mk h1 this
section
variable {P : Program} {w0 : World} {base : Nat} {ρ : Rho} {hp hp' : AH} {ro : List AH} {nx : Nat} {its : List It} {E : List (Nat × AV)} {af : AF} {l : Fr} {ops : Array Oper} {n : Nat} {D : List Deferred} {Q : Exit → Act → World → Prop} {rest : List Oper} {o : Oper} {d : Nat} {v : AV}
/-! append -/
def rowOf (hp : AH) (x : AV) (e size : Nat) : Option (Option Nat × Nat × List AV) :=
  match x with
  | .lit (.slice none 0 0) => some (none, 0, [])
  | .sl id 0 n 0 => match findA hp id 0 with
    | some (_, .row m e' s' cs) => match Nat.beq m n && (Nat.beq e e' && Nat.beq size s') with
      | true => some (some id, n, cs)
      | false => none
    | _ => none
  | _ => none
def newsOf (hp : AH) (ro : List AH) (y : AV) (size : Nat) : Option (Nat × List AV) :=
  match y with
  | .sl id off j _ => (lookA hp ro id).bind fun it => match Nat.beq ((it.cells.drop off).take (j * size)).length (j * size) && ((it.cells.drop off).take (j * size)).all (·.one) with
    | true => some (j, (it.cells.drop off).take (j * size))
    | false => none
  | _ => none
def appA (P : Program) (ro : List AH) (hp : AH) (nx : Nat) (af : AF) (c : Call) : Option (AV × AH) :=
  match c.callee, c.args.toList, c.argTypes.toList with
  | .builtin .append, [x, y], [t, t'] => match Nat.beq t t', elemT P t with
    | true, some (e, size, by', _) => (evalA af x).bind fun vx => (evalA af y).bind fun vy => (rowOf hp vx e size).bind fun r => (newsOf hp ro vy size).bind fun q =>
      match Nat.blt 0 q.1 && (Nat.ble ((r.2.1 + q.1) * by') 140737488355328 && Nat.ble (r.2.1 + q.1) 9223372036854775807) with
      | true => some (.sl nx 0 (r.2.1 + q.1) 0, match r.1 with
        | some id => setK hp id nx (.row (r.2.1 + q.1) e size (r.2.2 ++ q.2))
        | none => (nx, .row (r.2.1 + q.1) e size (r.2.2 ++ q.2)) :: hp)
      | false => none
    | _, _ => none
  | _, _, _ => none
theorem append_go {t e size bytes j c cap k i : Nat} {g : Option Nat} {xs news : List Value} {a : Addr} {x y : Operand} {cs : List AV} {ats : Array TypeId} (he : Elem P t e size bytes)
    (ho : o.op = .call { callee := .builtin .append, args := #[x, y], argTypes := ats }) (hat : ats = #[t, t])
    (hx : evl l x = some (rv g k cap)) (hy : evl l y = some (.slice (some a) j c)) (hi : its[i]? = some (.row g cap k e size xs))
    (hl : news.length = j * size) (hnews : ∀ w, WA w0 base its w → ∀ q u, news[q]? = some u → w.cell? (a.add q) = some u) (h1 : news.all (·.oneCell') = true)
    (hbytes : (k + j) * bytes ≤ 140737488355328) (h63 : k + j ≤ 9223372036854775807) (hj : 0 < j) (hF : Fresh ρ nx) (hcs : ∀ ρ', Ext ρ ρ' → instL ρ' cs = some (xs ++ news))
    (hH : ∀ b c, instI (ρ.add nx b c) nx (.row (k + j) e size cs) = some (.row (some b) c (k + j) e size (xs ++ news)) → instH (ρ.add nx b c) hp' = some (its.set i (.row (some b) c (k + j) e size (xs ++ news))))
    (hg : o.guard = none) (hd : o.dst = some d) (hdn : Nat.blt d n = true)
    (hk : Next P ops n D Q w0 base ρ hp' (nx + 1) (.sl nx 0 (k + j) 0) d l rest) : LX P ops n D (.plain Q) l (WA w0 base its) (o :: rest) := by
  refine LX.append0 i he ho hat hx hy hi hl hnews h1 hbytes h63 hg hd hdn fun g' cap' => ?_
  have hlt : i < its.length := (List.getElem?_eq_some_iff.1 hi).1
  cases g' with
  | none =>
    refine LX.never fun w hw => ?_
    have h2 := hw.get (i := i) (it := .row none cap' (k + j) e size (xs ++ news)) (List.getElem?_set_self hlt)
    obtain ⟨b, _, hb, _⟩ := row_some h2 (by omega)
    cases hb
  | some b =>
    have hE := Ext.add hF b cap'
    have hI := instI_mkrow (ρ := ρ.add nx b cap') (id := nx) (n := k + j) (e := e) (s := size) (rat_add _ _ _ _) (hcs _ hE)
    exact hk (ρ.add nx b cap') _ _ hE (hF.add b cap') (by unfold inst; rw [rat_add]; rfl) (hH b cap' hI)
theorem appA_ok (hf : FRel ρ af l) (hH : instH ρ hp = some its) (hR : RO w0 base ρ ro) (hF : Fresh ρ nx) {c : Call} (ho : o.op = .call c) (h : appA P ro hp nx af c = some (v, hp')) (hg : o.guard = none) (hd : o.dst = some d) (hdn : Nat.blt d n = true)
    (hk : Next P ops n D Q w0 base ρ hp' (nx + 1) v d l rest) : LX P ops n D (.plain Q) l (WA w0 base its) (o :: rest) := by
  unfold appA at h
  split at h
  · rename_i x y t t' hc ha hat
    split at h
    · rename_i e size by' z htt he
      obtain ⟨vx, hx, h⟩ := Option.bind_eq_some_iff.1 h
      obtain ⟨vy, hy, h⟩ := Option.bind_eq_some_iff.1 h
      obtain ⟨r, hr, h⟩ := Option.bind_eq_some_iff.1 h
      obtain ⟨q, hq, h⟩ := Option.bind_eq_some_iff.1 h
      split at h
      · rename_i hb
        simp only [Bool.and_eq_true] at hb
        have hj : 0 < q.1 := by simpa using hb.1
        have hby : (r.2.1 + q.1) * by' ≤ 140737488355328 := by simpa using hb.2.1
        have h63 : r.2.1 + q.1 ≤ 9223372036854775807 := by simpa using hb.2.2
        have htt' : t = t' := by simpa using htt
        subst htt'
        obtain ⟨hEl, _, _⟩ := elemT_ok he
        have ho' : o.op = .call { callee := .builtin .append, args := #[x, y], argTypes := c.argTypes } := by
          rw [ho]; congr 1; cases c; simp only at hc ha ⊢; subst hc; congr 1; rw [← ha]
        have hat' : c.argTypes = #[t, t] := by
          rw [← Array.toArray_toList (xs := c.argTypes), hat]
        obtain ⟨ux, h1, h2⟩ := hf.eval hx
        obtain ⟨uy, h3, h4⟩ := hf.eval hy
        unfold newsOf at hq
        split at hq
        · rename_i id2 off2 j2 skip2 heqv
          obtain ⟨it, hl, hq⟩ := Option.bind_eq_some_iff.1 hq
          split at hq
          · rename_i hb2
            cases hq
            simp only [Bool.and_eq_true] at hb2
            obtain ⟨p, us, e1, e2, e3, _⟩ := look_ok hH hR hl
            obtain ⟨p', hp', rfl⟩ := inst_sl h4
            rw [e1] at hp'; cases hp'
            have e4 := instL_take (j2 * size) (instL_drop off2 e2)
            have hlen : ((us.drop off2).take (j2 * size)).length = j2 * size := by rw [instL_len e4]; simpa using hb2.1
            have hnews : ∀ w, WA w0 base its w → ∀ q u, ((us.drop off2).take (j2 * size))[q]? = some u → w.cell? ((⟨p.1, off2, none⟩ : Addr).add q) = some u := fun w hw q u hu => by
              rw [Addr.add_lit]
              refine e3 w hw _ _ ?_
              rw [List.getElem?_take] at hu
              split at hu
              · rw [List.getElem?_drop] at hu; exact hu
              · cases hu
            have h1c := ones_ok e4 hb2.2
            unfold rowOf at hr
            split at hr
            · cases hr
              cases h
              obtain rfl := inst_lit h2
              simp only [Nat.zero_add] at hk hby h63 ⊢
              refine LX.world (W' := WA w0 base (.row none 0 0 e size [] :: its)) (fun w hw => hw.nilRow e size) ?_
              refine append_go (i := 0) (k := 0) (g := none) (cap := 0) (xs := []) (cs := [] ++ (it.cells.drop off2).take (j2 * size)) hEl ho' hat' h1 h3 rfl hlen (fun w hw => hnews w (hw.drop (List.sublist_cons_self _ _))) h1c (by rw [Nat.zero_add]; exact hby) (by omega) hj hF
                (fun ρ' hE => by simpa using instL_ext hE _ _ e4) (fun b c hI => ?_) hg hd hdn (by simp only [Nat.zero_add]; exact hk)
              simp only [Nat.zero_add] at hI ⊢
              exact instH_mk hI (instH_ext (Ext.add hF b c) hH)
            · rename_i id n'
              split at hr
              · rename_i i m e' s' cs hfd
                split at hr
                · rename_i hb3
                  cases hr
                  cases h
                  simp only [Bool.and_eq_true] at hb3
                  have hm : m = n' := by simpa using hb3.1
                  have hee : e = e' := by simpa using hb3.2.1
                  have hss : size = s' := by simpa using hb3.2.2
                  subst hm; subst hee; subst hss
                  obtain ⟨px, hpx, rfl⟩ := inst_sl h2
                  obtain ⟨x', _, hxs, hi⟩ := findA_ok hH hfd
                  obtain ⟨p2, us2, g1, g2, rfl⟩ := instI_row hi
                  rw [hpx] at g1; cases g1
                  have h1' : evl l x = some (rv (some px.1) m px.2) := h1
                  refine append_go (cs := cs ++ (it.cells.drop off2).take (j2 * size)) hEl ho' hat' h1' h3 hxs hlen hnews h1c hby h63 hj hF
                    (fun ρ' hE => instL_app (instL_ext hE _ _ g2) (instL_ext hE _ _ e4)) (fun b c hI => ?_) hg hd hdn hk
                  exact setK_ok (instH_ext (Ext.add hF b c) hH) hfd hI
                · cases hr
              · cases hr
            · cases hr
          · cases hq
        · cases hq
      · cases h
    · cases h
  · cases h
/-! stores -/
theorem setAll_over : ∀ (vs cs : List Value) (off : Nat), off + vs.length ≤ cs.length → setAll cs off vs = overlayV cs off vs
  | [], cs, off, _ => by simp [setAll, overlayV]
  | v :: r, cs, off, h => by
    have h' : off < cs.length := by simp at h; omega
    unfold setAll
    rw [setAll_over r (cs.set off v) (off + 1) (by simp at h ⊢; omega)]
    unfold overlayV
    rw [List.take_succ_eq_append_getElem (by simpa using h'), List.drop_set_of_lt (by omega), List.take_set_of_le (Nat.le_refl _)]
    simp [Nat.add_assoc, Nat.add_comm 1]
theorem WA.setRowCells {i cap k e size : Nat} {g : Option Nat} : ∀ (vs cs : List Value) (off : Nat) {its : List It} {w : World}, off + vs.length ≤ cs.length → WA w0 base its w → its[i]? = some (.row g cap k e size cs) → WA w0 base (its.set i (.row g cap k e size (setAll cs off vs))) (w.setCells (g.getD 0) off vs)
  | [], cs, off, its, w, _, h, hi => by
    have : its.set i (.row g cap k e size cs) = its := by
      have hlt : i < its.length := (List.getElem?_eq_some_iff.1 hi).1
      have hget : its[i] = .row g cap k e size cs := (List.getElem?_eq_some_iff.1 hi).2
      rw [← hget]; exact List.set_getElem_self hlt
    show WA w0 base (its.set i (.row g cap k e size cs)) w
    rw [this]; exact h
  | v :: r, cs, off, its, w, hle, h, hi => by
    have hlt : i < its.length := (List.getElem?_eq_some_iff.1 hi).1
    have h1 := h.setRowCell (off := off) hi (by simp at hle; omega) v
    have h2 := WA.setRowCells r (cs.set off v) (off + 1) (by simp at hle ⊢; omega) h1 (List.getElem?_set_self hlt)
    rw [List.set_set] at h2
    exact h2
/-- a value of several cells is written into what is owned -/
theorem LX.storeN {b off k : Nat} {vs : List Value} {t : TypeId} {x y : Operand} {W' : World → Prop} (ht : AggT P t k) (ho : o.op = .store t x y) (hx : evl l x = some (.pointer (some ⟨b, off, none⟩))) (hy : evl l y = some (.agg vs.toArray)) (h1 : vs.all (·.oneCell') = true) (hk : vs.length = k)
    (hW : ∀ w, WA w0 base its w → (∀ j, j < k → (∃ u, w.cell? ⟨b, off + j, none⟩ = some u) ∧ w.frozen? ⟨b, off + j, none⟩ = false) ∧ W' (w.setCells b off vs)) (hg : o.guard = none) (hd : o.dst = none) (h : LX P ops n D (.plain Q) l W' rest) :
    LX P ops n D (.plain Q) l (WA w0 base its) (o :: rest) := by
  intro a w ha hw
  obtain ⟨g1, g2⟩ := hW w hw
  have h2 := run_storeAt_mid (P := P) w b off t vs.toArray (fun j hj => by
    obtain ⟨⟨u, hu⟩, hf⟩ := g1 j (by simp at hj; omega)
    exact ⟨by rw [hu]; rfl, hf⟩) (by rw [ht.info]; simp [hk]) (all_oneCell_toArray (List.all_eq_true.1 h1))
  unfold wpList
  rw [if_pos (wanted_none hg)]
  left
  unfold Oper.wp
  have : (execOp a.eval o).run P w = .ok .skip (w.setCells b off vs) := by
    simp only [execOp, ho, ha.eval _ _ hx, ha.eval _ _ hy]
    rw [Sem.run_bind, h2]
    rfl
  rw [this]
  simp only [Oper.upon, hd]
  exact h _ _ ha g2
def putIt (it : AI) (cs : List AV) : AI :=
  match it with
  | .obj _ T => .obj cs T
  | .row n e s _ => .row n e s cs
  | .mp ks vs bs ck => .mp ks vs bs ck
def storeA (P : Program) (hp : AH) (af : AF) (t : TypeId) (x y : Operand) : Option AH :=
  match evalA af x with
  | some (.ptr id off) => match findA hp id 0 with
    | some (_, it) => (evalA af y).bind fun v => match oneT P t with
      | true => match sizeT P t with
        | some 1 => match v.one && Nat.blt off it.cells.length with
          | true => some (setH hp id (putIt it (it.cells.set off v)))
          | false => none
        | _ => none
      | false => match aggT P t, v with
        | some k, .agg cs => match Nat.beq cs.length k && (cs.all (·.one) && Nat.ble (off + cs.length) it.cells.length) with
          | true => some (setH hp id (putIt it (overlay it.cells off cs)))
          | false => none
        | some k, .lit (.agg cs) => match Nat.beq cs.size k && (cs.toList.all (·.oneCell') && Nat.ble (off + cs.size) it.cells.length) with
          | true => some (setH hp id (putIt it (overlay it.cells off (cs.toList.map .lit))))
          | false => none
        | _, _ => none
    | none => none
  | _ => none
theorem storeN_go {id off k i : Nat} {it : AI} {cs : List AV} {vs : List Value} {t : TypeId} {x y : Operand} (hH : instH ρ hp = some its) (hfd : findA hp id 0 = some (i, it)) (ht : AggT P t k) (ho : o.op = .store t x y) {p : Nat × Nat} (hp1 : rat ρ.blk id = some p) (hx : evl l x = some (.pointer (some ⟨p.1, off, none⟩))) (hy : evl l y = some (.agg vs.toArray))
    (hcs : instL ρ cs = some vs) (h1 : vs.all (·.oneCell') = true) (hk : vs.length = k) (hle : off + vs.length ≤ it.cells.length) (hg : o.guard = none) (hd : o.dst = none)
    (hgo : ∀ its', instH ρ (setH hp id (putIt it (overlay it.cells off cs))) = some its' → LX P ops n D (.plain Q) l (WA w0 base its') rest) : LX P ops n D (.plain Q) l (WA w0 base its) (o :: rest) := by
  obtain ⟨xi, _, hxs, hi⟩ := findA_ok hH hfd
  rw [Nat.sub_zero] at hxs
  cases it with
  | obj c0 T =>
    obtain ⟨p2, us, g1, g2, rfl⟩ := instI_obj hi
    rw [hp1] at g1; cases g1
    have hlen := instL_len g2
    have hle' : off + vs.length ≤ us.length := by rw [hlen]; exact hle
    have e := setH_ok hH hfd (instI_mkobj (ρ := ρ) (id := id) (T := T) hp1 (overlay_ok off g2 hcs))
    refine LX.storeN (W' := WA w0 base (its.set i (SX.blk p.1 (overlayV us off vs) T))) ht ho hx hy h1 hk (fun w hw => ⟨fun j hj => ⟨⟨_, hw.cell hxs (List.getElem?_eq_getElem (by omega))⟩, hw.frozen hxs⟩, ?_⟩) hg hd (hgo _ e)
    rw [← setAll_over vs us off hle']
    exact WA.setCells vs us off hw hxs
  | row m e s c0 =>
    obtain ⟨p2, us, g1, g2, rfl⟩ := instI_row hi
    rw [hp1] at g1; cases g1
    have hlen := instL_len g2
    have hle' : off + vs.length ≤ us.length := by rw [hlen]; exact hle
    have e' := setH_ok hH hfd (instI_mkrow (ρ := ρ) (id := id) (n := m) (e := e) (s := s) hp1 (overlay_ok off g2 hcs))
    refine LX.storeN (W' := WA w0 base (its.set i (.row (some p.1) p.2 m e s (overlayV us off vs)))) ht ho hx hy h1 hk (fun w hw => ⟨fun j hj => ?_, ?_⟩) hg hd (hgo _ e')
    · have := hw.rowCell hxs (List.getElem?_eq_getElem (show off + j < us.length by omega))
      exact ⟨⟨_, this.1⟩, this.2.1⟩
    · rw [← setAll_over vs us off hle']
      exact WA.setRowCells vs us off hle' hw hxs
  | mp ks0 vs0 bs0 ck0 =>
    have hz : vs = [] := List.eq_nil_of_length_eq_zero (by have : off + vs.length ≤ 0 := hle; omega)
    subst hz
    have e := setH_ok hH hfd hi
    have hs : its.set (i - 0) xi = its := by
      rw [Nat.sub_zero]
      refine List.ext_getElem? fun j => ?_
      by_cases hij : i = j
      · subst hij
        rw [List.getElem?_set_self (List.getElem?_eq_some_iff.1 hxs).1, hxs]
      · rw [List.getElem?_set_ne hij]
    rw [hs] at e
    exact LX.storeN (W' := WA w0 base its) ht ho hx hy h1 hk (fun w hw => ⟨fun j hj => absurd hj (by simp at hk; omega), hw⟩) hg hd (hgo _ e)
theorem storeA_ok (hf : FRel ρ af l) (hH : instH ρ hp = some its) {t : TypeId} {x y : Operand} (ho : o.op = .store t x y) (h : storeA P hp af t x y = some hp') (hg : o.guard = none) (hd : o.dst = none)
    (hgo : ∀ its', instH ρ hp' = some its' → LX P ops n D (.plain Q) l (WA w0 base its') rest) : LX P ops n D (.plain Q) l (WA w0 base its) (o :: rest) := by
  unfold storeA at h
  split at h
  · rename_i id off hx
    split at h
    · rename_i i it hfd
      obtain ⟨v, hy, h⟩ := Option.bind_eq_some_iff.1 h
      obtain ⟨u, h1, h2⟩ := hf.eval hx
      obtain ⟨p, hp1, rfl⟩ := inst_ptr h2
      obtain ⟨uy, h3, h4⟩ := hf.eval hy
      split at h
      · split at h
        · rename_i hs
          split at h
          · rename_i hb
            cases h
            simp only [Bool.and_eq_true] at hb
            have hlt : off < it.cells.length := by simpa using hb.2
            have hone := AV.one_ok h4 hb.1
            obtain ⟨xi, _, hxs, hi⟩ := findA_ok hH hfd
            rw [Nat.sub_zero] at hxs
            cases it with
            | obj c0 T =>
              obtain ⟨p2, us, g1, g2, rfl⟩ := instI_obj hi
              rw [hp1] at g1; cases g1
              have hlen := instL_len g2
              have e := setH_ok hH hfd (instI_mkobj (ρ := ρ) (id := id) (T := T) hp1 (instL_set off g2 h4))
              exact LX.storeB i (sizeT_ok hs) ho h1 h3 hone hxs (List.getElem?_eq_getElem (show off < us.length by rw [hlen]; exact hlt)) hg hd (hgo _ e)
            | row m e s c0 =>
              obtain ⟨p2, us, g1, g2, rfl⟩ := instI_row hi
              rw [hp1] at g1; cases g1
              have hlen := instL_len g2
              have e' := setH_ok hH hfd (instI_mkrow (ρ := ρ) (id := id) (n := m) (e := e) (s := s) hp1 (instL_set off g2 h4))
              exact LX.storeR (g := some p.1) i (sizeT_ok hs) ho h1 h3 hone hxs (show off < us.length by rw [hlen]; exact hlt) hg hd (hgo _ e')
            | mp ks0 vs0 bs0 ck0 => exact absurd hlt (by simp [AI.cells])
          · cases h
        · cases h
      · split at h
        · rename_i k cs hk
          split at h
          · rename_i hb
            cases h
            simp only [Bool.and_eq_true] at hb
            obtain ⟨vs, g1, rfl⟩ := inst_agg h4
            have hl := instL_len g1
            exact storeN_go hH hfd (aggT_ok hk) ho hp1 h1 h3 g1 (ones_ok g1 hb.2.1) (by rw [hl]; simpa using hb.1) (by rw [hl]; simpa using hb.2.2) hg hd hgo
          · cases h
        · rename_i k cs hk
          split at h
          · rename_i hb
            cases h
            simp only [Bool.and_eq_true] at hb
            obtain rfl := inst_lit h4
            have h3' : evl l y = some (.agg cs.toList.toArray) := by simpa using h3
            exact storeN_go hH hfd (aggT_ok hk) ho hp1 h1 h3' (instL_lit ρ _) hb.2.1 (by simpa using hb.1) (by simpa using hb.2.2) hg hd hgo
          · cases h
        · cases h
    · cases h
  · cases h
end
end Go.EX

namespace Go.EX
open Go.SX Go.RowKit
inductive AR where
  | val (v : AV)
  | pan (v : AV)
abbrev CallF := List AH → FuncId → List AV → AH → Nat → Option (AR × AH × Nat)
def endOk (ρ : Rho) (r : AR) (e : Ending) : Prop :=
  match r with
  | .val v => ∃ u, inst ρ v = some u ∧ e = .returned u
  | .pan v => ∃ u, inst ρ v = some u ∧ e = .panicked [{ v := u, recovered := false }]
def CallOk (P : Program) (E : List (Nat × AV)) (call : CallF) : Prop :=
  ∀ ro f args hp nx r hp' nx', call ro f args hp nx = some (r, hp', nx') → Enters P f ∧
    ∀ w0 base ρ vs its, RO w0 base ρ ro → EE w0 base ρ E → instH ρ hp = some its → instL ρ args = some vs → Fresh ρ nx →
      ∀ w, WA w0 base its w → Calls P f vs.toArray w fun e w' => ∃ ρ' its', Ext ρ ρ' ∧ Fresh ρ' nx' ∧ instH ρ' hp' = some its' ∧ WA w0 base its' w' ∧ endOk ρ' r e
def targetA (af : AF) (o : Op) : Option (FuncId × List AV) :=
  match o with
  | .call c => match c.callee with
    | .value f => match evalA af f with
      | some (.lit (.func (.func k) x y)) => match x.toList, y.toList with
        | [], [] => (evalsA af c.args.toList).map fun as => (k, as)
        | _, _ => none
      | some (.fn (.func k) x y) => (evalsA af c.args.toList).map fun as => (k, x ++ (as ++ y))
      | _ => none
    | _ => none
  | _ => none
section
variable {P : Program} {w0 : World} {base : Nat} {ρ : Rho} {hp hp' : AH} {ro : List AH} {nx : Nat} {its : List It} {E : List (Nat × AV)} {af : AF} {l : Fr} {ops : Array Oper} {n : Nat} {D : List Deferred} {Q : Exit → Act → World → Prop} {rest : List Oper} {o : Oper} {d : Nat} {v : AV} {m : SX.Mode} {W : World → Prop}
theorem run_target {k : FuncId} {x y vs : List Value} {c : Call} {f : Operand} (hen : Enters P k) (ho : o.op = .call c) (hc : c.callee = .value f) {σ : Operand → Value} (hσ : ∀ x u, evl l x = some u → σ x = u)
    (hf : evl l f = some (.func (.func k) x.toArray y.toArray)) (ha : evals l c.args.toList = some vs) (w : World) : (execOp σ o).run P w = .ok (.enter k (x ++ (vs ++ y)).toArray) w := by
  have h1 := hσ _ _ hf
  have h2 : c.args.map σ = vs.toArray := by
    rw [← evals_map hσ _ _ ha, ← List.map_toArray]
  have h3 := hen (x ++ (vs ++ y)).toArray w
  have h4 : x.toArray ++ vs.toArray ++ y.toArray = (x ++ (vs ++ y)).toArray := by simp
  simp only [execOp, ho, resolve, hc, h1, h2, Deferred.ofValue, invoke, Sem.run_bind, Sem.run_pure, Result.andThen_ok, h4, h3, pure_bind]
theorem targetA_ok (hf : FRel ρ af l) {k : FuncId} {as : List AV} (h : targetA af o.op = some (k, as)) (hen : Enters P k) : ∃ vs, instL ρ as = some vs ∧ ∀ (σ : Operand → Value), (∀ x u, evl l x = some u → σ x = u) → ∀ w, (execOp σ o).run P w = .ok (.enter k vs.toArray) w := by
  unfold targetA at h
  split at h
  · rename_i c ho
    split at h
    · rename_i f hc
      split at h
      · rename_i k' x y hx
        split at h
        · rename_i hx0 hy0
          cases hev : evalsA af c.args.toList with
          | none => rw [hev] at h; cases h
          | some vs =>
            rw [hev] at h; cases h
            obtain ⟨u, h1, h2⟩ := hf.eval hx
            obtain rfl := inst_lit h2
            obtain ⟨us, h3, h4⟩ := evalsA_ok hf hev
            refine ⟨us, h4, fun σ hσ w => ?_⟩
            have := run_target (P := P) (x := []) (y := []) hen ho hc hσ (by rw [h1, ← Array.toArray_toList (xs := x), hx0, ← Array.toArray_toList (xs := y), hy0]) h3 w
            simpa using this
        · cases h
      · rename_i k' x y hx
        cases hev : evalsA af c.args.toList with
        | none => rw [hev] at h; cases h
        | some vs =>
          rw [hev] at h; cases h
          obtain ⟨u, h1, h2⟩ := hf.eval hx
          obtain ⟨x', y', e1, e2, rfl⟩ := inst_fn h2
          obtain ⟨us, h3, h4⟩ := evalsA_ok hf hev
          exact ⟨x' ++ (us ++ y'), instL_app e1 (instL_app h4 e2), fun σ hσ w => run_target hen ho hc hσ h1 h3 w⟩
      · cases h
    · cases h
  · cases h
/-- whether a guarded operation is carried out -/
def wantA (all : Array Oper) (af : AF) (g : Option (Nat × Bool)) : Option Bool :=
  match g with
  | none => some true
  | some (j, want) => match (all[j]?).bind (·.dst) with
    | some s => match getA af s with
      | some (.lit (.bool b)) => some (b == want)
      | some (.lit (.tuple vs)) => match vs.toList with
        | [] => some false
        | _ => none
      | _ => none
    | none => none
theorem wantA_ok (hf : FRel ρ af l) {b : Bool} (h : wantA ops af o.guard = some b) : ∀ a, Has n D a l → Region.wanted o (yielded ops a.tmps) = b := by
  intro a ha
  unfold wantA at h
  split at h
  · rename_i hg; cases h; exact wanted_none hg
  · rename_i j want hg
    split at h
    · rename_i s hj
      split at h
      · rename_i b' hs
        cases h
        obtain ⟨u, h1, h2⟩ := hf s _ hs
        obtain rfl := inst_lit h2
        simp only [Region.wanted, hg, ha.yielded hj h1]
        cases b' <;> cases want <;> rfl
      · rename_i vs hs
        split at h
        · rename_i hv
          cases h
          obtain ⟨u, h1, h2⟩ := hf s _ hs
          obtain rfl := inst_lit h2
          have h3 := ha.slot s _ h1
          simp only [Region.wanted, hg, Go.yielded, hj, Option.bind_some, h3]
          rfl
        · cases h
      · cases h
    · cases h
theorem LX.skip1 (hw : ∀ a, Has n D a l → Region.wanted o (yielded ops a.tmps) = false) (hd : o.dst = some d) (hdn : Nat.blt d n = true) (h : LX P ops n D m ((d, undef) :: l) W rest) : LX P ops n D m l W (o :: rest) := by
  cases m with
  | plain Q =>
    intro a w ha hW
    unfold wpList
    rw [if_neg (by simp [hw a ha]), hd]
    exact h _ _ (ha.put hdn _) hW
  | quiet R =>
    intro a ha
    unfold wpQuiet
    rw [if_neg (by simp [hw a ha]), hd]
    exact h _ (ha.put hdn _)
theorem LX.unguard (hw : ∀ a, Has n D a l → Region.wanted o (yielded ops a.tmps) = true) (h : LX P ops n D (.plain Q) l W ({ o with guard := none } :: rest)) : LX P ops n D (.plain Q) l W (o :: rest) := by
  intro a w ha hW
  have h1 := h a w ha hW
  unfold wpList at h1 ⊢
  rw [if_pos (wanted_none rfl)] at h1
  rw [if_pos (hw a ha)]
  exact h1
/-- a call, whatever becomes of it -/
theorem LX.callE {k : FuncId} {vs : List Value} {R : Ending → World → Prop} (hw : ∀ a, Has n D a l → Region.wanted o (yielded ops a.tmps) = true)
    (ht : ∀ (σ : Operand → Value), (∀ x u, evl l x = some u → σ x = u) → ∀ w, (execOp σ o).run P w = .ok (.enter k vs.toArray) w) (hd : o.dst = some d) (hdn : Nat.blt d n = true)
    (hc : ∀ w, W w → Calls P k vs.toArray w R)
    (hr : ∀ e w', R e w' → (∃ u, e = .returned u ∧ ∀ a, Has n D a ((d, u) :: l) → wpList P ops Q rest a w') ∨ (∃ ch, e = .panicked ch ∧ ∀ a, Has n D a l → Q (.panic ch) a w')) : LX P ops n D (.plain Q) l W (o :: rest) := by
  intro a w ha hW
  unfold wpList
  rw [if_pos (hw a ha)]
  left
  unfold Oper.wp
  rw [ht a.eval ha.eval w]
  simp only [Oper.upon]
  refine (hc w hW).mono ?_
  intro e w' he
  rcases hr e w' he with ⟨u, rfl, h⟩ | ⟨ch, rfl, h⟩
  · simp only [hd]; exact h _ (ha.put hdn _)
  · exact h a ha
theorem LX.panicE {u : Value} {t : TypeId} {x : Operand} (hw : ∀ a, Has n D a l → Region.wanted o (yielded ops a.tmps) = true) (ho : o.op = .panic x) (hx : evl l x = some (.iface t u))
    (h : ∀ a w, Has n D a l → W w → Q (.panic [{ v := .iface t u, recovered := false }]) a w) : LX P ops n D (.plain Q) l W (o :: rest) := by
  intro a w ha hW
  unfold wpList
  rw [if_pos (hw a ha)]
  left
  unfold Oper.wp
  have : (execOp a.eval o).run P w = .halt (.panic (.iface t u)) w := by
    simp only [execOp, ho, ha.eval _ _ hx]
    rfl
  rw [this]
  exact h a w ha hW
/-! lists of operations -/
def val2A (P : Program) (E : List (Nat × AV)) (ro : List AH) (hp : AH) (af : AF) (o : Op) : Option AV :=
  match valA P E ro hp af o with
  | some v => some v
  | none => buildA P af o
theorem val2A_ok (hf : FRel ρ af l) (hH : instH ρ hp = some its) (hR : RO w0 base ρ ro) (hE : EE w0 base ρ E) {o : Op} {v : AV} (h : val2A P E ro hp af o = some v) (ty : TypeId) :
    ∃ u, inst ρ v = some u ∧ Y P l (WA w0 base its) o ty u := by
  unfold val2A at h
  cases hp' : valA P E ro hp af o with
  | some v' => rw [hp'] at h; cases h; exact valA_ok hf hH hR hE hp' ty
  | none => rw [hp'] at h; exact buildA_ok hf h _ ty
def new2A (P : Program) (ro : List AH) (hp : AH) (nx : Nat) (af : AF) (o : Op) : Option (AV × AH) :=
  match newA P hp nx af o with
  | some r => some r
  | none => match o with
    | .call c => appA P ro hp nx af c
    | _ => none
theorem new2A_ok (hf : FRel ρ af l) (hH : instH ρ hp = some its) (hR : RO w0 base ρ ro) (hF : Fresh ρ nx) (h : new2A P ro hp nx af o.op = some (v, hp')) (hg : o.guard = none) (hd : o.dst = some d) (hdn : Nat.blt d n = true)
    (hk : Next P ops n D Q w0 base ρ hp' (nx + 1) v d l rest) : LX P ops n D (.plain Q) l (WA w0 base its) (o :: rest) := by
  unfold new2A at h
  cases hn : newA P hp nx af o.op with
  | some r => rw [hn] at h; cases h; exact newA_ok hf hH hF hn hg hd hdn hk
  | none =>
    rw [hn] at h
    dsimp only at h
    split at h
    · rename_i c ho
      exact appA_ok hf hH hR hF ho h hg hd hdn hk
    · cases h
inductive OX where
  | norm
  | pan (v : AV)
/-- operations in their own order -/
def opsA (P : Program) (E : List (Nat × AV)) (call : CallF) (n : Nat) (ro : List AH) (all : Array Oper) : List Oper → AF → AH → Nat → Option (OX × AF × AH × Nat)
  | [], af, hp, nx => some (.norm, af, hp, nx)
  | o :: rest, af, hp, nx =>
    match wantA all af o.guard with
    | none => none
    | some false => match o.dst with
      | some d => match Nat.blt d n with
        | true => opsA P E call n ro all rest (putA af d (.lit (.tuple #[]))) hp nx
        | false => none
      | none => none
    | some true => match o.dst with
      | some d => match Nat.blt d n with
        | false => none
        | true => match val2A P E ro hp af o.op with
          | some v => opsA P E call n ro all rest (putA af d v) hp nx
          | none => match new2A P ro hp nx af o.op with
            | some (v, hp') => opsA P E call n ro all rest (putA af d v) hp' (nx + 1)
            | none => match targetA af o.op with
              | some (k, as) => match call ro k as hp nx with
                | some (.val v, hp', nx') => opsA P E call n ro all rest (putA af d v) hp' nx'
                | some (.pan v, hp', nx') => some (.pan v, af, hp', nx')
                | none => none
              | none => none
      | none => match o.op with
        | .store t x y => match storeA P hp af t x y with
          | some hp' => opsA P E call n ro all rest af hp' nx
          | none => none
        | .panic x => match evalA af x with
          | some (.iface t v) => some (.pan (.iface t v), af, hp, nx)
          | _ => none
        | _ => none
/-- what is to be shown where operations end -/
def EndX (n : Nat) (D : List Deferred) (Q : Exit → Act → World → Prop) (w0 : World) (base : Nat) (ρ : Rho) (r : OX) (af' : AF) (hp' : AH) (nx' : Nat) : Prop :=
  ∀ ρ' l' its', Ext ρ ρ' → Fresh ρ' nx' → FRel ρ' af' l' → instH ρ' hp' = some its' → match r with
    | .norm => PX n D Q l' (WA w0 base its') .normal
    | .pan v => ∀ u, inst ρ' v = some u → PX n D Q l' (WA w0 base its') (.panic [{ v := u, recovered := false }])
theorem EndX.ext {r : OX} {af' : AF} {nx' : Nat} {ρ' : Rho} (h : EndX n D Q w0 base ρ r af' hp' nx') (he : Ext ρ ρ') : EndX n D Q w0 base ρ' r af' hp' nx' := fun ρ2 l2 its2 e2 => h ρ2 l2 its2 (he.trans e2)
theorem opsA_ok {call : CallF} (hC : CallOk P E call) : ∀ (rest : List Oper) {af : AF} {hp : AH} {nx : Nat} {r : OX} {af' : AF} {hp' : AH} {nx' : Nat} {ρ : Rho} {l : Fr} {its : List It},
    opsA P E call n ro ops rest af hp nx = some (r, af', hp', nx') → FRel ρ af l → instH ρ hp = some its → Fresh ρ nx → RO w0 base ρ ro → EE w0 base ρ E → EndX n D Q w0 base ρ r af' hp' nx' →
    LX P ops n D (.plain Q) l (WA w0 base its) rest
  | [], af, hp, nx, r, af', hp', nx', ρ, l, its, h, hf, hH, hF, hR, hE, hk => by
    cases h
    exact LX.next (hk ρ l its (Ext.refl _) hF hf hH)
  | o :: rest, af, hp, nx, r, af', hp', nx', ρ, l, its, h, hf, hH, hF, hR, hE, hk => by
    unfold opsA at h
    split at h
    · cases h
    · rename_i hw
      have hw' := wantA_ok (n := n) (D := D) hf hw
      split at h
      · rename_i d hd
        split at h
        · rename_i hdn
          exact LX.skip1 hw' hd hdn (opsA_ok hC rest h (hf.put d rfl) hH hF hR hE hk)
        · cases h
      · cases h
    · rename_i hw
      have hw' := wantA_ok (n := n) (D := D) hf hw
      split at h
      · rename_i d hd
        split at h
        · cases h
        · rename_i hdn
          split at h
          · rename_i v hv
            obtain ⟨u, h1, h2⟩ := val2A_ok hf hH hR hE hv o.type
            exact LX.step1 hw' h2 hd hdn (opsA_ok hC rest h (hf.put d h1) hH hF hR hE hk)
          · split at h
            · rename_i v hp1 hv
              refine LX.unguard hw' ?_
              refine new2A_ok (o := { o with guard := none }) hf hH hR hF hv rfl hd hdn fun ρ' u its' e1 e2 e3 e4 => ?_
              exact opsA_ok hC rest h ((hf.ext e1).put d e3) e4 e2 (hR.ext e1) (hE.ext e1) (hk.ext e1)
            · split at h
              · rename_i k as ht
                have key : ∀ {r1 : AR} {hp1 : AH} {nx1 : Nat}, call ro k as hp nx = some (r1, hp1, nx1) → ∃ vs : List Value, (∀ (σ : Operand → Value), (∀ x u, evl l x = some u → σ x = u) → ∀ w, (execOp σ o).run P w = .ok (.enter k vs.toArray) w) ∧
                    ∀ w, WA w0 base its w → Calls P k vs.toArray w fun e w' => ∃ ρ' its', Ext ρ ρ' ∧ Fresh ρ' nx1 ∧ instH ρ' hp1 = some its' ∧ WA w0 base its' w' ∧ endOk ρ' r1 e := by
                  intro r1 hp1 nx1 hc
                  obtain ⟨hen, hcc⟩ := hC _ _ _ _ _ _ _ _ hc
                  obtain ⟨vs, h1, h2⟩ := targetA_ok (P := P) hf ht hen
                  exact ⟨vs, h2, fun w hw => hcc w0 base ρ vs its hR hE hH h1 hF w hw⟩
                split at h
                · rename_i v hp1 nx1 hc
                  obtain ⟨vs, h2, h3⟩ := key hc
                  refine LX.callE hw' h2 hd hdn h3 fun e w' he => ?_
                  obtain ⟨ρ', its', e1, e2, e3, e4, u, e5, rfl⟩ := he
                  exact .inl ⟨u, rfl, fun a ha => opsA_ok hC rest h ((hf.ext e1).put d e5) e3 e2 (hR.ext e1) (hE.ext e1) (hk.ext e1) a w' ha e4⟩
                · rename_i v hp1 nx1 hc
                  cases h
                  obtain ⟨vs, h2, h3⟩ := key hc
                  refine LX.callE hw' h2 hd hdn h3 fun e w' he => ?_
                  obtain ⟨ρ', its', e1, e2, e3, e4, u, e5, rfl⟩ := he
                  exact .inr ⟨_, rfl, fun a ha => hk ρ' l its' e1 e2 (hf.ext e1) e3 u e5 a w' ha e4⟩
                · cases h
              · cases h
      · rename_i hd
        split at h
        · rename_i t x y ho
          split at h
          · rename_i hp1 hs
            refine LX.unguard hw' ?_
            exact storeA_ok (o := { o with guard := none }) hf hH ho hs rfl hd fun its' e => opsA_ok hC rest h hf e hF hR hE hk
          · cases h
        · rename_i x ho
          split at h
          · rename_i t v hx
            cases h
            obtain ⟨u, h1, h2⟩ := hf.eval hx
            obtain ⟨z, h3, rfl⟩ := inst_if h2
            exact LX.panicE hw' ho h1 fun a w ha hW => hk ρ l its (Ext.refl _) hF hf hH _ h2 a w ha hW
          · cases h
        · cases h
/-- operations in whatever order, where none changes what is known -/
def opsQ (P : Program) (E : List (Nat × AV)) (call : CallF) (n : Nat) (ro : List AH) (all : Array Oper) (hp : AH) (nx : Nat) : List Oper → AF → Option AF
  | [], af => some af
  | o :: rest, af =>
    match wantA all af o.guard, o.dst with
    | some false, some d => match Nat.blt d n with
      | true => opsQ P E call n ro all hp nx rest (putA af d (.lit (.tuple #[])))
      | false => none
    | some true, some d => match Nat.blt d n with
      | false => none
      | true => match val2A P E ro hp af o.op with
        | some v => opsQ P E call n ro all hp nx rest (putA af d v)
        | none => match targetA af o.op with
          | some (k, as) => match call (hp :: ro) k as [] nx with
            | some (.val (.lit u), _, _) => opsQ P E call n ro all hp nx rest (putA af d (.lit u))
            | _ => none
          | none => none
    | _, _ => none
theorem WA.below_base {w : World} (h : WA w0 base its w) : base ≤ w.heap.size := h.fits
/-- what a call may read that must not change what is owned here -/
theorem RO.push {w : World} (hH : instH ρ hp = some its) (hR : RO w0 base ρ ro) (hw : WA w0 base its w) : RO w w.heap.size ρ (hp :: ro) := by
  intro id it h
  have hl : lookA hp ro id = some it := h
  obtain ⟨p, us, h1, h2, h3, h4⟩ := look_ok hH hR hl
  refine ⟨p, us, h1, h2, ?_, fun off u hu => h3 w hw off u hu, fun n e s cs hi => h4 n e s cs hi w hw⟩
  unfold lookA at hl
  cases hfd : findA hp id 0 with
  | some q =>
    obtain ⟨i, it'⟩ := q
    obtain ⟨x, _, hx, hi⟩ := findA_ok hH hfd
    cases it' with
    | obj cs T =>
      obtain ⟨p2, us2, g1, _, rfl⟩ := instI_obj hi
      rw [h1] at g1; cases g1
      exact ((hw.get hx).lt p.1 rfl).2
    | row n e s cs =>
      obtain ⟨p2, us2, g1, _, rfl⟩ := instI_row hi
      rw [h1] at g1; cases g1
      exact ((hw.get hx).lt p.1 rfl).2
    | mp ks vs bs ck =>
      obtain ⟨p2, us2, xs2, g1, _, _, rfl⟩ := instI_mp hi
      rw [h1] at g1; cases g1
      exact ((hw.get hx).lt p.1 rfl).2
  | none =>
    rw [hfd] at hl
    obtain ⟨p2, us2, g1, _, g3, _⟩ := hR id it hl
    rw [h1] at g1; cases g1
    exact Nat.lt_of_lt_of_le g3 hw.fits
theorem EE.push {w : World} (hE : EE w0 base ρ E) (hw : WA w0 base its w) : EE w w.heap.size ρ E := fun g v hg => by
  obtain ⟨u, h1, h2, h3⟩ := hE g v hg
  exact ⟨u, h1, hw.old (a := ⟨g, 0, none⟩) h3 h2, Nat.lt_of_lt_of_le h3 hw.fits⟩
theorem opsQ_ok {call : CallF} (hC : CallOk P E call) (hH : instH ρ hp = some its) (hF : Fresh ρ nx) (hR : RO w0 base ρ ro) (hE : EE w0 base ρ E) {af' : AF} (hk : ∀ l', FRel ρ af' l' → PX n D Q l' (WA w0 base its) .normal) :
    ∀ (rest : List Oper) {af : AF} {l : Fr}, opsQ P E call n ro ops hp nx rest af = some af' → FRel ρ af l → LX P ops n D (.quiet (fun a' => ∀ w', WA w0 base its w' → Q .normal a' w')) l (WA w0 base its) rest
  | [], af, l, h, hf => by
    cases h
    exact LX.nextQ (hk l hf)
  | o :: rest, af, l, h, hf => by
    unfold opsQ at h
    split at h
    · rename_i d hw hd
      split at h
      · rename_i hdn
        exact LX.skip1 (wantA_ok hf hw) hd hdn (opsQ_ok hC hH hF hR hE hk rest h (hf.put d rfl))
      · cases h
    · rename_i d hw hd
      split at h
      · cases h
      · rename_i hdn
        split at h
        · rename_i v hv
          obtain ⟨u, h1, h2⟩ := val2A_ok hf hH hR hE hv o.type
          exact LX.step1 (wantA_ok hf hw) h2 hd hdn (opsQ_ok hC hH hF hR hE hk rest h (hf.put d h1))
        · split at h
          · rename_i k as ht
            split at h
            · rename_i u hp1 nx1 hc
              obtain ⟨hen, hcc⟩ := hC _ _ _ _ _ _ _ _ hc
              obtain ⟨vs, h1, h2⟩ := targetA_ok (P := P) hf ht hen
              have hrest := opsQ_ok hC hH hF hR hE hk rest h (hf.put d (v := .lit u) rfl)
              intro a ha
              unfold wpQuiet
              rw [if_pos (wantA_ok hf hw a ha)]
              refine ⟨u, fun w hW => ?_, by rw [hd]; exact hrest _ (ha.put hdn u)⟩
              unfold Oper.quietAt
              rw [h2 a.eval ha.eval w]
              refine ⟨rfl, (hcc w w.heap.size ρ vs [] (RO.push hH hR hW) (EE.push hE hW) rfl h1 hF w (WA.start w)).mono fun e w' he => ?_⟩
              obtain ⟨ρ', its', e1, e2, e3, e4, u', e5, rfl⟩ := he
              obtain rfl := inst_lit e5
              exact ⟨rfl, Stab.st w w' hW e4.below⟩
            · cases h
          · cases h
    · cases h
end
end Go.EX

namespace Go.EX
open Go.SX Go.RowKit
section
variable {P : Program} {w0 : World} {base : Nat} {ρ : Rho} {hp hp' : AH} {ro : List AH} {nx : Nat} {its : List It} {E : List (Nat × AV)} {af : AF} {l l' : Fr} {ops : Array Oper} {n : Nat} {D : List Deferred} {Q : Exit → Act → World → Prop} {rest : List Oper} {o : Oper} {d i : Nat} {v : AV} {u : Value} {W W' S : World → Prop} {r : List (Nat × Kd)} {pend : List Nat}
/-- what ends in a panic is not asked what the frame's slots hold -/
def PanicOk (Q : Exit → Act → World → Prop) : Prop := ∀ c a a' w, a.defers = a'.defers → Q (.panic c) a w → Q (.panic c) a' w
theorem put_defers (a : Act) (d : Option Tmp) (v : Value) : (a.put d v).defers = a.defers := by cases d <;> rfl
def MY (P : Program) (ops : Array Oper) (n : Nat) (D : List Deferred) (Q : Exit → Act → World → Prop) (S : World → Prop) (l : Fr) (W : World → Prop) (plan : List (Nat × Kd)) (pend : List Nat) : Prop :=
  ∀ a w, Has n D a l → W w → wpPlan P .any ops Q S plan pend a w
theorem CX.regionY [hst : Stab W] {id : Nat} {lo : List Oper} (plan : List (Nat × Kd)) (hm : P.follows .mixedOrders = true) (hQ : PanicOk Q) (hB : (Region.noSelect lo.toArray && planOk .any lo.toArray plan (Array.replicate lo.toArray.size false) && (plan.length == lo.toArray.size)) = true)
    (h : MY P lo.toArray n D Q S l W plan []) : CX P n D Q l W (.region id lo.toArray true) := by
  intro a w ha hW
  simp only [Bool.and_eq_true, beq_iff_eq] at hB
  refine wp_region_any hm (wpAny_of_M (S := S) _ _ [] _ _ ?_)
  have h1 := wpAnyM_plan (Q := Q) (S := S) hB.1.1 (fun c a w d v h => hQ c _ a w (put_defers a d v) h) plan _ [] a _ hB.1.2 (fun h => absurd rfl h) (h a _ ha (Stab.drew hW))
  rw [hB.2] at h1
  exact h1
theorem MY.lift0 (hi : ops[i]? = some o) (hy : Y P l (fun _ => True) o.op o.type u) (hg : o.guard = none) (hd : o.dst = some d) (hdn : Nat.blt d n = true)
    (h : MY P ops n D Q S ((d, u) :: l) W r pend) : MY P ops n D Q S l W ((i, .anywhere) :: r) pend := by
  intro a w ha hW
  refine ⟨o, u, hi, .inl ⟨wanted_none hg, fun w => hy a.eval ha.eval o rfl rfl w trivial⟩, ?_⟩
  rw [hd]; exact h _ _ (ha.put hdn u) hW
theorem MY.lift1 (hi : ops[i]? = some o) (hWS : ∀ w, W w → S w) (hy : Y P l S o.op o.type u) (hg : o.guard = none) (hd : o.dst = some d) (hdn : Nat.blt d n = true)
    (h : MY P ops n D Q S ((d, u) :: l) W r (i :: still ops .any pend i)) : MY P ops n D Q S l W ((i, .held) :: r) pend := by
  intro a w ha hW
  refine ⟨hWS w hW, o, u, hi, .inl ⟨wanted_none hg, fun w hw => hy a.eval ha.eval o rfl rfl w hw⟩, ?_⟩
  rw [hd]; exact h _ _ (ha.put hdn u) hW
theorem MY.force (hi : ops[i]? = some o)
    (h : LX P ops n D (.plain (Exit.then (fun a w => (still ops .any pend i ≠ [] → S w) ∧ wpPlan P .any ops Q S r (still ops .any pend i) a w) Q)) l W [o]) : MY P ops n D Q S l W ((i, .alone) :: r) pend := by
  intro a w ha hW
  have := h a w ha hW
  unfold wpList at this
  show wpOp P ops Q i _ a w
  unfold wpOp
  simp only [hi]
  split at this
  · rename_i hw
    rw [if_pos hw]
    rcases this with h1 | ⟨h1, a0, w0, h2⟩
    · exact .inl (Oper.upon_mono (fun a w h => h) (fun e a w he h => by cases e <;> first | exact absurd rfl he | exact h) h1)
    · exact .inr ⟨h1, a0, w0, h2⟩
  · rename_i hw
    rw [if_neg hw]
    exact this
theorem MY.done (h : PX n D Q l W .normal) : MY P ops n D Q S l W [] pend := fun a w ha hW => h a w ha hW
/-! what is held of memory while operations that read it may still come -/
abbrev Facts := List (Nat × Nat × AV)
def Held (base : Nat) (w0 : World) (ρ : Rho) (F : Facts) (w : World) : Prop :=
  Below base w0 w ∧ ∀ q ∈ F, ∃ p u, rat ρ.blk q.1 = some p ∧ inst ρ q.2.2 = some u ∧ w.cell? ⟨p.1, q.2.1, none⟩ = some u
def cellFacts (id : Nat) : Nat → List AV → Facts
  | _, [] => []
  | off, v :: r => (id, off, v) :: cellFacts id (off + 1) r
theorem cellFacts_mem {id : Nat} : ∀ (cs : List AV) (off j : Nat) (v : AV), cs[j]? = some v → (id, off + j, v) ∈ cellFacts id off cs
  | [], off, j, v, h => by cases h
  | c :: r, off, 0, v, h => by
    simp only [List.getElem?_cons_zero, Option.some.injEq] at h
    subst h
    exact List.mem_cons_self
  | c :: r, off, j + 1, v, h => by
    have := cellFacts_mem (id := id) r (off + 1) j v (by simpa using h)
    rw [show off + (j + 1) = off + 1 + j by omega]
    exact List.mem_cons_of_mem _ this
/-- a read that may come at any time, while its facts hold -/
def heldA (P : Program) (E : List (Nat × AV)) (ro : List AH) (hp : AH) (af : AF) : Op → Option (AV × Facts)
  | .load t x => match evalA af x with
    | some (.ptr id off) => (lookA hp ro id).bind fun it => match oneT P t with
      | true => (it.cells[off]?).map fun v => (v, [(id, off, v)])
      | false => (aggT P t).bind fun k => match Nat.beq ((it.cells.drop off).take k).length k with
        | true => some (.agg ((it.cells.drop off).take k), cellFacts id off ((it.cells.drop off).take k))
        | false => none
    | some (.lit (.pointer (some ⟨g, 0, none⟩))) => match oneT P t with
      | true => (lookE E g).map fun v => (v, [])
      | false => none
    | _ => none
  | _ => none
theorem heldA_ok (hf : FRel ρ af l) (hE : EE w0 base ρ E) {op : Op} {F F0 : Facts} (h : heldA P E ro hp af op = some (v, F)) (hs : ∀ q ∈ F, q ∈ F0) (hi : ∃ u, inst ρ v = some u) (ty : TypeId) :
    ∃ u, inst ρ v = some u ∧ Y P l (Held base w0 ρ F0) op ty u := by
  unfold heldA at h
  split at h
  · rename_i t x
    split at h
    · rename_i id off hx
      obtain ⟨it, hl, h⟩ := Option.bind_eq_some_iff.1 h
      obtain ⟨ux, h1, h2⟩ := hf.eval hx
      obtain ⟨p, hp', rfl⟩ := inst_ptr h2
      split at h
      · rename_i ht
        cases hc : it.cells[off]? with
        | none => rw [hc] at h; cases h
        | some v' =>
          rw [hc] at h; cases h
          obtain ⟨u, hu⟩ := hi
          refine ⟨u, hu, Y.load (oneT_ok ht) h1 fun w hw => ?_⟩
          obtain ⟨p2, u2, e1, e2, e3⟩ := hw.2 _ (hs (id, off, v) (by simp))
          rw [hp'] at e1; cases e1
          rw [hu] at e2; cases e2
          exact e3
      · obtain ⟨k, hk, h⟩ := Option.bind_eq_some_iff.1 h
        split at h
        · rename_i hlen
          cases h
          obtain ⟨u, hu⟩ := hi
          obtain ⟨us, g1, rfl⟩ := inst_agg hu
          refine ⟨_, hu, Y.loadA (aggT_ok hk) (by rw [instL_len g1]; simpa using hlen) h1 fun w hw j uj hj => ?_⟩
          have hjl : j < ((it.cells.drop off).take k).length := by rw [← instL_len g1]; exact (List.getElem?_eq_some_iff.1 hj).1
          obtain ⟨uj2, g2, g3⟩ := instL_get g1 (List.getElem?_eq_getElem hjl)
          rw [hj] at g2; cases g2
          obtain ⟨p2, u2, e1, e2, e3⟩ := hw.2 _ (hs _ (cellFacts_mem _ off j _ (List.getElem?_eq_getElem hjl)))
          dsimp only at e1 e2 e3
          rw [hp'] at e1; cases e1
          rw [g3] at e2; cases e2
          exact e3
        · cases h
    · rename_i g hx
      split at h
      · rename_i ht
        cases hg : lookE E g with
        | none => rw [hg] at h; cases h
        | some v' =>
          rw [hg] at h; cases h
          obtain ⟨ux, h1, h2⟩ := hf.eval hx
          obtain rfl := inst_lit h2
          obtain ⟨z, h3, h4, h5⟩ := hE g v hg
          exact ⟨z, h3, Y.load (oneT_ok ht) h1 fun w hw => (hw.1.cell (p := ⟨g, 0, none⟩) h5).trans h4⟩
      · cases h
    · cases h
  · cases h
/-- what a read yields stands for something -/
theorem heldA_inst (hf : FRel ρ af l) (hH : instH ρ hp = some its) (hR : RO w0 base ρ ro) (hE : EE w0 base ρ E) {op : Op} {F : Facts} (h : heldA P E ro hp af op = some (v, F)) :
    (∃ u, inst ρ v = some u) ∧ ∀ w, WA w0 base its w → ∀ q ∈ F, ∃ p u, rat ρ.blk q.1 = some p ∧ inst ρ q.2.2 = some u ∧ w.cell? ⟨p.1, q.2.1, none⟩ = some u := by
  unfold heldA at h
  split at h
  · rename_i t x
    split at h
    · rename_i id off hx
      obtain ⟨it, hl, h⟩ := Option.bind_eq_some_iff.1 h
      obtain ⟨p, us, e1, e2, e3, _⟩ := look_ok hH hR hl
      split at h
      · cases hc : it.cells[off]? with
        | none => rw [hc] at h; cases h
        | some v' =>
          rw [hc] at h; cases h
          obtain ⟨z, h3, h4⟩ := instL_get e2 hc
          refine ⟨⟨z, h4⟩, fun w hw q hq => ?_⟩
          simp only [List.mem_singleton] at hq
          subst hq
          exact ⟨p, z, e1, h4, e3 w hw _ _ h3⟩
      · obtain ⟨k, hk, h⟩ := Option.bind_eq_some_iff.1 h
        split at h
        · rename_i hlen
          cases h
          have e4 := instL_take k (instL_drop off e2)
          refine ⟨⟨_, by unfold inst; rw [e4]; rfl⟩, fun w hw => ?_⟩
          have key : ∀ (cs : List AV) (o : Nat), (∀ j c, cs[j]? = some c → it.cells[o + j]? = some c) → ∀ q ∈ cellFacts id o cs, ∃ p u, rat ρ.blk q.1 = some p ∧ inst ρ q.2.2 = some u ∧ w.cell? ⟨p.1, q.2.1, none⟩ = some u := by
            intro cs
            induction cs with
            | nil => intro o _ q hq; cases hq
            | cons c r ih =>
              intro o ho q hq
              rcases List.mem_cons.1 hq with rfl | hq
              · obtain ⟨z, h3, h4⟩ := instL_get e2 (ho 0 c rfl)
                exact ⟨p, z, e1, h4, e3 w hw _ _ h3⟩
              · refine ih (o + 1) (fun j c' hc => ?_) q hq
                have := ho (j + 1) c' (by simpa using hc)
                rwa [show o + 1 + j = o + (j + 1) by omega]
          refine key _ off fun j c hc => ?_
          rw [List.getElem?_take] at hc
          split at hc
          · rw [List.getElem?_drop] at hc; exact hc
          · cases hc
        · cases h
    · rename_i g hx
      split at h
      · cases hg : lookE E g with
        | none => rw [hg] at h; cases h
        | some v' =>
          rw [hg] at h; cases h
          obtain ⟨z, h3, _⟩ := hE g v hg
          exact ⟨⟨z, h3⟩, fun w hw q hq => by cases hq⟩
      · cases h
    · cases h
  · cases h
/-! the same value still -/
def sameV : Value → Value → Bool
  | .int k a, .int k' b => decide (k = k') && decide (a = b)
  | .bool a, .bool b => a == b
  | .string a, .string b => decide (a.data.toList = b.data.toList)
  | .pointer none, .pointer none => true
  | .slice none 0 0, .slice none 0 0 => true
  | .nilIface, .nilIface => true
  | .nilFunc, .nilFunc => true
  | _, _ => false
theorem sameV_ok {a b : Value} (h : sameV a b = true) : a = b := by
  unfold sameV at h
  split at h
  · simp only [Bool.and_eq_true, decide_eq_true_eq] at h
    rw [h.1, h.2]
  · rename_i a b
    have h1 : a = b := by simpa using h
    rw [h1]
  · rename_i a b
    have h1 : a.data.toList = b.data.toList := by simpa using h
    cases a; cases b
    simp only at h1
    congr 2
    exact Array.toList_inj.1 h1
  · rfl
  · rfl
  · rfl
  · rfl
  · cases h
def sameA : AV → AV → Bool
  | .lit a, .lit b => sameV a b
  | .ptr i o, .ptr i' o' => Nat.beq i i' && Nat.beq o o'
  | .sl i o n k, .sl i' o' n' k' => Nat.beq i i' && (Nat.beq o o' && (Nat.beq n n' && Nat.beq k k'))
  | .opq i, .opq j => Nat.beq i j
  | .iface t a, .iface t' b => Nat.beq t t' && sameA a b
  | .mp i, .mp j => Nat.beq i j
  | _, _ => false
theorem sameA_ok : ∀ {a b : AV}, sameA a b = true → a = b
  | .lit a, .lit b, h => by rw [sameV_ok h]
  | .ptr i o, .ptr i' o', h => by simp [sameA] at h; rw [h.1, h.2]
  | .sl i o n k, .sl i' o' n' k', h => by simp [sameA] at h; rw [h.1, h.2.1, h.2.2.1, h.2.2.2]
  | .opq i, .opq j, h => by simp [sameA] at h; rw [h]
  | .mp i, .mp j, h => by simp [sameA] at h; rw [h]
  | .iface t a, .iface t' b, h => by
    unfold sameA at h
    simp only [Bool.and_eq_true] at h
    rw [sameA_ok h.2, show t = t' by simpa using h.1]
def factsOk (hp : AH) (ro : List AH) : Facts → Bool
  | [] => true
  | (id, off, v) :: r => (match lookA hp ro id with
    | some it => match it.cells[off]? with
      | some v' => sameA v v'
      | none => false
    | none => false) && factsOk hp ro r
theorem factsOk_ok (hH : instH ρ hp = some its) (hR : RO w0 base ρ ro) {w : World} (hw : WA w0 base its w) : ∀ {F : Facts}, factsOk hp ro F = true → ∀ q ∈ F, ∃ p u, rat ρ.blk q.1 = some p ∧ inst ρ q.2.2 = some u ∧ w.cell? ⟨p.1, q.2.1, none⟩ = some u
  | [], _, q, hq => by cases hq
  | (id, off, v) :: r, h, q, hq => by
    unfold factsOk at h
    simp only [Bool.and_eq_true] at h
    rcases List.mem_cons.1 hq with rfl | hq
    · have h1 := h.1
      split at h1
      · rename_i it hl
        split at h1
        · rename_i v' hv
          obtain rfl := sameA_ok h1
          obtain ⟨p, us, e1, e2, e3, _⟩ := look_ok hH hR hl
          obtain ⟨z, h3, h4⟩ := instL_get e2 hv
          exact ⟨p, z, e1, h4, e3 w hw _ _ h3⟩
        · cases h1
      · cases h1
    · exact factsOk_ok hH hR hw h.2 q hq
/-- names of facts are old ones: they stand for the same -/
theorem Held.back {ρ' : Rho} {F : Facts} (he : Ext ρ ρ') (hold : ∀ q ∈ F, ∃ p u, rat ρ.blk q.1 = some p ∧ inst ρ q.2.2 = some u) {w : World} (hb : Below base w0 w)
    (h : ∀ q ∈ F, ∃ p u, rat ρ'.blk q.1 = some p ∧ inst ρ' q.2.2 = some u ∧ w.cell? ⟨p.1, q.2.1, none⟩ = some u) : Held base w0 ρ F w := by
  refine ⟨hb, fun q hq => ?_⟩
  obtain ⟨p, u, h1, h2⟩ := hold q hq
  obtain ⟨p', u', h3, h4, h5⟩ := h q hq
  rw [he.blk _ _ h1] at h3; cases h3
  rw [inst_ext he _ _ h2] at h4; cases h4
  exact ⟨p, u, h1, h2, h5⟩
/-! a plan, and how it is gone through -/
def isEff : Op → Bool
  | .alloc _ | .box .. | .buildSlice .. | .store .. | .makeSlice .. | .panic _ => true
  | .call c => match c.callee with
    | .builtin .len | .builtin .max | .builtin .min => false
    | _ => true
  | _ => false
def isHeld : Op → Bool
  | .load .. => true
  | _ => false
def planGo (ops : Array Oper) : Nat → Array Bool → Option (List (Nat × Kd))
  | 0, _ => some []
  | k + 1, listed => match Region.ready .any ops listed with
    | [] => some []
    | r => match r.find? fun i => !((ops[i]?).map fun o => isEff o.op).getD true with
      | some i => (planGo ops k (listed.setIfInBounds i true)).map fun p => (i, if ((ops[i]?).map fun o => isHeld o.op).getD false then .held else .anywhere) :: p
      | none => match r with
        | [i] => (planGo ops k (listed.setIfInBounds i true)).map fun p => (i, .alone) :: p
        | _ => none
def planOf (ops : Array Oper) : Option (List (Nat × Kd)) := planGo ops ops.size (Array.replicate ops.size false)
/-- the part of a plan ahead of what changes memory -/
def preA (P : Program) (E : List (Nat × AV)) (n : Nat) (ro : List AH) (hp : AH) (all : Array Oper) : List (Nat × Kd) → List Nat → AF → Facts → Option (List (Nat × Kd) × List Nat × AF × Facts)
  | (i, .anywhere) :: r, pend, af, F => match all[i]? with
    | some o => match o.guard, o.dst with
      | none, some d => match Nat.blt d n with
        | true => match (match pureA P af o.op with | some v => some v | none => buildA P af o.op) with
          | some v => preA P E n ro hp all r pend (putA af d v) F
          | none => none
        | false => none
      | _, _ => none
    | none => none
  | (i, .held) :: r, pend, af, F => match all[i]? with
    | some o => match o.guard, o.dst with
      | none, some d => match Nat.blt d n with
        | true => match heldA P E ro hp af o.op with
          | some (v, F') => preA P E n ro hp all r (i :: still all .any pend i) (putA af d v) (F' ++ F)
          | none => none
        | false => none
      | _, _ => none
    | none => none
  | plan, pend, af, F => some (plan, pend, af, F)
/-- the rest of it -/
def postA (P : Program) (E : List (Nat × AV)) (call : CallF) (n : Nat) (ro : List AH) (all : Array Oper) (F : Facts) : List (Nat × Kd) → List Nat → AF → AH → Nat → Option (OX × AF × AH × Nat)
  | [], _, af, hp, nx => some (.norm, af, hp, nx)
  | (i, .anywhere) :: r, pend, af, hp, nx => match all[i]? with
    | some o => match o.guard, o.dst with
      | none, some d => match Nat.blt d n with
        | true => match (match pureA P af o.op with | some v => some v | none => buildA P af o.op) with
          | some v => postA P E call n ro all F r pend (putA af d v) hp nx
          | none => none
        | false => none
      | _, _ => none
    | none => none
  | (_, .held) :: _, _, _, _, _ => none
  | (i, .alone) :: r, pend, af, hp, nx => match all[i]? with
    | some o => match opsA P E call n ro all [o] af hp nx with
      | some (.norm, af', hp', nx') => match still all .any pend i with
        | [] => postA P E call n ro all F r [] af' hp' nx'
        | p :: ps => match factsOk hp' ro F with
          | true => postA P E call n ro all F r (p :: ps) af' hp' nx'
          | false => none
      | some (.pan v, af', hp', nx') => some (.pan v, af', hp', nx')
      | none => none
    | none => none
theorem pureB_ok (hf : FRel ρ af l) {op : Op} (h : (match pureA P af op with | some v => some v | none => buildA P af op) = some v) (W : World → Prop) (ty : TypeId) : ∃ u, inst ρ v = some u ∧ Y P l W op ty u := by
  cases hp : pureA P af op with
  | some v' => rw [hp] at h; cases h; exact pureA_ok hf hp W ty
  | none => rw [hp] at h; exact buildA_ok hf h W ty
theorem postA_ok {call : CallF} (hC : CallOk P E call) {F : Facts} {ρ0 : Rho} (hold : ∀ q ∈ F, ∃ p u, rat ρ0.blk q.1 = some p ∧ inst ρ0 q.2.2 = some u) : ∀ (plan : List (Nat × Kd)) {pend : List Nat} {af : AF} {hp : AH} {nx : Nat} {r : OX} {af' : AF} {hp' : AH} {nx' : Nat} {ρ : Rho} {l : Fr} {its : List It},
    postA P E call n ro ops F plan pend af hp nx = some (r, af', hp', nx') → FRel ρ af l → instH ρ hp = some its → Fresh ρ nx → RO w0 base ρ ro → EE w0 base ρ E → Ext ρ0 ρ → EndX n D Q w0 base ρ r af' hp' nx' →
    MY P ops n D Q (Held base w0 ρ0 F) l (WA w0 base its) plan pend
  | [], pend, af, hp, nx, r, af', hp', nx', ρ, l, its, h, hf, hH, hF, hR, hE, he, hk => by
    cases h
    exact MY.done (hk ρ l its (Ext.refl _) hF hf hH)
  | (i, .anywhere) :: pl, pend, af, hp, nx, r, af', hp', nx', ρ, l, its, h, hf, hH, hF, hR, hE, he, hk => by
    unfold postA at h
    split at h
    · rename_i o ho
      split at h
      · rename_i d hg hd
        split at h
        · rename_i hdn
          split at h
          · rename_i v hv
            obtain ⟨u, h1, h2⟩ := pureB_ok hf hv (fun _ => True) o.type
            exact MY.lift0 ho h2 hg hd hdn (postA_ok hC hold pl h (hf.put d h1) hH hF hR hE he hk)
          · cases h
        · cases h
      · cases h
    · cases h
  | (i, .held) :: pl, pend, af, hp, nx, r, af', hp', nx', ρ, l, its, h, hf, hH, hF, hR, hE, he, hk => by cases h
  | (i, .alone) :: pl, pend, af, hp, nx, r, af', hp', nx', ρ, l, its, h, hf, hH, hF, hR, hE, he, hk => by
    unfold postA at h
    split at h
    · rename_i o ho
      split at h
      · rename_i af1 hp1 nx1 hop
        refine MY.force ho (opsA_ok hC [o] hop hf hH hF hR hE fun ρ' l' its' e1 e2 e3 e4 => ?_)
        split at h
        · rename_i hst
          intro a w ha hW
          refine ⟨fun hne => absurd hst hne, ?_⟩
          rw [hst]
          exact postA_ok hC hold pl h e3 e4 e2 (hR.ext e1) (hE.ext e1) (he.trans e1) (hk.ext e1) a w ha hW
        · rename_i p ps hst
          split at h
          · rename_i hfa
            intro a w ha hW
            refine ⟨fun _ => Held.back (he.trans e1) hold hW.below (factsOk_ok e4 (hR.ext e1) hW hfa), ?_⟩
            rw [hst]
            exact postA_ok hC hold pl h e3 e4 e2 (hR.ext e1) (hE.ext e1) (he.trans e1) (hk.ext e1) a w ha hW
          · cases h
      · rename_i v af1 hp1 nx1 hop
        cases h
        exact MY.force ho (opsA_ok hC [o] hop hf hH hF hR hE fun ρ' l' its' e1 e2 e3 e4 => fun u hu => hk ρ' l' its' e1 e2 e3 e4 u hu)
      · cases h
    · cases h
theorem preA_sub : ∀ {plan : List (Nat × Kd)} {pend : List Nat} {af : AF} {F : Facts} {plan' : List (Nat × Kd)} {pend' : List Nat} {af' : AF} {F' : Facts}, preA P E n ro hp ops plan pend af F = some (plan', pend', af', F') → ∀ q ∈ F, q ∈ F' := by
  intro plan
  induction plan with
  | nil => intro pend af F plan' pend' af' F' h q hq; unfold preA at h; cases h; exact hq
  | cons x pl ih =>
    intro pend af F plan' pend' af' F' h q hq
    obtain ⟨i, k⟩ := x
    cases k with
    | anywhere =>
      unfold preA at h
      split at h
      · split at h
        · split at h
          · split at h
            · exact ih h q hq
            · cases h
          · cases h
        · cases h
      · cases h
    | held =>
      unfold preA at h
      split at h
      · split at h
        · split at h
          · split at h
            · exact ih h q (List.mem_append_right _ hq)
            · cases h
          · cases h
        · cases h
      · cases h
    | alone => unfold preA at h; cases h; exact hq
theorem preA_ok (hH : instH ρ hp = some its) (hR : RO w0 base ρ ro) (hE : EE w0 base ρ E) {plan' : List (Nat × Kd)} {pend' : List Nat} {af' : AF} {F0 : Facts} (hk : ∀ l', FRel ρ af' l' → MY P ops n D Q (Held base w0 ρ F0) l' (WA w0 base its) plan' pend')
    (hall : ∀ w, WA w0 base its w → Held base w0 ρ F0 w) : ∀ {plan : List (Nat × Kd)} {pend : List Nat} {af : AF} {F : Facts} {l : Fr}, preA P E n ro hp ops plan pend af F = some (plan', pend', af', F0) → FRel ρ af l →
    MY P ops n D Q (Held base w0 ρ F0) l (WA w0 base its) plan pend := by
  intro plan
  induction plan with
  | nil => intro pend af F l h hf; unfold preA at h; cases h; exact hk l hf
  | cons x pl ih =>
    intro pend af F l h hf
    obtain ⟨i, k⟩ := x
    cases k with
    | anywhere =>
      unfold preA at h
      split at h
      · rename_i o ho
        split at h
        · rename_i d hg hd
          split at h
          · rename_i hdn
            split at h
            · rename_i v hv
              obtain ⟨u, h1, h2⟩ := pureB_ok hf hv (fun _ => True) o.type
              exact MY.lift0 ho h2 hg hd hdn (ih h (hf.put d h1))
            · cases h
          · cases h
        · cases h
      · cases h
    | held =>
      unfold preA at h
      split at h
      · rename_i o ho
        split at h
        · rename_i d hg hd
          split at h
          · rename_i hdn
            split at h
            · rename_i v F' hv
              have hsub : ∀ q ∈ F', q ∈ F0 := fun q hq => preA_sub h q (List.mem_append_left _ hq)
              obtain ⟨u, h1, h2⟩ := heldA_ok hf hE hv hsub (heldA_inst hf hH hR hE hv).1 o.type
              exact MY.lift1 ho hall h2 hg hd hdn (ih h (hf.put d h1))
            · cases h
          · cases h
        · cases h
      · cases h
    | alone => unfold preA at h; cases h; exact hk l hf
/-- all facts that are taken hold where the region begins -/
theorem preA_facts (hH : instH ρ hp = some its) (hR : RO w0 base ρ ro) (hE : EE w0 base ρ E) {w : World} (hw : WA w0 base its w) : ∀ {plan : List (Nat × Kd)} {pend : List Nat} {af : AF} {F : Facts} {l : Fr} {plan' : List (Nat × Kd)} {pend' : List Nat} {af' : AF} {F0 : Facts}, preA P E n ro hp ops plan pend af F = some (plan', pend', af', F0) → FRel ρ af l →
    (∀ q ∈ F, ∃ p u, rat ρ.blk q.1 = some p ∧ inst ρ q.2.2 = some u ∧ w.cell? ⟨p.1, q.2.1, none⟩ = some u) → ∀ q ∈ F0, ∃ p u, rat ρ.blk q.1 = some p ∧ inst ρ q.2.2 = some u ∧ w.cell? ⟨p.1, q.2.1, none⟩ = some u := by
  intro plan
  induction plan with
  | nil => intro pend af F l plan' pend' af' F0 h hf hall; unfold preA at h; cases h; exact hall
  | cons x pl ih =>
    intro pend af F l plan' pend' af' F0 h hf hall
    obtain ⟨i, k⟩ := x
    cases k with
    | anywhere =>
      unfold preA at h
      split at h
      · rename_i o ho
        split at h
        · rename_i d hg hd
          split at h
          · split at h
            · rename_i v hv
              obtain ⟨u, h1, _⟩ := pureB_ok hf hv (fun _ => True) o.type
              exact ih h (hf.put d h1) hall
            · cases h
          · cases h
        · cases h
      · cases h
    | held =>
      unfold preA at h
      split at h
      · rename_i o ho
        split at h
        · rename_i d hg hd
          split at h
          · split at h
            · rename_i v F' hv
              obtain ⟨⟨u, h1⟩, h2⟩ := heldA_inst hf hH hR hE hv
              refine ih h (hf.put d h1) fun q hq => ?_
              rcases List.mem_append.1 hq with hq | hq
              · exact h2 w hw q hq
              · exact hall q hq
            · cases h
          · cases h
        · cases h
      · cases h
    | alone => unfold preA at h; cases h; exact hall
end
/-- a region whose order is drawn, and that changes memory -/
def mixA (P : Program) (E : List (Nat × AV)) (call : CallF) (n : Nat) (ro : List AH) (ops : Array Oper) (af : AF) (hp : AH) (nx : Nat) : Option (OX × AF × AH × Nat) :=
  match planOf ops with
  | some plan => match Region.noSelect ops && planOk .any ops plan (Array.replicate ops.size false) && (plan.length == ops.size) with
    | true => (preA P E n ro hp ops plan [] af []).bind fun q => postA P E call n ro ops q.2.2.2 q.1 q.2.1 q.2.2.1 hp nx
    | false => none
  | none => none
theorem mixA_ok {P : Program} {w0 : World} {base : Nat} {ρ : Rho} {hp hp' : AH} {ro : List AH} {nx nx' : Nat} {its : List It} {E : List (Nat × AV)} {af af' : AF} {l : Fr} {n : Nat} {D : List Deferred} {Q : Exit → Act → World → Prop} {r : OX} {call : CallF} (hC : CallOk P E call) {id : Nat} {lo : List Oper}
    (hm : P.follows .mixedOrders = true) (hQ : PanicOk Q) (h : mixA P E call n ro lo.toArray af hp nx = some (r, af', hp', nx')) (hf : FRel ρ af l) (hH : instH ρ hp = some its) (hF : Fresh ρ nx) (hR : RO w0 base ρ ro) (hE : EE w0 base ρ E) (hk : EndX n D Q w0 base ρ r af' hp' nx') :
    CX P n D Q l (WA w0 base its) (.region id lo.toArray true) := by
  unfold mixA at h
  split at h
  · rename_i plan hp1
    split at h
    · rename_i hB
      obtain ⟨⟨plan', pend', af1, F0⟩, h1, h2⟩ := Option.bind_eq_some_iff.1 h
      have hall : ∀ w, WA w0 base its w → Held base w0 ρ F0 w := fun w hw => ⟨hw.below, preA_facts hH hR hE hw h1 hf (fun q hq => by cases hq)⟩
      by_cases hex : ∃ w, WA w0 base its w
      · obtain ⟨w, hw⟩ := hex
        have hold : ∀ q ∈ F0, ∃ p u, rat ρ.blk q.1 = some p ∧ inst ρ q.2.2 = some u := fun q hq => by
          obtain ⟨p, u, e1, e2, _⟩ := (hall w hw).2 q hq
          exact ⟨p, u, e1, e2⟩
        exact CX.regionY (S := Held base w0 ρ F0) plan hm hQ hB (preA_ok hH hR hE (fun l' hl' => postA_ok hC hold _ h2 hl' hH hF hR hE (Ext.refl _) hk) hall h1 hf)
      · exact fun a w ha hW => absurd ⟨w, hW⟩ hex
    · cases h
  · cases h
end Go.EX
