/-
  Proved here: memory of a machine of mine, as trees of names, and what a tree stands for among the names of a small machine.
-/
import Derived.Test.YtljaoofbklkglaaGreatDoorExG
namespace Go.EY
open Go.SX Go.EX Go.RowKit
/-! rows as trees: cell i stands at i + 1's digits -/
inductive VT where
  | nil
  | node (v : Option AV) (l r : VT)
def VT.get : VT → Nat → Option AV
  | .nil, _ => none
  | .node v l r, i => bif Nat.beq i 1 then v else bif Nat.beq (Nat.mod i 2) 0 then l.get (Nat.div i 2) else r.get (Nat.div i 2)
/-- an item of memory -/
inductive MI where
  | obj (cs : List AV) (T : TypeId)
  | row (n e size : Nat) (vt : VT)
  | mp (ks vs : List AV) (bs : List Nat) (ck : Nat)
inductive HT where
  | nil
  | node (v : Option MI) (l r : HT)
def HT.get : HT → Nat → Option MI
  | .nil, _ => none
  | .node v l r, i => bif Nat.beq i 1 then v else bif Nat.beq (Nat.mod i 2) 0 then l.get (Nat.div i 2) else r.get (Nat.div i 2)
/-- what a run comes to, or where it stops -/
inductive R where
  | ok (r : AR) (t : HT) (n : Nat)
  | bad (c : Nat)
/-! a path that is new -/
def VT.mk : Nat → Nat → AV → VT
  | 0, _, _ => .nil
  | f + 1, i, x => bif Nat.beq i 1 then .node (some x) .nil .nil else bif Nat.beq (Nat.mod i 2) 0 then .node none (VT.mk f (Nat.div i 2) x) .nil else .node none .nil (VT.mk f (Nat.div i 2) x)
def VT.ins : VT → Nat → AV → VT
  | .nil, i, x => VT.mk i i x
  | .node v l r, i, x => bif Nat.beq i 1 then .node (some x) l r else bif Nat.beq (Nat.mod i 2) 0 then .node v (l.ins (Nat.div i 2) x) r else .node v l (r.ins (Nat.div i 2) x)
def HT.mk : Nat → Nat → MI → HT
  | 0, _, _ => .nil
  | f + 1, i, x => bif Nat.beq i 1 then .node (some x) .nil .nil else bif Nat.beq (Nat.mod i 2) 0 then .node none (HT.mk f (Nat.div i 2) x) .nil else .node none .nil (HT.mk f (Nat.div i 2) x)
def HT.ins : HT → Nat → MI → HT
  | .nil, i, x => HT.mk i i x
  | .node v l r, i, x => bif Nat.beq i 1 then .node (some x) l r else bif Nat.beq (Nat.mod i 2) 0 then .node v (l.ins (Nat.div i 2) x) r else .node v l (r.ins (Nat.div i 2) x)
def HT.del : HT → Nat → HT
  | .nil, _ => .nil
  | .node v l r, i => bif Nat.beq i 1 then .node none l r else bif Nat.beq (Nat.mod i 2) 0 then .node v (l.del (Nat.div i 2)) r else .node v l (r.del (Nat.div i 2))
theorem half {i j : Nat} (h : Nat.div i 2 = Nat.div j 2) (h1 : Nat.mod i 2 = Nat.mod j 2) : i = j := by
  have a : i / 2 = j / 2 := h
  have b : i % 2 = j % 2 := h1
  omega
theorem beqT {a b : Nat} (h : Nat.beq a b = true) : a = b := by simpa using h
theorem beqF {a b : Nat} (h : Nat.beq a b = false) : a ≠ b := by
  rintro rfl; simp at h
theorem mod2 {i : Nat} (h : Nat.beq (Nat.mod i 2) 0 = false) : Nat.mod i 2 = 1 := by
  have a : i % 2 ≠ 0 := beqF h
  show i % 2 = 1
  omega
theorem VT.mk_get : ∀ (f i : Nat) (x : AV) (j : Nat) (y : AV), (VT.mk f i x).get j = some y → i = j ∧ x = y := by
  intro f
  induction f with
  | zero => intro i x j y h; cases h
  | succ f ih =>
    intro i x j y h
    unfold VT.mk at h
    cases h1 : Nat.beq i 1 with
    | true =>
      simp only [h1, cond_true] at h
      unfold VT.get at h
      cases h2 : Nat.beq j 1 with
      | true => simp only [h2, cond_true, Option.some.injEq] at h; exact ⟨(beqT h1).trans (beqT h2).symm, h⟩
      | false => rw [h2] at h; cases hm : Nat.beq (Nat.mod j 2) 0 <;> simp [hm, VT.get] at h
    | false =>
      cases hi : Nat.beq (Nat.mod i 2) 0 with
      | true =>
        simp only [h1, hi, cond_true, cond_false] at h
        unfold VT.get at h
        cases h2 : Nat.beq j 1 with
        | true => simp [h2] at h
        | false =>
          cases hm : Nat.beq (Nat.mod j 2) 0 with
          | true =>
            simp only [h2, hm, cond_true, cond_false] at h
            obtain ⟨e1, e2⟩ := ih _ _ _ _ h
            exact ⟨half e1 ((beqT hi).trans (beqT hm).symm), e2⟩
          | false => simp [h2, hm, VT.get] at h
      | false =>
        simp only [h1, hi, cond_false] at h
        unfold VT.get at h
        cases h2 : Nat.beq j 1 with
        | true => simp [h2] at h
        | false =>
          cases hm : Nat.beq (Nat.mod j 2) 0 with
          | true => simp [h2, hm, VT.get] at h
          | false =>
            simp only [h2, hm, cond_false] at h
            obtain ⟨e1, e2⟩ := ih _ _ _ _ h
            exact ⟨half e1 ((mod2 hi).trans (mod2 hm).symm), e2⟩
theorem VT.ins_get : ∀ (t : VT) (i : Nat) (x : AV) (j : Nat) (y : AV), (t.ins i x).get j = some y → (i = j ∧ x = y) ∨ (i ≠ j ∧ t.get j = some y) := by
  intro t
  induction t with
  | nil => intro i x j y h; exact .inl (VT.mk_get _ _ _ _ _ h)
  | node v l r ihl ihr =>
    intro i x j y h
    unfold VT.ins at h
    unfold VT.get
    cases h1 : Nat.beq i 1 with
    | true =>
      simp only [h1, cond_true] at h
      unfold VT.get at h
      cases h2 : Nat.beq j 1 with
      | true => simp only [h2, cond_true, Option.some.injEq] at h; exact .inl ⟨(beqT h1).trans (beqT h2).symm, h⟩
      | false => rw [h2] at h; exact .inr ⟨(fun e => by subst e; rw [h1] at h2; cases h2), h⟩
    | false =>
      cases hi : Nat.beq (Nat.mod i 2) 0 with
      | true =>
        simp only [h1, hi, cond_true, cond_false] at h
        unfold VT.get at h
        cases h2 : Nat.beq j 1 with
        | true => rw [h2] at h; exact .inr ⟨(fun e => by subst e; rw [h1] at h2; cases h2), h⟩
        | false =>
          cases hm : Nat.beq (Nat.mod j 2) 0 with
          | true =>
            simp only [h2, hm, cond_true, cond_false] at h ⊢
            rcases ihl _ _ _ _ h with ⟨e1, e2⟩ | ⟨e1, e2⟩
            · exact .inl ⟨half e1 ((beqT hi).trans (beqT hm).symm), e2⟩
            · exact .inr ⟨fun e => e1 (by rw [e]), e2⟩
          | false =>
            simp only [h2, hm, cond_false] at h ⊢
            exact .inr ⟨(fun e => by subst e; rw [hi] at hm; cases hm), h⟩
      | false =>
        simp only [h1, hi, cond_false] at h
        unfold VT.get at h
        cases h2 : Nat.beq j 1 with
        | true => rw [h2] at h; exact .inr ⟨(fun e => by subst e; rw [h1] at h2; cases h2), h⟩
        | false =>
          cases hm : Nat.beq (Nat.mod j 2) 0 with
          | true =>
            simp only [h2, hm, cond_true, cond_false] at h ⊢
            exact .inr ⟨(fun e => by subst e; rw [hi] at hm; cases hm), h⟩
          | false =>
            simp only [h2, hm, cond_false] at h ⊢
            rcases ihr _ _ _ _ h with ⟨e1, e2⟩ | ⟨e1, e2⟩
            · exact .inl ⟨half e1 ((mod2 hi).trans (mod2 hm).symm), e2⟩
            · exact .inr ⟨fun e => e1 (by rw [e]), e2⟩
theorem HT.mk_get : ∀ (f i : Nat) (x : MI) (j : Nat) (y : MI), (HT.mk f i x).get j = some y → i = j ∧ x = y := by
  intro f
  induction f with
  | zero => intro i x j y h; cases h
  | succ f ih =>
    intro i x j y h
    unfold HT.mk at h
    cases h1 : Nat.beq i 1 with
    | true =>
      simp only [h1, cond_true] at h
      unfold HT.get at h
      cases h2 : Nat.beq j 1 with
      | true => simp only [h2, cond_true, Option.some.injEq] at h; exact ⟨(beqT h1).trans (beqT h2).symm, h⟩
      | false => rw [h2] at h; cases hm : Nat.beq (Nat.mod j 2) 0 <;> simp [hm, HT.get] at h
    | false =>
      cases hi : Nat.beq (Nat.mod i 2) 0 with
      | true =>
        simp only [h1, hi, cond_true, cond_false] at h
        unfold HT.get at h
        cases h2 : Nat.beq j 1 with
        | true => simp [h2] at h
        | false =>
          cases hm : Nat.beq (Nat.mod j 2) 0 with
          | true =>
            simp only [h2, hm, cond_true, cond_false] at h
            obtain ⟨e1, e2⟩ := ih _ _ _ _ h
            exact ⟨half e1 ((beqT hi).trans (beqT hm).symm), e2⟩
          | false => simp [h2, hm, HT.get] at h
      | false =>
        simp only [h1, hi, cond_false] at h
        unfold HT.get at h
        cases h2 : Nat.beq j 1 with
        | true => simp [h2] at h
        | false =>
          cases hm : Nat.beq (Nat.mod j 2) 0 with
          | true => simp [h2, hm, HT.get] at h
          | false =>
            simp only [h2, hm, cond_false] at h
            obtain ⟨e1, e2⟩ := ih _ _ _ _ h
            exact ⟨half e1 ((mod2 hi).trans (mod2 hm).symm), e2⟩
theorem HT.ins_get : ∀ (t : HT) (i : Nat) (x : MI) (j : Nat) (y : MI), (t.ins i x).get j = some y → (i = j ∧ x = y) ∨ (i ≠ j ∧ t.get j = some y) := by
  intro t
  induction t with
  | nil => intro i x j y h; exact .inl (HT.mk_get _ _ _ _ _ h)
  | node v l r ihl ihr =>
    intro i x j y h
    unfold HT.ins at h
    unfold HT.get
    cases h1 : Nat.beq i 1 with
    | true =>
      simp only [h1, cond_true] at h
      unfold HT.get at h
      cases h2 : Nat.beq j 1 with
      | true => simp only [h2, cond_true, Option.some.injEq] at h; exact .inl ⟨(beqT h1).trans (beqT h2).symm, h⟩
      | false => rw [h2] at h; exact .inr ⟨(fun e => by subst e; rw [h1] at h2; cases h2), h⟩
    | false =>
      cases hi : Nat.beq (Nat.mod i 2) 0 with
      | true =>
        simp only [h1, hi, cond_true, cond_false] at h
        unfold HT.get at h
        cases h2 : Nat.beq j 1 with
        | true => rw [h2] at h; exact .inr ⟨(fun e => by subst e; rw [h1] at h2; cases h2), h⟩
        | false =>
          cases hm : Nat.beq (Nat.mod j 2) 0 with
          | true =>
            simp only [h2, hm, cond_true, cond_false] at h ⊢
            rcases ihl _ _ _ _ h with ⟨e1, e2⟩ | ⟨e1, e2⟩
            · exact .inl ⟨half e1 ((beqT hi).trans (beqT hm).symm), e2⟩
            · exact .inr ⟨fun e => e1 (by rw [e]), e2⟩
          | false =>
            simp only [h2, hm, cond_false] at h ⊢
            exact .inr ⟨(fun e => by subst e; rw [hi] at hm; cases hm), h⟩
      | false =>
        simp only [h1, hi, cond_false] at h
        unfold HT.get at h
        cases h2 : Nat.beq j 1 with
        | true => rw [h2] at h; exact .inr ⟨(fun e => by subst e; rw [h1] at h2; cases h2), h⟩
        | false =>
          cases hm : Nat.beq (Nat.mod j 2) 0 with
          | true =>
            simp only [h2, hm, cond_true, cond_false] at h ⊢
            exact .inr ⟨(fun e => by subst e; rw [hi] at hm; cases hm), h⟩
          | false =>
            simp only [h2, hm, cond_false] at h ⊢
            rcases ihr _ _ _ _ h with ⟨e1, e2⟩ | ⟨e1, e2⟩
            · exact .inl ⟨half e1 ((mod2 hi).trans (mod2 hm).symm), e2⟩
            · exact .inr ⟨fun e => e1 (by rw [e]), e2⟩
theorem HT.del_get : ∀ (t : HT) (i j : Nat) (y : MI), (t.del i).get j = some y → i ≠ j ∧ t.get j = some y := by
  intro t
  induction t with
  | nil => intro i j y h; cases h
  | node v l r ihl ihr =>
    intro i j y h
    unfold HT.del at h
    unfold HT.get
    cases h1 : Nat.beq i 1 with
    | true =>
      simp only [h1, cond_true] at h
      unfold HT.get at h
      cases h2 : Nat.beq j 1 with
      | true => simp [h2] at h
      | false => rw [h2] at h; exact ⟨(fun e => by subst e; rw [h1] at h2; cases h2), h⟩
    | false =>
      cases hi : Nat.beq (Nat.mod i 2) 0 with
      | true =>
        simp only [h1, hi, cond_true, cond_false] at h
        unfold HT.get at h
        cases h2 : Nat.beq j 1 with
        | true => rw [h2] at h; exact ⟨(fun e => by subst e; rw [h1] at h2; cases h2), h⟩
        | false =>
          cases hm : Nat.beq (Nat.mod j 2) 0 with
          | true =>
            simp only [h2, hm, cond_true, cond_false] at h ⊢
            obtain ⟨e1, e2⟩ := ihl _ _ _ h
            exact ⟨fun e => e1 (by rw [e]), e2⟩
          | false =>
            simp only [h2, hm, cond_false] at h ⊢
            exact ⟨(fun e => by subst e; rw [hi] at hm; cases hm), h⟩
      | false =>
        simp only [h1, hi, cond_false] at h
        unfold HT.get at h
        cases h2 : Nat.beq j 1 with
        | true => rw [h2] at h; exact ⟨(fun e => by subst e; rw [h1] at h2; cases h2), h⟩
        | false =>
          cases hm : Nat.beq (Nat.mod j 2) 0 with
          | true =>
            simp only [h2, hm, cond_true, cond_false] at h ⊢
            exact ⟨(fun e => by subst e; rw [hi] at hm; cases hm), h⟩
          | false =>
            simp only [h2, hm, cond_false] at h ⊢
            obtain ⟨e1, e2⟩ := ihr _ _ _ h
            exact ⟨fun e => e1 (by rw [e]), e2⟩
/-! what items stand for -/
def VRel (vt : VT) (cs : List AV) : Prop := ∀ i v, vt.get (i + 1) = some v → cs[i]? = some v
def MRel : MI → AI → Prop
  | .obj cs T, it => it = .obj cs T
  | .row n e s vt, it => ∃ cs, it = .row n e s cs ∧ VRel vt cs
  | .mp ks vs bs ck, it => it = .mp ks vs bs ck
def Sub (T : HT) (hp : AH) : Prop := ∀ id m, T.get id = some m → ∃ i it, findA hp id 0 = some (i, it) ∧ MRel m it
theorem VRel.nil (cs : List AV) : VRel .nil cs := fun i v h => by cases h
theorem VRel.set {vt : VT} {cs : List AV} (h : VRel vt cs) {i : Nat} (hi : i < cs.length) (v : AV) : VRel (vt.ins (i + 1) v) (cs.set i v) := fun j x hx => by
  rcases VT.ins_get _ _ _ _ _ hx with ⟨e1, rfl⟩ | ⟨e1, e2⟩
  · have : i = j := by omega
    subst this
    rw [List.getElem?_set_self hi]
  · rw [List.getElem?_set_ne (by omega)]; exact h j x e2
theorem VRel.push {vt : VT} {cs : List AV} (h : VRel vt cs) (v : AV) : VRel (vt.ins (cs.length + 1) v) (cs ++ [v]) := fun j x hx => by
  rcases VT.ins_get _ _ _ _ _ hx with ⟨e1, rfl⟩ | ⟨e1, e2⟩
  · have : cs.length = j := by omega
    subst this
    simp
  · have h1 := h j x e2
    rw [List.getElem?_append_left (List.getElem?_eq_some_iff.1 h1).1]
    exact h1
theorem VRel.lt {vt : VT} {cs : List AV} (h : VRel vt cs) {i : Nat} {v : AV} (hv : vt.get (i + 1) = some v) : i < cs.length := (List.getElem?_eq_some_iff.1 (h i v hv)).1
theorem findA_shift : ∀ {hp : AH} {id j i : Nat} {it : AI}, findA hp id j = some (i, it) → ∀ k, ∃ i', findA hp id k = some (i', it)
  | [], _, _, _, _, h, _ => by cases h
  | (q, x) :: t, id, j, i, it, h, k => by
    unfold findA at h ⊢
    cases hb : Nat.beq q id with
    | true => rw [hb] at h; cases h; exact ⟨k, rfl⟩
    | false => rw [hb] at h; exact findA_shift h (k + 1)
theorem Sub.new {T : HT} {hp : AH} (h : Sub T hp) {nx : Nat} {m : MI} {it : AI} (hm : MRel m it) : Sub (T.ins nx m) ((nx, it) :: hp) := fun id m' h' => by
  rcases HT.ins_get _ _ _ _ _ h' with ⟨rfl, rfl⟩ | ⟨e1, e2⟩
  · exact ⟨0, it, by simp [findA], hm⟩
  · obtain ⟨i, it', h1, h2⟩ := h id m' e2
    obtain ⟨i', h3⟩ := findA_shift h1 1
    refine ⟨i', it', ?_, h2⟩
    unfold findA
    have : Nat.beq nx id = false := by simpa [← Bool.not_eq_true] using e1
    rw [this]; exact h3
theorem findA_setH : ∀ {hp : AH} {id j i : Nat} {it : AI} (z : AI), findA hp id j = some (i, it) → findA (setH hp id z) id j = some (i, z)
  | [], _, _, _, _, _, h => by cases h
  | (q, x) :: t, id, j, i, it, z, h => by
    unfold findA at h
    unfold setH
    cases hb : Nat.beq q id with
    | true => rw [hb] at h; cases h; simp [findA, hb]
    | false => rw [hb] at h; simp only [findA, hb]; exact findA_setH z h
theorem findA_setH_ne : ∀ {hp : AH} {id j id' : Nat} (z : AI), id ≠ id' → findA (setH hp id z) id' j = findA hp id' j
  | [], _, _, _, _, _ => rfl
  | (q, x) :: t, id, j, id', z, hne => by
    unfold setH
    cases hb : Nat.beq q id with
    | true =>
      have : q = id := beqT hb
      subst this
      have : Nat.beq q id' = false := by simpa [← Bool.not_eq_true] using hne
      simp [findA, this]
    | false => simp only [findA]; rw [findA_setH_ne z hne]
theorem Sub.set {T : HT} {hp : AH} (h : Sub T hp) {id i : Nat} {it0 it : AI} {m : MI} (hf : findA hp id 0 = some (i, it0)) (hm : MRel m it) : Sub (T.ins id m) (setH hp id it) := fun id' m' h' => by
  rcases HT.ins_get _ _ _ _ _ h' with ⟨rfl, rfl⟩ | ⟨e1, e2⟩
  · exact ⟨i, it, findA_setH it hf, hm⟩
  · obtain ⟨i', it', h1, h2⟩ := h id' m' e2
    exact ⟨i', it', by rw [findA_setH_ne it e1]; exact h1, h2⟩
theorem findA_setK : ∀ {hp : AH} {id j i nx : Nat} {it : AI} (z : AI), findA hp id j = some (i, it) → (∀ x ∈ hp, x.1 ≠ nx) → findA (setK hp id nx z) nx j = some (i, z)
  | [], _, _, _, _, _, _, h, _ => by cases h
  | (q, x) :: t, id, j, i, nx, it, z, h, hn => by
    unfold findA at h
    unfold setK
    cases hb : Nat.beq q id with
    | true => rw [hb] at h; cases h; simp [findA]
    | false =>
      rw [hb] at h
      have : Nat.beq q nx = false := by simpa [← Bool.not_eq_true] using hn (q, x) (by simp)
      simp only [findA, this]
      exact findA_setK z h (fun y hy => hn y (by simp [hy]))
theorem findA_setK_ne : ∀ {hp : AH} {id j nx id' : Nat} (z : AI), id ≠ id' → nx ≠ id' → findA (setK hp id nx z) id' j = findA hp id' j
  | [], _, _, _, _, _, _, _ => rfl
  | (q, x) :: t, id, j, nx, id', z, hne, hnx => by
    unfold setK
    cases hb : Nat.beq q id with
    | true =>
      have : q = id := beqT hb
      subst this
      have h1 : Nat.beq q id' = false := by simpa [← Bool.not_eq_true] using hne
      have h2 : Nat.beq nx id' = false := by simpa [← Bool.not_eq_true] using hnx
      simp [findA, h1, h2]
    | false => simp only [findA]; rw [findA_setK_ne z hne hnx]
theorem Sub.app {T : HT} {hp : AH} (h : Sub T hp) {id i nx : Nat} {it0 it : AI} {m : MI} (hf : findA hp id 0 = some (i, it0)) (hm : MRel m it) (hn : ∀ x ∈ hp, x.1 ≠ nx) : Sub ((T.del id).ins nx m) (setK hp id nx it) := fun id' m' h' => by
  rcases HT.ins_get _ _ _ _ _ h' with ⟨rfl, rfl⟩ | ⟨e1, e2⟩
  · exact ⟨i, it, findA_setK it hf hn, hm⟩
  · obtain ⟨e3, e4⟩ := HT.del_get _ _ _ _ e2
    obtain ⟨i', it', h1, h2⟩ := h id' m' e4
    exact ⟨i', it', by rw [findA_setK_ne it e3 e1]; exact h1, h2⟩
theorem keys_old {ρ : Rho} {nx : Nat} (hF : Fresh ρ nx) : ∀ {hp : AH} {xs : List It}, instH ρ hp = some xs → ∀ x ∈ hp, x.1 ≠ nx
  | [], _, _, x, hx => by cases hx
  | (id, it) :: t, xs, h, x, hx => by
    obtain ⟨y, ys, rfl, h1, h2⟩ := instH_cons h
    rcases List.mem_cons.1 hx with rfl | hx
    · rintro rfl
      have hn := hF _ (Nat.le_refl id)
      cases it with
      | obj cs T => dsimp only [instI] at h1; rw [hn] at h1; cases h1
      | row n e s cs => dsimp only [instI] at h1; rw [hn] at h1; cases h1
      | mp ks vs bs ck => dsimp only [instI] at h1; rw [hn] at h1; cases h1
    · exact keys_old hF h2 x hx
end Go.EY
