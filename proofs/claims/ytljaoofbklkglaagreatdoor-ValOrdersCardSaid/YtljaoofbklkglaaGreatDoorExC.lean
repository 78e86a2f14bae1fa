/-
  Proved here: a small machine's operations that read memory or change it: they do what the model's do.
-/
import Derived.Test.YtljaoofbklkglaaGreatDoorExB
namespace Go.EX
open Go.SX Go.RowKit
def AI.cells : AI → List AV
  | .obj cs _ => cs
  | .row _ _ _ cs => cs
  | .mp _ _ _ _ => []
def findRO : List AH → Nat → Option AI
  | [], _ => none
  | h :: t, id => match findA h id 0 with
    | some (_, it) => some it
    | none => findRO t id
/-- an item that is owned, or that may be read -/
def lookA (hp : AH) (ro : List AH) (id : Nat) : Option AI :=
  match findA hp id 0 with
  | some (_, it) => some it
  | none => findRO ro id
/-- what may be read: it lies below all that is owned -/
def RO (w0 : World) (base : Nat) (ρ : Rho) (ro : List AH) : Prop :=
  ∀ id it, findRO ro id = some it → ∃ p us, rat ρ.blk id = some p ∧ instL ρ it.cells = some us ∧ p.1 < base ∧ (∀ off u, us[off]? = some u → w0.cell? ⟨p.1, off, none⟩ = some u) ∧ (∀ n e s cs, it = .row n e s cs → n ≤ p.2)
theorem RO.ext {w0 : World} {base : Nat} {ρ ρ' : Rho} {ro : List AH} (h : RO w0 base ρ ro) (he : Ext ρ ρ') : RO w0 base ρ' ro := fun id it hi => by
  obtain ⟨p, us, h1, h2, h3⟩ := h id it hi
  exact ⟨p, us, he.blk _ _ h1, instL_ext he _ _ h2, h3⟩
/-- the program's variables that are known -/
def lookE : List (Nat × AV) → Nat → Option AV
  | [], _ => none
  | (k, v) :: t, g => match Nat.beq k g with | true => some v | false => lookE t g
def EE (w0 : World) (base : Nat) (ρ : Rho) (E : List (Nat × AV)) : Prop := ∀ g v, lookE E g = some v → ∃ u, inst ρ v = some u ∧ w0.cell? ⟨g, 0, none⟩ = some u ∧ g < base
theorem EE.ext {w0 : World} {base : Nat} {ρ ρ' : Rho} {E : List (Nat × AV)} (h : EE w0 base ρ E) (he : Ext ρ ρ') : EE w0 base ρ' E := fun g v hg => by
  obtain ⟨u, h1, h2⟩ := h g v hg
  exact ⟨u, inst_ext he _ _ h1, h2⟩
section
variable {P : Program} {w0 : World} {base : Nat} {ρ : Rho} {hp : AH} {ro : List AH} {its : List It} {E : List (Nat × AV)} {af : AF} {l : Fr}
theorem instI_row {id n e s : Nat} {cs : List AV} {x : It} (h : instI ρ id (.row n e s cs) = some x) : ∃ p us, rat ρ.blk id = some p ∧ instL ρ cs = some us ∧ x = .row (some p.1) p.2 n e s us := by
  dsimp only [instI] at h
  cases hr : rat ρ.blk id with
  | none => rw [hr] at h; cases h
  | some p =>
    cases hs : instL ρ cs with
    | none => rw [hr, hs] at h; cases h
    | some us => rw [hr, hs] at h; cases h; exact ⟨p, us, rfl, rfl, rfl⟩
theorem instI_obj {id : Nat} {T : TypeId} {cs : List AV} {x : It} (h : instI ρ id (.obj cs T) = some x) : ∃ p us, rat ρ.blk id = some p ∧ instL ρ cs = some us ∧ x = SX.blk p.1 us T := by
  dsimp only [instI] at h
  cases hr : rat ρ.blk id with
  | none => rw [hr] at h; cases h
  | some p =>
    cases hs : instL ρ cs with
    | none => rw [hr, hs] at h; cases h
    | some us => rw [hr, hs] at h; cases h; exact ⟨p, us, rfl, rfl, rfl⟩
theorem instI_mp {id : Nat} {ks vs : List AV} {bs : List Nat} {ck : Nat} {x : It} (h : instI ρ id (.mp ks vs bs ck) = some x) : ∃ p us xs, rat ρ.blk id = some p ∧ instL ρ ks = some us ∧ instL ρ vs = some xs ∧ x = .obj p.1 (.map (mkEs us xs bs).toArray ck) := by
  dsimp only [instI] at h
  cases hr : rat ρ.blk id with
  | none => rw [hr] at h; cases h
  | some p =>
    cases hs : instL ρ ks with
    | none => rw [hr, hs] at h; cases h
    | some us =>
      cases hq : instL ρ vs with
      | none => rw [hr, hs, hq] at h; cases h
      | some xs => rw [hr, hs, hq] at h; cases h; exact ⟨p, us, xs, rfl, rfl, rfl, rfl⟩
/-- what is known of an item that is looked up -/
theorem look_ok (hH : instH ρ hp = some its) (hR : RO w0 base ρ ro) {id : Nat} {it : AI} (h : lookA hp ro id = some it) :
    ∃ p us, rat ρ.blk id = some p ∧ instL ρ it.cells = some us ∧ (∀ w, WA w0 base its w → ∀ off u, us[off]? = some u → w.cell? ⟨p.1, off, none⟩ = some u) ∧ (∀ n e s cs, it = .row n e s cs → ∀ w, WA w0 base its w → n ≤ p.2) := by
  unfold lookA at h
  cases hf : findA hp id 0 with
  | some q =>
    obtain ⟨i, it'⟩ := q
    rw [hf] at h
    cases h
    obtain ⟨x, _, hx, hi⟩ := findA_ok hH hf
    cases it with
    | obj cs T =>
      obtain ⟨p, us, h1, h2, rfl⟩ := instI_obj hi
      exact ⟨p, us, h1, h2, fun w hw off u hu => hw.cell hx hu, fun n e s cs h => by cases h⟩
    | row n e s cs =>
      obtain ⟨p, us, h1, h2, rfl⟩ := instI_row hi
      refine ⟨p, us, h1, h2, fun w hw off u hu => (hw.rowCell hx hu).1, fun n' e' s' cs' h w hw => ?_⟩
      cases h
      exact (row_len (hw.get hx)).2
    | mp ks vs bs ck =>
      obtain ⟨p, us, xs, h1, h2, h3, rfl⟩ := instI_mp hi
      exact ⟨p, [], h1, rfl, (fun w hw off u hu => by cases hu), fun n e s cs h => by cases h⟩
  | none =>
    rw [hf] at h
    obtain ⟨p, us, h1, h2, h3, h4, h5⟩ := hR id it h
    exact ⟨p, us, h1, h2, fun w hw off u hu => hw.old (a := ⟨p.1, off, none⟩) h3 (h4 off u hu), fun n e s cs h w hw => h5 n e s cs h⟩
def bytesA : List AV → Option (List UInt8)
  | [] => some []
  | .lit (.int .u8 (.ofNat k)) :: r => match Nat.blt k 256 with
    | true => (bytesA r).map fun bs => k.toUInt8 :: bs
    | false => none
  | _ :: _ => none
end
end Go.EX
