/-
  Proved here: the two answers held against each other.
-/
import Derived.Test.YtgijpgkckiknjaaGreatDoorCkR
import Derived.Test.YtgijpgkckiknjaaGreatDoorCkI
namespace Go.Proofs.YtgijpgkckiknjaaGreatDoor
open Go.SX Go.RowKit Go.Ck Go.Lex
namespace Fjh

end Fjh
open Go.Proofs.YtgijpgkckiknjaaGreatDoor.Env (EnvS errV sentG)
theorem rchk_w {w0 : World} {base : Nat} {its : List It} {X : Cx} {p : Pg} (hlb : lightB p) : FnC Tryz.prog 19 #[.agg (X.pcs p).toArray] (fun w => CkAt (Lies w w.heap.size) X p ⟨[], 0, 0, 0, [], []⟩ ∧ WA w0 base its w) (fun _ : Unit => (flt (chk p)).v) (fun _ => WA w0 base its) := fun w hw => by
  have hl1 := hlb.1.1
  have hl2 := hlb.1.2.1.1
  have hl3 := hlb.1.2.2.1.1
  have hl4 := hlb.1.2.2.2.1
  exact (refCheck_c hw.1 ⟨by omega, by omega⟩ (fun x hx => by have := (hlb.1.2.1.2 x hx).2; omega) hl1 ⟨by omega, by omega⟩ (fun g hg => (hlb.2 g hg).1) w (WA.start w)).mono fun _ w' ⟨_, he, hb⟩ => ⟨(), he, Stab.st w w' hw.2 hb.below⟩
theorem sameE_c {w0 : World} {base : Nat} {fr : List It} {aE : Nat → Addr} (hS : EnvS w0 base aE) (r : Option Nat) (b : Nat) : FnC Tryz.prog 13 #[vE r b, (flt r).v] (WA w0 base (iE r b (errV (aE 12)) ++ fr)) (fun _ : Unit => .bool true) (fun _ => WA w0 base fr) := by
  cases r with
  | none =>
    have h := sameNil_c (w0 := w0) (base := base) (fr := fr) (flt none)
    rw [show decide (_ = flt none) = true from by decide] at h
    exact h
  | some n =>
    have h := sameAt_c (fr := fr) hS (i := 12) (by decide) b n (flt (some n))
    rw [show decide (_ = flt (some n)) = true from by simp [flt]] at h
    exact fun w hw => (h w hw).mono fun _ w' ⟨_, he, hb⟩ => ⟨(), he, hb.drop (List.sublist_cons_self _ _)⟩
end Go.Proofs.YtgijpgkckiknjaaGreatDoor
