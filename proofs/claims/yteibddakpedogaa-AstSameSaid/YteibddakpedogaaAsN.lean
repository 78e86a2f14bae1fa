/-
  Proved here: the document's parser: all statements.
-/
import Derived.Test.YteibddakpedogaaAsM
set_option linter.unusedSimpArgs false
namespace Go.Proofs.Yteibddakpedogaa
open Go.SX Go.RowKit Go.Tr Go.As Go.Ck
namespace Pn

end Pn
open Go.Pa (Tk)
/-- statements, with so many tokens left -/
structure Stm (w0 : World) (base bp : Nat) (al : Option Addr) (cl : Nat) (L : List Tk) (N : Nat) : Prop where
  statement_ : (∀ (s : RS) (m : Mm) (fr : List It), Sk L.length s → NdsR 3 m.rs m.cells s.ns → L.length - s.at_ ≤ N → PF 14 [.pointer (some ⟨bp, 0, none⟩)] w0 base bp al cl L s m fr)
  block_ : (∀ (s : RS) (m : Mm) (fr : List It), Sk L.length s → NdsR 3 m.rs m.cells s.ns → L.length - s.at_ ≤ N → PF 39 [.pointer (some ⟨bp, 0, none⟩)] w0 base bp al cl L s m fr)
  cond_ : ∀ pos, inI pos → (∀ (s : RS) (m : Mm) (fr : List It), Sk L.length s → NdsR 3 m.rs m.cells s.ns → L.length - s.at_ ≤ N → s.at_ + 1 < L.length → PF 33 [.pointer (some ⟨bp, 0, none⟩), .int .i64 pos] w0 base bp al cl L s m fr)
theorem stm_all {w0 : World} {base : Nat} {bp : Nat} {al : Option Addr} {cl : Nat} {L : List Go.Pa.Tk} (hL : SlAt 3 tokA (Lies w0 base) al L) (hK : Tok6 L) (N : Nat) : Stm w0 base bp al cl L N := by
  induction N using Nat.strongRecOn with
  | _ N ih =>
    have hst : (∀ (s : RS) (m : Mm) (fr : List It), Sk L.length s → NdsR 3 m.rs m.cells s.ns → L.length - s.at_ < N → PF 14 [.pointer (some ⟨bp, 0, none⟩)] w0 base bp al cl L s m fr) := (fun s m fr a b c => (ih (L.length - s.at_) c).statement_ s m fr a b (Nat.le_refl _))
    have hbl : (∀ (s : RS) (m : Mm) (fr : List It), Sk L.length s → NdsR 3 m.rs m.cells s.ns → L.length - s.at_ < N → PF 39 [.pointer (some ⟨bp, 0, none⟩)] w0 base bp al cl L s m fr) := (fun s m fr a b c => (ih (L.length - s.at_) c).block_ s m fr a b (Nat.le_refl _))
    have hco : ∀ pos, inI pos → (∀ (s : RS) (m : Mm) (fr : List It), Sk L.length s → NdsR 3 m.rs m.cells s.ns → L.length - s.at_ < N → s.at_ + 1 < L.length → PF 33 [.pointer (some ⟨bp, 0, none⟩), .int .i64 pos] w0 base bp al cl L s m fr) := (fun pos hp s m fr a b c d => (ih (L.length - s.at_) c).cond_ pos hp s m fr a b (Nat.le_refl _) d)
    have h1 : (∀ (s : RS) (m : Mm) (fr : List It), Sk L.length s → NdsR 3 m.rs m.cells s.ns → L.length - s.at_ ≤ N → PF1 41 [.pointer (some ⟨bp, 0, none⟩)] w0 base bp al cl L s m fr) := simple_c hL hK (fun pos hp => load_c hL hK pos hp)
    have h2 := block_c hL hK h1 hst
    have h3 : ∀ pos, inI pos → (∀ (s : RS) (m : Mm) (fr : List It), Sk L.length s → NdsR 3 m.rs m.cells s.ns → L.length - s.at_ ≤ N → s.at_ + 1 < L.length → PF 33 [.pointer (some ⟨bp, 0, none⟩), .int .i64 pos] w0 base bp al cl L s m fr) := fun pos hp => cond_c hL hK hbl hco pos hp
    have h4 : ∀ pos, inI pos → (∀ (s : RS) (m : Mm) (fr : List It), Sk L.length s → NdsR 3 m.rs m.cells s.ns → L.length - s.at_ ≤ N → s.at_ + 1 < L.length → PF 40 [.pointer (some ⟨bp, 0, none⟩), .int .i64 pos] w0 base bp al cl L s m fr) := fun pos hp => function_c hL hK hbl pos hp
    exact ⟨statement_c hL hK hbl h3 h4 h1, h2, h3⟩
end Go.Proofs.Yteibddakpedogaa
