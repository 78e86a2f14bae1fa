/-
  Proved here: copies, at any world.
-/
import Derived.Test.YtgijpgkckiknjaaGreatDoorByQ
namespace Go.Proofs.YtgijpgkckiknjaaGreatDoor
open Go.SX Go.RowKit Go.Ck Go.Lex
namespace Fje

end Fje
open Go.Tr (ndA row_at map_A)
theorem cTexts_w {W : World → Prop} [Stab W] {ak : Option Addr} (ck : Nat) {ks : List (List UInt8)} (hkl : ks.length ≤ 1048576) (hk : ∀ w, W w → SlAt 1 strA (Lies w w.heap.size) ak ks) :
    FnC Tryz.prog 59 #[.slice ak ks.length ck] W (fun s : Option Nat × Nat => rv s.1 ks.length s.2) (fun s w => SlAt 1 strA (Lies w w.heap.size) (s.1.map fun b => ⟨b, 0, none⟩) ks ∧ W w) :=
  FnC.reO fun w hw w1 h1 => (cTexts_c ck hkl (hk w hw) w1 h1).mono fun e w2 ⟨s, he, h2⟩ => ⟨s, he, row_at h2 (j := 0) rfl rfl (by decide) (fun i z h => map_A h), h2.drop (List.nil_sublist _)⟩
theorem cNodes_w {W : World → Prop} [Stab W] {al : Option Addr} (cl : Nat) {l : List Nd} (hln : l.length ≤ 1048576) (hl : ∀ w, W w → SlAt 5 ndA (Lies w w.heap.size) al l) (hkb : ∀ x ∈ l, x.kids.length ≤ 1048576) :
    FnC Tryz.prog 58 #[.slice al l.length cl] W (fun s : Option Nat × Nat => rv s.1 l.length s.2) (fun s w => SlAt 5 ndA (Lies w w.heap.size) (s.1.map fun b => ⟨b, 0, none⟩) l ∧ W w) :=
  FnC.reO fun w hw w1 h1 => (cNodes_c cl hln (hl w hw) hkb w1 h1).mono fun e w2 ⟨s, he, hf, h2⟩ => ⟨s.1, he, hf.lies h2 (fun it h => List.mem_cons_of_mem _ (List.mem_append_left _ h)) (j := 0) rfl, h2.drop (List.nil_sublist _)⟩
end Go.Proofs.YtgijpgkckiknjaaGreatDoor
