/-
  Proved here: what ends with a fault.
-/
import Derived.Test.YtfbenelagdcdgaaDoorPaB
namespace Go.Proofs.YtfbenelagdcdgaaDoor
open Go.SX Go.RowKit Go.Tr Go.Lex
namespace Pc
theorem en36 : Enters Tryd.prog 36 := Enters.of Tryd.func36 (by kernel_rfl) (by kernel_rfl)
theorem en44 : Enters Tryd.prog 44 := Enters.of Tryd.func44 (by kernel_rfl) (by kernel_rfl)
theorem ni44 : NoIface Tryd.prog 44 := fun w v => by kernel_rfl
theorem one25 : One Tryd.prog 25 := fun w => by kernel_rfl
end Pc
open Go.Proofs.YtfbenelagdcdgaaDoor.Env (EnvS errV sentG)
open Go.Pa (Tk Rs bnd ret isB is_ adv bad take must kinds inn outn node nodeAt setPos)
variable {L : List Tk} {s : Go.Pa.St} {t : Tk}
theorem tok_eq (ht : L[s.at_]? = some t) : Go.Pa.tok L s = some (.ok t s) := by unfold Go.Pa.tok; rw [ht]
theorem take_eq (x : List UInt8) (ht : L[s.at_]? = some t) : take L x s = if isB t [x] then some (.ok true { s with at_ := s.at_ + 1 }) else some (.ok false s) := by
  show (bnd (bnd (Go.Pa.tok L) fun t => ret (isB t [x])) fun b => if b then bnd adv fun _ => ret true else ret false) s = _
  simp only [bnd, tok_eq ht, ret]
  cases isB t [x] <;> rfl
theorem must_eq (x : List UInt8) (ht : L[s.at_]? = some t) : must L x s = if isB t [x] then some (.ok t.pos { s with at_ := s.at_ + 1 }) else some (.stop t.pos false) := by
  unfold must
  simp only [bnd, tok_eq ht, take_eq x ht]
  cases isB t [x] with
  | true => rfl
  | false => show bad L s = _; unfold bad; simp only [bnd, tok_eq ht]; rfl
theorem must_tok {x : List UInt8} {r : Rs Int} (h : must L x s = some r) : ∃ t, L[s.at_]? = some t := by
  cases ht : L[s.at_]? with
  | some t => exact ⟨t, rfl⟩
  | none => unfold must Go.Pa.tok at h; simp only [bnd, ht] at h; cases h
theorem kinds_eq (k : Int) (ht : L[s.at_]? = some t) : kinds L k s = if t.kind ≠ k then some (.stop t.pos false) else if k ≠ 8 then some (.ok (t.text, t.pos) { s with at_ := s.at_ + 1 }) else some (.ok (t.text, t.pos) s) := by
  unfold kinds
  simp only [bnd, tok_eq ht]
  split
  · unfold bad; simp only [bnd, tok_eq ht]
  · split <;> rfl
theorem kinds_tok {k : Int} {r : Rs (List UInt8 × Int)} (h : kinds L k s = some r) : ∃ t, L[s.at_]? = some t := by
  cases ht : L[s.at_]? with
  | some t => exact ⟨t, rfl⟩
  | none => unfold kinds Go.Pa.tok at h; simp only [bnd, ht] at h; cases h
theorem stop_p {w0 : World} {base : Nat} {fr : List It} (pos : Int) (a : Addr) : FnP Tryd.prog 44 #[.int .i64 pos, errV a] (WA w0 base fr) (fun x : Empty => (x.elim : Value)) (fun (_ : Empty) _ => True) (fun ax : Nat => .iface 44 (.agg #[.pointer (some ⟨ax, 0, none⟩)])) (fun ax => WA w0 base (blk ax [.int .i64 pos, errV a] 64 :: fr)) := by
  refine FnP.of_body (fn := Tryd.f44) [(0, _), (1, _)] Tryd.func44 rfl Tryd.ntmps44 rfl ⟨rfl, rfl, trivial⟩ ?_
  refine CX.region <| LX.pure (Y.move rfl) rfl rfl rfl <| LX.pure (Y.move rfl) rfl rfl rfl <| LX.pure (Y.build (v := .agg #[.int .i64 pos, errV a]) rfl (fun _ => by kernel_rfl)) rfl rfl rfl <| LX.box rfl rfl rfl rfl rfl ?_
  intro bA
  refine LX.pure (Y.build (v := .agg #[.pointer (some ⟨bA, 0, none⟩)]) rfl (fun _ => by kernel_rfl)) rfl rfl rfl <| LX.pure (Y.mkI Pc.ni44 rfl) rfl rfl rfl <| LX.panic rfl rfl rfl ?_
  exact fun _ w ha hw => ⟨ha.defs, .inr ⟨bA, rfl, hw⟩⟩
theorem bad_p {w0 : World} {base : Nat} {fr : List It} {aE : Nat → Addr} (hS : EnvS w0 base aE) {bp : Nat} {al : Option Addr} {cl : Nat} {L : List Tk} {s : Go.Pa.St} {m : Mm} (hL : SlAt 3 tokA (Lies w0 base) al L) (hln : L.length ≤ 1099511627776) {t : Tk} (ht : L[s.at_]? = some t) : FnP Tryd.prog 23 #[.pointer (some ⟨bp, 0, none⟩)] (WA w0 base (PBl bp al L cl s m :: fr)) (fun x : Empty => (x.elim : Value)) (fun (_ : Empty) _ => True) (fun ax : Nat => .iface 44 (.agg #[.pointer (some ⟨ax, 0, none⟩)])) (fun ax => WA w0 base (blk ax [.int .i64 t.pos, errV (aE 1)] 64 :: fr)) := by
  refine FnP.of_body (fn := Tryd.f23) [(0, _)] Tryd.func23 rfl Tryd.ntmps23 rfl ⟨rfl, trivial⟩ ?_
  refine CX.regionP (WA w0 base (PBl bp al L cl s m :: fr)) [(0, .anywhere), (2, .held), (1, .alone), (3, .alone)] (fun c a w d v h => by cases d <;> exact h) rfl (by kernel_rfl) ?_
  refine MP.lift0 (i := 0) rfl (Y.move rfl) rfl rfl rfl ?_
  refine MP.lift1 (i := 2) (pend' := []) rfl (fun w hw => by exact hw) (Y.ldO Pc.one25 rfl (hS.at_ 1 2 rfl) (hS.lt 2 (by decide))) rfl rfl rfl (by kernel_rfl) ?_
  refine MP.force (i := 1) rfl ?_
  refine LX.callQ (pos_q ht (fun w hw => blkL hw (i := 0) rfl) (fun w hw => hL.push hw)) Pc.en36 rfl rfl rfl rfl rfl <| LX.nextP [2] (by kernel_rfl) (fun _ => (fun w hw => by exact hw)) ?_
  refine MP.force (i := 3) rfl ?_
  refine LX.callP (stop_p t.pos (aE 1)) Pc.en44 rfl rfl rfl rfl rfl (fun ax => fun _ w ha hw => ⟨ha.defs, .inr ⟨ax, rfl, hw.drop (.cons_cons _ (List.sublist_cons_self _ _))⟩⟩) (fun x => x.elim)
end Go.Proofs.YtfbenelagdcdgaaDoor
