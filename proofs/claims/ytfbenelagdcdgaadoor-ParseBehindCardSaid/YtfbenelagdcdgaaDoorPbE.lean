/-
  Proved here: the rule, and what is deferred.
-/
import Derived.Test.YtfbenelagdcdgaaDoorPbA
import Derived.Test.YtfbenelagdcdgaaDoorLexC
import Derived.Test.YtfbenelagdcdgaaDoorPlE
import Derived.Test.YtfbenelagdcdgaaDoorDf
set_option linter.unusedSimpArgs false
namespace Go.Proofs.YtfbenelagdcdgaaDoor
open Go.SX Go.RowKit Go.Tr Go.Lex
namespace Qf_
theorem ag44 : AggT Tryd.prog 44 1 := AggT.of (by kernel_rfl) (by kernel_rfl)
theorem en9 : Enters Tryd.prog 9 := Enters.of Tryd.func9 (by kernel_rfl) (by kernel_rfl)
theorem fa44_0 : FieldOffA Tryd.prog 44 0 0 := fun a w => by kernel_rfl
theorem fo44_0 : FieldOff Tryd.prog 44 0 0 := fun b o w => by kernel_rfl
theorem ni42 : NoIface Tryd.prog 42 := fun w v => by kernel_rfl
theorem one42 : One Tryd.prog 42 := fun w => by kernel_rfl
theorem sz25 : SizeIs Tryd.prog 25 1 := fun w => by kernel_rfl
theorem un20 : Tryd.prog.underlying 20 = some (.interface #[]) := by kernel_rfl
theorem un44 : Tryd.prog.underlying 44 = some (.struct #[⟨"err", 42, 0, false, "", "smithy/parse", 0⟩]) := by kernel_rfl
theorem zv44 : ∀ w, (zeroValue 44).run Tryd.prog w = .ok (.agg #[.pointer none]) w := fun w => by kernel_rfl
theorem nif44 : NotIface Tryd.prog 44 := NotIface.of un44 (fun ms h => by cases h)
end Qf_
open Go.Proofs.YtfbenelagdcdgaaDoor.Env (EnvS errV sentG)
open Go.Pa (Tk Rs bnd ret isB is_ adv bad take must kinds inn outn node nodeAt setPos)
open Go.Ck (NdsR)
open Go.Proofs.YtfbenelagdcdgaaDoor.Lx (scan_c atV atI tokC)
open Go.Pa (st0 fuel parseP parse_cases)
open Go.Lex (tkP scan)
theorem envS_push {w0 w : World} {base : Nat} {its : List It} {aE : Nat → Addr} (h : EnvS w0 base aE) (hw : WA w0 base its w) : EnvS w w.heap.size aE :=
  ⟨fun i g hg => hw.old (h.lt g (List.mem_of_getElem? hg)) (h.at_ i g hg), fun g hg => Nat.lt_of_lt_of_le (h.lt g hg) hw.fits, fun i hi => by
    obtain ⟨h1, c, t, h2⟩ := h.blk i hi
    exact ⟨Nat.lt_of_lt_of_le h1 hw.fits, c, t, (hw.below.block _ h1).trans h2⟩, h.ne⟩
theorem flat_at {α : Type} {f : α → List Value} {k : Nat} (hf : ∀ a, (f a).length = k) : ∀ (l : List α) (i : Nat) (x : α), l[i]? = some x → ((l.flatMap f).drop (i * k)).take k = f x
  | [], i, x, h => by cases h
  | a :: r, 0, x, h => by
    cases h
    rw [List.flatMap_cons, Nat.zero_mul, List.drop_zero, List.take_append_of_le_length (by rw [hf]; exact Nat.le_refl _), List.take_of_length_le (by rw [hf]; exact Nat.le_refl _)]
  | a :: r, i + 1, x, h => by
    rw [List.flatMap_cons, Nat.succ_mul, Nat.add_comm, ← List.drop_drop]
    rw [show List.drop k (f a ++ r.flatMap f) = r.flatMap f by rw [← hf a, List.drop_left]]
    exact flat_at hf r i x h
theorem toks_lie {w0 w : World} {base : Nat} {its : List It} {g : Option Nat} {c n e : Nat} {ts : List Go.Lex.Tok} (hn : n = ts.length) {okp : Int → Prop} (hok : ∀ z, okp z → inI z) (T : Go.Pa.Tks (ts.map tkP) nameB okp) (hw : WA w0 base its w) (hm : It.row g c n e 3 (ts.flatMap tokC) ∈ its) : SlAt 3 tokA (Lies w w.heap.size) (g.map fun b => ⟨b, 0, none⟩) (ts.map tkP) :=
  row_atM hw hm (by rw [List.length_map]; exact hn) (by decide) fun i z hz => by
    have h2 := List.mem_of_getElem? hz
    rw [List.getElem?_map] at hz
    cases ht : ts[i]? with
    | none => rw [ht] at hz; cases hz
    | some t =>
      rw [ht] at hz
      cases hz
      rw [flat_at (f := tokC) (k := 3) (fun _ => rfl) ts i t ht]
      have h3 := T.sort _ h2
      exact ⟨rfl, by unfold inI; omega, hok _ (T.place _ h2)⟩
theorem scanOk_c {w0 : World} {base : Nat} {fr : List It} {aE : Nat → Addr} (hS : EnvS w0 base aE) {s : List UInt8} {ts : List Go.Lex.Tok} (h : s.length ≤ 65536) (hs : scan s = .ok ts) :
    FnC Tryd.prog 11 #[str s] (WA w0 base fr) (fun t : Option Nat × Nat => .tuple #[rv t.1 ts.length t.2, .nilIface]) (fun t => WA w0 base (.row t.1 t.2 ts.length 57 3 (ts.flatMap tokC) :: fr)) := by
  intro w hw
  refine (scan_c ⟨hS.at_ 0 1 rfl, hS.lt 1 (by decide), rfl⟩ ⟨hS.at_ 2 0 rfl, hS.lt 0 (by decide)⟩ s (by omega) w hw).mono fun e w' ⟨x, he, hx⟩ => ?_
  rcases x with ⟨g, n, c⟩ | (_ | b)
  · obtain ⟨ts', ⟨_, h2, h3⟩, h4⟩ := hx
    rw [hs] at h2
    cases h2
    simp only at h3 h4
    subst h3
    exact ⟨(g, c), he, h4⟩
  · exact absurd hx.1 (by omega)
  obtain ⟨pos, ⟨_, h2⟩, _⟩ := hx
  rw [hs] at h2; cases h2
theorem scanBad_c {w0 : World} {base : Nat} {fr : List It} {aE : Nat → Addr} (hS : EnvS w0 base aE) {s : List UInt8} {pos : Nat} (h : s.length ≤ 65536) (hs : scan s = .error pos) :
    FnC Tryd.prog 11 #[str s] (WA w0 base fr) (fun b : Nat => .tuple #[.slice none 0 0, atV b]) (fun b => WA w0 base (atI b pos (errV (aE 0)) :: fr)) := by
  intro w hw
  refine (scan_c ⟨hS.at_ 0 1 rfl, hS.lt 1 (by decide), rfl⟩ ⟨hS.at_ 2 0 rfl, hS.lt 0 (by decide)⟩ s (by omega) w hw).mono fun e w' ⟨x, he, hx⟩ => ?_
  rcases x with ⟨g, n, c⟩ | (_ | b)
  · obtain ⟨ts', ⟨_, h2, h3⟩, h4⟩ := hx
    rw [hs] at h2; cases h2
  · exact absurd hx.1 (by omega)
  obtain ⟨p2, ⟨_, h2⟩, h4⟩ := hx
  rw [hs] at h2
  cases h2
  exact ⟨b, he, h4⟩
theorem rule_p {w0 : World} {base : Nat} {aE : Nat → Addr} (hS : EnvS w0 base aE) {bp : Nat} {al : Option Addr} {cl : Nat} {L : List Tk} (hL : SlAt 3 tokA (Lies w0 base) al L) (hln : L.length ≤ 1099511627776) (n : Nat) (hTx : ∀ (i : Nat) (t : Tk), L[i]? = some t → t.text.length ≤ 9223372036854775807) (s : Go.Pa.St) (m : Mm) (r : Rs Unit) (hr : Go.Pa.run L nameB n .file s = some r) (hnd : NdsR 3 m.rs m.cells s.out) {fr : List It} : FnP Tryd.prog 8 #[.pointer (some ⟨bp, 0, none⟩)] (WA w0 base (PWl bp al L cl s m fr)) (fun q : Unit × Go.Pa.St × Mm => .tuple #[]) (fun q w => (r = .ok q.1 q.2.1 ∧ NdsR 3 q.2.2.rs q.2.2.cells q.2.1.out ∧ True) ∧ WA w0 base (PWl bp al L cl q.2.1 q.2.2 fr) w) (fun y : Int × Bool × Nat => .iface 44 (.agg #[.pointer (some ⟨y.2.2, 0, none⟩)])) (fun y w => r = .stop y.1 y.2.1 ∧ WA w0 base (blk y.2.2 [.int .i64 y.1, errV (aE (lk y.2.1))] 64 :: fr) w) := by
  refine FnP.of_body (fn := Tryd.f8) [(0, _)] Tryd.func8 rfl Tryd.ntmps8 rfl ⟨rfl, trivial⟩ ?_
  refine CX.region <| LX.pure (Y.move rfl) rfl rfl rfl <| LX.callP ((sps hS hL hln n hTx).file_ s m fr r hr hnd) Qf_.en9 rfl rfl rfl rfl rfl (fun y => fun _ w ha hw => ⟨ha.defs, .inr ⟨y, rfl, hw.1, hw.2⟩⟩) ?_
  rintro ⟨kE, sE, mE⟩
  refine LX.have fun ⟨hrE, hndE, hkE⟩ => ?_
  try dsimp only
  refine LX.sub (l' := []) trivial <| LX.next <| PX.ret0 (by simp) Tryd.results8 ?_
  exact fun w hw => .inl ⟨(kE, sE, mE), rfl, ⟨hrE, hndE, hkE⟩, hw⟩
theorem read1_no {w0 : World} {base : Nat} {b4 b5 : Nat} {its : List It} {w : World} (hW : (WA w0 base its) w) : CallsD Tryd.prog 12 #[.pointer (some ⟨b4, 0, none⟩), .pointer (some ⟨b5, 0, none⟩)] .returning w fun e u2 w' => e = .returned (.tuple #[]) ∧ u2 = .returning ∧ (WA w0 base its) w' := by
  refine callsD_asks (fn := Tryd.f12) (us := [.pointer (some ⟨b4, 0, none⟩), .pointer (some ⟨b5, 0, none⟩)]) (W := (WA w0 base its)) (W' := (WA w0 base its)) Tryd.ntmps12 Tryd.func12 rfl Tryd.results12 rfl rfl rfl .no ?_ hW
  refine CX.seq <| CX.region <| LX.pure (Y.move rfl) rfl rfl rfl <| LX.pure (Y.assertNil Qf_.nif44 rfl Qf_.zv44) rfl rfl rfl <| LX.pure (Y.move rfl) rfl rfl rfl <| LX.pure (Y.extract rfl rfl) rfl rfl rfl <| LX.pure (Y.extract rfl rfl) rfl rfl rfl <| LX.alloc rfl Qf_.zv44 rfl rfl rfl ?_
  intro bx5
  refine LX.storeA 0 Qf_.ag44 rfl rfl rfl rfl rfl rfl rfl rfl rfl <| LX.pure (Y.assign rfl) rfl rfl rfl <| LX.sub (l' := [(0, _), (1, _), (2, _), (3, _), (4, _)]) ⟨rfl, rfl, rfl, rfl, rfl, trivial⟩ <| LX.next <| PX.thenN <| CX.seq <| CX.seq <| CX.region <| LX.pure (Y.move rfl) rfl rfl rfl <| LX.pure (Y.neNilNil Qf_.un20 rfl) rfl rfl rfl <| LX.pure (Y.move rfl) rfl rfl rfl <| LX.sub (l' := [(0, _), (1, _), (2, _), (3, _), (4, _), (13, _)]) ⟨rfl, rfl, rfl, rfl, rfl, rfl, trivial⟩ ?_
  apply LX.joinAnd 3 16 13 (y := true) rfl
  · intro hb1
    cases hb1
  · intro hb1
    have hb1p := hb1
    try simp at hb1p
    refine LX.gF rfl rfl rfl hb1 rfl rfl <| LX.gF rfl rfl rfl hb1 rfl rfl <| LX.pure (Y.pickF rfl hb1 rfl) rfl rfl rfl ?_
    exact LX.left ⟨rfl, rfl, rfl, rfl, rfl, rfl, rfl, trivial⟩
  refine LX.sub (l' := [(0, _), (1, _), (2, _), (3, _), (4, _), (16, _)]) ⟨rfl, rfl, rfl, rfl, rfl, rfl, trivial⟩ <| LX.next <| PX.thenN ?_
  refine CX.cond rfl (fun hb2 => ?_) (fun hb2 => ?_)
  · try simp at hb2
    done
  try simp at hb2
  refine CX.skip <| PX.thenN <| CX.seq <| CX.region <| LX.pure (Y.move rfl) rfl rfl rfl <| LX.sub (l' := [(0, _), (1, _), (3, _), (18, _)]) ⟨rfl, rfl, rfl, rfl, trivial⟩ <| LX.next <| PX.thenN ?_
  refine CX.cond rfl (fun hb3 => ?_) (fun hb3 => ?_)
  · try simp at hb3
    done
  try simp at hb3
  refine CX.skip ?_
  exact fun a w ha hw => ⟨rfl, ha.defs, hw.drop (List.sublist_cons_self _ _)⟩
theorem read1_yes {w0 : World} {base : Nat} {b4 b5 : Nat} {its : List It} {v4 v5 : Value} (ax : Nat) {w : World} (hW : (WA w0 base (blk b4 [v4] 23 :: blk b5 [v5] 25 :: its)) w) : CallsD Tryd.prog 12 #[.pointer (some ⟨b4, 0, none⟩), .pointer (some ⟨b5, 0, none⟩)] (.panicking (pch (.iface 44 (.agg #[.pointer (some ⟨ax, 0, none⟩)])))) w fun e u2 w' => e = .returned (.tuple #[]) ∧ u2 = (.panicking [{ v := .iface 44 (.agg #[.pointer (some ⟨ax, 0, none⟩)]), recovered := true }]) ∧ (WA w0 base (blk b4 [.slice none 0 0] 23 :: blk b5 [.iface 42 (.pointer (some ⟨ax, 0, none⟩))] 25 :: its)) w' := by
  refine callsD_asks (fn := Tryd.f12) (us := [.pointer (some ⟨b4, 0, none⟩), .pointer (some ⟨b5, 0, none⟩)]) (W := (WA w0 base (blk b4 [v4] 23 :: blk b5 [v5] 25 :: its))) (W' := (WA w0 base (blk b4 [.slice none 0 0] 23 :: blk b5 [.iface 42 (.pointer (some ⟨ax, 0, none⟩))] 25 :: its))) Tryd.ntmps12 Tryd.func12 rfl Tryd.results12 rfl rfl rfl (.yes _) ?_ hW
  refine CX.seq <| CX.region <| LX.pure (Y.move rfl) rfl rfl rfl <| LX.pure (Y.assertYes Qf_.nif44 rfl) rfl rfl rfl <| LX.pure (Y.move rfl) rfl rfl rfl <| LX.pure (Y.extract rfl rfl) rfl rfl rfl <| LX.pure (Y.extract rfl rfl) rfl rfl rfl <| LX.alloc rfl Qf_.zv44 rfl rfl rfl ?_
  intro bx5
  refine LX.storeA 0 Qf_.ag44 rfl rfl rfl rfl rfl rfl rfl rfl rfl <| LX.pure (Y.assign rfl) rfl rfl rfl <| LX.sub (l' := [(0, _), (1, _), (2, _), (3, _), (4, _)]) ⟨rfl, rfl, rfl, rfl, rfl, trivial⟩ <| LX.next <| PX.thenN <| CX.seq <| CX.seq <| CX.region <| LX.pure (Y.move rfl) rfl rfl rfl <| LX.pure (Y.neNil Qf_.un20 rfl rfl) rfl rfl rfl <| LX.pure (Y.move rfl) rfl rfl rfl <| LX.sub (l' := [(0, _), (1, _), (2, _), (3, _), (4, _), (13, _)]) ⟨rfl, rfl, rfl, rfl, rfl, rfl, trivial⟩ ?_
  apply LX.joinAnd 3 16 13 rfl
  · intro hb1
    have hb1p := hb1
    try simp at hb1p
    refine LX.gT rfl rfl rfl hb1 (Y.move rfl) rfl rfl <| LX.gT rfl rfl rfl hb1 (Y.not rfl) rfl rfl <| LX.pure (Y.pickT rfl hb1 rfl) rfl rfl rfl ?_
    exact LX.left ⟨rfl, rfl, rfl, rfl, rfl, rfl, rfl, trivial⟩
  · intro hb1
    cases hb1
  refine LX.sub (l' := [(0, _), (1, _), (2, _), (3, _), (4, _), (16, _)]) ⟨rfl, rfl, rfl, rfl, rfl, rfl, trivial⟩ <| LX.next <| PX.thenN ?_
  refine CX.cond rfl (fun hb2 => ?_) (fun hb2 => ?_)
  · try simp at hb2
    done
  try simp at hb2
  refine CX.skip <| PX.thenN <| CX.seq <| CX.region <| LX.pure (Y.move rfl) rfl rfl rfl <| LX.sub (l' := [(0, _), (1, _), (3, _), (18, _)]) ⟨rfl, rfl, rfl, rfl, trivial⟩ <| LX.next <| PX.thenN ?_
  refine CX.cond rfl (fun hb3 => ?_) (fun hb3 => ?_)
  · try simp at hb3
    refine CX.regionS (WA w0 base [blk bx5 [.pointer (some ⟨ax, 0, none⟩)] 44]) [(0, .anywhere), (1, .held), (2, .held), (3, .alone), (4, .alone)] rfl (by kernel_rfl) <| MX.lift0 (i := 0) rfl (Y.fieldAddr0 Qf_.fo44_0 rfl) rfl rfl rfl <| MX.lift1 (i := 1) (pend' := []) rfl (fun w hw => by exact (show WA w0 base (blk bx5 [.pointer (some ⟨ax, 0, none⟩)] 44 :: _ :: _ :: its) w from hw).drop (.cons_cons _ (List.nil_sublist _))) (Y.ldB 0 Qf_.one42 rfl rfl rfl) rfl rfl rfl (by kernel_rfl) <| MX.lift1 (i := 2) (pend' := []) rfl (fun w hw => by exact (show WA w0 base (blk bx5 [.pointer (some ⟨ax, 0, none⟩)] 44 :: _ :: _ :: its) w from hw).drop (.cons_cons _ (List.nil_sublist _))) (Y.mkI Qf_.ni42 rfl) rfl rfl rfl (by kernel_rfl) <| MX.force (i := 3) rfl <| LX.storeB 1 Pd.sz23 rfl rfl rfl rfl rfl rfl rfl rfl <| LX.nextM [2] (by kernel_rfl) (fun _ => (fun w hw => by exact (show WA w0 base (blk bx5 [.pointer (some ⟨ax, 0, none⟩)] 44 :: _ :: _ :: its) w from hw).drop (.cons_cons _ (List.nil_sublist _)))) <| MX.force (i := 4) rfl <| LX.storeB 2 Qf_.sz25 rfl rfl rfl rfl rfl rfl rfl rfl <| LX.nextM [] (by kernel_rfl) (fun h => absurd rfl h) <| MX.sub (l' := []) trivial <| MX.done ?_
    exact fun a w ha hw => ⟨rfl, ha.defs, (show WA w0 base (_ :: _ :: _ :: its) w from hw).drop (List.sublist_cons_self _ _)⟩
  try simp at hb3
  done
end Go.Proofs.YtfbenelagdcdgaaDoor

namespace Go.Proofs.YtfbenelagdcdgaaDoor
open Go.SX Go.RowKit Go.Tr Go.Lex
namespace Qg_
theorem en11 : Enters Tryd.prog 11 := Enters.of Tryd.func11 (by kernel_rfl) (by kernel_rfl)
theorem en12 : Enters Tryd.prog 12 := Enters.of Tryd.func12 (by kernel_rfl) (by kernel_rfl)
theorem en8 : Enters Tryd.prog 8 := Enters.of Tryd.func8 (by kernel_rfl) (by kernel_rfl)
theorem un25 : Tryd.prog.underlying 25 = some (.interface #[("Error", 76)]) := by kernel_rfl
theorem zv23 : ∀ w, (zeroValue 23).run Tryd.prog w = .ok (.slice none 0 0) w := fun w => by kernel_rfl
theorem zv25 : ∀ w, (zeroValue 25).run Tryd.prog w = .ok (.nilIface) w := fun w => by kernel_rfl
end Qg_
open Go.Proofs.YtfbenelagdcdgaaDoor.Env (EnvS errV sentG)
open Go.Pa (Tk Rs bnd ret isB is_ adv bad take must kinds inn outn node nodeAt setPos)
open Go.Ck (NdsR)
open Go.Proofs.YtfbenelagdcdgaaDoor.Lx (atV atI tokC)
open Go.Pa (st0 fuel parseP parse_cases)
open Go.Lex (tkP scan)
theorem read_bad {w0 : World} {base : Nat} {fr : List It} {aE : Nat → Addr} (hS : EnvS w0 base aE) {s : List UInt8} {pos : Nat} {vr : Value} (hlen : s.length ≤ 65536) (hs : scan s = .error pos) : FnC Tryd.prog 7 #[str s, vr] (WA w0 base fr) (fun ax : Nat => .tuple #[.slice none 0 0, atV ax]) (fun ax => WA w0 base (atI ax pos (errV (aE 0)) :: fr)) := by
  refine FnC.of_bodyD (fn := Tryd.f7) [(0, _), (1, _)] Tryd.func7 rfl Tryd.ntmps7 rfl ⟨rfl, rfl, trivial⟩ ?_
  refine CX.seq <| CX.region <| LX.alloc rfl Qg_.zv23 rfl rfl rfl ?_
  intro b4
  refine LX.alloc rfl Qg_.zv25 rfl rfl rfl ?_
  intro b5
  refine LX.sub (l' := [(0, _), (1, _), (4, _), (5, _)]) ⟨rfl, rfl, rfl, rfl, trivial⟩ <| LX.next <| PX.thenN <| CX.seq <| CX.region <| LX.pure (Y.move rfl) rfl rfl rfl <| LX.call (scanBad_c hS hlen hs) Qg_.en11 rfl rfl rfl rfl rfl ?_
  intro ax
  refine LX.pure (Y.move rfl) rfl rfl rfl <| LX.pure (Y.extract rfl rfl) rfl rfl rfl <| LX.pure (Y.extract rfl rfl) rfl rfl rfl <| LX.pure (Y.assign rfl) rfl rfl rfl <| LX.storeB 1 Qf_.sz25 rfl rfl rfl rfl rfl rfl rfl rfl <| LX.sub (l' := [(1, _), (4, _), (5, _), (6, _)]) ⟨rfl, rfl, rfl, rfl, trivial⟩ <| LX.next <| PX.thenN <| CX.seq <| CX.seq <| CX.region <| LX.pure (Y.ldB 1 Pc.one25 rfl rfl rfl) rfl rfl rfl <| LX.pure (Y.neNil Qg_.un25 rfl rfl) rfl rfl rfl <| LX.sub (l' := [(1, _), (4, _), (5, _), (6, _), (14, _)]) ⟨rfl, rfl, rfl, rfl, rfl, trivial⟩ <| LX.next <| PX.thenN ?_
  refine CX.cond rfl (fun hb1 => ?_) (fun hb1 => ?_)
  · try simp at hb1
    refine CX.seq <| CX.regionM [(0, .held), (1, .alone), (2, .alone)] rfl (by kernel_rfl) <| MX.lift1 (i := 0) (pend' := []) rfl (fun w hw => by exact hw) (Y.ldB 1 Pc.one25 rfl rfl rfl) rfl rfl rfl (by kernel_rfl) <| MX.force (i := 1) rfl <| LX.storeB 2 Pd.sz23 rfl rfl rfl rfl rfl rfl rfl rfl <| LX.nextM [0] (by kernel_rfl) (fun _ => (fun w hw => by exact hw)) <| MX.force (i := 2) rfl <| LX.storeB 1 Qf_.sz25 rfl rfl rfl rfl rfl rfl rfl rfl <| LX.nextM [] (by kernel_rfl) (fun h => absurd rfl h) <| MX.sub (l' := [(1, _), (4, _), (5, _), (6, _)]) ⟨rfl, rfl, rfl, rfl, trivial⟩ <| MX.done <| PX.thenN <| CX.ret <| PX.thenR ?_
    exact PX.leaves0 (.inl rfl) (fun a w ha hw0 => by
      have hw : WA w0 base (atI ax pos (errV (aE 0)) :: blk b5 [atV ax] 25 :: blk b4 [.slice none 0 0] 23 :: fr) w := hw0
      exact ⟨_, res_AA ha Tryd.results7 Pd.one23 Pc.one25 rfl rfl (show (atI ax pos (errV (aE 0)) :: blk b5 [atV ax] 25 :: blk b4 [.slice none 0 0] 23 :: fr)[2]? = some _ from rfl) (show (atI ax pos (errV (aE 0)) :: blk b5 [atV ax] 25 :: blk b4 [.slice none 0 0] 23 :: fr)[1]? = some _ from rfl) hw, ax, rfl, hw.drop (.cons_cons _ (.cons _ (List.sublist_cons_self _ _)))⟩)
  try simp at hb1
  done
theorem read_ok {w0 : World} {base : Nat} {fr : List It} {aE : Nat → Addr} (hS : EnvS w0 base aE) {s : List UInt8} {ts : List Go.Lex.Tok} {okp : Int → Prop} (hlen : s.length ≤ 65536) (hs : scan s = .ok ts) (hok : ∀ z, okp z → inI z) (hT : Go.Pa.Tks (ts.map tkP) nameB okp) (hTx : ∀ (i : Nat) (t : Tk), (ts.map tkP)[i]? = some t → t.text.length ≤ 9223372036854775807) (htl : ts.length ≤ 1099511627776) {s' : Go.Pa.St} (hr : Go.Pa.run (ts.map tkP) nameB (fuel ts.length + 1) .file st0 = some (.ok () s')) : FnC Tryd.prog 7 #[str s, .func (.func 8) #[] #[]] (WA w0 base fr) (fun m : Mm => .tuple #[rv m.g s'.out.length m.c, .nilIface]) (fun m w => NdsR 3 m.rs m.cells s'.out ∧ WA w0 base (ROl s' m :: (m.rs ++ fr)) w) := by
  refine FnC.of_bodyD (fn := Tryd.f7) [(0, _), (1, _)] Tryd.func7 rfl Tryd.ntmps7 rfl ⟨rfl, rfl, trivial⟩ ?_
  refine CX.seq <| CX.region <| LX.alloc rfl Qg_.zv23 rfl rfl rfl ?_
  intro b4
  refine LX.alloc rfl Qg_.zv25 rfl rfl rfl ?_
  intro b5
  refine LX.sub (l' := [(0, _), (1, _), (4, _), (5, _)]) ⟨rfl, rfl, rfl, rfl, trivial⟩ <| LX.next <| PX.thenN <| CX.seq <| CX.region <| LX.pure (Y.move rfl) rfl rfl rfl <| LX.call (scanOk_c hS hlen hs) Qg_.en11 rfl rfl rfl rfl rfl ?_
  rintro ⟨gt, ct⟩
  refine LX.pure (Y.move rfl) rfl rfl rfl <| LX.pure (Y.extract rfl rfl) rfl rfl rfl <| LX.pure (Y.extract rfl rfl) rfl rfl rfl <| LX.pure (Y.assign rfl) rfl rfl rfl <| LX.storeB 1 Qf_.sz25 rfl rfl rfl rfl rfl rfl rfl rfl <| LX.sub (l' := [(1, _), (4, _), (5, _), (6, _)]) ⟨rfl, rfl, rfl, rfl, trivial⟩ <| LX.next <| PX.thenN <| CX.seq <| CX.seq <| CX.region <| LX.pure (Y.ldB 1 Pc.one25 rfl rfl rfl) rfl rfl rfl <| LX.pure (Y.neNilNil Qg_.un25 rfl) rfl rfl rfl <| LX.sub (l' := [(1, _), (4, _), (5, _), (6, _), (14, _)]) ⟨rfl, rfl, rfl, rfl, rfl, trivial⟩ <| LX.next <| PX.thenN ?_
  refine CX.cond rfl (fun hb1 => ?_) (fun hb1 => ?_)
  · try simp at hb1
    done
  try simp at hb1
  refine CX.skip <| PX.thenN <| CX.seq <| CX.region ?_
  refine LX.riseTo (fun w1 n1 => SlAt 3 tokA (Lies w1 n1) (gt.map fun b => (⟨b, 0, none⟩ : Addr)) (ts.map tkP) ∧ EnvS w1 n1 aE ∧ ∀ its w', WA w1 n1 its w' → WA w0 base (its ++ (blk b4 [.slice none 0 0] 23 :: blk b5 [.nilIface] 25 :: fr)) w') [] (fun w hw0 => ?_) fun w1 n1 hΦ => ?_
  · have hw : WA w0 base (.row gt ct ts.length 57 3 (ts.flatMap tokC) :: blk b5 [.nilIface] 25 :: blk b4 [.slice none 0 0] 23 :: fr) w := hw0
    exact ⟨w, w.heap.size, ⟨toks_lie rfl hok hT hw (List.mem_cons_self ..), envS_push hS hw, fun its w' h => ((hw.onto h).drop (List.Sublist.append (List.Sublist.refl _) (List.sublist_cons_self _ _))).perm (by (refine perm_cnt fun x => ?_; simp only [PWl, PBl, ROl, z1, z2, z3, z4, z5, z6]; omega))⟩, WA.start w⟩
  obtain ⟨hL, hS1, hback⟩ := hΦ
  refine LX.pure (Y.move rfl) rfl rfl rfl <| LX.pure (Y.build (v := .agg #[.slice (gt.map fun b => (⟨b, 0, none⟩ : Addr)) ts.length ct, .int .i64 0, .slice none 0 0, .int .i64 0, .bool false, .int .i64 0]) rfl (fun _ => by kernel_rfl)) rfl rfl rfl <| LX.box rfl rfl rfl rfl rfl ?_
  intro bp
  refine LX.world (W' := WA w1 n1 (blk bp (psC (gt.map fun b => (⟨b, 0, none⟩ : Addr)) (ts.map tkP).length ct st0 (⟨none, 0, [], []⟩ : Mm)) 41 :: ROl st0 (⟨none, 0, [], []⟩ : Mm) :: ((⟨none, 0, [], []⟩ : Mm).rs ++ []))) (fun w hw => ?_) ?_
  · have h1 := (show WA w1 n1 (blk bp [.slice (gt.map fun b => (⟨b, 0, none⟩ : Addr)) ts.length ct, .int .i64 0, .slice none 0 0, .int .i64 0, .bool false, .int .i64 0] 41 :: []) w from hw).nilRow 31 5
    show WA w1 n1 (blk bp [.slice (gt.map fun b => (⟨b, 0, none⟩ : Addr)) (ts.map tkP).length ct, .int .i64 0, .slice none 0 0, .int .i64 0, .bool false, .int .i64 0] 41 :: .row none 0 0 31 5 [] :: ([] ++ [])) w
    rw [List.length_map]
    exact h1.perm (by (refine perm_cnt fun x => ?_; simp only [PWl, PBl, ROl, z1, z2, z3, z4, z5, z6]; omega))
  refine LX.pure (Y.assign rfl) rfl rfl rfl <| LX.sub (l' := [(1, _), (4, _), (5, _), (7, _)]) ⟨rfl, rfl, rfl, rfl, trivial⟩ <| LX.next <| PX.thenN <| CX.seq <| CX.region <| LX.pure (Y.mkFunc rfl rfl) rfl rfl rfl <| LX.defer rfl rfl rfl rfl rfl rfl <| LX.sub (l' := [(1, _), (4, _), (5, _), (7, _)]) ⟨rfl, rfl, rfl, rfl, trivial⟩ <| LX.next <| PX.thenN <| CX.seq <| CX.region <| LX.pure (Y.move rfl) rfl rfl rfl <| LX.pure (Y.move rfl) rfl rfl rfl <| LX.callVP (fst := #[]) (vs := [.pointer (some ⟨bp, 0, none⟩)]) (cap := #[]) (rule_p hS1 hL (by rw [List.length_map]; omega) (fuel ts.length + 1) hTx st0 (⟨none, 0, [], []⟩ : Mm) _ hr (⟨rfl, fun i x h => absurd h (by simp)⟩ : NdsR 3 (⟨none, 0, [], []⟩ : Mm).rs (⟨none, 0, [], []⟩ : Mm).cells st0.out) (fr := [])).alone Qg_.en8 rfl rfl rfl rfl rfl rfl (fun y => fun _ w ha hw => absurd hw.1 (by intro h; cases h)) ?_
  rintro ⟨u1, s1, m1⟩
  refine LX.have fun ⟨hr1, hnd1, _⟩ => ?_
  have e1 : s' = s1 := by injection hr1
  subst e1
  try dsimp only
  refine LX.sub (l' := [(4, _), (5, _), (7, _)]) ⟨rfl, rfl, rfl, trivial⟩ <| LX.next <| PX.thenN <| CX.seq <| CX.region ?_
  refine LX.world (W' := WA w0 base (blk b4 [.slice none 0 0] 23 :: blk b5 [.nilIface] 25 :: blk bp (psC (gt.map fun b => (⟨b, 0, none⟩ : Addr)) (ts.map tkP).length ct s' m1) 41 :: ROl s' m1 :: (m1.rs ++ fr))) (fun w hw => (show WA w0 base ((blk bp (psC (gt.map fun b => (⟨b, 0, none⟩ : Addr)) (ts.map tkP).length ct s' m1) 41 :: ROl s' m1 :: (m1.rs ++ [])) ++ (blk b4 [.slice none 0 0] 23 :: blk b5 [.nilIface] 25 :: fr)) w from hback _ w hw).perm (by (refine perm_cnt fun x => ?_; simp only [PWl, PBl, ROl, z1, z2, z3, z4, z5, z6]; omega))) ?_
  refine LX.pure (Y.move rfl) rfl rfl rfl <| LX.pure (Y.nilCheck rfl) rfl rfl rfl <| LX.pure (Y.fieldAddr0 Pd.fo41_2 rfl) rfl rfl rfl <| LX.pure (Y.ldB 2 Pd.one23 rfl rfl rfl) rfl rfl rfl <| LX.storeB 0 Pd.sz23 rfl rfl rfl rfl rfl rfl rfl rfl <| LX.storeB 1 Qf_.sz25 rfl rfl rfl rfl rfl rfl rfl rfl <| LX.sub (l' := [(4, _), (5, _)]) ⟨rfl, rfl, trivial⟩ <| LX.next <| PX.thenN <| CX.ret ?_
  exact PX.leaves (.inl ⟨.inl rfl, rfl⟩) .no Qg_.en12 rfl (fun w hw => read1_no (b4 := b4) (b5 := b5) hw) (fun a w ha hw0 => by
    have hw : WA w0 base (blk b4 [rv m1.g s'.out.length m1.c] 23 :: blk b5 [.nilIface] 25 :: blk bp (psC (gt.map fun b => (⟨b, 0, none⟩ : Addr)) (ts.map tkP).length ct s' m1) 41 :: ROl s' m1 :: (m1.rs ++ fr)) w := hw0
    exact ⟨_, res_AA ha Tryd.results7 Pd.one23 Pc.one25 rfl rfl (show (blk b4 [rv m1.g s'.out.length m1.c] 23 :: blk b5 [.nilIface] 25 :: blk bp (psC (gt.map fun b => (⟨b, 0, none⟩ : Addr)) (ts.map tkP).length ct s' m1) 41 :: ROl s' m1 :: (m1.rs ++ fr))[0]? = some _ from rfl) (show (blk b4 [rv m1.g s'.out.length m1.c] 23 :: blk b5 [.nilIface] 25 :: blk bp (psC (gt.map fun b => (⟨b, 0, none⟩ : Addr)) (ts.map tkP).length ct s' m1) 41 :: ROl s' m1 :: (m1.rs ++ fr))[1]? = some _ from rfl) hw, m1, rfl, hnd1, hw.drop (.cons _ (.cons _ (List.sublist_cons_self _ _)))⟩)
theorem read_stop {w0 : World} {base : Nat} {fr : List It} {aE : Nat → Addr} (hS : EnvS w0 base aE) {s : List UInt8} {ts : List Go.Lex.Tok} {okp : Int → Prop} (hlen : s.length ≤ 65536) (hs : scan s = .ok ts) (hok : ∀ z, okp z → inI z) (hT : Go.Pa.Tks (ts.map tkP) nameB okp) (hTx : ∀ (i : Nat) (t : Tk), (ts.map tkP)[i]? = some t → t.text.length ≤ 9223372036854775807) (htl : ts.length ≤ 1099511627776) {pz : Int} {lim : Bool} (hr : Go.Pa.run (ts.map tkP) nameB (fuel ts.length + 1) .file st0 = some (.stop pz lim)) : FnC Tryd.prog 7 #[str s, .func (.func 8) #[] #[]] (WA w0 base fr) (fun ax : Nat => .tuple #[.slice none 0 0, atV ax]) (fun ax => WA w0 base (blk ax [.int .i64 pz, errV (aE (lk lim))] 64 :: fr)) := by
  refine FnC.of_bodyD (fn := Tryd.f7) [(0, _), (1, _)] Tryd.func7 rfl Tryd.ntmps7 rfl ⟨rfl, rfl, trivial⟩ ?_
  refine CX.seq <| CX.region <| LX.alloc rfl Qg_.zv23 rfl rfl rfl ?_
  intro b4
  refine LX.alloc rfl Qg_.zv25 rfl rfl rfl ?_
  intro b5
  refine LX.sub (l' := [(0, _), (1, _), (4, _), (5, _)]) ⟨rfl, rfl, rfl, rfl, trivial⟩ <| LX.next <| PX.thenN <| CX.seq <| CX.region <| LX.pure (Y.move rfl) rfl rfl rfl <| LX.call (scanOk_c hS hlen hs) Qg_.en11 rfl rfl rfl rfl rfl ?_
  rintro ⟨gt, ct⟩
  refine LX.pure (Y.move rfl) rfl rfl rfl <| LX.pure (Y.extract rfl rfl) rfl rfl rfl <| LX.pure (Y.extract rfl rfl) rfl rfl rfl <| LX.pure (Y.assign rfl) rfl rfl rfl <| LX.storeB 1 Qf_.sz25 rfl rfl rfl rfl rfl rfl rfl rfl <| LX.sub (l' := [(1, _), (4, _), (5, _), (6, _)]) ⟨rfl, rfl, rfl, rfl, trivial⟩ <| LX.next <| PX.thenN <| CX.seq <| CX.seq <| CX.region <| LX.pure (Y.ldB 1 Pc.one25 rfl rfl rfl) rfl rfl rfl <| LX.pure (Y.neNilNil Qg_.un25 rfl) rfl rfl rfl <| LX.sub (l' := [(1, _), (4, _), (5, _), (6, _), (14, _)]) ⟨rfl, rfl, rfl, rfl, rfl, trivial⟩ <| LX.next <| PX.thenN ?_
  refine CX.cond rfl (fun hb1 => ?_) (fun hb1 => ?_)
  · try simp at hb1
    done
  try simp at hb1
  refine CX.skip <| PX.thenN <| CX.seq <| CX.region ?_
  refine LX.riseTo (fun w1 n1 => SlAt 3 tokA (Lies w1 n1) (gt.map fun b => (⟨b, 0, none⟩ : Addr)) (ts.map tkP) ∧ EnvS w1 n1 aE ∧ ∀ its w', WA w1 n1 its w' → WA w0 base (its ++ (blk b4 [.slice none 0 0] 23 :: blk b5 [.nilIface] 25 :: fr)) w') [] (fun w hw0 => ?_) fun w1 n1 hΦ => ?_
  · have hw : WA w0 base (.row gt ct ts.length 57 3 (ts.flatMap tokC) :: blk b5 [.nilIface] 25 :: blk b4 [.slice none 0 0] 23 :: fr) w := hw0
    exact ⟨w, w.heap.size, ⟨toks_lie rfl hok hT hw (List.mem_cons_self ..), envS_push hS hw, fun its w' h => ((hw.onto h).drop (List.Sublist.append (List.Sublist.refl _) (List.sublist_cons_self _ _))).perm (by (refine perm_cnt fun x => ?_; simp only [PWl, PBl, ROl, z1, z2, z3, z4, z5, z6]; omega))⟩, WA.start w⟩
  obtain ⟨hL, hS1, hback⟩ := hΦ
  refine LX.pure (Y.move rfl) rfl rfl rfl <| LX.pure (Y.build (v := .agg #[.slice (gt.map fun b => (⟨b, 0, none⟩ : Addr)) ts.length ct, .int .i64 0, .slice none 0 0, .int .i64 0, .bool false, .int .i64 0]) rfl (fun _ => by kernel_rfl)) rfl rfl rfl <| LX.box rfl rfl rfl rfl rfl ?_
  intro bp
  refine LX.world (W' := WA w1 n1 (blk bp (psC (gt.map fun b => (⟨b, 0, none⟩ : Addr)) (ts.map tkP).length ct st0 (⟨none, 0, [], []⟩ : Mm)) 41 :: ROl st0 (⟨none, 0, [], []⟩ : Mm) :: ((⟨none, 0, [], []⟩ : Mm).rs ++ []))) (fun w hw => ?_) ?_
  · have h1 := (show WA w1 n1 (blk bp [.slice (gt.map fun b => (⟨b, 0, none⟩ : Addr)) ts.length ct, .int .i64 0, .slice none 0 0, .int .i64 0, .bool false, .int .i64 0] 41 :: []) w from hw).nilRow 31 5
    show WA w1 n1 (blk bp [.slice (gt.map fun b => (⟨b, 0, none⟩ : Addr)) (ts.map tkP).length ct, .int .i64 0, .slice none 0 0, .int .i64 0, .bool false, .int .i64 0] 41 :: .row none 0 0 31 5 [] :: ([] ++ [])) w
    rw [List.length_map]
    exact h1.perm (by (refine perm_cnt fun x => ?_; simp only [PWl, PBl, ROl, z1, z2, z3, z4, z5, z6]; omega))
  refine LX.pure (Y.assign rfl) rfl rfl rfl <| LX.sub (l' := [(1, _), (4, _), (5, _), (7, _)]) ⟨rfl, rfl, rfl, rfl, trivial⟩ <| LX.next <| PX.thenN <| CX.seq <| CX.region <| LX.pure (Y.mkFunc rfl rfl) rfl rfl rfl <| LX.defer rfl rfl rfl rfl rfl rfl <| LX.sub (l' := [(1, _), (4, _), (5, _), (7, _)]) ⟨rfl, rfl, rfl, rfl, trivial⟩ <| LX.next <| PX.thenN <| CX.seq <| CX.region <| LX.pure (Y.move rfl) rfl rfl rfl <| LX.pure (Y.move rfl) rfl rfl rfl ?_
  refine LX.callVP (fst := #[]) (vs := [.pointer (some ⟨bp, 0, none⟩)]) (cap := #[]) (rule_p hS1 hL (by rw [List.length_map]; omega) (fuel ts.length + 1) hTx st0 (⟨none, 0, [], []⟩ : Mm) _ hr (⟨rfl, fun i x h => absurd h (by simp)⟩ : NdsR 3 (⟨none, 0, [], []⟩ : Mm).rs (⟨none, 0, [], []⟩ : Mm).cells st0.out) (fr := [])).alone Qg_.en8 rfl rfl rfl rfl rfl rfl (fun ⟨y1, y2, y3⟩ => PX.have fun hst => by
    cases hst
    exact PX.leaves (.inr ⟨rfl, rfl⟩) (.yes _) Qg_.en12 rfl (fun w hw => read1_yes (b4 := b4) (b5 := b5) (v4 := .slice none 0 0) (v5 := .nilIface) (its := blk y3 [.int .i64 y1, errV (aE (lk y2))] 64 :: fr) y3 ((show WA w0 base ((blk y3 [.int .i64 y1, errV (aE (lk y2))] 64 :: []) ++ (blk b4 [.slice none 0 0] 23 :: blk b5 [.nilIface] 25 :: fr)) w from hback _ w hw).perm (by (refine perm_cnt fun x => ?_; simp only [PWl, PBl, ROl, z1, z2, z3, z4, z5, z6]; omega)))) (fun a w ha hw0 => by
      have hw : WA w0 base (blk b4 [.slice none 0 0] 23 :: blk b5 [.iface 42 (.pointer (some ⟨y3, 0, none⟩))] 25 :: blk y3 [.int .i64 y1, errV (aE (lk y2))] 64 :: fr) w := hw0
      exact ⟨_, res_AA ha Tryd.results7 Pd.one23 Pc.one25 rfl rfl (show (blk b4 [.slice none 0 0] 23 :: blk b5 [.iface 42 (.pointer (some ⟨y3, 0, none⟩))] 25 :: blk y3 [.int .i64 y1, errV (aE (lk y2))] 64 :: fr)[0]? = some _ from rfl) (show (blk b4 [.slice none 0 0] 23 :: blk b5 [.iface 42 (.pointer (some ⟨y3, 0, none⟩))] 25 :: blk y3 [.int .i64 y1, errV (aE (lk y2))] 64 :: fr)[1]? = some _ from rfl) hw, y3, rfl, hw.drop (.cons _ (List.sublist_cons_self _ _))⟩)) ?_
  rintro ⟨u1, s1, m1⟩
  exact LX.have fun ⟨hr1, _⟩ => by cases hr1
end Go.Proofs.YtfbenelagdcdgaaDoor

namespace Go.Proofs.YtfbenelagdcdgaaDoor
open Go.SX Go.RowKit Go.Tr Go.Lex
namespace Qh_
theorem en7 : Enters Tryd.prog 7 := Enters.of Tryd.func7 (by kernel_rfl) (by kernel_rfl)
end Qh_
open Go.Proofs.YtfbenelagdcdgaaDoor.Env (EnvS errV sentG)
open Go.Pa (Tk Rs bnd ret isB is_ adv bad take must kinds inn outn node nodeAt setPos)
open Go.Ck (NdsR)
open Go.Proofs.YtfbenelagdcdgaaDoor.Lx (atV atI tokC)
open Go.Pa (st0 fuel parseP parse_cases)
open Go.Lex (tkP scan)
theorem parse_of {τ : Type} {W : World → Prop} {s : List UInt8} {v1 v2 : τ → Value} {W' : τ → World → Prop} (hread : FnC Tryd.prog 7 #[str s, .func (.func 8) #[] #[]] W (fun q : τ => .tuple #[v1 q, v2 q]) W') : FnC Tryd.prog 5 #[str s] W (fun q : τ => .tuple #[v1 q, v2 q]) W' := by
  refine FnC.of_body (fn := Tryd.f5) [(0, _)] Tryd.func5 rfl Tryd.ntmps5 rfl ⟨rfl, trivial⟩ ?_
  refine CX.seq <| CX.region <| LX.pure (Y.assign rfl) rfl rfl rfl <| LX.pure (Y.assign rfl) rfl rfl rfl <| LX.sub (l' := [(0, _), (2, _), (3, _)]) ⟨rfl, rfl, rfl, trivial⟩ <| LX.next <| PX.thenN <| CX.seq <| CX.region <| LX.pure (Y.move rfl) rfl rfl rfl <| LX.call (hread) Qh_.en7 rfl rfl rfl rfl rfl ?_
  intro q
  refine LX.pure (Y.extract rfl rfl) rfl rfl rfl <| LX.pure (Y.extract rfl rfl) rfl rfl rfl <| LX.pure (Y.assign rfl) rfl rfl rfl <| LX.pure (Y.assign rfl) rfl rfl rfl <| LX.sub (l' := [(2, _), (3, _)]) ⟨rfl, rfl, trivial⟩ <| LX.next <| PX.thenN <| CX.ret <| PX.ret2 (by simp) Tryd.results5 rfl rfl ?_
  exact fun w hw => ⟨q, rfl, hw⟩
theorem text_le {L : List Tk} {okp : Int → Prop} (T : Go.Pa.Tks L nameB okp) (i : Nat) (t : Tk) (h : L[i]? = some t) : t.text.length ≤ 9223372036854775807 := by
  have h1 := T.txt
  have key : ∀ (l : List Tk) (t : Tk), t ∈ l → t.text.length ≤ (l.map fun t => t.text.length).sum := by
    intro l
    induction l with
    | nil => intro t h; cases h
    | cons a r ih =>
      intro t h
      rw [List.map_cons, List.sum_cons]
      rcases List.mem_cons.1 h with rfl | h
      · omega
      have := ih t h
      omega
  have := key L t (List.mem_of_getElem? h)
  omega
/-- which error it is -/
@[reducible] def ek (k : Nat) : Nat := if k = 0 then 0 else if k = 1 then 1 else 2
theorem parse_ok {w0 : World} {base : Nat} {fr : List It} {aE : Nat → Addr} (hS : EnvS w0 base aE) {s : List UInt8} {out : List Nd} (hlen : s.length ≤ 65536) (h : parseP s = .ok out) : FnC Tryd.prog 5 #[str s] (WA w0 base fr) (fun m : Mm => .tuple #[rv m.g out.length m.c, .nilIface]) (fun m w => NdsR 3 m.rs m.cells out ∧ WA w0 base (.row m.g m.c out.length 31 5 m.cells :: (m.rs ++ fr)) w) := by
  rcases parse_cases s (by omega) with ⟨p, _, h2⟩ | ⟨ts, hs, hT, ⟨p, l, _, h2⟩ | ⟨s', hr, h2, _⟩⟩
  · rw [h] at h2; cases h2
  · rw [h] at h2; cases h2
  rw [h] at h2
  have e : out = s'.out := by injection h2
  subst e
  exact parse_of (read_ok hS hlen hs (fun z hz => by unfold Go.SX.inI; omega) hT (text_le hT) (by have := hT.len; rw [List.length_map] at this; omega) hr)
theorem parse_bad {w0 : World} {base : Nat} {fr : List It} {aE : Nat → Addr} (hS : EnvS w0 base aE) {s : List UInt8} {pz : Int} {k : Nat} (hlen : s.length ≤ 65536) (h : parseP s = .error (pz, k)) : FnC Tryd.prog 5 #[str s] (WA w0 base fr) (fun ax : Nat => .tuple #[.slice none 0 0, atV ax]) (fun ax => WA w0 base (blk ax [.int .i64 pz, errV (aE (ek k))] 64 :: fr)) := by
  rcases parse_cases s (by omega) with ⟨p, hs, h2⟩ | ⟨ts, hs, hT, ⟨p, l, hr, h2⟩ | ⟨s', hr, h2, _⟩⟩
  · rw [h] at h2
    injection h2 with h2
    injection h2 with h3 h4
    subst h3 h4
    exact parse_of (read_bad hS hlen hs)
  · rw [h] at h2
    injection h2 with h2
    injection h2 with h3 h4
    subst h3 h4
    have := parse_of (read_stop (fr := fr) hS hlen hs (fun z hz => by unfold Go.SX.inI; omega) hT (text_le hT) (by have := hT.len; rw [List.length_map] at this; omega) hr)
    cases l <;> exact this
  · rw [h] at h2; cases h2
end Go.Proofs.YtfbenelagdcdgaaDoor
