/-
  Proved here: the same nodes.
-/
import Derived.Test.YtfbenelagdcdgaaDoorPbE
import Derived.Test.YtfbenelagdcdgaaDoorMg
import Derived.Test.YtfbenelagdcdgaaDoorBhE
set_option linter.unusedSimpArgs false
namespace Go.Proofs.YtfbenelagdcdgaaDoor
open Go.SX Go.RowKit Go.Tr Go.Lex
namespace Vb
theorem en10 : Enters Tryd.prog 10 := Enters.of Tryd.func10 (by kernel_rfl) (by kernel_rfl)
theorem fa31_1 : FieldOffA Tryd.prog 31 1 1 := fun a w => by kernel_rfl
theorem fa31_3 : FieldOffA Tryd.prog 31 3 3 := fun a w => by kernel_rfl
theorem fo31_1 : FieldOff Tryd.prog 31 1 1 := fun b o w => by kernel_rfl
theorem fo31_3 : FieldOff Tryd.prog 31 3 3 := fun b o w => by kernel_rfl
end Vb
theorem sInts_c {w0 : World} {base : Nat} {ak bk : Option Addr} (ck dk : Nat) {ks : List Int} (hkl : ks.length ≤ 1048576) (hk : SlAt 1 intA (Lies w0 base) ak ks) (hj2 : SlAt 1 intA (Lies w0 base) bk ks) : FnC Tryd.prog 10 #[.slice ak ks.length ck, .slice bk ks.length dk] (WA w0 base []) (fun _ : Unit => .bool true) (fun _ => WA w0 base []) := by
  refine FnC.of_body (fn := Tryd.f10) [(0, _), (1, _)] Tryd.func10 rfl Tryd.ntmps10 rfl ⟨rfl, rfl, trivial⟩ ?_
  refine CX.seq <| CX.region <| LX.pure (Y.assign rfl) rfl rfl rfl <| LX.sub (l' := [(0, _), (1, _), (4, _)]) ⟨rfl, rfl, rfl, trivial⟩ <| LX.next <| PX.thenN <| CX.seq <| CX.seq <| CX.region <| LX.pure (Y.move rfl) rfl rfl rfl <| LX.pure (Y.lenSl rfl Pb.un29 rfl) rfl rfl rfl <| LX.pure (Y.move rfl) rfl rfl rfl <| LX.pure (Y.lenSl rfl Pb.un29 rfl) rfl rfl rfl <| LX.pure (Y.neN rfl rfl) rfl rfl rfl <| LX.sub (l' := [(0, _), (1, _), (4, _), (11, _)]) ⟨rfl, rfl, rfl, rfl, trivial⟩ <| LX.next <| PX.thenN ?_
  refine CX.cond rfl (fun hb1 => ?_) (fun hb1 => ?_)
  · try simp at hb1
    done
  try simp at hb1
  refine CX.skip <| PX.thenN <| CX.seq <| CX.seq <| CX.region <| LX.pure (Y.assign rfl) rfl rfl rfl <| LX.sub (l' := [(0, _), (1, _), (4, _), (5, _)]) ⟨rfl, rfl, rfl, rfl, trivial⟩ <| LX.next <| PX.thenN <| CX.block <| CX.loop (fun j : Nat => [(0, .slice ak ks.length ck), (1, .slice bk ks.length dk), (5, .int .i64 (j : Int))]) (fun (j : Nat) w => j ≤ ks.length ∧ WA w0 base [] w) (fun j => ks.length - j) 0 ⟨rfl, rfl, rfl, trivial⟩ (fun w hw => ⟨Nat.zero_le _, hw⟩) ?_
  rintro j
  refine CX.have fun hj0 => ?_
  replace hj0 : j ≤ ks.length := hj0
  refine CX.seq <| CX.seq <| CX.region <| LX.pure (Y.move rfl) rfl rfl rfl <| LX.pure (Y.move rfl) rfl rfl rfl <| LX.pure (Y.lenSl rfl Pb.un29 rfl) rfl rfl rfl <| LX.pure (Y.ltN rfl rfl) rfl rfl rfl <| LX.sub (l' := [(0, _), (1, _), (5, _), (15, _)]) ⟨rfl, rfl, rfl, rfl, trivial⟩ <| LX.next <| PX.thenN ?_
  refine CX.cond rfl (fun hb2 => ?_) (fun hb2 => ?_)
  · try simp at hb2
    have hj : j < ks.length := by omega
    obtain ⟨a0, hav, hL, _⟩ := hk.int_at hj
    obtain ⟨b0, hbv, hM, _⟩ := hj2.int_at hj
    refine CX.skip <| PX.thenN <| CX.seq <| CX.block <| CX.seq <| CX.regionQ rfl (by kernel_rfl) <| LX.pure (Y.move rfl) rfl rfl rfl <| LX.pure (Y.move rfl) rfl rfl rfl <| LX.pure (Y.idxZ Pb.un29 Pb.sz3 rfl rfl hav (j := j) rfl hj) rfl rfl rfl <| LX.pure (Y.ldO1 (v := .int .i64 (ks.getD j 0)) Pa.one3 rfl hL) rfl rfl rfl <| LX.pure (Y.move rfl) rfl rfl rfl <| LX.pure (Y.move rfl) rfl rfl rfl <| LX.pure (Y.idxZ Pb.un29 Pb.sz3 rfl rfl hbv (j := j) rfl hj) rfl rfl rfl <| LX.pure (Y.ldO1 (v := .int .i64 (ks.getD j 0)) Pa.one3 rfl hM) rfl rfl rfl <| LX.pure (Y.eqI rfl rfl) rfl rfl rfl <| LX.pure (Y.assign rfl) rfl rfl rfl <| LX.sub (l' := [(0, _), (1, _), (5, _), (6, _)]) ⟨rfl, rfl, rfl, rfl, trivial⟩ <| LX.nextQ <| PX.thenN <| CX.seq <| CX.region <| LX.pure (Y.move rfl) rfl rfl rfl <| LX.pure (Y.not rfl) rfl rfl rfl <| LX.sub (l' := [(0, _), (1, _), (5, _), (28, _)]) ⟨rfl, rfl, rfl, rfl, trivial⟩ <| LX.next <| PX.thenN ?_
    refine CX.cond rfl (fun hb3 => ?_) (fun hb3 => ?_)
    · try simp at hb3
      done
    try simp at hb3
    refine CX.skip <| PX.blockN <| PX.thenN <| CX.region <| LX.pure (Y.move rfl) rfl rfl rfl <| LX.pure (Y.addN rfl rfl (by (simp only []; omega))) rfl rfl rfl <| LX.pure (Y.assign rfl) rfl rfl rfl <| LX.sub (l' := [(0, _), (1, _), (5, _)]) ⟨rfl, rfl, rfl, trivial⟩ <| LX.next ?_
    exact PX.again (μ := fun j => ks.length - j) (i := j) (j + 1) (by show ks.length - (j + 1) < ks.length - j; omega) ⟨rfl, rfl, rfl, trivial⟩ (fun w hw => ⟨by show j + 1 ≤ ks.length; omega, hw⟩)
  try simp at hb2
  refine CX.exit <| PX.thenE <| PX.thenE <| PX.blockE <| PX.thenN <| CX.seq <| CX.region <| LX.pure (Y.assign rfl) rfl rfl rfl <| LX.sub (l' := [(4, _)]) ⟨rfl, trivial⟩ <| LX.next <| PX.thenN <| CX.ret <| PX.ret1 (by simp) Tryd.results10 rfl ?_
  exact fun w hw => ⟨(), rfl, hw⟩
theorem sInts_q {W : World → Prop} [Stab W] {ak bk : Option Addr} (ck dk : Nat) {ks : List Int} (hkl : ks.length ≤ 1048576) (hk : ∀ w, W w → SlAt 1 intA (Lies w w.heap.size) ak ks) (hj2 : ∀ w, W w → SlAt 1 intA (Lies w w.heap.size) bk ks) : FnQ Tryd.prog 10 #[.slice ak ks.length ck, .slice bk ks.length dk] W (.bool true) := FnC.quiet fun w hw => sInts_c ck dk hkl (hk w hw) (hj2 w hw)
theorem sNode_c {w0 : World} {base : Nat} {x : Nd} {cs ds : List Value} (hkl : x.kids.length ≤ 1048576) (hx : ndA (Lies w0 base) cs x) (hy : ndA (Lies w0 base) ds x) : FnC Tryd.prog 6 #[.agg cs.toArray, .agg ds.toArray] (WA w0 base []) (fun _ : Unit => .bool true) (fun _ => WA w0 base []) := by
  obtain ⟨vk, rfl, hks, hin⟩ := hx
  obtain ⟨ak, ck, rfl, ⟨hkn, hkc⟩, hka⟩ := hks.sl
  obtain ⟨vk2, rfl, hks2, hin2⟩ := hy
  obtain ⟨bk, dk, rfl, ⟨hkn2, hkc2⟩, hkb2⟩ := hks2.sl
  refine FnC.of_body (fn := Tryd.f6) [(0, _), (1, _)] Tryd.func6 rfl Tryd.ntmps6 rfl ⟨rfl, rfl, trivial⟩ ?_
  refine CX.seq <| CX.region <| LX.box rfl rfl rfl rfl rfl ?_
  intro n1x
  refine LX.box rfl rfl rfl rfl rfl ?_
  intro n2x
  refine LX.pure (Y.assign rfl) rfl rfl rfl <| LX.sub (l' := [(2, _), (3, _), (4, _)]) ⟨rfl, rfl, rfl, trivial⟩ <| LX.next <| PX.thenN <| CX.seq <| CX.region <| LX.pure (Y.fieldAddr0 Pt_.fo31_4 rfl) rfl rfl rfl <| LX.pure (Y.ldB 1 Pt_.one29 rfl rfl rfl) rfl rfl rfl <| LX.pure (Y.fieldAddr0 Pt_.fo31_4 rfl) rfl rfl rfl <| LX.pure (Y.ldB 0 Pt_.one29 rfl rfl rfl) rfl rfl rfl <| LX.callQ (sInts_q ck dk hkl (fun w hw => hka.push hw) (fun w hw => hkb2.push hw)) Vb.en10 rfl rfl rfl rfl rfl <| LX.pure (Y.assign rfl) rfl rfl rfl <| LX.sub (l' := [(2, _), (3, _), (4, _), (5, _)]) ⟨rfl, rfl, rfl, rfl, trivial⟩ <| LX.next <| PX.thenN <| CX.seq <| CX.region <| LX.pure (Y.move rfl) rfl rfl rfl <| LX.pure (Y.move rfl) rfl rfl rfl <| LX.sub (l' := [(2, _), (3, _), (4, _), (12, _)]) ⟨rfl, rfl, rfl, rfl, trivial⟩ ?_
  apply LX.joinAnd 6 18 12 rfl
  · intro hb1
    have hb1p := hb1
    try simp at hb1p
    refine LX.gT rfl rfl rfl hb1 (Y.fieldAddr0 Pt_.fo31_0 rfl) rfl rfl <| LX.gT rfl rfl rfl hb1 (Y.ldB 1 Pa.one3 rfl rfl rfl) rfl rfl <| LX.gT rfl rfl rfl hb1 (Y.fieldAddr0 Pt_.fo31_0 rfl) rfl rfl <| LX.gT rfl rfl rfl hb1 (Y.ldB 0 Pa.one3 rfl rfl rfl) rfl rfl <| LX.gT rfl rfl rfl hb1 (Y.eqI rfl rfl) rfl rfl <| LX.pure (Y.pickT rfl hb1 rfl) rfl rfl rfl ?_
    exact LX.left ⟨rfl, rfl, rfl, rfl, rfl, trivial⟩
  · intro hb1
    (simp at hb1; done)
  refine LX.pure (Y.move rfl) rfl rfl rfl <| LX.sub (l' := [(2, _), (3, _), (4, _), (19, _)]) ⟨rfl, rfl, rfl, rfl, trivial⟩ ?_
  apply LX.joinAnd 6 25 19 rfl
  · intro hb2
    have hb2p := hb2
    try simp at hb2p
    refine LX.gT rfl rfl rfl hb2 (Y.fieldAddr0 Vb.fo31_1 rfl) rfl rfl <| LX.gT rfl rfl rfl hb2 (Y.ldB 1 Pa.one3 rfl rfl rfl) rfl rfl <| LX.gT rfl rfl rfl hb2 (Y.fieldAddr0 Vb.fo31_1 rfl) rfl rfl <| LX.gT rfl rfl rfl hb2 (Y.ldB 0 Pa.one3 rfl rfl rfl) rfl rfl <| LX.gT rfl rfl rfl hb2 (Y.eqI rfl rfl) rfl rfl <| LX.pure (Y.pickT rfl hb2 rfl) rfl rfl rfl ?_
    exact LX.left ⟨rfl, rfl, rfl, rfl, rfl, trivial⟩
  · intro hb2
    (simp at hb2; done)
  refine LX.pure (Y.move rfl) rfl rfl rfl <| LX.sub (l' := [(2, _), (3, _), (4, _), (26, _)]) ⟨rfl, rfl, rfl, rfl, trivial⟩ ?_
  apply LX.joinAnd 6 32 26 rfl
  · intro hb3
    have hb3p := hb3
    try simp at hb3p
    refine LX.gT rfl rfl rfl hb3 (Y.fieldAddr0 Pl.fo31_2 rfl) rfl rfl <| LX.gT rfl rfl rfl hb3 (Y.ldB 1 Pa.one3 rfl rfl rfl) rfl rfl <| LX.gT rfl rfl rfl hb3 (Y.fieldAddr0 Pl.fo31_2 rfl) rfl rfl <| LX.gT rfl rfl rfl hb3 (Y.ldB 0 Pa.one3 rfl rfl rfl) rfl rfl <| LX.gT rfl rfl rfl hb3 (Y.eqI rfl rfl) rfl rfl <| LX.pure (Y.pickT rfl hb3 rfl) rfl rfl rfl ?_
    exact LX.left ⟨rfl, rfl, rfl, rfl, rfl, trivial⟩
  · intro hb3
    (simp at hb3; done)
  refine LX.pure (Y.move rfl) rfl rfl rfl <| LX.sub (l' := [(2, _), (3, _), (4, _), (33, _)]) ⟨rfl, rfl, rfl, rfl, trivial⟩ ?_
  apply LX.joinAnd 6 39 33 rfl
  · intro hb4
    have hb4p := hb4
    try simp at hb4p
    refine LX.gT rfl rfl rfl hb4 (Y.fieldAddr0 Vb.fo31_3 rfl) rfl rfl <| LX.gT rfl rfl rfl hb4 (Y.ldB 1 Fy.one9 rfl rfl rfl) rfl rfl <| LX.gT rfl rfl rfl hb4 (Y.fieldAddr0 Vb.fo31_3 rfl) rfl rfl <| LX.gT rfl rfl rfl hb4 (Y.ldB 0 Fy.one9 rfl rfl rfl) rfl rfl <| LX.gT rfl rfl rfl hb4 (Y.eqS rfl rfl) rfl rfl <| LX.pure (Y.pickT rfl hb4 rfl) rfl rfl rfl ?_
    exact LX.left ⟨rfl, rfl, rfl, rfl, rfl, trivial⟩
  · intro hb4
    (simp at hb4; done)
  refine LX.pure (Y.assign rfl) rfl rfl rfl <| LX.sub (l' := [(4, _)]) ⟨rfl, trivial⟩ <| LX.next <| PX.thenN <| CX.ret <| PX.ret1 (by simp) Tryd.results6 rfl ?_
  exact fun w hw => ⟨(), congrArg (fun z => Ending.returned (Value.bool z)) (by simp), hw.drop (.cons _ (List.sublist_cons_self _ _))⟩
theorem sNode_q {W : World → Prop} [Stab W] {x : Nd} {cs ds : List Value} (hkl : x.kids.length ≤ 1048576) (hx : ∀ w, W w → ndA (Lies w w.heap.size) cs x) (hy : ∀ w, W w → ndA (Lies w w.heap.size) ds x) : FnQ Tryd.prog 6 #[.agg cs.toArray, .agg ds.toArray] W (.bool true) := FnC.quiet fun w hw => sNode_c hkl (hx w hw) (hy w hw)
theorem CX.fix {P : Program} {n : Nat} {D : List Deferred} {Q : Exit → Act → World → Prop} {l : Fr} {W : World → Prop} {c : Code} (h : ∀ w, W w → CX P n D Q l (WA w w.heap.size []) c) : CX P n D Q l W c := fun a w ha hW => h w hW a w ha (WA.start w)
end Go.Proofs.YtfbenelagdcdgaaDoor

namespace Go.Proofs.YtfbenelagdcdgaaDoor
open Go.SX Go.RowKit Go.Tr Go.Lex
namespace Vc
theorem en5 : Enters Tryd.prog 5 := Enters.of Tryd.func5 (by kernel_rfl) (by kernel_rfl)
end Vc
open Go.Proofs.YtfbenelagdcdgaaDoor.Env (EnvS errV sentG)
open Go.Pa (Tk Rs bnd ret isB is_ adv bad take must kinds inn outn node nodeAt setPos)
open Go.Ck (NdsR)
open Go.Pa (st0 fuel parseP parse_cases)
open Go.Lex (tkP scan)
@[reducible] def firstT : List UInt8 := [120, 32, 61, 32, 49, 32, 43, 32, 50]
@[reducible] def firstN : List Nd := [⟨6, 0, 0, [120], []⟩, ⟨4, 0, 4, [49], []⟩, ⟨4, 0, 8, [50], []⟩, ⟨21, 0, 6, [], [1, 2]⟩, ⟨36, 0, 2, [], [0, 3]⟩, ⟨47, 0, 2, [], [4]⟩]
@[reducible] def wantI : List Int := [6, 4, 4, 21, 36, 47]
theorem parse_first : parseP firstT = .ok firstN := by kernel_rfl
theorem first_op {cells : List Value} {rs : List It} (h : NdsR 3 rs cells firstN) : ∀ k, k < 6 → cells[k * 5 + 0]? = some (.int .i64 (wantI.getD k 0)) := by
  intro k hk
  match k, hk with
  | 0, _ => exact (h.cell (i := 0) rfl).2.1
  | 1, _ => exact (h.cell (i := 1) rfl).2.1
  | 2, _ => exact (h.cell (i := 2) rfl).2.1
  | 3, _ => exact (h.cell (i := 3) rfl).2.1
  | 4, _ => exact (h.cell (i := 4) rfl).2.1
  | 5, _ => exact (h.cell (i := 5) rfl).2.1
theorem want_at : ∀ k, k < 6 → (wantI.map iv)[k]? = some (.int .i64 (wantI.getD k 0)) := by
  intro k hk
  match k, hk with
  | 0, _ => rfl
  | 1, _ => rfl
  | 2, _ => rfl
  | 3, _ => rfl
  | 4, _ => rfl
  | 5, _ => rfl
theorem first_c {w0 : World} {base : Nat} {fr : List It} {aE : Nat → Addr} (hS : EnvS w0 base aE) : FnC Tryd.prog 4 #[] (WA w0 base fr) (fun _ : Unit => .bool true) (fun _ => WA w0 base fr) := by
  refine FnC.of_body (fn := Tryd.f4) [] Tryd.func4 rfl Tryd.ntmps4 rfl trivial ?_
  refine CX.seq <| CX.region <| LX.pure (Y.assign rfl) rfl rfl rfl <| LX.sub (l' := [(0, _)]) ⟨rfl, trivial⟩ <| LX.next <| PX.thenN <| CX.seq <| CX.region <| LX.call (parse_ok (out := firstN) hS (by decide) parse_first) Vc.en5 rfl rfl rfl rfl rfl ?_
  intro m
  refine LX.have fun hnd => ?_
  try dsimp only
  refine LX.pure (Y.move rfl) rfl rfl rfl <| LX.pure (Y.extract rfl rfl) rfl rfl rfl <| LX.pure (Y.extract rfl rfl) rfl rfl rfl <| LX.pure (Y.assign rfl) rfl rfl rfl <| LX.pure (Y.assign rfl) rfl rfl rfl <| LX.sub (l' := [(0, _), (1, _), (2, _)]) ⟨rfl, rfl, rfl, trivial⟩ <| LX.next <| PX.thenN <| CX.seq <| CX.seq <| CX.region <| LX.pure (Y.move rfl) rfl rfl rfl <| LX.pure (Y.neNilNil Qg_.un25 rfl) rfl rfl rfl <| LX.pure (Y.move rfl) rfl rfl rfl <| LX.sub (l' := [(0, _), (1, _), (11, _)]) ⟨rfl, rfl, rfl, trivial⟩ ?_
  apply LX.joinOr 4 15 11 rfl
  · intro hb1
    (simp at hb1; done)
  · intro hb1
    have hb1p := hb1
    try simp at hb1p
    refine LX.gT rfl rfl rfl hb1 (Y.move rfl) rfl rfl <| LX.gT rfl rfl rfl hb1 (Y.lenSl rfl Pd.un23 rfl) rfl rfl <| LX.gT rfl rfl rfl hb1 (Y.neN rfl rfl) rfl rfl <| LX.pure (Y.pickF rfl hb1 rfl) rfl rfl rfl ?_
    exact LX.left ⟨rfl, rfl, rfl, rfl, trivial⟩
  refine LX.sub (l' := [(0, _), (1, _), (15, _)]) ⟨rfl, rfl, rfl, trivial⟩ <| LX.next <| PX.thenN ?_
  refine CX.cond rfl (fun hb2 => ?_) (fun hb2 => ?_)
  · try simp at hb2
    done
  try simp at hb2
  refine CX.skip <| PX.thenN <| CX.seq <| CX.region <| LX.buildSlice (e := 3) (size := 1) rfl rfl (fun _ => by kernel_rfl) rfl (by decide) rfl rfl rfl ?_
  intro gw
  refine LX.world (W' := WA w0 base (.row (some gw) 6 6 3 1 (wantI.map iv) :: .row m.g m.c 6 31 5 m.cells :: (m.rs ++ fr))) (fun w hw => hw) <| LX.pure (Y.assign rfl) rfl rfl rfl <| LX.sub (l' := [(0, _), (1, _), (3, _)]) ⟨rfl, rfl, rfl, trivial⟩ <| LX.next <| PX.thenN <| CX.seq <| CX.seq <| CX.region <| LX.pure (Y.assign rfl) rfl rfl rfl <| LX.sub (l' := [(0, _), (1, _), (3, _), (4, _)]) ⟨rfl, rfl, rfl, rfl, trivial⟩ <| LX.next <| PX.thenN <| CX.block <| CX.loop (fun k : Nat => [(1, rv m.g 6 m.c), (3, .slice (some ⟨gw, 0, none⟩) 6 6), (4, .int .i64 (k : Int))]) (fun (k : Nat) w => k ≤ 6 ∧ WA w0 base (.row (some gw) 6 6 3 1 (wantI.map iv) :: .row m.g m.c 6 31 5 m.cells :: (m.rs ++ fr)) w) (fun k => 6 - k) 0 ⟨rfl, rfl, rfl, trivial⟩ (fun w hw => ⟨Nat.zero_le _, hw⟩) ?_
  rintro k
  refine CX.have fun hk0 => ?_
  replace hk0 : k ≤ 6 := hk0
  refine CX.seq <| CX.seq <| CX.region <| LX.pure (Y.move rfl) rfl rfl rfl <| LX.pure (Y.ltN rfl rfl) rfl rfl rfl <| LX.sub (l' := [(1, _), (3, _), (4, _), (18, _)]) ⟨rfl, rfl, rfl, rfl, trivial⟩ <| LX.next <| PX.thenN ?_
  refine CX.cond rfl (fun hb3 => ?_) (fun hb3 => ?_)
  · try simp at hb3
    have hk6 : k < 6 := by omega
    refine CX.skip <| PX.thenN <| CX.seq <| CX.block <| CX.seq <| CX.regionQ rfl (by kernel_rfl) <| LX.pure (Y.move rfl) rfl rfl rfl <| LX.pure (Y.move rfl) rfl rfl rfl <| LX.pure (Y.idxR 1 (i := k) Pd.un23 Pl.sz31 rfl rfl rfl (hk6)) rfl rfl rfl <| LX.pure (Y.fieldAddr Pt_.fo31_0 rfl) rfl rfl rfl <| LX.pure (Y.ldR 1 (v := .int .i64 (wantI.getD k 0)) Pa.one3 rfl rfl (first_op hnd k hk6)) rfl rfl rfl <| LX.pure (Y.move rfl) rfl rfl rfl <| LX.pure (Y.move rfl) rfl rfl rfl <| LX.pure (Y.idxR 0 (i := k) Pb.un29 Pb.sz3 rfl rfl rfl hk6) rfl rfl rfl <| LX.pure (Y.ldR 0 (v := .int .i64 (wantI.getD k 0)) Pa.one3 rfl rfl (by rw [Nat.mul_one]; exact want_at k hk6)) rfl rfl rfl <| LX.pure (Y.neI rfl rfl) rfl rfl rfl <| LX.sub (l' := [(1, _), (3, _), (4, _), (30, _)]) ⟨rfl, rfl, rfl, rfl, trivial⟩ <| LX.nextQ <| PX.thenN ?_
    refine CX.cond rfl (fun hb4 => ?_) (fun hb4 => ?_)
    · try simp at hb4
      done
    try simp at hb4
    refine CX.skip <| PX.blockN <| PX.thenN <| CX.region <| LX.pure (Y.move rfl) rfl rfl rfl <| LX.pure (Y.addN rfl rfl (by (simp only []; omega))) rfl rfl rfl <| LX.pure (Y.assign rfl) rfl rfl rfl <| LX.sub (l' := [(1, _), (3, _), (4, _)]) ⟨rfl, rfl, rfl, trivial⟩ <| LX.next ?_
    exact PX.again (μ := fun k => 6 - k) (i := k) (k + 1) (by show 6 - (k + 1) < 6 - k; omega) ⟨rfl, rfl, rfl, trivial⟩ (fun w hw => ⟨by show k + 1 ≤ 6; omega, hw⟩)
  try simp at hb3
  refine CX.exit <| PX.thenE <| PX.thenE <| PX.blockE <| PX.thenN <| CX.seq <| CX.region <| LX.pure (Y.move rfl) rfl rfl rfl <| LX.pure (Y.idxR 1 (i := 4) Pd.un23 Pl.sz31 rfl rfl rfl (by decide)) rfl rfl rfl <| LX.pure (Y.fieldAddr Pl.fo31_2 rfl) rfl rfl rfl <| LX.pure (Y.ldR 1 (v := .int .i64 2) Pa.one3 rfl rfl (hnd.cell (i := 4) rfl).2.2.1) rfl rfl rfl <| LX.pure (Y.eqN rfl rfl) rfl rfl rfl <| LX.pure (Y.move rfl) rfl rfl rfl <| LX.sub (l' := [(1, _), (36, _)]) ⟨rfl, rfl, trivial⟩ ?_
  apply LX.joinAnd 6 42 36 rfl
  · intro hb5
    have hb5p := hb5
    try simp at hb5p
    refine LX.gT rfl rfl rfl hb5 (Y.move rfl) rfl rfl <| LX.gT rfl rfl rfl hb5 (Y.idxR 1 (i := 3) Pd.un23 Pl.sz31 rfl rfl rfl (by decide)) rfl rfl <| LX.gT rfl rfl rfl hb5 (Y.fieldAddr Pl.fo31_2 rfl) rfl rfl <| LX.gT rfl rfl rfl hb5 (Y.ldR 1 (v := .int .i64 6) Pa.one3 rfl rfl (hnd.cell (i := 3) rfl).2.2.1) rfl rfl <| LX.gT rfl rfl rfl hb5 (Y.eqN rfl rfl) rfl rfl <| LX.pure (Y.pickT rfl hb5 rfl) rfl rfl rfl ?_
    exact LX.left ⟨rfl, rfl, rfl, trivial⟩
  · intro hb5
    (simp at hb5; done)
  refine LX.pure (Y.assign rfl) rfl rfl rfl <| LX.sub (l' := [(0, _)]) ⟨rfl, trivial⟩ <| LX.next <| PX.thenN <| CX.ret <| PX.ret1 (by simp) Tryd.results4 rfl ?_
  exact fun w hw => ⟨(), congrArg (fun z => Ending.returned (Value.bool z)) (by simp), hw.drop (.cons _ (.cons _ (List.sublist_append_right _ _)))⟩
end Go.Proofs.YtfbenelagdcdgaaDoor

namespace Go.Proofs.YtfbenelagdcdgaaDoor
open Go.SX Go.RowKit Go.Tr Go.Lex
namespace Vd
theorem en4 : Enters Tryd.prog 4 := Enters.of Tryd.func4 (by kernel_rfl) (by kernel_rfl)
theorem en6 : Enters Tryd.prog 6 := Enters.of Tryd.func6 (by kernel_rfl) (by kernel_rfl)
end Vd
open Go.Proofs.YtfbenelagdcdgaaDoor.Env (EnvS errV sentG)
open Go.Pa (Tk Rs bnd ret isB is_ adv bad take must kinds inn outn node nodeAt setPos)
open Go.Ck (NdsR)
open Go.Pa (st0 fuel parseP parse_cases)
open Go.Lex (tkP scan)
open Go.Ck (NdsR)
theorem law_two {w0 : World} {base : Nat} {fr : List It} {aE : Nat → Addr} (hS : EnvS w0 base aE) {s : List UInt8} {out out2 : List Nd} (hlen : ¬1000 < s.length) (hp : parseP (s ++ [10]) = .ok out) (hp2 : parseP (s ++ [10, 10, 122, 122, 32, 61, 32, 49, 10]) = .ok out2) (hln : out.length ≤ 1048576) (h1 : out.length = 2) (h2 : out2.length = 4) : FnC Tryd.prog 3 #[str s] (WA w0 base fr) (fun _ : Unit => .bool true) (fun _ => WA w0 base fr) := by
  refine FnC.of_body (fn := Tryd.f3) [(0, _)] Tryd.func3 rfl Tryd.ntmps3 rfl ⟨rfl, trivial⟩ ?_
  refine CX.seq <| CX.region <| LX.pure (Y.assign rfl) rfl rfl rfl <| LX.sub (l' := [(0, _), (2, _)]) ⟨rfl, rfl, trivial⟩ <| LX.next <| PX.thenN <| CX.seq <| CX.region <| LX.call (first_c hS) Vd.en4 rfl rfl rfl rfl rfl ?_
  intro _
  refine LX.pure (Y.assign rfl) rfl rfl rfl <| LX.sub (l' := [(0, _), (2, _), (3, _)]) ⟨rfl, rfl, rfl, trivial⟩ <| LX.next <| PX.thenN <| CX.seq <| CX.seq <| CX.region <| LX.pure (Y.move rfl) rfl rfl rfl <| LX.pure (Y.not rfl) rfl rfl rfl <| LX.sub (l' := [(0, _), (2, _), (3, _), (11, _)]) ⟨rfl, rfl, rfl, rfl, trivial⟩ <| LX.next <| PX.thenN ?_
  refine CX.cond rfl (fun hb1 => ?_) (fun hb1 => ?_)
  · try simp at hb1
    done
  try simp at hb1
  refine CX.skip <| PX.thenN <| CX.seq <| CX.seq <| CX.region <| LX.pure (Y.move rfl) rfl rfl rfl <| LX.pure (Y.lenStr rfl Fy.un9 rfl) rfl rfl rfl <| LX.pure (Y.gtN rfl rfl) rfl rfl rfl <| LX.pure (Y.move rfl) rfl rfl rfl <| LX.sub (l' := [(0, _), (2, _), (3, _), (15, _)]) ⟨rfl, rfl, rfl, rfl, trivial⟩ ?_
  apply LX.joinOr 3 18 15 rfl
  · intro hb2
    (exfalso; simp at hb2; omega)
  · intro hb2
    have hb2p := hb2
    try simp at hb2p
    refine LX.gT rfl rfl rfl hb2 (Y.move rfl) rfl rfl <| LX.gT rfl rfl rfl hb2 (Y.not rfl) rfl rfl <| LX.pure (Y.pickF rfl hb2 rfl) rfl rfl rfl ?_
    exact LX.left ⟨rfl, rfl, rfl, rfl, rfl, trivial⟩
  refine LX.sub (l' := [(0, _), (2, _), (3, _), (18, _)]) ⟨rfl, rfl, rfl, rfl, trivial⟩ <| LX.next <| PX.thenN ?_
  refine CX.cond rfl (fun hb3 => ?_) (fun hb3 => ?_)
  · try simp at hb3
    (exfalso; omega)
  try simp at hb3
  refine CX.skip <| PX.thenN <| CX.seq <| CX.region <| LX.pure (Y.move rfl) rfl rfl rfl <| LX.pure (Y.addS rfl rfl (by simp only [List.length_append, List.length_cons, List.length_nil]; omega)) rfl rfl rfl <| LX.call (parse_ok hS (by simp; omega) hp) Vc.en5 rfl rfl rfl rfl rfl ?_
  intro m
  refine LX.have fun hnd => LX.pure (Y.move rfl) rfl rfl rfl <| LX.pure (Y.extract rfl rfl) rfl rfl rfl <| LX.pure (Y.extract rfl rfl) rfl rfl rfl <| LX.pure (Y.assign rfl) rfl rfl rfl <| LX.pure (Y.assign rfl) rfl rfl rfl <| LX.sub (l' := [(0, _), (2, _), (4, _), (5, _)]) ⟨rfl, rfl, rfl, rfl, trivial⟩ <| LX.next <| PX.thenN <| CX.seq <| CX.seq <| CX.region <| LX.pure (Y.move rfl) rfl rfl rfl <| LX.pure (Y.neNilNil Qg_.un25 rfl) rfl rfl rfl <| LX.sub (l' := [(0, _), (2, _), (4, _), (27, _)]) ⟨rfl, rfl, rfl, rfl, trivial⟩ <| LX.next <| PX.thenN ?_
  refine CX.cond rfl (fun hb4 => ?_) (fun hb4 => ?_)
  · try simp at hb4
    done
  try simp at hb4
  refine CX.skip <| PX.thenN <| CX.seq <| CX.region <| LX.pure (Y.move rfl) rfl rfl rfl <| LX.pure (Y.addS rfl rfl (by simp only [List.length_append, List.length_cons, List.length_nil]; omega)) rfl rfl rfl <| LX.call (parse_ok hS (by simp; omega) hp2) Vc.en5 rfl rfl rfl rfl rfl ?_
  intro m2
  refine LX.have fun hnd2 => LX.pure (Y.move rfl) rfl rfl rfl <| LX.pure (Y.extract rfl rfl) rfl rfl rfl <| LX.pure (Y.extract rfl rfl) rfl rfl rfl <| LX.pure (Y.assign rfl) rfl rfl rfl <| LX.pure (Y.assign rfl) rfl rfl rfl <| LX.sub (l' := [(2, _), (4, _), (6, _), (7, _)]) ⟨rfl, rfl, rfl, rfl, trivial⟩ <| LX.next <| PX.thenN <| CX.seq <| CX.seq <| CX.region <| LX.pure (Y.move rfl) rfl rfl rfl <| LX.pure (Y.neNilNil Qg_.un25 rfl) rfl rfl rfl <| LX.pure (Y.move rfl) rfl rfl rfl <| LX.sub (l' := [(2, _), (4, _), (6, _), (7, _), (36, _)]) ⟨rfl, rfl, rfl, rfl, rfl, trivial⟩ ?_
  apply LX.joinOr 7 43 36 rfl
  · intro hb5
    (simp at hb5; done)
  · intro hb5
    have hb5p := hb5
    try simp at hb5p
    refine LX.gT rfl rfl rfl hb5 (Y.move rfl) rfl rfl <| LX.gT rfl rfl rfl hb5 (Y.lenSl rfl Pd.un23 rfl) rfl rfl <| LX.gT rfl rfl rfl hb5 (Y.move rfl) rfl rfl <| LX.gT rfl rfl rfl hb5 (Y.lenSl rfl Pd.un23 rfl) rfl rfl <| LX.gT rfl rfl rfl hb5 (Y.addN rfl rfl (by (simp only []; omega))) rfl rfl <| LX.gT rfl rfl rfl hb5 (Y.neN rfl rfl) rfl rfl <| LX.pure (Y.pickF rfl hb5 rfl) rfl rfl rfl ?_
    exact LX.left ⟨rfl, rfl, rfl, rfl, rfl, rfl, trivial⟩
  refine LX.sub (l' := [(2, _), (4, _), (6, _), (7, _), (43, _)]) ⟨rfl, rfl, rfl, rfl, rfl, trivial⟩ <| LX.next <| PX.thenN ?_
  refine CX.cond rfl (fun hb6 => ?_) (fun hb6 => ?_)
  · try simp at hb6
    refine CX.seq <| CX.region <| LX.pure (Y.move rfl) rfl rfl rfl <| LX.pure (Y.eqNilNil Qg_.un25 rfl) rfl rfl rfl <| LX.pure (Y.move rfl) rfl rfl rfl <| LX.sub (l' := [(2, _), (4, _), (6, _), (46, _)]) ⟨rfl, rfl, rfl, rfl, trivial⟩ ?_
    apply LX.joinAnd 4 50 46 rfl
    · intro hb7
      have hb7p := hb7
      try simp at hb7p
      refine LX.gT rfl rfl rfl hb7 (Y.move rfl) rfl rfl <| LX.gT rfl rfl rfl hb7 (Y.lenSl rfl Pd.un23 rfl) rfl rfl <| LX.gT rfl rfl rfl hb7 (Y.eqN rfl rfl) rfl rfl <| LX.pure (Y.pickT rfl hb7 rfl) rfl rfl rfl ?_
      exact LX.left ⟨rfl, rfl, rfl, rfl, rfl, trivial⟩
    · intro hb7
      (simp at hb7; done)
    refine LX.pure (Y.move rfl) rfl rfl rfl <| LX.sub (l' := [(2, _), (4, _), (6, _), (51, _)]) ⟨rfl, rfl, rfl, rfl, trivial⟩ ?_
    apply LX.joinAnd 4 55 51 rfl
    · intro hb8
      have hb8p := hb8
      try simp at hb8p
      refine LX.gT rfl rfl rfl hb8 (Y.move rfl) rfl rfl <| LX.gT rfl rfl rfl hb8 (Y.lenSl rfl Pd.un23 rfl) rfl rfl <| LX.gT rfl rfl rfl hb8 (Y.eqN rfl rfl) rfl rfl <| LX.pure (Y.pickT rfl hb8 rfl) rfl rfl rfl ?_
      exact LX.left ⟨rfl, rfl, rfl, rfl, rfl, trivial⟩
    · intro hb8
      (exfalso; simp at hb8; omega)
    refine LX.pure (Y.assign rfl) rfl rfl rfl <| LX.sub (l' := [(2, _), (4, _), (6, _)]) ⟨rfl, rfl, rfl, trivial⟩ <| LX.next <| PX.thenN <| CX.ret <| PX.thenR <| PX.ret1 (by simp) Tryd.results3 rfl ?_
    exact fun w hw => ⟨(), congrArg (fun z => Ending.returned (Value.bool z)) (by simp [h1, h2]), hw.drop ((((List.sublist_append_right m.rs fr).cons _).trans (List.sublist_append_right m2.rs _)).cons _)⟩
  try simp at hb6
  (exfalso; omega)
theorem law_ok {w0 : World} {base : Nat} {fr : List It} {aE : Nat → Addr} (hS : EnvS w0 base aE) {s : List UInt8} {out out2 : List Nd} (hlen : ¬1000 < s.length) (hp : parseP (s ++ [10]) = .ok out) (hp2 : parseP (s ++ [10, 10, 122, 122, 32, 61, 32, 49, 10]) = .ok out2) (hln : out.length ≤ 1048576) (h1 : out2.length = out.length + 3) (h2 : ∀ i : Nat, i + 1 < out.length → out2[i]? = out[i]?) (hkb : ∀ x ∈ out, x.kids.length ≤ 1048576) : FnC Tryd.prog 3 #[str s] (WA w0 base fr) (fun _ : Unit => .bool true) (fun _ => WA w0 base fr) := by
  refine FnC.of_body (fn := Tryd.f3) [(0, _)] Tryd.func3 rfl Tryd.ntmps3 rfl ⟨rfl, trivial⟩ ?_
  refine CX.seq <| CX.region <| LX.pure (Y.assign rfl) rfl rfl rfl <| LX.sub (l' := [(0, _), (2, _)]) ⟨rfl, rfl, trivial⟩ <| LX.next <| PX.thenN <| CX.seq <| CX.region <| LX.call (first_c hS) Vd.en4 rfl rfl rfl rfl rfl ?_
  intro _
  refine LX.pure (Y.assign rfl) rfl rfl rfl <| LX.sub (l' := [(0, _), (2, _), (3, _)]) ⟨rfl, rfl, rfl, trivial⟩ <| LX.next <| PX.thenN <| CX.seq <| CX.seq <| CX.region <| LX.pure (Y.move rfl) rfl rfl rfl <| LX.pure (Y.not rfl) rfl rfl rfl <| LX.sub (l' := [(0, _), (2, _), (3, _), (11, _)]) ⟨rfl, rfl, rfl, rfl, trivial⟩ <| LX.next <| PX.thenN ?_
  refine CX.cond rfl (fun hb1 => ?_) (fun hb1 => ?_)
  · try simp at hb1
    done
  try simp at hb1
  refine CX.skip <| PX.thenN <| CX.seq <| CX.seq <| CX.region <| LX.pure (Y.move rfl) rfl rfl rfl <| LX.pure (Y.lenStr rfl Fy.un9 rfl) rfl rfl rfl <| LX.pure (Y.gtN rfl rfl) rfl rfl rfl <| LX.pure (Y.move rfl) rfl rfl rfl <| LX.sub (l' := [(0, _), (2, _), (3, _), (15, _)]) ⟨rfl, rfl, rfl, rfl, trivial⟩ ?_
  apply LX.joinOr 3 18 15 rfl
  · intro hb2
    (exfalso; simp at hb2; omega)
  · intro hb2
    have hb2p := hb2
    try simp at hb2p
    refine LX.gT rfl rfl rfl hb2 (Y.move rfl) rfl rfl <| LX.gT rfl rfl rfl hb2 (Y.not rfl) rfl rfl <| LX.pure (Y.pickF rfl hb2 rfl) rfl rfl rfl ?_
    exact LX.left ⟨rfl, rfl, rfl, rfl, rfl, trivial⟩
  refine LX.sub (l' := [(0, _), (2, _), (3, _), (18, _)]) ⟨rfl, rfl, rfl, rfl, trivial⟩ <| LX.next <| PX.thenN ?_
  refine CX.cond rfl (fun hb3 => ?_) (fun hb3 => ?_)
  · try simp at hb3
    (exfalso; omega)
  try simp at hb3
  refine CX.skip <| PX.thenN <| CX.seq <| CX.region <| LX.pure (Y.move rfl) rfl rfl rfl <| LX.pure (Y.addS rfl rfl (by simp only [List.length_append, List.length_cons, List.length_nil]; omega)) rfl rfl rfl <| LX.call (parse_ok hS (by simp; omega) hp) Vc.en5 rfl rfl rfl rfl rfl ?_
  intro m
  refine LX.have fun hnd => LX.pure (Y.move rfl) rfl rfl rfl <| LX.pure (Y.extract rfl rfl) rfl rfl rfl <| LX.pure (Y.extract rfl rfl) rfl rfl rfl <| LX.pure (Y.assign rfl) rfl rfl rfl <| LX.pure (Y.assign rfl) rfl rfl rfl <| LX.sub (l' := [(0, _), (2, _), (4, _), (5, _)]) ⟨rfl, rfl, rfl, rfl, trivial⟩ <| LX.next <| PX.thenN <| CX.seq <| CX.seq <| CX.region <| LX.pure (Y.move rfl) rfl rfl rfl <| LX.pure (Y.neNilNil Qg_.un25 rfl) rfl rfl rfl <| LX.sub (l' := [(0, _), (2, _), (4, _), (27, _)]) ⟨rfl, rfl, rfl, rfl, trivial⟩ <| LX.next <| PX.thenN ?_
  refine CX.cond rfl (fun hb4 => ?_) (fun hb4 => ?_)
  · try simp at hb4
    done
  try simp at hb4
  refine CX.skip <| PX.thenN <| CX.seq <| CX.region <| LX.pure (Y.move rfl) rfl rfl rfl <| LX.pure (Y.addS rfl rfl (by simp only [List.length_append, List.length_cons, List.length_nil]; omega)) rfl rfl rfl <| LX.call (parse_ok hS (by simp; omega) hp2) Vc.en5 rfl rfl rfl rfl rfl ?_
  intro m2
  refine LX.have fun hnd2 => LX.pure (Y.move rfl) rfl rfl rfl <| LX.pure (Y.extract rfl rfl) rfl rfl rfl <| LX.pure (Y.extract rfl rfl) rfl rfl rfl <| LX.pure (Y.assign rfl) rfl rfl rfl <| LX.pure (Y.assign rfl) rfl rfl rfl <| LX.sub (l' := [(2, _), (4, _), (6, _), (7, _)]) ⟨rfl, rfl, rfl, rfl, trivial⟩ <| LX.next <| PX.thenN <| CX.seq <| CX.seq <| CX.region <| LX.pure (Y.move rfl) rfl rfl rfl <| LX.pure (Y.neNilNil Qg_.un25 rfl) rfl rfl rfl <| LX.pure (Y.move rfl) rfl rfl rfl <| LX.sub (l' := [(2, _), (4, _), (6, _), (7, _), (36, _)]) ⟨rfl, rfl, rfl, rfl, rfl, trivial⟩ ?_
  apply LX.joinOr 7 43 36 rfl
  · intro hb5
    (simp at hb5; done)
  · intro hb5
    have hb5p := hb5
    try simp at hb5p
    refine LX.gT rfl rfl rfl hb5 (Y.move rfl) rfl rfl <| LX.gT rfl rfl rfl hb5 (Y.lenSl rfl Pd.un23 rfl) rfl rfl <| LX.gT rfl rfl rfl hb5 (Y.move rfl) rfl rfl <| LX.gT rfl rfl rfl hb5 (Y.lenSl rfl Pd.un23 rfl) rfl rfl <| LX.gT rfl rfl rfl hb5 (Y.addN rfl rfl (by (simp only []; omega))) rfl rfl <| LX.gT rfl rfl rfl hb5 (Y.neN rfl rfl) rfl rfl <| LX.pure (Y.pickF rfl hb5 rfl) rfl rfl rfl ?_
    exact LX.left ⟨rfl, rfl, rfl, rfl, rfl, rfl, trivial⟩
  refine LX.sub (l' := [(2, _), (4, _), (6, _), (7, _), (43, _)]) ⟨rfl, rfl, rfl, rfl, rfl, trivial⟩ <| LX.next <| PX.thenN ?_
  refine CX.cond rfl (fun hb6 => ?_) (fun hb6 => ?_)
  · try simp at hb6
    (exfalso; omega)
  try simp at hb6
  refine CX.skip <| PX.thenN <| CX.seq <| CX.seq <| CX.region <| LX.pure (Y.assign rfl) rfl rfl rfl <| LX.sub (l' := [(2, _), (4, _), (6, _), (8, _)]) ⟨rfl, rfl, rfl, rfl, trivial⟩ <| LX.next <| PX.thenN <| CX.block <| CX.fix fun w1 hw1 => ?_
  have hl := (hnd.toF w0 base).liesM hw1 (fun it h => List.mem_cons_of_mem _ (List.mem_append_right _ (List.mem_cons_of_mem _ (List.mem_append_left _ h)))) (List.mem_cons_of_mem _ (List.mem_append_right _ (List.mem_cons_self ..)))
  have hm := (hnd2.toF w0 base).liesM hw1 (fun it h => List.mem_cons_of_mem _ (List.mem_append_left _ h)) (List.mem_cons_self ..)
  refine CX.loop (fun i : Nat => [(4, rv m.g out.length m.c), (6, rv m2.g out2.length m2.c), (8, .int .i64 (i : Int))]) (fun (i : Nat) w => i ≤ out.length ∧ WA w1 w1.heap.size [] w) (fun i => out.length - i) 0 ⟨rfl, rfl, rfl, trivial⟩ (fun w hw => ⟨Nat.zero_le _, hw⟩) ?_
  rintro i
  refine CX.have fun hi0 => ?_
  replace hi0 : i ≤ out.length := hi0
  refine CX.seq <| CX.seq <| CX.region <| LX.pure (Y.move rfl) rfl rfl rfl <| LX.pure (Y.addN rfl rfl (by (simp only []; omega))) rfl rfl rfl <| LX.pure (Y.move rfl) rfl rfl rfl <| LX.pure (Y.lenSl rfl Pd.un23 rfl) rfl rfl rfl <| LX.pure (Y.ltN rfl rfl) rfl rfl rfl <| LX.sub (l' := [(4, _), (6, _), (8, _), (60, _)]) ⟨rfl, rfl, rfl, rfl, trivial⟩ <| LX.next <| PX.thenN ?_
  refine CX.cond rfl (fun hb7 => ?_) (fun hb7 => ?_)
  · try simp at hb7
    have hi1 : i + 1 < out.length := by omega
    have hi : i < out.length := by omega
    have hi2 : i < out2.length := by omega
    obtain ⟨x, hx⟩ : ∃ x, out[i]? = some x := ⟨_, List.getElem?_eq_getElem hi⟩
    obtain ⟨a, cs, hav, hcl, hL, hA⟩ := hl i x hx
    obtain ⟨b, ds, hbv, hdl, hM, hB⟩ := hm i x ((h2 i hi1).trans hx)
    refine CX.skip <| PX.thenN <| CX.seq <| CX.block <| CX.seq <| CX.regionM [(0, .anywhere), (1, .anywhere), (2, .held), (3, .held), (4, .anywhere), (5, .anywhere), (6, .held), (7, .held), (8, .alone), (9, .anywhere)] rfl (by kernel_rfl) <| MX.lift0 (i := 0) rfl (Y.move rfl) rfl rfl rfl <| MX.lift0 (i := 1) rfl (Y.move rfl) rfl rfl rfl <| MX.lift1 (i := 2) (pend' := []) rfl (fun w hw => by exact hw) (Y.idxZ Pd.un23 Pl.sz31 rfl rfl hav (j := i) rfl hi) rfl rfl rfl (by kernel_rfl) <| MX.lift1 (i := 3) (pend' := []) rfl (fun w hw => by exact hw) (Y.ldAO (cs := cs) Pt_.ag31 rfl hL hcl) rfl rfl rfl (by kernel_rfl) <| MX.lift0 (i := 4) rfl (Y.move rfl) rfl rfl rfl <| MX.lift0 (i := 5) rfl (Y.move rfl) rfl rfl rfl <| MX.lift1 (i := 6) (pend' := [3]) rfl (fun w hw => by exact hw) (Y.idxZ Pd.un23 Pl.sz31 rfl rfl hbv (j := i) rfl hi2) rfl rfl rfl (by kernel_rfl) <| MX.lift1 (i := 7) (pend' := [3]) rfl (fun w hw => by exact hw) (Y.ldAO (cs := ds) Pt_.ag31 rfl hM hdl) rfl rfl rfl (by kernel_rfl) <| MX.force (i := 8) rfl <| LX.callQ (sNode_q (x := x) (hkb x (List.mem_of_getElem? hx)) (fun w hw => Kept.mono (fun a c q => Lies.push q hw) hA) (fun w hw => Kept.mono (fun a c q => Lies.push q hw) hB)) Vd.en6 rfl rfl rfl rfl rfl <| LX.nextM [] (by kernel_rfl) (fun h => absurd rfl h) <| MX.lift0 (i := 9) rfl (Y.not rfl) rfl rfl rfl <| MX.sub (l' := [(4, _), (6, _), (8, _), (72, _)]) ⟨rfl, rfl, rfl, rfl, trivial⟩ <| MX.done <| PX.thenN ?_
    refine CX.cond rfl (fun hb8 => ?_) (fun hb8 => ?_)
    · try simp at hb8
      done
    try simp at hb8
    refine CX.skip <| PX.blockN <| PX.thenN <| CX.region <| LX.pure (Y.move rfl) rfl rfl rfl <| LX.pure (Y.addN rfl rfl (by (simp only []; omega))) rfl rfl rfl <| LX.pure (Y.assign rfl) rfl rfl rfl <| LX.sub (l' := [(4, _), (6, _), (8, _)]) ⟨rfl, rfl, rfl, trivial⟩ <| LX.next ?_
    exact PX.again (μ := fun i => out.length - i) (i := i) (i + 1) (by show out.length - (i + 1) < out.length - i; omega) ⟨rfl, rfl, rfl, trivial⟩ (fun w hw => ⟨by show i + 1 ≤ out.length; omega, hw⟩)
  try simp at hb7
  refine CX.exit <| PX.thenE <| PX.thenE <| PX.blockE <| PX.thenN <| CX.seq <| CX.region <| LX.pure (Y.assign rfl) rfl rfl rfl <| LX.sub (l' := [(2, _)]) ⟨rfl, trivial⟩ <| LX.next <| PX.thenN <| CX.ret <| PX.ret1 (by simp) Tryd.results3 rfl ?_
  exact fun w hw => ⟨(), rfl, (hw1.onto hw : WA w0 base ([] ++ (.row m2.g m2.c out2.length 31 5 m2.cells :: (m2.rs ++ (.row m.g m.c out.length 31 5 m.cells :: (m.rs ++ fr))))) w).drop ((((List.sublist_append_right m.rs fr).cons _).trans (List.sublist_append_right m2.rs _)).cons _)⟩
theorem law_bad {w0 : World} {base : Nat} {fr : List It} {aE : Nat → Addr} (hS : EnvS w0 base aE) {s : List UInt8} {pz : Int} {k : Nat} (hlen : ¬1000 < s.length) (hp : parseP (s ++ [10]) = .error (pz, k)) : FnC Tryd.prog 3 #[str s] (WA w0 base fr) (fun _ : Unit => .bool true) (fun _ => WA w0 base fr) := by
  refine FnC.of_body (fn := Tryd.f3) [(0, _)] Tryd.func3 rfl Tryd.ntmps3 rfl ⟨rfl, trivial⟩ ?_
  refine CX.seq <| CX.region <| LX.pure (Y.assign rfl) rfl rfl rfl <| LX.sub (l' := [(0, _), (2, _)]) ⟨rfl, rfl, trivial⟩ <| LX.next <| PX.thenN <| CX.seq <| CX.region <| LX.call (first_c hS) Vd.en4 rfl rfl rfl rfl rfl ?_
  intro _
  refine LX.pure (Y.assign rfl) rfl rfl rfl <| LX.sub (l' := [(0, _), (2, _), (3, _)]) ⟨rfl, rfl, rfl, trivial⟩ <| LX.next <| PX.thenN <| CX.seq <| CX.seq <| CX.region <| LX.pure (Y.move rfl) rfl rfl rfl <| LX.pure (Y.not rfl) rfl rfl rfl <| LX.sub (l' := [(0, _), (2, _), (3, _), (11, _)]) ⟨rfl, rfl, rfl, rfl, trivial⟩ <| LX.next <| PX.thenN ?_
  refine CX.cond rfl (fun hb1 => ?_) (fun hb1 => ?_)
  · try simp at hb1
    done
  try simp at hb1
  refine CX.skip <| PX.thenN <| CX.seq <| CX.seq <| CX.region <| LX.pure (Y.move rfl) rfl rfl rfl <| LX.pure (Y.lenStr rfl Fy.un9 rfl) rfl rfl rfl <| LX.pure (Y.gtN rfl rfl) rfl rfl rfl <| LX.pure (Y.move rfl) rfl rfl rfl <| LX.sub (l' := [(0, _), (2, _), (3, _), (15, _)]) ⟨rfl, rfl, rfl, rfl, trivial⟩ ?_
  apply LX.joinOr 3 18 15 rfl
  · intro hb2
    (exfalso; simp at hb2; omega)
  · intro hb2
    have hb2p := hb2
    try simp at hb2p
    refine LX.gT rfl rfl rfl hb2 (Y.move rfl) rfl rfl <| LX.gT rfl rfl rfl hb2 (Y.not rfl) rfl rfl <| LX.pure (Y.pickF rfl hb2 rfl) rfl rfl rfl ?_
    exact LX.left ⟨rfl, rfl, rfl, rfl, rfl, trivial⟩
  refine LX.sub (l' := [(0, _), (2, _), (3, _), (18, _)]) ⟨rfl, rfl, rfl, rfl, trivial⟩ <| LX.next <| PX.thenN ?_
  refine CX.cond rfl (fun hb3 => ?_) (fun hb3 => ?_)
  · try simp at hb3
    (exfalso; omega)
  try simp at hb3
  refine CX.skip <| PX.thenN <| CX.seq <| CX.region <| LX.pure (Y.move rfl) rfl rfl rfl <| LX.pure (Y.addS rfl rfl (by simp only [List.length_append, List.length_cons, List.length_nil]; omega)) rfl rfl rfl <| LX.call (parse_bad hS (by simp; omega) hp) Vc.en5 rfl rfl rfl rfl rfl ?_
  intro ax
  refine LX.pure (Y.move rfl) rfl rfl rfl <| LX.pure (Y.extract rfl rfl) rfl rfl rfl <| LX.pure (Y.extract rfl rfl) rfl rfl rfl <| LX.pure (Y.assign rfl) rfl rfl rfl <| LX.pure (Y.assign rfl) rfl rfl rfl <| LX.sub (l' := [(0, _), (2, _), (4, _), (5, _)]) ⟨rfl, rfl, rfl, rfl, trivial⟩ <| LX.next <| PX.thenN <| CX.seq <| CX.seq <| CX.region <| LX.pure (Y.move rfl) rfl rfl rfl <| LX.pure (Y.neNil Qg_.un25 rfl rfl) rfl rfl rfl <| LX.sub (l' := [(0, _), (2, _), (4, _), (27, _)]) ⟨rfl, rfl, rfl, rfl, trivial⟩ <| LX.next <| PX.thenN ?_
  refine CX.cond rfl (fun hb4 => ?_) (fun hb4 => ?_)
  · try simp at hb4
    refine CX.seq <| CX.region <| LX.pure (Y.assign rfl) rfl rfl rfl <| LX.sub (l' := [(0, _), (2, _), (4, _)]) ⟨rfl, rfl, rfl, trivial⟩ <| LX.next <| PX.thenN <| CX.ret <| PX.thenR <| PX.ret1 (by simp) Tryd.results3 rfl ?_
    exact fun w hw => ⟨(), rfl, hw.drop (List.sublist_cons_self _ _)⟩
  try simp at hb4
  done
theorem law_long {w0 : World} {base : Nat} {fr : List It} {aE : Nat → Addr} (hS : EnvS w0 base aE) {s : List UInt8} (hlen : 1000 < s.length) : FnC Tryd.prog 3 #[str s] (WA w0 base fr) (fun _ : Unit => .bool true) (fun _ => WA w0 base fr) := by
  refine FnC.of_body (fn := Tryd.f3) [(0, _)] Tryd.func3 rfl Tryd.ntmps3 rfl ⟨rfl, trivial⟩ ?_
  refine CX.seq <| CX.region <| LX.pure (Y.assign rfl) rfl rfl rfl <| LX.sub (l' := [(0, _), (2, _)]) ⟨rfl, rfl, trivial⟩ <| LX.next <| PX.thenN <| CX.seq <| CX.region <| LX.call (first_c hS) Vd.en4 rfl rfl rfl rfl rfl ?_
  intro _
  refine LX.pure (Y.assign rfl) rfl rfl rfl <| LX.sub (l' := [(0, _), (2, _), (3, _)]) ⟨rfl, rfl, rfl, trivial⟩ <| LX.next <| PX.thenN <| CX.seq <| CX.seq <| CX.region <| LX.pure (Y.move rfl) rfl rfl rfl <| LX.pure (Y.not rfl) rfl rfl rfl <| LX.sub (l' := [(0, _), (2, _), (3, _), (11, _)]) ⟨rfl, rfl, rfl, rfl, trivial⟩ <| LX.next <| PX.thenN ?_
  refine CX.cond rfl (fun hb1 => ?_) (fun hb1 => ?_)
  · try simp at hb1
    done
  try simp at hb1
  refine CX.skip <| PX.thenN <| CX.seq <| CX.seq <| CX.region <| LX.pure (Y.move rfl) rfl rfl rfl <| LX.pure (Y.lenStr rfl Fy.un9 rfl) rfl rfl rfl <| LX.pure (Y.gtN rfl rfl) rfl rfl rfl <| LX.pure (Y.move rfl) rfl rfl rfl <| LX.sub (l' := [(0, _), (2, _), (3, _), (15, _)]) ⟨rfl, rfl, rfl, rfl, trivial⟩ ?_
  apply LX.joinOr 3 18 15 (y := false) rfl
  · intro hb2
    have hb2p := hb2
    try simp at hb2p
    refine LX.gF rfl rfl rfl hb2 rfl rfl <| LX.gF rfl rfl rfl hb2 rfl rfl <| LX.pure (Y.pickT rfl hb2 rfl) rfl rfl rfl ?_
    exact LX.left ⟨rfl, rfl, rfl, rfl, rfl, trivial⟩
  · intro hb2
    (exfalso; simp at hb2; omega)
  refine LX.sub (l' := [(0, _), (2, _), (3, _), (18, _)]) ⟨rfl, rfl, rfl, rfl, trivial⟩ <| LX.next <| PX.thenN ?_
  refine CX.cond rfl (fun hb3 => ?_) (fun hb3 => ?_)
  · try simp at hb3
    refine CX.seq <| CX.region <| LX.pure (Y.move rfl) rfl rfl rfl <| LX.pure (Y.assign rfl) rfl rfl rfl <| LX.sub (l' := [(0, _), (2, _)]) ⟨rfl, rfl, trivial⟩ <| LX.next <| PX.thenN <| CX.ret <| PX.thenR <| PX.ret1 (by simp) Tryd.results3 rfl ?_
    exact fun w hw => ⟨(), rfl, hw⟩
  try simp at hb3
  (exfalso; omega)
theorem law_c {w0 : World} {base : Nat} {fr : List It} {aE : Nat → Addr} (hS : EnvS w0 base aE) (s : List UInt8) : FnC Tryd.prog 3 #[str s] (WA w0 base fr) (fun _ : Unit => .bool true) (fun _ => WA w0 base fr) := by
  by_cases hlen : 1000 < s.length
  · exact law_long hS hlen
  rcases parse_cases (s ++ [10]) (by simp; omega) with ⟨p, _, h2⟩ | ⟨ts, _, hT, ⟨p, l, _, h2⟩ | ⟨s', _, h2, hv, hn, hx⟩⟩
  · exact law_bad hS hlen h2
  · exact law_bad hS hlen h2
  have hl := hT.len
  rw [List.length_map] at hl
  obtain ⟨m, hm, ⟨e1, e2⟩ | ⟨e1, e2⟩⟩ := Go.Pa.Bh.behind_ok (by omega) h2
  · exact law_ok hS hlen h2 hm (by omega) e1 e2 (fun x hm => by have := (hx x hm).2.2; omega)
  · exact law_two hS hlen h2 hm (by omega) e1 e2
end Go.Proofs.YtfbenelagdcdgaaDoor
