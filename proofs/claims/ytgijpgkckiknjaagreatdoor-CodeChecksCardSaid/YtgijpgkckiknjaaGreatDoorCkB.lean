/-
  Proved here: the ways on from an instruction.
-/
import Derived.Test.YtgijpgkckiknjaaGreatDoorCkA
namespace Go.Proofs.YtgijpgkckiknjaaGreatDoor
open Go.SX Go.RowKit Go.Ck
namespace Fl
theorem ag187 : AggT Tryz.prog 187 2 := AggT.of (by kernel_rfl) (by kernel_rfl)
theorem en113 : Enters Tryz.prog 113 := Enters.of Tryz.func113 (by kernel_rfl) (by kernel_rfl)
theorem en23 : Enters Tryz.prog 23 := Enters.of Tryz.func23 (by kernel_rfl) (by kernel_rfl)
theorem fa187_0 : FieldOffA Tryz.prog 187 0 0 := fun a w => by kernel_rfl
theorem fa187_1 : FieldOffA Tryz.prog 187 1 1 := fun a w => by kernel_rfl
theorem fa51_2 : FieldOffA Tryz.prog 51 2 2 := fun a w => by kernel_rfl
theorem fo187_0 : FieldOff Tryz.prog 187 0 0 := fun b o w => by kernel_rfl
theorem fo187_1 : FieldOff Tryz.prog 187 1 1 := fun b o w => by kernel_rfl
theorem fo51_2 : FieldOff Tryz.prog 51 2 2 := fun b o w => by kernel_rfl
theorem sz187 : SizeIs Tryz.prog 187 2 := fun w => by kernel_rfl
theorem sz51 : SizeIs Tryz.prog 51 6 := fun w => by kernel_rfl
theorem sz53 : SizeIs Tryz.prog 53 4 := fun w => by kernel_rfl
theorem un188 : Tryz.prog.underlying 188 = some (.slice 187) := by kernel_rfl
theorem un42 : Tryz.prog.underlying 42 = some (.slice 3) := by kernel_rfl
theorem zv187 : ∀ w, (zeroValue 187).run Tryz.prog w = .ok (.agg #[.int .i64 0, .int .i64 0]) w := fun w => by kernel_rfl
theorem zv53 : ∀ w, (zeroValue 53).run Tryz.prog w = .ok (.agg #[.int .i64 0, .int .i64 0, .int .i64 0, .int .i64 0]) w := fun w => by kernel_rfl
theorem el188 : Elem Tryz.prog 188 187 2 16 := Elem.of un188 (z := .agg #[.int .i64 0, .int .i64 0]) (by kernel_rfl) rfl
theorem el42 : Elem Tryz.prog 42 3 1 8 := Elem.of un42 (z := .int .i64 0) (by kernel_rfl) rfl
end Fl
theorem from_c {w0 : World} {base : Nat} {fr : List It} {X : Cx} {p : Pg} {f : Fc} (hX : CkAt (Lies w0 base) X p f) (hg : ∀ g ∈ p.funcs, 0 ≤ g.given) (hl : p.consts.length ≤ 1048576 ∧ p.globals.length ≤ 1048576 ∧ p.names.length ≤ 1048576 ∧ p.funcs.length ≤ 1048576 ∧ f.code.length ≤ 1048576 ∧ f.slots ≤ 1048576) (bc k : Nat) {h : Int} (hh : 0 ≤ h ∧ h ≤ 1099511627776) {i : Ins} (hi : f.code[k]? = some i) (hfit : fits p f i) : FnC Tryz.prog 113 #[.pointer (some ⟨bc, 0, none⟩), .agg #[.int .i64 (k : Int), .int .i64 h]] (WA w0 base (blk bc (X.all p f) 115 :: fr)) (fun g : Option Nat => .tuple #[rv g ((steps p i k h).getD []).length ((steps p i k h).getD []).length, .bool (steps p i k h).isSome]) (fun g => WA w0 base (.row g ((steps p i k h).getD []).length ((steps p i k h).getD []).length 187 2 (((steps p i k h).getD []).flatMap wy) :: blk bc (X.all p f) 115 :: fr)) := by
  obtain ⟨a, cs, hav, hcl, hL, rfl, hin1, hin2, hin3, hin4⟩ := hX.hD k i hi
  have hk : k < f.code.length := (List.getElem?_eq_some_iff.1 hi).1
  have hab := fits_a hfit hl
  have hbb := fits_b hfit
  have hpt := eff_le hfit
  have hptn := (eff_nn i).2
  have htn := takes_nn hg i
  refine FnC.of_body (fn := Tryz.f113) [(0, _), (1, _)] Tryz.func113 rfl Tryz.ntmps113 rfl ⟨rfl, rfl, trivial⟩ ?_
  refine CX.seq ?_
  refine CX.region ?_
  refine LX.box rfl rfl rfl rfl rfl ?_
  intro bx0
  refine LX.pure (Y.assign rfl) rfl rfl rfl ?_
  refine LX.pure (Y.assign rfl) rfl rfl rfl ?_
  refine LX.sub (l' := [(0, _), (3, _), (4, _), (5, _)]) ⟨rfl, rfl, rfl, rfl, trivial⟩ ?_
  refine LX.next ?_
  refine PX.thenN ?_
  refine CX.seq ?_
  refine CX.regionM [(0, .anywhere), (1, .anywhere), (2, .anywhere), (3, .anywhere), (4, .held), (5, .anywhere), (6, .held), (7, .held), (8, .held), (9, .alone), (10, .alone)] rfl (by kernel_rfl) ?_
  refine MX.lift0 (i := 0) rfl (Y.move rfl) rfl rfl rfl ?_
  refine MX.lift0 (i := 1) rfl (Y.nilCheck rfl) rfl rfl rfl ?_
  refine MX.lift0 (i := 2) rfl (Y.fieldAddr0 Fk.fo115_1 rfl) rfl rfl rfl ?_
  refine MX.lift0 (i := 3) rfl (Y.fieldAddr Fk.fo51_5 rfl) rfl rfl rfl ?_
  refine MX.lift1 (i := 4) (pend' := []) rfl (fun w hw => by exact hw) (Y.ldB 1 Fk.one49 rfl rfl rfl) rfl rfl rfl (by kernel_rfl) ?_
  refine MX.lift0 (i := 5) rfl (Y.fieldAddr0 Fl.fo187_0 rfl) rfl rfl rfl ?_
  refine MX.lift1 (i := 6) (pend' := [4]) rfl (fun w hw => by exact hw) (Y.ldB 0 Fk.one3 rfl rfl rfl) rfl rfl rfl (by kernel_rfl) ?_
  refine MX.lift1 (i := 7) (pend' := []) rfl (fun w hw => by exact hw) (Y.idxZ Fk.un49 Fl.sz53 rfl rfl hav (j := k) rfl hk) rfl rfl rfl (by kernel_rfl) ?_
  refine MX.lift1 (i := 8) (pend' := []) rfl (fun w hw => by exact hw) (Y.ldAO (cs := insCs i) Fk.ag53 rfl hL rfl) rfl rfl rfl (by kernel_rfl) ?_
  refine MX.force (i := 9) rfl ?_
  refine LX.alloc rfl Fl.zv53 rfl rfl rfl ?_
  intro bx12
  refine LX.nextM [8] (by kernel_rfl) (fun _ => (fun w hw => by exact hw.drop (List.sublist_cons_self _ _))) ?_
  refine MX.force (i := 10) rfl ?_
  refine LX.storeA 0 Fk.ag53 rfl rfl rfl rfl rfl rfl rfl rfl rfl ?_
  refine LX.nextM [] (by kernel_rfl) (fun h => absurd rfl h) ?_
  refine MX.sub (l' := [(0, _), (3, _), (4, _), (5, _), (6, _)]) ⟨rfl, rfl, rfl, rfl, rfl, trivial⟩ ?_
  refine MX.done ?_
  refine PX.thenN ?_
  refine CX.seq ?_
  refine CX.region ?_
  refine LX.pure (Y.ldAggB (vs := insCs i) 0 Fk.ag53 rfl rfl rfl rfl) rfl rfl rfl ?_
  refine LX.call (Effect_c (by omega) (by omega)) Fl.en23 rfl rfl rfl rfl rfl ?_
  intro _
  refine LX.pure (Y.move rfl) rfl rfl rfl ?_
  refine LX.pure (Y.extract rfl rfl) rfl rfl rfl ?_
  refine LX.pure (Y.extract rfl rfl) rfl rfl rfl ?_
  refine LX.pure (Y.assign rfl) rfl rfl rfl ?_
  refine LX.pure (Y.assign rfl) rfl rfl rfl ?_
  refine LX.sub (l' := [(0, _), (3, _), (4, _), (5, _), (6, _), (7, _), (8, _)]) ⟨rfl, rfl, rfl, rfl, rfl, rfl, rfl, trivial⟩ ?_
  refine LX.next ?_
  refine PX.thenN ?_
  refine CX.seqV (l0 := [(3, _), (4, _), (5, _), (6, _), (8, _)]) 7 (.int .i64 (takes p i)) ⟨rfl, rfl, rfl, rfl, rfl, trivial⟩ ?_ ?_
  ·
    refine CX.seq ?_
    refine CX.region ?_
    refine LX.pure (Y.fieldAddr0 Fk.fo53_0 rfl) rfl rfl rfl ?_
    refine LX.pure (Y.ldB 0 Fk.one3 rfl rfl rfl) rfl rfl rfl ?_
    refine LX.pure (Y.eqI rfl rfl) rfl rfl rfl ?_
    refine LX.sub (l' := [(0, _), (3, _), (4, _), (5, _), (6, _), (7, _), (8, _), (27, _)]) ⟨rfl, rfl, rfl, rfl, rfl, rfl, rfl, rfl, trivial⟩ ?_
    refine LX.next ?_
    refine PX.thenN ?_
    refine CX.cond rfl (fun hb1 => ?_) (fun hb1 => ?_)
    · try simp at hb1
      refine CX.regionQ rfl (by kernel_rfl) ?_
      refine LX.pure (Y.move rfl) rfl rfl rfl ?_
      refine LX.pure (Y.nilCheck rfl) rfl rfl rfl ?_
      refine LX.pure (Y.fieldAddr0 Fk.fo115_0 rfl) rfl rfl rfl ?_
      refine LX.pure (Y.fieldAddr0 Fk.fo28_0 rfl) rfl rfl rfl ?_
      refine LX.pure (Y.ldB 2 Fk.one25 rfl rfl rfl) rfl rfl rfl ?_
      refine LX.pure (Y.fieldAddr0 Fk.fo53_1 rfl) rfl rfl rfl ?_
      refine LX.pure (Y.ldB 0 Fk.one3 rfl rfl rfl) rfl rfl rfl ?_
      have h28 := fits_28 hfit hb1
      obtain ⟨g, hgx⟩ : ∃ g, p.funcs[i.a.toNat]? = some g := ⟨_, List.getElem?_eq_getElem (by omega)⟩
      obtain ⟨a2, cs2, hav2, _, hL2, vn, vc, rfl, _⟩ := hX.hF _ g hgx
      refine LX.pure (Y.idxZ Fk.un25 Fl.sz51 rfl rfl hav2 (j := i.a.toNat) (by omega) (by omega)) rfl rfl rfl ?_
      refine LX.pure (Y.fieldA Fl.fa51_2 rfl) rfl rfl rfl ?_
      refine LX.pure (Y.ldFO (v := .int .i64 g.given) Fk.one3 rfl hL2 rfl) rfl rfl rfl ?_
      refine LX.pure (Y.assign rfl) rfl rfl rfl ?_
      refine LX.sub (l' := [(3, _), (4, _), (5, _), (6, _), (7, _), (8, _)]) ⟨rfl, rfl, rfl, rfl, rfl, rfl, trivial⟩ ?_
      refine LX.nextQ ?_
      exact PX.val ⟨congrArg (fun z => some (Value.int .i64 z)) (show g.given = takes p i from by unfold takes; rw [if_pos hb1, hgx]; rfl), rfl, rfl, rfl, rfl, rfl, trivial⟩
    · try simp at hb1
      refine CX.skip ?_
      exact PX.val ⟨congrArg (fun z => some (Value.int .i64 z)) (show tk i = takes p i from by unfold takes; rw [if_neg hb1]), rfl, rfl, rfl, rfl, rfl, trivial⟩
  refine CX.seq ?_
  refine CX.seq ?_
  refine CX.region ?_
  refine LX.pure (Y.fieldAddr0 Fl.fo187_1 rfl) rfl rfl rfl ?_
  refine LX.pure (Y.ldB 1 Fk.one3 rfl rfl rfl) rfl rfl rfl ?_
  refine LX.pure (Y.move rfl) rfl rfl rfl ?_
  refine LX.pure (Y.ltI rfl rfl) rfl rfl rfl ?_
  refine LX.pure (Y.move rfl) rfl rfl rfl ?_
  refine LX.sub (l' := [(3, _), (4, _), (5, _), (6, _), (7, _), (8, _), (42, _)]) ⟨rfl, rfl, rfl, rfl, rfl, rfl, rfl, trivial⟩ ?_
  apply LX.joinOr 12 54 42 rfl
  · intro hb2
    have hb2p := hb2
    try simp at hb2p
    refine LX.gF rfl rfl rfl hb2 rfl rfl ?_
    refine LX.gF rfl rfl rfl hb2 rfl rfl ?_
    refine LX.gF rfl rfl rfl hb2 rfl rfl ?_
    refine LX.gF rfl rfl rfl hb2 rfl rfl ?_
    refine LX.gU rfl rfl rfl rfl rfl ?_
    refine LX.gU rfl rfl rfl rfl rfl ?_
    refine LX.gU rfl rfl rfl rfl rfl ?_
    refine LX.gU rfl rfl rfl rfl rfl ?_
    refine LX.gU rfl rfl rfl rfl rfl ?_
    refine LX.gU rfl rfl rfl rfl rfl ?_
    refine LX.gF rfl rfl rfl hb2 rfl rfl ?_
    refine LX.pure (Y.pickT rfl hb2 rfl) rfl rfl rfl ?_
    exact LX.left ⟨rfl, rfl, rfl, rfl, rfl, rfl, rfl, rfl, trivial⟩
  · intro hb2
    have hb2p := hb2
    try simp at hb2p
    refine LX.gT rfl rfl rfl hb2 (Y.fieldAddr0 Fk.fo53_0 rfl) rfl rfl ?_
    refine LX.gT rfl rfl rfl hb2 (Y.ldB 0 Fk.one3 rfl rfl rfl) rfl rfl ?_
    refine LX.gT rfl rfl rfl hb2 (Y.eqI rfl rfl) rfl rfl ?_
    refine LX.gT rfl rfl rfl hb2 (Y.move rfl) rfl rfl ?_
    refine LX.sub (l' := [(3, _), (4, _), (5, _), (6, _), (7, _), (8, _), (42, _), (46, _)]) ⟨rfl, rfl, rfl, rfl, rfl, rfl, rfl, rfl, trivial⟩ ?_
    apply LX.joinAnd 7 53 46 rfl
    · intro hb3
      have hb3p := hb3
      try simp at hb3p
      refine LX.gT rfl rfl rfl hb3 (Y.fieldAddr0 Fl.fo187_1 rfl) rfl rfl ?_
      refine LX.gT rfl rfl rfl hb3 (Y.ldB 1 Fk.one3 rfl rfl rfl) rfl rfl ?_
      refine LX.gT rfl rfl rfl hb3 (Y.fieldAddr0 Fk.fo53_2 rfl) rfl rfl ?_
      refine LX.gT rfl rfl rfl hb3 (Y.ldB 0 Fk.one3 rfl rfl rfl) rfl rfl ?_
      refine LX.gT rfl rfl rfl hb3 (Y.add rfl rfl (by omega)) rfl rfl ?_
      refine LX.gT rfl rfl rfl hb3 (Y.ltI rfl rfl) rfl rfl ?_
      refine LX.gT rfl rfl rfl hb2 (Y.pickT rfl hb3 rfl) rfl rfl ?_
      exact LX.left ⟨rfl, rfl, rfl, rfl, rfl, rfl, rfl, rfl, rfl, trivial⟩
    · intro hb3
      have hb3p := hb3
      try simp at hb3p
      refine LX.gF rfl rfl rfl hb3 rfl rfl ?_
      refine LX.gF rfl rfl rfl hb3 rfl rfl ?_
      refine LX.gF rfl rfl rfl hb3 rfl rfl ?_
      refine LX.gF rfl rfl rfl hb3 rfl rfl ?_
      refine LX.gF rfl rfl rfl hb3 rfl rfl ?_
      refine LX.gF rfl rfl rfl hb3 rfl rfl ?_
      refine LX.gT rfl rfl rfl hb2 (Y.pickF rfl hb3 rfl) rfl rfl ?_
      exact LX.left ⟨rfl, rfl, rfl, rfl, rfl, rfl, rfl, rfl, rfl, trivial⟩
    refine LX.pure (Y.pickF rfl hb2 rfl) rfl rfl rfl ?_
    exact LX.left ⟨rfl, rfl, rfl, rfl, rfl, rfl, rfl, rfl, trivial⟩
  refine LX.sub (l' := [(3, _), (4, _), (5, _), (6, _), (7, _), (8, _), (54, _)]) ⟨rfl, rfl, rfl, rfl, rfl, rfl, rfl, trivial⟩ ?_
  refine LX.next ?_
  refine PX.thenN ?_
  refine CX.cond rfl (fun hb4 => ?_) (fun hb4 => ?_)
  · try simp at hb4
    refine CX.seq ?_
    refine CX.region ?_
    refine LX.pure (Y.assign rfl) rfl rfl rfl ?_
    refine LX.pure (Y.assign rfl) rfl rfl rfl ?_
    refine LX.sub (l' := [(3, _), (4, _), (5, _), (6, _), (7, _), (8, _)]) ⟨rfl, rfl, rfl, rfl, rfl, rfl, trivial⟩ ?_
    refine LX.next ?_
    refine PX.thenN ?_
    refine CX.ret ?_
    refine PX.thenR ?_
    refine PX.ret2 (by simp) Tryz.results113 rfl rfl ?_
    have hst : steps p i k h = none := by
      unfold steps
      rw [if_pos (by omega)]
    exact fun w hw => ⟨none, by rw [hst]; rfl, by rw [hst]; exact (hw.drop (.cons _ (.cons _ (List.Sublist.refl _)))).nilRow 187 2⟩
  · try simp at hb4
    refine CX.skip ?_
    refine PX.thenN ?_
    refine CX.seq ?_
    refine CX.region ?_
    refine LX.pure (Y.fieldAddr0 Fl.fo187_0 rfl) rfl rfl rfl ?_
    refine LX.pure (Y.ldB 1 Fk.one3 rfl rfl rfl) rfl rfl rfl ?_
    refine LX.pure (Y.addN rfl rfl (by simp only []; omega)) rfl rfl rfl ?_
    refine LX.pure (Y.fieldAddr0 Fl.fo187_1 rfl) rfl rfl rfl ?_
    refine LX.pure (Y.ldB 1 Fk.one3 rfl rfl rfl) rfl rfl rfl ?_
    refine LX.pure (Y.move rfl) rfl rfl rfl ?_
    refine LX.pure (Y.sub rfl rfl (by omega)) rfl rfl rfl ?_
    refine LX.pure (Y.move rfl) rfl rfl rfl ?_
    refine LX.pure (Y.add rfl rfl (by omega)) rfl rfl rfl ?_
    refine LX.pure (Y.build (v := .agg #[.int .i64 ((k + 1 : Nat) : Int), .int .i64 (h - takes p i + pt i)]) rfl (fun _ => by kernel_rfl)) rfl rfl rfl ?_
    refine LX.alloc rfl Fl.zv187 rfl rfl rfl ?_
    intro bx66
    refine LX.storeA 0 Fl.ag187 rfl rfl rfl rfl rfl rfl rfl rfl rfl ?_
    refine LX.sub (l' := [(4, _), (5, _), (6, _), (9, _)]) ⟨rfl, rfl, rfl, rfl, trivial⟩ ?_
    refine LX.next ?_
    refine PX.thenN ?_
    refine CX.seq ?_
    refine CX.region ?_
    refine LX.pure (Y.fieldAddr0 Fk.fo53_1 rfl) rfl rfl rfl ?_
    refine LX.pure (Y.ldB 1 Fk.one3 rfl rfl rfl) rfl rfl rfl ?_
    refine LX.pure (Y.fieldAddr0 Fl.fo187_1 rfl) rfl rfl rfl ?_
    refine LX.pure (Y.ldB 0 Fk.one3 rfl rfl rfl) rfl rfl rfl ?_
    refine LX.pure (Y.build (v := .agg #[.int .i64 i.a, .int .i64 (h - takes p i + pt i)]) rfl (fun _ => by kernel_rfl)) rfl rfl rfl ?_
    refine LX.alloc rfl Fl.zv187 rfl rfl rfl ?_
    intro bx73
    refine LX.storeA 0 Fl.ag187 rfl rfl rfl rfl rfl rfl rfl rfl rfl ?_
    refine LX.sub (l' := [(4, _), (5, _), (6, _), (9, _), (10, _)]) ⟨rfl, rfl, rfl, rfl, rfl, trivial⟩ ?_
    refine LX.next ?_
    refine PX.thenN ?_
    refine CX.seq ?_
    refine CX.seq ?_
    refine CX.region ?_
    refine LX.pure (Y.fieldAddr0 Fk.fo53_0 rfl) rfl rfl rfl ?_
    refine LX.pure (Y.ldB 2 Fk.one3 rfl rfl rfl) rfl rfl rfl ?_
    refine LX.sub (l' := [(4, _), (5, _), (9, _), (10, _), (71, _)]) ⟨rfl, rfl, rfl, rfl, rfl, trivial⟩ ?_
    refine LX.next ?_
    refine PX.thenN ?_
    refine CX.block ?_
    refine CX.seq ?_
    refine CX.block ?_
    refine CX.seq ?_
    refine CX.block ?_
    refine CX.seq ?_
    refine CX.block ?_
    refine CX.seq ?_
    refine CX.block ?_
    refine CX.seq ?_
    refine CX.block ?_
    refine CX.seq ?_
    refine CX.seq ?_
    refine CX.seq ?_
    refine CX.region ?_
    refine LX.pure (Y.eqI rfl rfl) rfl rfl rfl ?_
    refine LX.pure (Y.assign rfl) rfl rfl rfl ?_
    refine LX.sub (l' := [(4, _), (5, _), (9, _), (10, _), (71, _), (72, _)]) ⟨rfl, rfl, rfl, rfl, rfl, rfl, trivial⟩ ?_
    refine LX.next ?_
    refine PX.thenN ?_
    refine CX.cond rfl (fun hb5 => ?_) (fun hb5 => ?_)
    · try simp at hb5
      refine CX.exit ?_
      refine PX.thenE ?_
      refine PX.thenE ?_
      refine PX.blockE ?_
      refine PX.thenN ?_
      refine CX.seq ?_
      refine CX.seq ?_
      refine CX.region ?_
      refine LX.pure (Y.assign rfl) rfl rfl rfl ?_
      refine LX.pure (Y.assign rfl) rfl rfl rfl ?_
      refine LX.sub (l' := [(4, _), (5, _), (9, _), (10, _)]) ⟨rfl, rfl, rfl, rfl, trivial⟩ ?_
      refine LX.next ?_
      refine PX.thenN ?_
      refine CX.ret ?_
      refine PX.thenR ?_
      refine PX.blockR ?_
      refine PX.thenR ?_
      refine PX.blockR ?_
      refine PX.thenR ?_
      refine PX.blockR ?_
      refine PX.thenR ?_
      refine PX.blockR ?_
      refine PX.thenR ?_
      refine PX.blockR ?_
      refine PX.thenR ?_
      refine PX.ret2 (by simp) Tryz.results113 rfl rfl ?_
      have hst : steps p i k h = some [] := by
        unfold steps
        rw [if_neg (by omega)]
        dsimp only
        repeat (rw [if_pos (by omega)])
      exact fun w hw => ⟨none, by rw [hst]; rfl, by rw [hst]; exact (hw.drop (.cons _ (.cons _ (.cons _ (.cons _ (List.Sublist.refl _)))))).nilRow 187 2⟩
    · try simp at hb5
      refine CX.skip ?_
      refine PX.thenN ?_
      refine CX.seq ?_
      refine CX.seq ?_
      refine CX.region ?_
      refine LX.pure (Y.eqI rfl rfl) rfl rfl rfl ?_
      refine LX.pure (Y.assign rfl) rfl rfl rfl ?_
      refine LX.sub (l' := [(4, _), (5, _), (9, _), (10, _), (71, _), (74, _)]) ⟨rfl, rfl, rfl, rfl, rfl, rfl, trivial⟩ ?_
      refine LX.next ?_
      refine PX.thenN ?_
      refine CX.cond rfl (fun hb6 => ?_) (fun hb6 => ?_)
      · try simp at hb6
        refine CX.exit ?_
        refine PX.thenE ?_
        refine PX.thenE ?_
        refine PX.blockO rfl ?_
        refine PX.thenE ?_
        refine PX.blockE ?_
        refine PX.thenN ?_
        refine CX.seq ?_
        refine CX.seq ?_
        refine CX.region ?_
        refine LX.pure (Y.ldAggB 0 Fl.ag187 rfl rfl rfl rfl) rfl rfl rfl ?_
        refine LX.buildSlice (e := 187) (size := 2) rfl rfl (fun _ => by kernel_rfl) rfl (by decide) rfl rfl rfl ?_
        intro gt84
        refine LX.pure (Y.assign rfl) rfl rfl rfl ?_
        refine LX.pure (Y.assign rfl) rfl rfl rfl ?_
        refine LX.sub (l' := [(4, _), (5, _), (9, _), (10, _)]) ⟨rfl, rfl, rfl, rfl, trivial⟩ ?_
        refine LX.next ?_
        refine PX.thenN ?_
        refine CX.ret ?_
        refine PX.thenR ?_
        refine PX.blockR ?_
        refine PX.thenR ?_
        refine PX.blockR ?_
        refine PX.thenR ?_
        refine PX.blockR ?_
        refine PX.thenR ?_
        refine PX.blockR ?_
        refine PX.thenR ?_
        refine PX.ret2 (by simp) Tryz.results113 rfl rfl ?_
        have hj := fits_jump hfit (by omega)
        have hjz : ((i.a.toNat : Nat) : Int) = i.a := by omega
        have hst : steps p i k h = some [(i.a.toNat, (h - takes p i + pt i))] := by
          unfold steps
          rw [if_neg (by omega)]
          dsimp only
          repeat (first | rw [if_pos (by omega)] | rw [if_neg (by omega)])
        exact fun w hw => ⟨some _, by rw [hst]; rfl, by rw [hst]; simp only [Option.getD_some, List.flatMap_cons, List.flatMap_nil, wy, hjz]; exact (hw.drop (.cons_cons _ (.cons _ (.cons _ (.cons _ (.cons _ (List.Sublist.refl _)))))) : WA w0 base (_ :: _ :: fr) w)⟩
      · try simp at hb6
        refine CX.skip ?_
        refine PX.thenN ?_
        refine CX.seq ?_
        refine CX.seq ?_
        refine CX.region ?_
        refine LX.pure (Y.eqI rfl rfl) rfl rfl rfl ?_
        refine LX.pure (Y.assign rfl) rfl rfl rfl ?_
        refine LX.sub (l' := [(4, _), (5, _), (9, _), (10, _), (71, _), (76, _)]) ⟨rfl, rfl, rfl, rfl, rfl, rfl, trivial⟩ ?_
        refine LX.next ?_
        refine PX.thenN ?_
        refine CX.cond rfl (fun hb7 => ?_) (fun hb7 => ?_)
        · try simp at hb7
          refine CX.exit ?_
          refine PX.thenE ?_
          refine PX.thenE ?_
          refine PX.blockO rfl ?_
          refine PX.thenE ?_
          refine PX.blockO rfl ?_
          refine PX.thenE ?_
          refine PX.blockE ?_
          refine PX.thenN ?_
          refine CX.seq ?_
          refine CX.seq ?_
          refine CX.region ?_
          refine LX.pure (Y.fieldAddr0 Fl.fo187_1 rfl) rfl rfl rfl ?_
          refine LX.pure (Y.ldB 0 Fk.one3 rfl rfl rfl) rfl rfl rfl ?_
          refine LX.pure (Y.sub rfl rfl (by omega)) rfl rfl rfl ?_
          refine LX.pure (Y.fieldAddr0 Fl.fo187_1 rfl) rfl rfl rfl ?_
          refine LX.storeB 0 Fk.sz3 rfl rfl rfl rfl rfl rfl rfl rfl ?_
          refine LX.sub (l' := [(4, _), (5, _), (9, _), (10, _)]) ⟨rfl, rfl, rfl, rfl, trivial⟩ ?_
          refine LX.next ?_
          refine PX.thenN ?_
          refine CX.seq ?_
          refine CX.region ?_
          refine LX.pure (Y.ldAggB 1 Fl.ag187 rfl rfl rfl rfl) rfl rfl rfl ?_
          refine LX.pure (Y.ldAggB 0 Fl.ag187 rfl rfl rfl rfl) rfl rfl rfl ?_
          refine LX.buildSlice (e := 187) (size := 2) rfl rfl (fun _ => by kernel_rfl) rfl (by decide) rfl rfl rfl ?_
          intro gt96
          refine LX.pure (Y.assign rfl) rfl rfl rfl ?_
          refine LX.pure (Y.assign rfl) rfl rfl rfl ?_
          refine LX.sub (l' := [(4, _), (5, _), (9, _), (10, _)]) ⟨rfl, rfl, rfl, rfl, trivial⟩ ?_
          refine LX.next ?_
          refine PX.thenN ?_
          refine CX.ret ?_
          refine PX.thenR ?_
          refine PX.blockR ?_
          refine PX.thenR ?_
          refine PX.blockR ?_
          refine PX.thenR ?_
          refine PX.blockR ?_
          refine PX.thenR ?_
          refine PX.ret2 (by simp) Tryz.results113 rfl rfl ?_
          have hj := fits_jump hfit (by omega)
          have hjz : ((i.a.toNat : Nat) : Int) = i.a := by omega
          have hst : steps p i k h = some [(k + 1, (h - takes p i + pt i)), (i.a.toNat, (h - takes p i + pt i) - 2)] := by
            unfold steps
            rw [if_neg (by omega)]
            dsimp only
            repeat (first | rw [if_pos (by omega)] | rw [if_neg (by omega)])
          exact fun w hw => ⟨some _, by rw [hst]; rfl, by rw [hst]; simp only [Option.getD_some, List.flatMap_cons, List.flatMap_nil, wy, hjz]; exact (hw.drop (.cons_cons _ (.cons _ (.cons _ (.cons _ (.cons _ (List.Sublist.refl _)))))) : WA w0 base (_ :: _ :: fr) w)⟩
        · try simp at hb7
          refine CX.skip ?_
          refine PX.thenN ?_
          refine CX.seq ?_
          refine CX.sub (l' := [(4, _), (5, _), (9, _), (10, _), (71, _)]) ⟨rfl, rfl, rfl, rfl, rfl, trivial⟩ ?_
          apply CX.seqSw 78
          ·
            refine CX.seq ?_
            refine CX.region ?_
            refine LX.pure (Y.eqI rfl rfl) rfl rfl rfl ?_
            refine LX.pure (Y.assign rfl) rfl rfl rfl ?_
            refine LX.next ?_
            refine PX.thenN ?_
            apply CX.swOr
            · rfl
            · exact ⟨rfl, rfl, rfl, rfl, rfl, rfl, trivial⟩
            intro hb8
            try simp at hb8
            refine CX.region ?_
            refine LX.pure (Y.eqI rfl rfl) rfl rfl rfl ?_
            refine LX.pure (Y.assign rfl) rfl rfl rfl ?_
            refine LX.next ?_
            exact PX.sw ⟨rfl, rfl, rfl, rfl, rfl, rfl, trivial⟩
          refine CX.cond rfl (fun hb9 => ?_) (fun hb9 => ?_)
          · try simp at hb9
            refine CX.exit ?_
            refine PX.thenE ?_
            refine PX.thenE ?_
            refine PX.blockO rfl ?_
            refine PX.thenE ?_
            refine PX.blockO rfl ?_
            refine PX.thenE ?_
            refine PX.blockO rfl ?_
            refine PX.thenE ?_
            refine PX.blockE ?_
            refine PX.thenN ?_
            refine CX.region ?_
            refine LX.pure (Y.fieldAddr0 Fl.fo187_1 rfl) rfl rfl rfl ?_
            refine LX.pure (Y.ldB 0 Fk.one3 rfl rfl rfl) rfl rfl rfl ?_
            refine LX.pure (Y.add rfl rfl (by omega)) rfl rfl rfl ?_
            refine LX.pure (Y.fieldAddr0 Fl.fo187_1 rfl) rfl rfl rfl ?_
            refine LX.storeB 0 Fk.sz3 rfl rfl rfl rfl rfl rfl rfl rfl ?_
            refine LX.sub (l' := [(4, _), (5, _), (9, _), (10, _)]) ⟨rfl, rfl, rfl, rfl, trivial⟩ ?_
            refine LX.next ?_
            refine PX.blockN ?_
            refine PX.thenN ?_
            refine CX.seq ?_
            refine CX.seq ?_
            refine CX.region ?_
            refine LX.pure (Y.ldAggB 1 Fl.ag187 rfl rfl rfl rfl) rfl rfl rfl ?_
            refine LX.pure (Y.ldAggB 0 Fl.ag187 rfl rfl rfl rfl) rfl rfl rfl ?_
            refine LX.buildSlice (e := 187) (size := 2) rfl rfl (fun _ => by kernel_rfl) rfl (by decide) rfl rfl rfl ?_
            intro gt110
            refine LX.pure (Y.assign rfl) rfl rfl rfl ?_
            refine LX.pure (Y.assign rfl) rfl rfl rfl ?_
            refine LX.sub (l' := [(4, _), (5, _), (9, _)]) ⟨rfl, rfl, rfl, trivial⟩ ?_
            refine LX.next ?_
            refine PX.thenN ?_
            refine CX.ret ?_
            refine PX.thenR ?_
            refine PX.blockR ?_
            refine PX.thenR ?_
            refine PX.ret2 (by simp) Tryz.results113 rfl rfl ?_
            have hj := fits_jump hfit (by omega)
            have hjz : ((i.a.toNat : Nat) : Int) = i.a := by omega
            have hst : steps p i k h = some [(k + 1, (h - takes p i + pt i)), (i.a.toNat, (h - takes p i + pt i) + 1)] := by
              unfold steps
              rw [if_neg (by omega)]
              dsimp only
              repeat (first | rw [if_pos (by omega)] | rw [if_neg (by omega)])
            exact fun w hw => ⟨some _, by rw [hst]; rfl, by rw [hst]; simp only [Option.getD_some, List.flatMap_cons, List.flatMap_nil, wy, hjz]; exact (hw.drop (.cons_cons _ (.cons _ (.cons _ (.cons _ (.cons _ (List.Sublist.refl _)))))) : WA w0 base (_ :: _ :: fr) w)⟩
          · try simp at hb9
            refine CX.skip ?_
            refine PX.thenN ?_
            refine CX.seq ?_
            refine CX.region ?_
            refine LX.pure (Y.eqI rfl rfl) rfl rfl rfl ?_
            refine LX.pure (Y.assign rfl) rfl rfl rfl ?_
            refine LX.sub (l' := [(4, _), (5, _), (9, _), (10, _), (81, _)]) ⟨rfl, rfl, rfl, rfl, rfl, trivial⟩ ?_
            refine LX.next ?_
            refine PX.thenN ?_
            refine CX.cond rfl (fun hb10 => ?_) (fun hb10 => ?_)
            · try simp at hb10
              refine CX.exit ?_
              refine PX.thenE ?_
              refine PX.blockO rfl ?_
              refine PX.thenE ?_
              refine PX.blockO rfl ?_
              refine PX.thenE ?_
              refine PX.blockO rfl ?_
              refine PX.thenE ?_
              refine PX.blockO rfl ?_
              refine PX.thenE ?_
              refine PX.blockE ?_
              refine PX.thenN ?_
              refine CX.seq ?_
              refine CX.seq ?_
              refine CX.region ?_
              refine LX.pure (Y.ldAggB 1 Fl.ag187 rfl rfl rfl rfl) rfl rfl rfl ?_
              refine LX.pure (Y.ldAggB 0 Fl.ag187 rfl rfl rfl rfl) rfl rfl rfl ?_
              refine LX.buildSlice (e := 187) (size := 2) rfl rfl (fun _ => by kernel_rfl) rfl (by decide) rfl rfl rfl ?_
              intro gt117
              refine LX.pure (Y.assign rfl) rfl rfl rfl ?_
              refine LX.pure (Y.assign rfl) rfl rfl rfl ?_
              refine LX.sub (l' := [(4, _), (5, _), (9, _)]) ⟨rfl, rfl, rfl, trivial⟩ ?_
              refine LX.next ?_
              refine PX.thenN ?_
              refine CX.ret ?_
              refine PX.thenR ?_
              refine PX.blockR ?_
              refine PX.thenR ?_
              refine PX.ret2 (by simp) Tryz.results113 rfl rfl ?_
              have hj := fits_jump hfit (by omega)
              have hjz : ((i.a.toNat : Nat) : Int) = i.a := by omega
              have hst : steps p i k h = some [(k + 1, (h - takes p i + pt i)), (i.a.toNat, (h - takes p i + pt i))] := by
                unfold steps
                rw [if_neg (by omega)]
                dsimp only
                repeat (first | rw [if_pos (by omega)] | rw [if_neg (by omega)])
              exact fun w hw => ⟨some _, by rw [hst]; rfl, by rw [hst]; simp only [Option.getD_some, List.flatMap_cons, List.flatMap_nil, wy, hjz]; exact (hw.drop (.cons_cons _ (.cons _ (.cons _ (.cons _ (.cons _ (List.Sublist.refl _)))))) : WA w0 base (_ :: _ :: fr) w)⟩
            · try simp at hb10
              refine CX.skip ?_
              refine PX.thenN ?_
              refine CX.exit ?_
              refine PX.blockO rfl ?_
              refine PX.thenE ?_
              refine PX.blockO rfl ?_
              refine PX.thenE ?_
              refine PX.blockO rfl ?_
              refine PX.thenE ?_
              refine PX.blockO rfl ?_
              refine PX.thenE ?_
              refine PX.blockO rfl ?_
              refine PX.thenE ?_
              refine PX.blockE ?_
              refine PX.thenN ?_
              refine CX.seq ?_
              refine CX.region ?_
              refine LX.pure (Y.ldAggB 1 Fl.ag187 rfl rfl rfl rfl) rfl rfl rfl ?_
              refine LX.buildSlice (e := 187) (size := 2) rfl rfl (fun _ => by kernel_rfl) rfl (by decide) rfl rfl rfl ?_
              intro gt121
              refine LX.pure (Y.assign rfl) rfl rfl rfl ?_
              refine LX.pure (Y.assign rfl) rfl rfl rfl ?_
              refine LX.sub (l' := [(4, _), (5, _)]) ⟨rfl, rfl, trivial⟩ ?_
              refine LX.next ?_
              refine PX.thenN ?_
              refine CX.ret ?_
              refine PX.ret2 (by simp) Tryz.results113 rfl rfl ?_
              have hst : steps p i k h = some [(k + 1, (h - takes p i + pt i))] := by
                unfold steps
                rw [if_neg (by omega)]
                dsimp only
                repeat (rw [if_neg (by omega)])
              exact fun w hw => ⟨some _, by rw [hst]; rfl, by rw [hst]; exact (hw.drop (.cons_cons _ (.cons _ (.cons _ (.cons _ (.cons _ (List.Sublist.refl _)))))) : WA w0 base (_ :: _ :: fr) w)⟩
theorem ways_c {w0 : World} {base : Nat} {fr : List It} {X : Cx} {p : Pg} {f : Fc} (hX : CkAt (Lies w0 base) X p f) (hg : ∀ g ∈ p.funcs, 0 ≤ g.given) (hfit : ∀ i ∈ f.code, fits p f i) (hl : p.consts.length ≤ 1048576 ∧ p.globals.length ≤ 1048576 ∧ p.names.length ≤ 1048576 ∧ p.funcs.length ≤ 1048576 ∧ f.code.length ≤ 1048576 ∧ f.slots ≤ 1048576) (hl3 : p.funcs.length ≤ 20 ∧ f.code.length ≤ 300 ∧ f.code ≠ []) (bc : Nat) : FnC Tryz.prog 51 #[.pointer (some ⟨bc, 0, none⟩)] (WA w0 base (blk bc (X.all p f) 115 :: fr)) (fun b : Bool => .bool b) (fun b w => (b = true ↔ Ck.Good p f) ∧ WA w0 base (blk bc (X.all p f) 115 :: fr) w) := by
  refine FnC.of_body (fn := Tryz.f51) [(0, _)] Tryz.func51 rfl Tryz.ntmps51 rfl ⟨rfl, trivial⟩ ?_
  refine CX.seq ?_
  refine CX.region ?_
  refine LX.pure (Y.assign rfl) rfl rfl rfl ?_
  refine LX.sub (l' := [(0, _), (2, _)]) ⟨rfl, rfl, trivial⟩ ?_
  refine LX.next ?_
  refine PX.thenN ?_
  refine CX.seq ?_
  refine CX.region ?_
  refine LX.pure (Y.move rfl) rfl rfl rfl ?_
  refine LX.pure (Y.nilCheck rfl) rfl rfl rfl ?_
  refine LX.pure (Y.fieldAddr0 Fk.fo115_1 rfl) rfl rfl rfl ?_
  refine LX.pure (Y.fieldAddr Fk.fo51_5 rfl) rfl rfl rfl ?_
  refine LX.pure (Y.ldB 0 Fk.one49 rfl rfl rfl) rfl rfl rfl ?_
  refine LX.pure (Y.lenSl rfl Fk.un49 rfl) rfl rfl rfl ?_
  refine LX.makeN (z := .int .i64 0) Fl.el42 (by kernel_rfl) rfl rfl rfl (by omega) (by omega) rfl rfl rfl ?_
  intro gb
  rw [made_iv]
  refine LX.pure (Y.assign rfl) rfl rfl rfl ?_
  refine LX.sub (l' := [(0, _), (2, _), (3, _)]) ⟨rfl, rfl, rfl, trivial⟩ ?_
  refine LX.next ?_
  refine PX.thenN ?_
  refine CX.seq ?_
  refine CX.seq ?_
  refine CX.region ?_
  refine LX.pure (Y.move rfl) rfl rfl rfl ?_
  refine LX.pure (Y.lenSl rfl Fl.un42 rfl) rfl rfl rfl ?_
  refine LX.pure (Y.move rfl) rfl rfl rfl ?_
  refine LX.sub (l' := [(0, _), (2, _), (3, _), (17, _), (18, _)]) ⟨rfl, rfl, rfl, rfl, rfl, trivial⟩ ?_
  refine LX.next ?_
  refine PX.thenN ?_
  refine CX.block ?_
  refine CX.loop (fun s : Nat × List Int => [(0, .pointer (some ⟨bc, 0, none⟩)), (3, rv (some gb) f.code.length f.code.length), (17, .int .i64 (f.code.length : Int)), (18, .int .i64 (s.1 : Int))]) (fun (s : Nat × List Int) w => (s.1 ≤ f.code.length ∧ s.2.length = f.code.length ∧ ∀ k, k < s.1 → s.2[k]? = some (-1)) ∧ WA w0 base (.row (some gb) f.code.length f.code.length 3 1 (s.2.map iv) :: blk bc (X.all p f) 115 :: fr) w) (fun s => f.code.length - s.1) (0, List.replicate f.code.length 0) ⟨rfl, rfl, rfl, rfl, trivial⟩ (fun w hw => ⟨⟨Nat.zero_le _, List.length_replicate .., fun k hk => absurd hk (Nat.not_lt_zero k)⟩, hw⟩) ?_
  rintro ⟨j, H⟩
  refine CX.have fun ⟨hj, hHl, hH⟩ => ?_
  try dsimp only at hj hHl hH ⊢
  refine CX.seq ?_
  refine CX.region ?_
  refine LX.pure (Y.ltN rfl rfl) rfl rfl rfl ?_
  refine LX.sub (l' := [(0, _), (3, _), (17, _), (18, _), (19, _)]) ⟨rfl, rfl, rfl, rfl, rfl, trivial⟩ ?_
  refine LX.next ?_
  refine PX.thenN ?_
  refine CX.seq ?_
  refine CX.cond rfl (fun hb1 => ?_) (fun hb1 => ?_)
  · try simp at hb1
    refine CX.skip ?_
    refine PX.thenN ?_
    refine CX.seq ?_
    refine CX.block ?_
    refine CX.seq ?_
    refine CX.region ?_
    refine LX.pure (Y.move rfl) rfl rfl rfl ?_
    refine LX.pure (Y.assign rfl) rfl rfl rfl ?_
    refine LX.sub (l' := [(0, _), (3, _), (4, _), (17, _), (18, _)]) ⟨rfl, rfl, rfl, rfl, rfl, trivial⟩ ?_
    refine LX.next ?_
    refine PX.thenN ?_
    refine CX.region ?_
    refine LX.pure (Y.move rfl) rfl rfl rfl ?_
    refine LX.pure (Y.move rfl) rfl rfl rfl ?_
    refine LX.pure (Y.idxR 0 Fl.un42 Fk.sz3 rfl rfl rfl (by omega)) rfl rfl rfl ?_
    refine LX.storeR 0 Fk.sz3 rfl rfl rfl rfl rfl (by rw [List.length_map]; omega) rfl rfl ?_
    refine LX.world (W' := WA w0 base (.row (some gb) f.code.length f.code.length 3 1 ((H.set j (-1)).map iv) :: blk bc (X.all p f) 115 :: fr)) (fun w hw => by have h1 := hw; rw [Nat.mul_one] at h1; rw [← iv_set]; exact h1) ?_
    refine LX.sub (l' := [(0, _), (3, _), (17, _), (18, _)]) ⟨rfl, rfl, rfl, rfl, trivial⟩ ?_
    refine LX.next ?_
    refine PX.blockN ?_
    refine PX.thenN ?_
    refine CX.region ?_
    refine LX.pure (Y.addN rfl rfl (by simp only []; omega)) rfl rfl rfl ?_
    refine LX.pure (Y.move rfl) rfl rfl rfl ?_
    refine LX.sub (l' := [(0, _), (3, _), (17, _), (18, _)]) ⟨rfl, rfl, rfl, rfl, trivial⟩ ?_
    refine LX.next ?_
    exact PX.again (L := (fun s : Nat × List Int => [(0, .pointer (some ⟨bc, 0, none⟩)), (3, rv (some gb) f.code.length f.code.length), (17, .int .i64 (f.code.length : Int)), (18, .int .i64 (s.1 : Int))])) (WW := (fun (s : Nat × List Int) w => (s.1 ≤ f.code.length ∧ s.2.length = f.code.length ∧ ∀ k, k < s.1 → s.2[k]? = some (-1)) ∧ WA w0 base (.row (some gb) f.code.length f.code.length 3 1 (s.2.map iv) :: blk bc (X.all p f) 115 :: fr) w)) (μ := fun s => f.code.length - s.1) (i := (j, H)) (j + 1, H.set j (-1)) (by show f.code.length - (j + 1) < f.code.length - j; omega) ⟨rfl, rfl, rfl, rfl, trivial⟩ (fun w hw => ⟨⟨by show j + 1 ≤ f.code.length; omega, by rw [List.length_set]; exact hHl, fun k hk => by
      by_cases e : k = j
      · subst e; exact List.getElem?_set_self (by omega)
      · rw [List.getElem?_set_ne (fun q => e q.symm)]; exact hH k (by have : k < j + 1 := hk; omega)⟩, hw⟩)
  · try simp at hb1
    have hje : j = f.code.length := by omega
    refine CX.exit ?_
    refine PX.thenE ?_
    refine PX.thenE ?_
    refine PX.blockE ?_
    refine PX.thenN ?_
    refine CX.seq ?_
    refine CX.region ?_
    refine LX.pure (Y.build (v := .agg #[.int .i64 0, .int .i64 0]) rfl (fun _ => by kernel_rfl)) rfl rfl rfl ?_
    refine LX.buildSlice (e := 187) (size := 2) rfl rfl (fun _ => by kernel_rfl) rfl (by decide) rfl rfl rfl ?_
    intro gt22
    refine LX.pure (Y.assign rfl) rfl rfl rfl ?_
    refine LX.sub (l' := [(0, _), (3, _), (5, _)]) ⟨rfl, rfl, rfl, trivial⟩ ?_
    refine LX.next ?_
    refine PX.thenN ?_
    refine CX.seq ?_
    refine CX.block ?_
    refine CX.loop (fun s : List Int × List (Nat × Int) × Nat × Option Nat × Nat => [(0, .pointer (some ⟨bc, 0, none⟩)), (3, rv (some gb) f.code.length f.code.length), (5, rv s.2.2.2.1 s.2.2.1 s.2.2.2.2)]) (fun (s : List Int × List (Nat × Int) × Nat × Option Nat × Nat) w => (InvP p f s.1 s.2.1 ∧ s.2.1.length = s.2.2.1 ∧ s.2.2.1 ≤ 2 * vis s.1 + 1) ∧ WA w0 base (.row s.2.2.2.1 s.2.2.2.2 s.2.2.1 187 2 (s.2.1.flatMap wy) :: .row (some gb) f.code.length f.code.length 3 1 (s.1.map iv) :: blk bc (X.all p f) 115 :: fr) w) (fun s => 3 * (f.code.length - vis s.1) + s.2.2.1) (List.replicate f.code.length (-1), [(0, 0)], 1, some gt22, 1) ⟨rfl, rfl, rfl, trivial⟩ (fun w hw => ⟨⟨InvP.init, rfl, by show 1 ≤ 2 * vis _ + 1; omega⟩, by rw [← all_m1 hHl (fun k hk => hH k (by omega))]; exact hw⟩) ?_
    rintro ⟨H, Wk, mw, g, cap⟩
    refine CX.have fun ⟨hinv, hmw, hmb⟩ => ?_
    try dsimp only at hinv hmw hmb ⊢
    refine CX.seq ?_
    refine CX.seq ?_
    refine CX.region ?_
    refine LX.pure (Y.move rfl) rfl rfl rfl ?_
    refine LX.pure (Y.lenSl rfl Fl.un188 rfl) rfl rfl rfl ?_
    refine LX.pure (Y.gtN rfl rfl) rfl rfl rfl ?_
    refine LX.sub (l' := [(0, _), (3, _), (5, _), (29, _)]) ⟨rfl, rfl, rfl, rfl, trivial⟩ ?_
    refine LX.next ?_
    refine PX.thenN ?_
    refine CX.cond rfl (fun hb2 => ?_) (fun hb2 => ?_)
    · try simp at hb2
      obtain ⟨q, rfl⟩ : ∃ q, mw = q + 1 := ⟨mw - 1, by omega⟩
      obtain ⟨Wk0, x, rfl, hWk0⟩ := snoc_of hmw
      have hxm : x ∈ Wk0 ++ [x] := List.mem_append_right _ (List.mem_singleton.2 rfl)
      have hxr := hinv.r2 x hxm
      have hxb := hinv.bW x hxm
      have hvl := vis_le H
      have hHl := hinv.len
      have hx2 : 0 ≤ x.2 ∧ x.2 ≤ 1099511627776 := by omega
      refine CX.skip ?_
      refine PX.thenN ?_
      refine CX.block ?_
      refine CX.seq ?_
      refine CX.region ?_
      refine LX.pure (Y.move rfl) rfl rfl rfl ?_
      refine LX.pure (Y.move rfl) rfl rfl rfl ?_
      refine LX.pure (Y.lenSl rfl Fl.un188 rfl) rfl rfl rfl ?_
      refine LX.pure (Y.subN (a := q + 1) (b := 1) rfl rfl (by omega) (by omega)) rfl rfl rfl ?_
      refine LX.pure (Y.idxR 0 Fl.un188 Fl.sz187 rfl rfl rfl (by omega)) rfl rfl rfl ?_
      refine LX.pure (Y.ldAggR 0 (vs := wy x) Fl.ag187 rfl rfl (by have h2 := (wy_snoc Wk0 x).2; rw [hWk0] at h2; exact h2) rfl) rfl rfl rfl ?_
      refine LX.alloc rfl Fl.zv187 rfl rfl rfl ?_
      intro bx33
      refine LX.storeA 0 Fl.ag187 rfl rfl rfl rfl rfl rfl rfl rfl rfl ?_
      refine LX.sub (l' := [(0, _), (3, _), (5, _), (6, _)]) ⟨rfl, rfl, rfl, rfl, trivial⟩ ?_
      refine LX.next ?_
      refine PX.thenN ?_
      refine CX.seq ?_
      refine CX.region ?_
      refine LX.pure (Y.move rfl) rfl rfl rfl ?_
      refine LX.pure (Y.move rfl) rfl rfl rfl ?_
      refine LX.pure (Y.lenSl rfl Fl.un188 rfl) rfl rfl rfl ?_
      refine LX.pure (Y.subN (a := q + 1) (b := 1) rfl rfl (by omega) (by omega)) rfl rfl rfl ?_
      refine LX.pure (Y.cutR 1 Fl.un188 Fl.sz187 rfl rfl rfl (by omega)) rfl rfl rfl ?_
      refine LX.pure (Y.assign rfl) rfl rfl rfl ?_
      refine LX.sub (l' := [(0, _), (3, _), (5, _), (6, _)]) ⟨rfl, rfl, rfl, rfl, trivial⟩ ?_
      refine LX.next ?_
      refine PX.thenN ?_
      refine CX.seq ?_
      refine CX.block ?_
      refine CX.seq ?_
      refine CX.region ?_
      refine LX.world (fun w hw => cutWy hw hWk0) ?_
      refine LX.pure (Y.fieldAddr0 Fl.fo187_0 rfl) rfl rfl rfl ?_
      refine LX.pure (Y.ldB 0 Fk.one3 rfl rfl rfl) rfl rfl rfl ?_
      refine LX.pure (Y.move rfl) rfl rfl rfl ?_
      refine LX.pure (Y.lenSl rfl Fl.un42 rfl) rfl rfl rfl ?_
      refine LX.pure (Y.geN rfl rfl) rfl rfl rfl ?_
      refine LX.pure (Y.assign rfl) rfl rfl rfl ?_
      refine LX.sub (l' := [(0, _), (3, _), (5, _), (6, _), (41, _)]) ⟨rfl, rfl, rfl, rfl, rfl, trivial⟩ ?_
      refine LX.next ?_
      refine PX.thenN ?_
      refine CX.cond rfl (fun hb3 => ?_) (fun hb3 => ?_)
      · try simp at hb3
        refine CX.seq ?_
        refine CX.region ?_
        refine LX.pure (Y.assign rfl) rfl rfl rfl ?_
        refine LX.sub (l' := [(0, _), (2, _), (3, _), (5, _), (6, _)]) ⟨rfl, rfl, rfl, rfl, rfl, trivial⟩ ?_
        refine LX.next ?_
        refine PX.thenN ?_
        refine CX.ret ?_
        refine PX.blockR ?_
        refine PX.thenR ?_
        refine PX.blockR ?_
        refine PX.thenR ?_
        refine PX.blockR ?_
        refine PX.thenR ?_
        refine PX.ret1 (by simp) Tryz.results51 rfl ?_
        have hno : ¬Ck.Good p f := fun h => h.not_far hxr (by omega)
        exact fun w hw => ⟨false, rfl, ⟨(fun e => by cases e), fun h => absurd h hno⟩, hw.drop (.cons _ (.cons _ (.cons _ (List.Sublist.refl _))))⟩
      · try simp at hb3
        have hxl : x.1 < H.length := by omega
        obtain ⟨qv, hq⟩ : ∃ qv, H[x.1]? = some qv := ⟨_, List.getElem?_eq_getElem hxl⟩
        refine CX.seq ?_
        refine CX.regionQ rfl (by kernel_rfl) ?_
        refine LX.pure (Y.move rfl) rfl rfl rfl ?_
        refine LX.pure (Y.fieldAddr0 Fl.fo187_0 rfl) rfl rfl rfl ?_
        refine LX.pure (Y.ldB 0 Fk.one3 rfl rfl rfl) rfl rfl rfl ?_
        refine LX.pure (Y.idxR 2 Fl.un42 Fk.sz3 rfl rfl rfl (by omega)) rfl rfl rfl ?_
        refine LX.pure (Y.ldR 2 (v := .int .i64 qv) Fk.one3 rfl rfl (iv_at hq)) rfl rfl rfl ?_
        refine LX.pure (Y.fieldAddr0 Fl.fo187_1 rfl) rfl rfl rfl ?_
        refine LX.pure (Y.ldB 0 Fk.one3 rfl rfl rfl) rfl rfl rfl ?_
        refine LX.pure (Y.eqI rfl rfl) rfl rfl rfl ?_
        refine LX.pure (Y.assign rfl) rfl rfl rfl ?_
        refine LX.sub (l' := [(0, _), (3, _), (5, _), (6, _), (47, _)]) ⟨rfl, rfl, rfl, rfl, rfl, trivial⟩ ?_
        refine LX.nextQ ?_
        refine PX.thenN ?_
        refine CX.cond rfl (fun hb4 => ?_) (fun hb4 => ?_)
        · try simp at hb4
          refine CX.exit ?_
          refine PX.blockO rfl ?_
          refine PX.thenE ?_
          refine PX.blockE ?_
          exact PX.again (L := (fun s : List Int × List (Nat × Int) × Nat × Option Nat × Nat => [(0, .pointer (some ⟨bc, 0, none⟩)), (3, rv (some gb) f.code.length f.code.length), (5, rv s.2.2.2.1 s.2.2.1 s.2.2.2.2)])) (WW := (fun (s : List Int × List (Nat × Int) × Nat × Option Nat × Nat) w => (InvP p f s.1 s.2.1 ∧ s.2.1.length = s.2.2.1 ∧ s.2.2.1 ≤ 2 * vis s.1 + 1) ∧ WA w0 base (.row s.2.2.2.1 s.2.2.2.2 s.2.2.1 187 2 (s.2.1.flatMap wy) :: .row (some gb) f.code.length f.code.length 3 1 (s.1.map iv) :: blk bc (X.all p f) 115 :: fr) w)) (μ := (fun s => 3 * (f.code.length - vis s.1) + s.2.2.1)) (i := (H, Wk0 ++ [x], q + 1, g, cap)) (H, Wk0, q, g, cap) (by show 3 * (f.code.length - vis H) + q < 3 * (f.code.length - vis H) + (q + 1); omega) ⟨rfl, rfl, rfl, trivial⟩ (fun w hw => ⟨⟨hinv.skip (by rw [hq]; exact congrArg some (by omega)), hWk0, by show q ≤ 2 * vis H + 1; omega⟩, hw.drop (List.sublist_cons_self _ _)⟩)
        · try simp at hb4
          refine CX.seq ?_
          refine CX.region ?_
          refine LX.pure (Y.move rfl) rfl rfl rfl ?_
          refine LX.pure (Y.fieldAddr0 Fl.fo187_0 rfl) rfl rfl rfl ?_
          refine LX.pure (Y.ldB 0 Fk.one3 rfl rfl rfl) rfl rfl rfl ?_
          refine LX.pure (Y.idxR 2 Fl.un42 Fk.sz3 rfl rfl rfl (by omega)) rfl rfl rfl ?_
          refine LX.pure (Y.ldR 2 (v := .int .i64 qv) Fk.one3 rfl rfl (iv_at hq)) rfl rfl rfl ?_
          refine LX.pure (Y.geI rfl rfl) rfl rfl rfl ?_
          refine LX.pure (Y.assign rfl) rfl rfl rfl ?_
          refine LX.sub (l' := [(0, _), (3, _), (5, _), (6, _), (56, _)]) ⟨rfl, rfl, rfl, rfl, rfl, trivial⟩ ?_
          refine LX.next ?_
          refine PX.thenN ?_
          refine CX.cond rfl (fun hb5 => ?_) (fun hb5 => ?_)
          · try simp at hb5
            refine CX.seq ?_
            refine CX.region ?_
            refine LX.pure (Y.assign rfl) rfl rfl rfl ?_
            refine LX.sub (l' := [(0, _), (2, _), (3, _), (5, _), (6, _)]) ⟨rfl, rfl, rfl, rfl, rfl, trivial⟩ ?_
            refine LX.next ?_
            refine PX.thenN ?_
            refine CX.ret ?_
            refine PX.blockR ?_
            refine PX.thenR ?_
            refine PX.blockR ?_
            refine PX.thenR ?_
            refine PX.blockR ?_
            refine PX.thenR ?_
            refine PX.ret1 (by simp) Tryz.results51 rfl ?_
            have hno : ¬Ck.Good p f := fun h => by have h1 := hinv.r1 _ _ hq (by omega); have h2 := h.one _ _ _ h1 hxr; omega
            exact fun w hw => ⟨false, rfl, ⟨(fun e => by cases e), fun h => absurd h hno⟩, hw.drop (.cons _ (.cons _ (.cons _ (List.Sublist.refl _))))⟩
          · try simp at hb5
            have hqn : qv < 0 := by omega
            obtain ⟨i, hi⟩ : ∃ i, f.code[x.1]? = some i := ⟨_, List.getElem?_eq_getElem (by omega)⟩
            have hfi := hfit i (List.mem_of_getElem? hi)
            refine CX.skip ?_
            refine PX.blockN ?_
            refine PX.thenN ?_
            refine CX.seq ?_
            refine CX.region ?_
            refine LX.pure (Y.move rfl) rfl rfl rfl ?_
            refine LX.pure (Y.fieldAddr0 Fl.fo187_0 rfl) rfl rfl rfl ?_
            refine LX.pure (Y.ldB 0 Fk.one3 rfl rfl rfl) rfl rfl rfl ?_
            refine LX.pure (Y.fieldAddr0 Fl.fo187_1 rfl) rfl rfl rfl ?_
            refine LX.pure (Y.ldB 0 Fk.one3 rfl rfl rfl) rfl rfl rfl ?_
            refine LX.pure (Y.idxR 2 Fl.un42 Fk.sz3 rfl rfl rfl (by omega)) rfl rfl rfl ?_
            refine LX.storeR 2 Fk.sz3 rfl rfl rfl rfl rfl (by rw [List.length_map]; omega) rfl rfl ?_
            refine LX.sub (l' := [(0, _), (3, _), (5, _), (6, _)]) ⟨rfl, rfl, rfl, rfl, trivial⟩ ?_
            refine LX.next ?_
            refine PX.thenN ?_
            refine CX.seq ?_
            refine CX.region ?_
            refine LX.pure (Y.move rfl) rfl rfl rfl ?_
            refine LX.pure (Y.ldAggB (vs := wy x) 0 Fl.ag187 rfl rfl rfl rfl) rfl rfl rfl ?_
            refine LX.world (W' := WA w0 base (blk bc (X.all p f) 115 :: _ :: _ :: _ :: fr)) (fun w hw => hw.perm (List.perm_append_comm_assoc [blk bc (X.all p f) 115] [_, _, _] fr)) ?_
            refine LX.call (from_c hX hg hl bc x.1 hx2 hi hfi) Fl.en113 rfl rfl rfl rfl rfl ?_
            intro gr
            refine LX.pure (Y.move rfl) rfl rfl rfl ?_
            refine LX.pure (Y.extract rfl rfl) rfl rfl rfl ?_
            refine LX.pure (Y.extract rfl rfl) rfl rfl rfl ?_
            refine LX.pure (Y.assign rfl) rfl rfl rfl ?_
            refine LX.pure (Y.assign rfl) rfl rfl rfl ?_
            refine LX.sub (l' := [(0, _), (3, _), (5, _), (7, _), (8, _)]) ⟨rfl, rfl, rfl, rfl, rfl, trivial⟩ ?_
            refine LX.next ?_
            refine PX.thenN ?_
            refine CX.seq ?_
            refine CX.seq ?_
            refine CX.region ?_
            refine LX.pure (Y.move rfl) rfl rfl rfl ?_
            refine LX.pure (Y.not rfl) rfl rfl rfl ?_
            refine LX.sub (l' := [(0, _), (3, _), (5, _), (7, _), (76, _)]) ⟨rfl, rfl, rfl, rfl, rfl, trivial⟩ ?_
            refine LX.next ?_
            refine PX.thenN ?_
            refine CX.cond rfl (fun hb6 => ?_) (fun hb6 => ?_)
            · try simp at hb6
              refine CX.seq ?_
              refine CX.region ?_
              refine LX.pure (Y.assign rfl) rfl rfl rfl ?_
              refine LX.sub (l' := [(0, _), (2, _), (3, _), (5, _), (7, _)]) ⟨rfl, rfl, rfl, rfl, rfl, trivial⟩ ?_
              refine LX.next ?_
              refine PX.thenN ?_
              refine CX.ret ?_
              refine PX.thenR ?_
              refine PX.blockR ?_
              refine PX.thenR ?_
              refine PX.blockR ?_
              refine PX.thenR ?_
              refine PX.ret1 (by simp) Tryz.results51 rfl ?_
              have hno : ¬Ck.Good p f := fun h => h.not_stuck hxr hi (by simpa using hb6)
              exact fun w hw => ⟨false, rfl, ⟨(fun e => by cases e), fun h => absurd h hno⟩, hw.drop (.cons _ (.cons_cons _ (.cons _ (.cons _ (.cons _ (List.Sublist.refl _))))))⟩
            · try simp at hb6
              obtain ⟨lx, hsx⟩ := Option.isSome_iff_exists.1 (by simpa using hb6)
              have hs2 := steps_two hsx
              rw [hsx]
              try simp only [Option.getD_some]
              refine CX.skip ?_
              refine PX.thenN ?_
              refine CX.region ?_
              refine LX.pure (Y.move rfl) rfl rfl rfl ?_
              refine LX.pure (Y.move rfl) rfl rfl rfl ?_
              refine LX.appendRows 3 0 Fl.el188 rfl rfl rfl rfl rfl rfl (wy_one _) (by omega) (by omega) rfl rfl rfl ?_
              intro g2 cap2
              refine LX.pure (Y.assign rfl) rfl rfl rfl ?_
              refine LX.sub (l' := [(0, _), (3, _), (5, _)]) ⟨rfl, rfl, rfl, trivial⟩ ?_
              refine LX.next ?_
              refine PX.blockN ?_
              exact PX.again (L := (fun s : List Int × List (Nat × Int) × Nat × Option Nat × Nat => [(0, .pointer (some ⟨bc, 0, none⟩)), (3, rv (some gb) f.code.length f.code.length), (5, rv s.2.2.2.1 s.2.2.1 s.2.2.2.2)])) (WW := (fun (s : List Int × List (Nat × Int) × Nat × Option Nat × Nat) w => (InvP p f s.1 s.2.1 ∧ s.2.1.length = s.2.2.1 ∧ s.2.2.1 ≤ 2 * vis s.1 + 1) ∧ WA w0 base (.row s.2.2.2.1 s.2.2.2.2 s.2.2.1 187 2 (s.2.1.flatMap wy) :: .row (some gb) f.code.length f.code.length 3 1 (s.1.map iv) :: blk bc (X.all p f) 115 :: fr) w)) (μ := (fun s => 3 * (f.code.length - vis s.1) + s.2.2.1)) (i := (H, Wk0 ++ [x], q + 1, g, cap)) (H.set x.1 x.2, Wk0 ++ lx, q + lx.length, g2, cap2) (by have hv := vis_set hq hqn hx2.1; have hlt := vis_lt hq hqn; have := steps_two hsx; have := hinv.len; show 3 * (f.code.length - vis (H.set x.1 x.2)) + (q + lx.length) < 3 * (f.code.length - vis H) + (q + 1); omega) ⟨rfl, rfl, rfl, trivial⟩ (fun w hw => ⟨⟨hinv.new hq hqn hi hsx hg hfit, by rw [List.length_append, hWk0], by have hv := vis_set hq hqn hx2.1; have := steps_two hsx; show q + lx.length ≤ 2 * vis (H.set x.1 x.2) + 1; omega⟩, by have h1 := (hw.drop (.cons _ (.cons_cons _ (.cons _ (List.Sublist.refl _))))).perm (List.perm_append_comm_assoc [_, _] [_] _); rw [Nat.mul_one] at h1; rw [List.flatMap_append, ← iv_set]; exact h1⟩)
    · try simp at hb2
      have hm0 : Wk = [] := List.eq_nil_of_length_eq_zero (by omega)
      subst hm0
      refine CX.exit ?_
      refine PX.thenE ?_
      refine PX.thenE ?_
      refine PX.blockE ?_
      refine PX.thenN ?_
      refine CX.seq ?_
      refine CX.region ?_
      refine LX.pure (Y.assign rfl) rfl rfl rfl ?_
      refine LX.sub (l' := [(2, _)]) ⟨rfl, trivial⟩ ?_
      refine LX.next ?_
      refine PX.thenN ?_
      refine CX.ret ?_
      refine PX.ret1 (by simp) Tryz.results51 rfl ?_
      exact fun w hw => ⟨true, rfl, ⟨fun _ => hinv.done hg hfit, fun _ => rfl⟩, hw.drop (.cons _ (.cons _ (List.Sublist.refl _)))⟩
end Go.Proofs.YtgijpgkckiknjaaGreatDoor
