/-
  Proved here: a program is checked by the document.
-/
import Derived.Test.YtgijpgkckiknjaaGreatDoorCkH
namespace Go.Proofs.YtgijpgkckiknjaaGreatDoor
open Go.SX Go.RowKit Go.Ck Go.Lex
namespace Fi
theorem ag124 : AggT Tryz.prog 124 6 := AggT.of (by kernel_rfl) (by kernel_rfl)
theorem ag57 : AggT Tryz.prog 57 4 := AggT.of (by kernel_rfl) (by kernel_rfl)
theorem ag65 : AggT Tryz.prog 65 4 := AggT.of (by kernel_rfl) (by kernel_rfl)
theorem en55 : Enters Tryz.prog 55 := Enters.of Tryz.func55 (by kernel_rfl) (by kernel_rfl)
theorem en56 : Enters Tryz.prog 56 := Enters.of Tryz.func56 (by kernel_rfl) (by kernel_rfl)
theorem en57 : Enters Tryz.prog 57 := Enters.of Tryz.func57 (by kernel_rfl) (by kernel_rfl)
theorem fa124_1 : FieldOffA Tryz.prog 124 1 1 := fun a w => by kernel_rfl
theorem fa124_2 : FieldOffA Tryz.prog 124 2 2 := fun a w => by kernel_rfl
theorem fa124_3 : FieldOffA Tryz.prog 124 3 3 := fun a w => by kernel_rfl
theorem fa124_4 : FieldOffA Tryz.prog 124 4 4 := fun a w => by kernel_rfl
theorem fa124_5 : FieldOffA Tryz.prog 124 5 5 := fun a w => by kernel_rfl
theorem fa57_0 : FieldOffA Tryz.prog 57 0 0 := fun a w => by kernel_rfl
theorem fa57_1 : FieldOffA Tryz.prog 57 1 1 := fun a w => by kernel_rfl
theorem fo124_1 : FieldOff Tryz.prog 124 1 1 := fun b o w => by kernel_rfl
theorem fo124_2 : FieldOff Tryz.prog 124 2 2 := fun b o w => by kernel_rfl
theorem fo124_3 : FieldOff Tryz.prog 124 3 3 := fun b o w => by kernel_rfl
theorem fo124_4 : FieldOff Tryz.prog 124 4 4 := fun b o w => by kernel_rfl
theorem fo124_5 : FieldOff Tryz.prog 124 5 5 := fun b o w => by kernel_rfl
theorem fo57_0 : FieldOff Tryz.prog 57 0 0 := fun b o w => by kernel_rfl
theorem fo57_1 : FieldOff Tryz.prog 57 1 1 := fun b o w => by kernel_rfl
theorem one122 : One Tryz.prog 122 := fun w => by kernel_rfl
theorem one55 : One Tryz.prog 55 := fun w => by kernel_rfl
theorem sz124 : SizeIs Tryz.prog 124 6 := fun w => by kernel_rfl
theorem sz65 : SizeIs Tryz.prog 65 4 := fun w => by kernel_rfl
theorem un122 : Tryz.prog.underlying 122 = some (.slice 65) := by kernel_rfl
theorem un55 : Tryz.prog.underlying 55 = some (.slice 124) := by kernel_rfl
theorem zv124 : ∀ w, (zeroValue 124).run Tryz.prog w = .ok (.agg #[.string ⟨#[]⟩, .int .i64 0, .int .i64 0, .int .i64 0, .slice none 0 0, .slice none 0 0]) w := fun w => by kernel_rfl
end Fi
/-- the document's word for it -/
def flt : Option Nat → Flt
  | none => ⟨0, false, 0, false, []⟩
  | some n => ⟨113, true, n, false, []⟩
theorem good_f {b : Bool} (g : Fc) : (b && decide (0 ≤ g.params) && decide (0 ≤ g.given) && decide (g.given ≤ g.params) && decide (g.params ≤ g.slots) && decide (g.slots ≤ 1048576) && decide ((g.names.length : Int) = g.params) && decide (0 < g.code.length)) = true ↔ b = true ∧ funcOk g := by
  simp only [Bool.and_eq_true, decide_eq_true_eq]
  unfold funcOk
  rw [← List.length_pos_iff]
  constructor
  · rintro ⟨⟨⟨⟨⟨⟨⟨h1, h2⟩, h3⟩, h4⟩, h5⟩, h6⟩, h7⟩, h8⟩
    exact ⟨h1, h8, h2, h3, h4, h5, h6, h7⟩
  · rintro ⟨h1, h8, h2, h3, h4, h5, h6, h7⟩
    exact ⟨⟨⟨⟨⟨⟨⟨h1, h2⟩, h3⟩, h4⟩, h5⟩, h6⟩, h7⟩, h8⟩
theorem refCheck_c {w0 : World} {base : Nat} {fr : List It} {X : Cx} {p : Pg} (hX : CkAt (Lies w0 base) X p ⟨[], 0, 0, 0, [], []⟩) (hlf : p.funcs.length ≤ 1048576 ∧ p.consts.length ≤ 1048576) (hxs : ∀ x ∈ p.consts, x.s.length ≤ 9223372036854775807) (hl20 : p.funcs.length ≤ 20) (hlx : p.globals.length ≤ 1048576 ∧ p.names.length ≤ 1048576) (hlg : ∀ g ∈ p.funcs, g.code.length ≤ 300) : FnC Tryz.prog 19 #[.agg (X.pcs p).toArray] (WA w0 base fr) (fun _ : Unit => (flt (chk p)).v) (fun _ => WA w0 base fr) := by
  refine FnC.of_body (fn := Tryz.f19) [(0, _)] Tryz.func19 rfl Tryz.ntmps19 rfl ⟨rfl, trivial⟩ ?_
  refine CX.seq ?_
  refine CX.region ?_
  refine LX.box rfl rfl rfl rfl rfl ?_
  intro b1x
  refine LX.alloc rfl Fg.zv34 rfl rfl rfl ?_
  intro b2x
  refine LX.sub (l' := [(1, _), (2, _)]) ⟨rfl, rfl, trivial⟩ ?_
  refine LX.next ?_
  refine PX.thenN ?_
  refine CX.seq ?_
  refine CX.region ?_
  refine LX.pure (Y.assign rfl) rfl rfl rfl ?_
  refine LX.sub (l' := [(1, _), (2, _), (3, _)]) ⟨rfl, rfl, rfl, trivial⟩ ?_
  refine LX.next ?_
  refine PX.thenN ?_
  refine CX.seq ?_
  refine CX.region ?_
  refine LX.pure (Y.fieldAddr0 Fi.fo57_0 rfl) rfl rfl rfl ?_
  refine LX.pure (Y.ldB 1 Fi.one55 rfl rfl rfl) rfl rfl rfl ?_
  refine LX.pure (Y.lenSl rfl Fi.un55 rfl) rfl rfl rfl ?_
  refine LX.pure (Y.gtN rfl rfl) rfl rfl rfl ?_
  refine LX.pure (Y.assign rfl) rfl rfl rfl ?_
  refine LX.sub (l' := [(1, _), (2, _), (3, _), (4, _)]) ⟨rfl, rfl, rfl, rfl, trivial⟩ ?_
  refine LX.next ?_
  refine PX.thenN ?_
  refine CX.seq ?_
  refine CX.seq ?_
  refine CX.region ?_
  refine LX.pure (Y.assign rfl) rfl rfl rfl ?_
  refine LX.sub (l' := [(1, _), (2, _), (3, _), (4, _), (5, _)]) ⟨rfl, rfl, rfl, rfl, rfl, trivial⟩ ?_
  refine LX.next ?_
  refine PX.thenN ?_
  refine CX.block ?_
  refine CX.loop (fun s : Nat × Bool => [(1, .pointer (some ⟨b1x, 0, none⟩)), (2, .pointer (some ⟨b2x, 0, none⟩)), (3, .int .i64 ((total (p.funcs.take s.1) : Nat) : Int)), (4, .bool s.2), (5, .int .i64 (s.1 : Int))]) (fun (s : Nat × Bool) w => (s.1 ≤ p.funcs.length ∧ (s.2 = true ↔ 0 < p.funcs.length ∧ ∀ g ∈ p.funcs.take s.1, funcOk g)) ∧ WA w0 base (blk b2x [.int .i64 0, .bool false, .int .i64 0, .bool false, str []] 34 :: blk b1x (X.pcs p) 57 :: fr) w) (fun s => p.funcs.length - s.1) (0, decide (0 < p.funcs.length)) ⟨rfl, rfl, rfl, rfl, rfl, trivial⟩ (fun w hw => ⟨⟨Nat.zero_le _, by simp⟩, hw⟩) ?_
  rintro ⟨j, gd⟩
  refine CX.have fun ⟨hj0, hgd⟩ => ?_
  try dsimp only at hj0 hgd ⊢
  refine CX.seq ?_
  refine CX.seq ?_
  refine CX.region ?_
  refine LX.pure (Y.move rfl) rfl rfl rfl ?_
  refine LX.pure (Y.fieldAddr0 Fi.fo57_0 rfl) rfl rfl rfl ?_
  refine LX.pure (Y.ldB 1 Fi.one55 rfl rfl rfl) rfl rfl rfl ?_
  refine LX.pure (Y.lenSl rfl Fi.un55 rfl) rfl rfl rfl ?_
  refine LX.pure (Y.ltN rfl rfl) rfl rfl rfl ?_
  refine LX.sub (l' := [(1, _), (2, _), (3, _), (4, _), (5, _), (19, _)]) ⟨rfl, rfl, rfl, rfl, rfl, rfl, trivial⟩ ?_
  refine LX.next ?_
  refine PX.thenN ?_
  refine CX.cond rfl (fun hb1 => ?_) (fun hb1 => ?_)
  · try simp at hb1
    have hj : j < p.funcs.length := by omega
    obtain ⟨g, hg⟩ : ∃ g, p.funcs[j]? = some g := ⟨_, List.getElem?_eq_getElem hj⟩
    obtain ⟨a, cs, hav, hcl, hL, vn2, vc2, rfl, hnm, hcd, hi1, hi2, hi3⟩ := hX.hF j g hg
    obtain ⟨an2, cn2, rfl, ⟨hn1, hn2⟩, hna⟩ := hnm.sl
    obtain ⟨ad2, cd2, rfl, ⟨hd1, hd2⟩, hda⟩ := hcd.sl
    have htl : total (p.funcs.take j) ≤ 6000 := by
      have h1 := total_le (c := 300) (p.funcs.take j) (fun f hf => hlg f (List.mem_of_mem_take hf))
      rw [List.length_take] at h1
      omega
    have hgc := hlg g (List.mem_of_getElem? hg)
    have htk := total_take hg
    refine CX.skip ?_
    refine PX.thenN ?_
    refine CX.seq ?_
    refine CX.block ?_
    refine CX.seq ?_
    refine CX.region ?_
    refine LX.pure (Y.fieldAddr0 Fi.fo57_0 rfl) rfl rfl rfl ?_
    refine LX.pure (Y.ldB 1 Fi.one55 rfl rfl rfl) rfl rfl rfl ?_
    refine LX.pure (Y.move rfl) rfl rfl rfl ?_
    refine LX.pure (Y.idxZ Fi.un55 Fi.sz124 rfl rfl hav (j := j) rfl hj) rfl rfl rfl ?_
    refine LX.pure (Y.ldAO (cs := [str g.name, .int .i64 g.params, .int .i64 g.given, .int .i64 g.slots, .slice an2 g.names.length cn2, .slice ad2 g.code.length cd2]) Fi.ag124 rfl hL rfl) rfl rfl rfl ?_
    refine LX.alloc rfl Fi.zv124 rfl rfl rfl ?_
    intro bx19
    refine LX.storeA 0 Fi.ag124 rfl rfl rfl rfl rfl rfl rfl rfl rfl ?_
    refine LX.sub (l' := [(1, _), (2, _), (3, _), (4, _), (5, _), (6, _)]) ⟨rfl, rfl, rfl, rfl, rfl, rfl, trivial⟩ ?_
    refine LX.next ?_
    refine PX.thenN ?_
    refine CX.seq ?_
    refine CX.region ?_
    refine LX.pure (Y.move rfl) rfl rfl rfl ?_
    refine LX.pure (Y.fieldAddr0 Fi.fo124_5 rfl) rfl rfl rfl ?_
    refine LX.pure (Y.ldB 0 Fi.one122 rfl rfl rfl) rfl rfl rfl ?_
    refine LX.pure (Y.lenSl rfl Fi.un122 rfl) rfl rfl rfl ?_
    refine LX.pure (Y.addN rfl rfl (by omega)) rfl rfl rfl ?_
    refine LX.pure (Y.assign rfl) rfl rfl rfl ?_
    refine LX.sub (l' := [(1, _), (2, _), (3, _), (4, _), (5, _), (6, _)]) ⟨rfl, rfl, rfl, rfl, rfl, rfl, trivial⟩ ?_
    refine LX.next ?_
    refine PX.thenN ?_
    refine CX.region ?_
    refine LX.pure (Y.move rfl) rfl rfl rfl ?_
    refine LX.pure (Y.move rfl) rfl rfl rfl ?_
    refine LX.sub (l' := [(1, _), (2, _), (3, _), (4, _), (5, _), (6, _), (33, _)]) ⟨rfl, rfl, rfl, rfl, rfl, rfl, rfl, trivial⟩ ?_
    apply LX.joinAnd 4 37 33 rfl
    · intro hb2
      have hb2p := hb2
      try simp at hb2p
      refine LX.gT rfl rfl rfl hb2 (Y.fieldAddr0 Fi.fo124_1 rfl) rfl rfl ?_
      refine LX.gT rfl rfl rfl hb2 (Y.ldB 0 Ft.one3 rfl rfl rfl) rfl rfl ?_
      refine LX.gT rfl rfl rfl hb2 (Y.geI rfl rfl) rfl rfl ?_
      refine LX.pure (Y.pickT rfl hb2 rfl) rfl rfl rfl ?_
      exact LX.left ⟨rfl, rfl, rfl, rfl, rfl, rfl, rfl, rfl, trivial⟩
    · intro hb2
      have hb2p := hb2
      try simp at hb2p
      refine LX.gF rfl rfl rfl hb2 rfl rfl ?_
      refine LX.gF rfl rfl rfl hb2 rfl rfl ?_
      refine LX.gF rfl rfl rfl hb2 rfl rfl ?_
      refine LX.pure (Y.pickF rfl hb2 rfl) rfl rfl rfl ?_
      exact LX.left ⟨rfl, rfl, rfl, rfl, rfl, rfl, rfl, rfl, trivial⟩
    refine LX.pure (Y.move rfl) rfl rfl rfl ?_
    refine LX.sub (l' := [(1, _), (2, _), (3, _), (4, _), (5, _), (6, _), (38, _)]) ⟨rfl, rfl, rfl, rfl, rfl, rfl, rfl, trivial⟩ ?_
    apply LX.joinAnd 4 42 38 rfl
    · intro hb3
      have hb3p := hb3
      try simp at hb3p
      refine LX.gT rfl rfl rfl hb3 (Y.fieldAddr0 Fi.fo124_2 rfl) rfl rfl ?_
      refine LX.gT rfl rfl rfl hb3 (Y.ldB 0 Ft.one3 rfl rfl rfl) rfl rfl ?_
      refine LX.gT rfl rfl rfl hb3 (Y.geI rfl rfl) rfl rfl ?_
      refine LX.pure (Y.pickT rfl hb3 rfl) rfl rfl rfl ?_
      exact LX.left ⟨rfl, rfl, rfl, rfl, rfl, rfl, rfl, rfl, trivial⟩
    · intro hb3
      have hb3p := hb3
      try simp at hb3p
      refine LX.gF rfl rfl rfl hb3 rfl rfl ?_
      refine LX.gF rfl rfl rfl hb3 rfl rfl ?_
      refine LX.gF rfl rfl rfl hb3 rfl rfl ?_
      refine LX.pure (Y.pickF rfl hb3 rfl) rfl rfl rfl ?_
      exact LX.left ⟨rfl, rfl, rfl, rfl, rfl, rfl, rfl, rfl, trivial⟩
    refine LX.pure (Y.move rfl) rfl rfl rfl ?_
    refine LX.sub (l' := [(1, _), (2, _), (3, _), (4, _), (5, _), (6, _), (43, _)]) ⟨rfl, rfl, rfl, rfl, rfl, rfl, rfl, trivial⟩ ?_
    apply LX.joinAnd 6 49 43 rfl
    · intro hb4
      have hb4p := hb4
      try simp at hb4p
      refine LX.gT rfl rfl rfl hb4 (Y.fieldAddr0 Fi.fo124_2 rfl) rfl rfl ?_
      refine LX.gT rfl rfl rfl hb4 (Y.ldB 0 Ft.one3 rfl rfl rfl) rfl rfl ?_
      refine LX.gT rfl rfl rfl hb4 (Y.fieldAddr0 Fi.fo124_1 rfl) rfl rfl ?_
      refine LX.gT rfl rfl rfl hb4 (Y.ldB 0 Ft.one3 rfl rfl rfl) rfl rfl ?_
      refine LX.gT rfl rfl rfl hb4 (Y.leI rfl rfl) rfl rfl ?_
      refine LX.pure (Y.pickT rfl hb4 rfl) rfl rfl rfl ?_
      exact LX.left ⟨rfl, rfl, rfl, rfl, rfl, rfl, rfl, rfl, trivial⟩
    · intro hb4
      have hb4p := hb4
      try simp at hb4p
      refine LX.gF rfl rfl rfl hb4 rfl rfl ?_
      refine LX.gF rfl rfl rfl hb4 rfl rfl ?_
      refine LX.gF rfl rfl rfl hb4 rfl rfl ?_
      refine LX.gF rfl rfl rfl hb4 rfl rfl ?_
      refine LX.gF rfl rfl rfl hb4 rfl rfl ?_
      refine LX.pure (Y.pickF rfl hb4 rfl) rfl rfl rfl ?_
      exact LX.left ⟨rfl, rfl, rfl, rfl, rfl, rfl, rfl, rfl, trivial⟩
    refine LX.pure (Y.move rfl) rfl rfl rfl ?_
    refine LX.sub (l' := [(1, _), (2, _), (3, _), (4, _), (5, _), (6, _), (50, _)]) ⟨rfl, rfl, rfl, rfl, rfl, rfl, rfl, trivial⟩ ?_
    apply LX.joinAnd 6 56 50 rfl
    · intro hb5
      have hb5p := hb5
      try simp at hb5p
      refine LX.gT rfl rfl rfl hb5 (Y.fieldAddr0 Fi.fo124_3 rfl) rfl rfl ?_
      refine LX.gT rfl rfl rfl hb5 (Y.ldB 0 Ft.one3 rfl rfl rfl) rfl rfl ?_
      refine LX.gT rfl rfl rfl hb5 (Y.fieldAddr0 Fi.fo124_1 rfl) rfl rfl ?_
      refine LX.gT rfl rfl rfl hb5 (Y.ldB 0 Ft.one3 rfl rfl rfl) rfl rfl ?_
      refine LX.gT rfl rfl rfl hb5 (Y.geI rfl rfl) rfl rfl ?_
      refine LX.pure (Y.pickT rfl hb5 rfl) rfl rfl rfl ?_
      exact LX.left ⟨rfl, rfl, rfl, rfl, rfl, rfl, rfl, rfl, trivial⟩
    · intro hb5
      have hb5p := hb5
      try simp at hb5p
      refine LX.gF rfl rfl rfl hb5 rfl rfl ?_
      refine LX.gF rfl rfl rfl hb5 rfl rfl ?_
      refine LX.gF rfl rfl rfl hb5 rfl rfl ?_
      refine LX.gF rfl rfl rfl hb5 rfl rfl ?_
      refine LX.gF rfl rfl rfl hb5 rfl rfl ?_
      refine LX.pure (Y.pickF rfl hb5 rfl) rfl rfl rfl ?_
      exact LX.left ⟨rfl, rfl, rfl, rfl, rfl, rfl, rfl, rfl, trivial⟩
    refine LX.pure (Y.move rfl) rfl rfl rfl ?_
    refine LX.sub (l' := [(1, _), (2, _), (3, _), (4, _), (5, _), (6, _), (57, _)]) ⟨rfl, rfl, rfl, rfl, rfl, rfl, rfl, trivial⟩ ?_
    apply LX.joinAnd 4 61 57 rfl
    · intro hb6
      have hb6p := hb6
      try simp at hb6p
      refine LX.gT rfl rfl rfl hb6 (Y.fieldAddr0 Fi.fo124_3 rfl) rfl rfl ?_
      refine LX.gT rfl rfl rfl hb6 (Y.ldB 0 Ft.one3 rfl rfl rfl) rfl rfl ?_
      refine LX.gT rfl rfl rfl hb6 (Y.leI rfl rfl) rfl rfl ?_
      refine LX.pure (Y.pickT rfl hb6 rfl) rfl rfl rfl ?_
      exact LX.left ⟨rfl, rfl, rfl, rfl, rfl, rfl, rfl, rfl, trivial⟩
    · intro hb6
      have hb6p := hb6
      try simp at hb6p
      refine LX.gF rfl rfl rfl hb6 rfl rfl ?_
      refine LX.gF rfl rfl rfl hb6 rfl rfl ?_
      refine LX.gF rfl rfl rfl hb6 rfl rfl ?_
      refine LX.pure (Y.pickF rfl hb6 rfl) rfl rfl rfl ?_
      exact LX.left ⟨rfl, rfl, rfl, rfl, rfl, rfl, rfl, rfl, trivial⟩
    refine LX.pure (Y.move rfl) rfl rfl rfl ?_
    refine LX.sub (l' := [(1, _), (2, _), (3, _), (4, _), (5, _), (6, _), (62, _)]) ⟨rfl, rfl, rfl, rfl, rfl, rfl, rfl, trivial⟩ ?_
    apply LX.joinAnd 7 69 62 rfl
    · intro hb7
      have hb7p := hb7
      try simp at hb7p
      refine LX.gT rfl rfl rfl hb7 (Y.fieldAddr0 Fi.fo124_4 rfl) rfl rfl ?_
      refine LX.gT rfl rfl rfl hb7 (Y.ldB 0 Fr.one26 rfl rfl rfl) rfl rfl ?_
      refine LX.gT rfl rfl rfl hb7 (Y.lenSl rfl Fy.un26 rfl) rfl rfl ?_
      refine LX.gT rfl rfl rfl hb7 (Y.fieldAddr0 Fi.fo124_1 rfl) rfl rfl ?_
      refine LX.gT rfl rfl rfl hb7 (Y.ldB 0 Ft.one3 rfl rfl rfl) rfl rfl ?_
      refine LX.gT rfl rfl rfl hb7 (Y.eqI rfl rfl) rfl rfl ?_
      refine LX.pure (Y.pickT rfl hb7 rfl) rfl rfl rfl ?_
      exact LX.left ⟨rfl, rfl, rfl, rfl, rfl, rfl, rfl, rfl, trivial⟩
    · intro hb7
      have hb7p := hb7
      try simp at hb7p
      refine LX.gF rfl rfl rfl hb7 rfl rfl ?_
      refine LX.gF rfl rfl rfl hb7 rfl rfl ?_
      refine LX.gF rfl rfl rfl hb7 rfl rfl ?_
      refine LX.gF rfl rfl rfl hb7 rfl rfl ?_
      refine LX.gF rfl rfl rfl hb7 rfl rfl ?_
      refine LX.gF rfl rfl rfl hb7 rfl rfl ?_
      refine LX.pure (Y.pickF rfl hb7 rfl) rfl rfl rfl ?_
      exact LX.left ⟨rfl, rfl, rfl, rfl, rfl, rfl, rfl, rfl, trivial⟩
    refine LX.pure (Y.move rfl) rfl rfl rfl ?_
    refine LX.sub (l' := [(1, _), (2, _), (3, _), (4, _), (5, _), (6, _), (70, _)]) ⟨rfl, rfl, rfl, rfl, rfl, rfl, rfl, trivial⟩ ?_
    apply LX.joinAnd 5 75 70 rfl
    · intro hb8
      have hb8p := hb8
      try simp at hb8p
      refine LX.gT rfl rfl rfl hb8 (Y.fieldAddr0 Fi.fo124_5 rfl) rfl rfl ?_
      refine LX.gT rfl rfl rfl hb8 (Y.ldB 0 Fi.one122 rfl rfl rfl) rfl rfl ?_
      refine LX.gT rfl rfl rfl hb8 (Y.lenSl rfl Fi.un122 rfl) rfl rfl ?_
      refine LX.gT rfl rfl rfl hb8 (Y.gtN rfl rfl) rfl rfl ?_
      refine LX.pure (Y.pickT rfl hb8 rfl) rfl rfl rfl ?_
      exact LX.left ⟨rfl, rfl, rfl, rfl, rfl, rfl, rfl, rfl, trivial⟩
    · intro hb8
      have hb8p := hb8
      try simp at hb8p
      refine LX.gF rfl rfl rfl hb8 rfl rfl ?_
      refine LX.gF rfl rfl rfl hb8 rfl rfl ?_
      refine LX.gF rfl rfl rfl hb8 rfl rfl ?_
      refine LX.gF rfl rfl rfl hb8 rfl rfl ?_
      refine LX.pure (Y.pickF rfl hb8 rfl) rfl rfl rfl ?_
      exact LX.left ⟨rfl, rfl, rfl, rfl, rfl, rfl, rfl, rfl, trivial⟩
    refine LX.pure (Y.assign rfl) rfl rfl rfl ?_
    refine LX.sub (l' := [(1, _), (2, _), (3, _), (4, _), (5, _)]) ⟨rfl, rfl, rfl, rfl, rfl, trivial⟩ ?_
    refine LX.next ?_
    refine PX.blockN ?_
    refine PX.thenN ?_
    refine CX.region ?_
    refine LX.pure (Y.move rfl) rfl rfl rfl ?_
    refine LX.pure (Y.addN rfl rfl (by (simp only []; omega))) rfl rfl rfl ?_
    refine LX.pure (Y.assign rfl) rfl rfl rfl ?_
    refine LX.sub (l' := [(1, _), (2, _), (3, _), (4, _), (5, _)]) ⟨rfl, rfl, rfl, rfl, rfl, trivial⟩ ?_
    refine LX.next ?_
    exact PX.again (L := (fun s : Nat × Bool => [(1, .pointer (some ⟨b1x, 0, none⟩)), (2, .pointer (some ⟨b2x, 0, none⟩)), (3, .int .i64 ((total (p.funcs.take s.1) : Nat) : Int)), (4, .bool s.2), (5, .int .i64 (s.1 : Int))])) (WW := (fun (s : Nat × Bool) w => (s.1 ≤ p.funcs.length ∧ (s.2 = true ↔ 0 < p.funcs.length ∧ ∀ g ∈ p.funcs.take s.1, funcOk g)) ∧ WA w0 base (blk b2x [.int .i64 0, .bool false, .int .i64 0, .bool false, str []] 34 :: blk b1x (X.pcs p) 57 :: fr) w)) (μ := fun s => p.funcs.length - s.1) (i := (j, gd)) (j + 1, gd && decide (0 ≤ g.params) && decide (0 ≤ g.given) && decide (g.given ≤ g.params) && decide (g.params ≤ g.slots) && decide (g.slots ≤ 1048576) && decide ((g.names.length : Int) = g.params) && decide (0 < g.code.length)) (by show p.funcs.length - (j + 1) < p.funcs.length - j; omega) ⟨rfl, rfl, by show _ = some (Value.int .i64 ((total (p.funcs.take (j + 1)) : Nat) : Int)); rw [htk]; rfl, rfl, rfl, trivial⟩ (fun w hw => ⟨⟨by show j + 1 ≤ p.funcs.length; omega, good_next hgd hg (good_f g)⟩, hw.drop (List.sublist_cons_self _ _)⟩)
  · try simp at hb1
    have hje : j = p.funcs.length := by omega
    have htt : total (p.funcs.take j) = total p.funcs := by rw [hje, List.take_length]
    have hte : p.funcs.take j = p.funcs := by rw [hje, List.take_length]
    refine CX.exit ?_
    refine PX.thenE ?_
    refine PX.thenE ?_
    refine PX.blockE ?_
    refine PX.thenN ?_
    refine CX.seq ?_
    refine CX.seq ?_
    refine CX.region ?_
    refine LX.pure (Y.assign rfl) rfl rfl rfl ?_
    refine LX.sub (l' := [(1, _), (2, _), (3, _), (4, _), (7, _)]) ⟨rfl, rfl, rfl, rfl, rfl, trivial⟩ ?_
    refine LX.next ?_
    refine PX.thenN ?_
    refine CX.block ?_
    refine CX.loop (fun s : Nat × Bool => [(1, .pointer (some ⟨b1x, 0, none⟩)), (2, .pointer (some ⟨b2x, 0, none⟩)), (3, .int .i64 ((total p.funcs : Nat) : Int)), (4, .bool s.2), (7, .int .i64 (s.1 : Int))]) (fun (s : Nat × Bool) w => (s.1 ≤ p.consts.length ∧ (s.2 = true ↔ (0 < p.funcs.length ∧ ∀ g ∈ p.funcs, funcOk g) ∧ ∀ x ∈ p.consts.take s.1, leafOk x)) ∧ WA w0 base (blk b2x [.int .i64 0, .bool false, .int .i64 0, .bool false, str []] 34 :: blk b1x (X.pcs p) 57 :: fr) w) (fun s => p.consts.length - s.1) (0, gd) ⟨rfl, rfl, by show _ = some (Value.int .i64 ((total p.funcs : Nat) : Int)); rw [← htt]; rfl, rfl, rfl, trivial⟩ (fun w hw => ⟨⟨Nat.zero_le _, by show gd = true ↔ _; rw [hgd, hte]; simp⟩, hw⟩) ?_
    clear hgd hte htt hje hj0
    rintro ⟨j, gd⟩
    refine CX.have fun ⟨hj0, hgd⟩ => ?_
    try dsimp only at hj0 hgd ⊢
    refine CX.seq ?_
    refine CX.seq ?_
    refine CX.region ?_
    refine LX.pure (Y.move rfl) rfl rfl rfl ?_
    refine LX.pure (Y.fieldAddr0 Fi.fo57_1 rfl) rfl rfl rfl ?_
    refine LX.pure (Y.ldB 1 Ft.one22 rfl rfl rfl) rfl rfl rfl ?_
    refine LX.pure (Y.lenSl rfl Ft.un22 rfl) rfl rfl rfl ?_
    refine LX.pure (Y.ltN rfl rfl) rfl rfl rfl ?_
    refine LX.sub (l' := [(1, _), (2, _), (3, _), (4, _), (7, _), (80, _)]) ⟨rfl, rfl, rfl, rfl, rfl, rfl, trivial⟩ ?_
    refine LX.next ?_
    refine PX.thenN ?_
    refine CX.cond rfl (fun hb9 => ?_) (fun hb9 => ?_)
    · try simp at hb9
      have hj : j < p.consts.length := by omega
      obtain ⟨x, hx⟩ : ∃ x, p.consts[j]? = some x := ⟨_, List.getElem?_eq_getElem hj⟩
      obtain ⟨a, cs, hav, hcl, hL, vk, rfl, hks, hin⟩ := hX.hC j x hx
      obtain ⟨ak2, ck2, rfl, ⟨hkn2, hkc2⟩, hka2⟩ := hks.sl
      refine CX.skip ?_
      refine PX.thenN ?_
      refine CX.seq ?_
      refine CX.block ?_
      refine CX.region ?_
      refine LX.pure (Y.move rfl) rfl rfl rfl ?_
      refine LX.pure (Y.move rfl) rfl rfl rfl ?_
      refine LX.sub (l' := [(1, _), (2, _), (3, _), (4, _), (7, _), (84, _)]) ⟨rfl, rfl, rfl, rfl, rfl, rfl, trivial⟩ ?_
      apply LX.joinAnd 7 91 84 rfl
      · intro hb10
        have hb10p := hb10
        try simp at hb10p
        refine LX.gT rfl rfl rfl hb10 (Y.fieldAddr0 Fi.fo57_1 rfl) rfl rfl ?_
        refine LX.gT rfl rfl rfl hb10 (Y.ldB 1 Ft.one22 rfl rfl rfl) rfl rfl ?_
        refine LX.gT rfl rfl rfl hb10 (Y.move rfl) rfl rfl ?_
        refine LX.gT rfl rfl rfl hb10 (Y.idxZ Ft.un22 Ft.sz44 rfl rfl hav (j := j) rfl hj) rfl rfl ?_
        refine LX.gT rfl rfl rfl hb10 (Y.ldAO (cs := [.int .i64 x.op, .int .i64 x.n, .int .i64 x.pos, str x.s, .slice ak2 x.kids.length ck2]) Ft.ag44 rfl hL rfl) rfl rfl ?_
        refine LX.callQT rfl rfl rfl hb10 (refLeaf_q (x := x) (cs := [.int .i64 x.op, .int .i64 x.n, .int .i64 x.pos, str x.s, .slice ak2 x.kids.length ck2]) (fun w hw => Kept.mono (fun _ _ h => h.push hw) ⟨_, rfl, hks, hin⟩) (hxs x (List.mem_of_getElem? hx))) Fi.en55 rfl rfl rfl rfl ?_
        refine LX.pure (Y.pickT rfl hb10 rfl) rfl rfl rfl ?_
        exact LX.left ⟨rfl, rfl, rfl, rfl, rfl, rfl, rfl, trivial⟩
      · intro hb10
        have hb10p := hb10
        try simp at hb10p
        refine LX.gF rfl rfl rfl hb10 rfl rfl ?_
        refine LX.gF rfl rfl rfl hb10 rfl rfl ?_
        refine LX.gF rfl rfl rfl hb10 rfl rfl ?_
        refine LX.gF rfl rfl rfl hb10 rfl rfl ?_
        refine LX.gF rfl rfl rfl hb10 rfl rfl ?_
        refine LX.gF rfl rfl rfl hb10 rfl rfl ?_
        refine LX.pure (Y.pickF rfl hb10 rfl) rfl rfl rfl ?_
        exact LX.left ⟨rfl, rfl, rfl, rfl, rfl, rfl, rfl, trivial⟩
      refine LX.pure (Y.assign rfl) rfl rfl rfl ?_
      refine LX.sub (l' := [(1, _), (2, _), (3, _), (4, _), (7, _)]) ⟨rfl, rfl, rfl, rfl, rfl, trivial⟩ ?_
      refine LX.next ?_
      refine PX.blockN ?_
      refine PX.thenN ?_
      refine CX.region ?_
      refine LX.pure (Y.move rfl) rfl rfl rfl ?_
      refine LX.pure (Y.addN rfl rfl (by (simp only []; omega))) rfl rfl rfl ?_
      refine LX.pure (Y.assign rfl) rfl rfl rfl ?_
      refine LX.sub (l' := [(1, _), (2, _), (3, _), (4, _), (7, _)]) ⟨rfl, rfl, rfl, rfl, rfl, trivial⟩ ?_
      refine LX.next ?_
      exact PX.again (L := (fun s : Nat × Bool => [(1, .pointer (some ⟨b1x, 0, none⟩)), (2, .pointer (some ⟨b2x, 0, none⟩)), (3, .int .i64 ((total p.funcs : Nat) : Int)), (4, .bool s.2), (7, .int .i64 (s.1 : Int))])) (WW := (fun (s : Nat × Bool) w => (s.1 ≤ p.consts.length ∧ (s.2 = true ↔ (0 < p.funcs.length ∧ ∀ g ∈ p.funcs, funcOk g) ∧ ∀ x ∈ p.consts.take s.1, leafOk x)) ∧ WA w0 base (blk b2x [.int .i64 0, .bool false, .int .i64 0, .bool false, str []] 34 :: blk b1x (X.pcs p) 57 :: fr) w)) (μ := fun s => p.consts.length - s.1) (i := (j, gd)) (j + 1, gd && decide (leafOk x)) (by show p.consts.length - (j + 1) < p.consts.length - j; omega) ⟨rfl, rfl, rfl, rfl, rfl, trivial⟩ (fun w hw => ⟨⟨by show j + 1 ≤ p.consts.length; omega, good_next2 hgd hx (by simp)⟩, hw⟩)
    · try simp at hb9
      rw [List.take_of_length_le (show p.consts.length ≤ j by omega)] at hgd
      refine CX.exit ?_
      refine PX.thenE ?_
      refine PX.thenE ?_
      refine PX.blockE ?_
      refine PX.thenN ?_
      refine CX.seq ?_
      refine CX.seq ?_
      refine CX.region ?_
      refine LX.pure (Y.move rfl) rfl rfl rfl ?_
      refine LX.pure (Y.not rfl) rfl rfl rfl ?_
      refine LX.sub (l' := [(1, _), (2, _), (3, _), (93, _)]) ⟨rfl, rfl, rfl, rfl, trivial⟩ ?_
      refine LX.next ?_
      refine PX.thenN ?_
      refine CX.cond rfl (fun hb11 => ?_) (fun hb11 => ?_)
      · try simp at hb11
        have hnw : ¬wholeOk p := by
          intro h
          have h2 := (good_end hgd).2 h
          rw [h2] at hb11
          exact absurd hb11 (by decide)
        refine CX.seq ?_
        refine CX.region ?_
        refine LX.pure (Y.move rfl) rfl rfl rfl ?_
        refine LX.call (placedR_c _ _ (by decide)) Fg.en15 rfl rfl rfl rfl rfl ?_
        intro _
        refine LX.storeA 0 Fg.ag34 rfl rfl rfl rfl rfl rfl rfl rfl rfl ?_
        refine LX.sub (l' := [(1, _), (2, _)]) ⟨rfl, rfl, trivial⟩ ?_
        refine LX.next ?_
        refine PX.thenN ?_
        refine CX.ret ?_
        refine PX.thenR ?_
        refine PX.retA (i := 0) (by simp) Tryz.results19 Fg.ag34 rfl rfl rfl ?_
        have hr : chk p = some (total p.funcs) := by unfold chk; rw [if_neg hnw]
        exact fun w hw => ⟨(), by rw [hr]; rfl, hw.drop (.cons _ (.cons _ (List.Sublist.refl _)))⟩
      · try simp at hb11
        have hwk : wholeOk p := (good_end hgd).1 (by simpa using hb11)
        clear hgd
        refine CX.skip ?_
        refine PX.thenN ?_
        refine CX.seq ?_
        refine CX.region ?_
        refine LX.pure (Y.assign rfl) rfl rfl rfl ?_
        refine LX.sub (l' := [(1, _), (2, _), (3, _)]) ⟨rfl, rfl, rfl, trivial⟩ ?_
        refine LX.next ?_
        refine PX.thenN ?_
        refine CX.seq ?_
        refine CX.seq ?_
        refine CX.region ?_
        refine LX.pure (Y.assign rfl) rfl rfl rfl ?_
        refine LX.sub (l' := [(1, _), (2, _), (3, _), (8, _)]) ⟨rfl, rfl, rfl, rfl, trivial⟩ ?_
        refine LX.next ?_
        refine PX.thenN ?_
        refine CX.block ?_
        refine CX.loop (fun j : Nat => [(1, .pointer (some ⟨b1x, 0, none⟩)), (2, .pointer (some ⟨b2x, 0, none⟩)), (3, .int .i64 ((total (p.funcs.take j) : Nat) : Int)), (8, .int .i64 (j : Int))]) (fun (j : Nat) w => (j ≤ p.funcs.length ∧ Ck.scan p (p.funcs.drop j) (total (p.funcs.take j)) = Ck.scan p p.funcs 0) ∧ WA w0 base (blk b2x [.int .i64 0, .bool false, .int .i64 0, .bool false, str []] 34 :: blk b1x (X.pcs p) 57 :: fr) w) (fun j => p.funcs.length - j) 0 ⟨rfl, rfl, rfl, rfl, trivial⟩ (fun w hw => ⟨⟨Nat.zero_le _, rfl⟩, hw⟩) ?_
        intro j
        refine CX.have fun ⟨hj0, hsc⟩ => ?_
        try dsimp only at hj0 hsc ⊢
        refine CX.seq ?_
        refine CX.seq ?_
        refine CX.region ?_
        refine LX.pure (Y.move rfl) rfl rfl rfl ?_
        refine LX.pure (Y.fieldAddr0 Fi.fo57_0 rfl) rfl rfl rfl ?_
        refine LX.pure (Y.ldB 1 Fi.one55 rfl rfl rfl) rfl rfl rfl ?_
        refine LX.pure (Y.lenSl rfl Fi.un55 rfl) rfl rfl rfl ?_
        refine LX.pure (Y.ltN rfl rfl) rfl rfl rfl ?_
        refine LX.sub (l' := [(1, _), (2, _), (3, _), (8, _), (100, _)]) ⟨rfl, rfl, rfl, rfl, rfl, trivial⟩ ?_
        refine LX.next ?_
        refine PX.thenN ?_
        refine CX.cond rfl (fun hb12 => ?_) (fun hb12 => ?_)
        · try simp at hb12
          have hj : j < p.funcs.length := by omega
          obtain ⟨g, hg⟩ : ∃ g, p.funcs[j]? = some g := ⟨_, List.getElem?_eq_getElem hj⟩
          obtain ⟨a, cs, hav, hcl, hL, vn2, vc2, rfl, hnm, hcd, hi1, hi2, hi3⟩ := hX.hF j g hg
          obtain ⟨an2, cn2, rfl, ⟨hn1, hn2⟩, hna⟩ := hnm.sl
          obtain ⟨ad2, cd2, rfl, ⟨hd1, hd2⟩, hda⟩ := hcd.sl
          have htl : total (p.funcs.take j) ≤ 6000 := by
            have h1 := total_le (c := 300) (p.funcs.take j) (fun f hf => hlg f (List.mem_of_mem_take hf))
            rw [List.length_take] at h1
            omega
          have hgc := hlg g (List.mem_of_getElem? hg)
          have htk := total_take hg
          have hXg : CkAt (Lies w0 base) { X with am := an2, cm := cn2, ad := ad2, cd := cd2 } p g := ⟨hX.hF, hX.hC, hX.hG, hX.hN, hna, hda, hi1, hi2, hi3⟩
          have hfo := hwk.2.1 g (List.mem_of_getElem? hg)
          refine CX.skip ?_
          refine PX.thenN ?_
          refine CX.seq ?_
          refine CX.block ?_
          refine CX.seq ?_
          refine CX.region ?_
          refine LX.pure (Y.fieldAddr0 Fi.fo57_0 rfl) rfl rfl rfl ?_
          refine LX.pure (Y.ldB 1 Fi.one55 rfl rfl rfl) rfl rfl rfl ?_
          refine LX.pure (Y.move rfl) rfl rfl rfl ?_
          refine LX.pure (Y.idxZ Fi.un55 Fi.sz124 rfl rfl hav (j := j) rfl hj) rfl rfl rfl ?_
          refine LX.pure (Y.ldAO (cs := [str g.name, .int .i64 g.params, .int .i64 g.given, .int .i64 g.slots, .slice an2 g.names.length cn2, .slice ad2 g.code.length cd2]) Fi.ag124 rfl hL rfl) rfl rfl rfl ?_
          refine LX.alloc rfl Fi.zv124 rfl rfl rfl ?_
          intro b9x
          refine LX.storeA 0 Fi.ag124 rfl rfl rfl rfl rfl rfl rfl rfl rfl ?_
          refine LX.sub (l' := [(1, _), (2, _), (3, _), (8, _), (9, _)]) ⟨rfl, rfl, rfl, rfl, rfl, trivial⟩ ?_
          refine LX.next ?_
          refine PX.thenN ?_
          refine CX.seq ?_
          refine CX.seq ?_
          refine CX.region ?_
          refine LX.pure (Y.assign rfl) rfl rfl rfl ?_
          refine LX.sub (l' := [(1, _), (2, _), (3, _), (8, _), (9, _), (10, _)]) ⟨rfl, rfl, rfl, rfl, rfl, rfl, trivial⟩ ?_
          refine LX.next ?_
          refine PX.thenN ?_
          refine CX.block ?_
          refine CX.loop (fun q : Nat => [(1, .pointer (some ⟨b1x, 0, none⟩)), (2, .pointer (some ⟨b2x, 0, none⟩)), (3, .int .i64 ((total (p.funcs.take j) : Nat) : Int)), (8, .int .i64 (j : Int)), (9, .pointer (some ⟨b9x, 0, none⟩)), (10, .int .i64 (q : Int))]) (fun (q : Nat) w => (q ≤ g.code.length ∧ ∀ y ∈ g.code.take q, fits p g y) ∧ WA w0 base (blk b9x [str g.name, .int .i64 g.params, .int .i64 g.given, .int .i64 g.slots, .slice an2 g.names.length cn2, .slice ad2 g.code.length cd2] 124 :: blk b2x [.int .i64 0, .bool false, .int .i64 0, .bool false, str []] 34 :: blk b1x (X.pcs p) 57 :: fr) w) (fun q => g.code.length - q) 0 ⟨rfl, rfl, rfl, rfl, rfl, rfl, trivial⟩ (fun w hw => ⟨⟨Nat.zero_le _, fun y hy => by cases hy⟩, hw⟩) ?_
          intro q
          refine CX.have fun ⟨hq0, hall⟩ => ?_
          try dsimp only at hq0 hall ⊢
          refine CX.seq ?_
          refine CX.seq ?_
          refine CX.region ?_
          refine LX.pure (Y.move rfl) rfl rfl rfl ?_
          refine LX.pure (Y.fieldAddr0 Fi.fo124_5 rfl) rfl rfl rfl ?_
          refine LX.pure (Y.ldB 0 Fi.one122 rfl rfl rfl) rfl rfl rfl ?_
          refine LX.pure (Y.lenSl rfl Fi.un122 rfl) rfl rfl rfl ?_
          refine LX.pure (Y.ltN rfl rfl) rfl rfl rfl ?_
          refine LX.sub (l' := [(1, _), (2, _), (3, _), (8, _), (9, _), (10, _), (112, _)]) ⟨rfl, rfl, rfl, rfl, rfl, rfl, rfl, trivial⟩ ?_
          refine LX.next ?_
          refine PX.thenN ?_
          refine CX.cond rfl (fun hb13 => ?_) (fun hb13 => ?_)
          · try simp at hb13
            have hq : q < g.code.length := by omega
            obtain ⟨i, hi⟩ : ∃ i, g.code[q]? = some i := ⟨_, List.getElem?_eq_getElem hq⟩
            obtain ⟨aI, csI, havI, hclI, hLI, rfl, hin1, hin2, hin3, hin4⟩ := hXg.hD q i hi
            refine CX.skip ?_
            refine PX.thenN ?_
            refine CX.seq ?_
            refine CX.block ?_
            refine CX.seq ?_
            refine CX.regionQ rfl (by kernel_rfl) ?_
            refine LX.pure (Y.ldAggB (vs := X.pcs p) 2 Fi.ag57 rfl rfl rfl rfl) rfl rfl rfl ?_
            refine LX.pure (Y.ldAggB (vs := [str g.name, .int .i64 g.params, .int .i64 g.given, .int .i64 g.slots, .slice an2 g.names.length cn2, .slice ad2 g.code.length cd2]) 0 Fi.ag124 rfl rfl rfl rfl) rfl rfl rfl ?_
            refine LX.pure (Y.fieldAddr0 Fi.fo124_5 rfl) rfl rfl rfl ?_
            refine LX.pure (Y.ldB 0 Fi.one122 rfl rfl rfl) rfl rfl rfl ?_
            refine LX.pure (Y.move rfl) rfl rfl rfl ?_
            refine LX.pure (Y.idxZ Fi.un122 Fi.sz65 rfl rfl havI (j := q) rfl hq) rfl rfl rfl ?_
            refine LX.pure (Y.ldAO (cs := insCs i) Fi.ag65 rfl hLI rfl) rfl rfl rfl ?_
            refine LX.callQ (refFits_q (X := { X with am := an2, cm := cn2, ad := ad2, cd := cd2 }) (f := g) (fun w hw => CkAt.push hXg hw) i) Fi.en56 rfl rfl rfl rfl rfl ?_
            refine LX.pure (Y.not rfl) rfl rfl rfl ?_
            refine LX.sub (l' := [(1, _), (2, _), (3, _), (8, _), (9, _), (10, _), (123, _)]) ⟨rfl, rfl, rfl, rfl, rfl, rfl, rfl, trivial⟩ ?_
            refine LX.nextQ ?_
            refine PX.thenN ?_
            refine CX.cond rfl (fun hb14 => ?_) (fun hb14 => ?_)
            · try simp at hb14
              have hno : ¬fits p g i := by simpa using hb14
              refine CX.seq ?_
              refine CX.region ?_
              refine LX.pure (Y.move rfl) rfl rfl rfl ?_
              refine LX.pure (Y.move rfl) rfl rfl rfl ?_
              refine LX.pure (Y.addN rfl rfl (by omega)) rfl rfl rfl ?_
              refine LX.call (placedR_c _ _ (by decide)) Fg.en15 rfl rfl rfl rfl rfl ?_
              intro _
              refine LX.storeA 1 Fg.ag34 rfl rfl rfl rfl rfl rfl rfl rfl rfl ?_
              refine LX.sub (l' := [(1, _), (2, _), (3, _), (8, _), (9, _), (10, _)]) ⟨rfl, rfl, rfl, rfl, rfl, rfl, trivial⟩ ?_
              refine LX.next ?_
              refine PX.thenN ?_
              refine CX.ret ?_
              refine PX.blockR ?_
              refine PX.thenR ?_
              refine PX.thenR ?_
              refine PX.blockR ?_
              refine PX.thenR ?_
              refine PX.blockR ?_
              refine PX.thenR ?_
              refine PX.thenR ?_
              refine PX.blockR ?_
              refine PX.thenR ?_
              refine PX.retA (i := 1) (by simp) Tryz.results19 Fg.ag34 rfl rfl rfl ?_
              have hr : chk p = some (total (p.funcs.take j) + q) := by unfold chk; rw [if_pos hwk, ← hsc, scan_at hg, firstBad_some hi hno hall]
              exact fun w hw => ⟨(), by rw [hr]; rfl, hw.drop (.cons _ (.cons _ (.cons _ (List.Sublist.refl _))))⟩
            · try simp at hb14
              have hok : fits p g i := by simpa using hb14
              refine CX.skip ?_
              refine PX.blockN ?_
              refine PX.thenN ?_
              refine CX.region ?_
              refine LX.pure (Y.move rfl) rfl rfl rfl ?_
              refine LX.pure (Y.addN rfl rfl (by (simp only []; omega))) rfl rfl rfl ?_
              refine LX.pure (Y.assign rfl) rfl rfl rfl ?_
              refine LX.sub (l' := [(1, _), (2, _), (3, _), (8, _), (9, _), (10, _)]) ⟨rfl, rfl, rfl, rfl, rfl, rfl, trivial⟩ ?_
              refine LX.next ?_
              exact PX.again (L := (fun q : Nat => [(1, .pointer (some ⟨b1x, 0, none⟩)), (2, .pointer (some ⟨b2x, 0, none⟩)), (3, .int .i64 ((total (p.funcs.take j) : Nat) : Int)), (8, .int .i64 (j : Int)), (9, .pointer (some ⟨b9x, 0, none⟩)), (10, .int .i64 (q : Int))])) (WW := (fun (q : Nat) w => (q ≤ g.code.length ∧ ∀ y ∈ g.code.take q, fits p g y) ∧ WA w0 base (blk b9x [str g.name, .int .i64 g.params, .int .i64 g.given, .int .i64 g.slots, .slice an2 g.names.length cn2, .slice ad2 g.code.length cd2] 124 :: blk b2x [.int .i64 0, .bool false, .int .i64 0, .bool false, str []] 34 :: blk b1x (X.pcs p) 57 :: fr) w)) (μ := fun q => g.code.length - q) (i := q) (q + 1) (by show g.code.length - (q + 1) < g.code.length - q; omega) ⟨rfl, rfl, rfl, rfl, rfl, rfl, trivial⟩ (fun w hw => ⟨⟨by omega, fun y hy => by
                rw [List.take_add_one, hi] at hy
                rcases List.mem_append.1 hy with hy | hy
                · exact hall y hy
                · obtain rfl : y = i := by simpa using hy
                  exact hok⟩, hw⟩)
          · try simp at hb13
            have hcs : ∀ x ∈ g.code, fits p g x := by rw [List.take_of_length_le (show g.code.length ≤ q by omega)] at hall; exact hall
            refine CX.exit ?_
            refine PX.thenE ?_
            refine PX.thenE ?_
            refine PX.blockE ?_
            refine PX.thenN ?_
            refine CX.seq ?_
            refine CX.seq ?_
            refine CX.region ?_
            refine LX.pure (Y.ldAggB (vs := X.pcs p) 2 Fi.ag57 rfl rfl rfl rfl) rfl rfl rfl ?_
            refine LX.pure (Y.ldAggB (vs := [str g.name, .int .i64 g.params, .int .i64 g.given, .int .i64 g.slots, .slice an2 g.names.length cn2, .slice ad2 g.code.length cd2]) 0 Fi.ag124 rfl rfl rfl rfl) rfl rfl rfl ?_
            refine LX.call (flows_c (X := { X with am := an2, cm := cn2, ad := ad2, cd := cd2 }) (f := g) hXg (given_nn hwk) hcs ⟨hlf.2, hlx.1, hlx.2, hlf.1, by omega, hfo.2.2.2.2.2.1⟩ ⟨hl20, hgc, hfo.1⟩) Fi.en57 rfl rfl rfl rfl rfl ?_
            intro bw
            refine LX.have fun hbw => ?_
            try dsimp only at hbw ⊢
            refine LX.pure (Y.not rfl) rfl rfl rfl ?_
            refine LX.sub (l' := [(1, _), (2, _), (3, _), (8, _), (9, _), (131, _)]) ⟨rfl, rfl, rfl, rfl, rfl, rfl, trivial⟩ ?_
            refine LX.next ?_
            refine PX.thenN ?_
            refine CX.cond rfl (fun hb15 => ?_) (fun hb15 => ?_)
            · try simp at hb15
              have hgn : ¬Ck.Good p g := fun h => by
                have h2 := hbw.2 h
                rw [h2] at hb15
                exact absurd hb15 (by decide)
              refine CX.seq ?_
              refine CX.region ?_
              refine LX.pure (Y.move rfl) rfl rfl rfl ?_
              refine LX.call (placedR_c _ _ (by decide)) Fg.en15 rfl rfl rfl rfl rfl ?_
              intro _
              refine LX.storeA 1 Fg.ag34 rfl rfl rfl rfl rfl rfl rfl rfl rfl ?_
              refine LX.sub (l' := [(1, _), (2, _), (3, _), (8, _), (9, _)]) ⟨rfl, rfl, rfl, rfl, rfl, trivial⟩ ?_
              refine LX.next ?_
              refine PX.thenN ?_
              refine CX.ret ?_
              refine PX.thenR ?_
              refine PX.blockR ?_
              refine PX.thenR ?_
              refine PX.thenR ?_
              refine PX.blockR ?_
              refine PX.thenR ?_
              refine PX.retA (i := 1) (by simp) Tryz.results19 Fg.ag34 rfl rfl rfl ?_
              have hr : chk p = some (total (p.funcs.take j)) := by unfold chk; rw [if_pos hwk, ← hsc, scan_not hg (firstBad_no hcs) hgn]
              exact fun w hw => ⟨(), by rw [hr]; rfl, hw.drop (.cons _ (.cons _ (.cons _ (List.Sublist.refl _))))⟩
            · try simp at hb15
              have hgG : Ck.Good p g := hbw.1 (by simpa using hb15)
              refine CX.skip ?_
              refine PX.thenN ?_
              refine CX.region ?_
              refine LX.pure (Y.move rfl) rfl rfl rfl ?_
              refine LX.pure (Y.fieldAddr0 Fi.fo124_5 rfl) rfl rfl rfl ?_
              refine LX.pure (Y.ldB 0 Fi.one122 rfl rfl rfl) rfl rfl rfl ?_
              refine LX.pure (Y.lenSl rfl Fi.un122 rfl) rfl rfl rfl ?_
              refine LX.pure (Y.addN rfl rfl (by omega)) rfl rfl rfl ?_
              refine LX.pure (Y.assign rfl) rfl rfl rfl ?_
              refine LX.sub (l' := [(1, _), (2, _), (3, _), (8, _)]) ⟨rfl, rfl, rfl, rfl, trivial⟩ ?_
              refine LX.next ?_
              refine PX.blockN ?_
              refine PX.thenN ?_
              refine CX.region ?_
              refine LX.pure (Y.move rfl) rfl rfl rfl ?_
              refine LX.pure (Y.addN rfl rfl (by (simp only []; omega))) rfl rfl rfl ?_
              refine LX.pure (Y.assign rfl) rfl rfl rfl ?_
              refine LX.sub (l' := [(1, _), (2, _), (3, _), (8, _)]) ⟨rfl, rfl, rfl, rfl, trivial⟩ ?_
              refine LX.next ?_
              exact PX.again (L := (fun j : Nat => [(1, .pointer (some ⟨b1x, 0, none⟩)), (2, .pointer (some ⟨b2x, 0, none⟩)), (3, .int .i64 ((total (p.funcs.take j) : Nat) : Int)), (8, .int .i64 (j : Int))])) (WW := (fun (j : Nat) w => (j ≤ p.funcs.length ∧ Ck.scan p (p.funcs.drop j) (total (p.funcs.take j)) = Ck.scan p p.funcs 0) ∧ WA w0 base (blk b2x [.int .i64 0, .bool false, .int .i64 0, .bool false, str []] 34 :: blk b1x (X.pcs p) 57 :: fr) w)) (μ := fun j => p.funcs.length - j) (i := j) (j + 1) (by show p.funcs.length - (j + 1) < p.funcs.length - j; omega) ⟨rfl, rfl, by show _ = some (Value.int .i64 ((total (p.funcs.take (j + 1)) : Nat) : Int)); rw [htk]; rfl, rfl, trivial⟩ (fun w hw => ⟨⟨by omega, by rw [← hsc, scan_good hg (firstBad_no hcs) hgG]; show Ck.scan p _ (total (p.funcs.take (j + 1))) = _; rw [htk]⟩, hw.drop (List.sublist_cons_self _ _)⟩)
        · try simp at hb12
          have hje : p.funcs.length ≤ j := by omega
          rw [List.drop_of_length_le hje] at hsc
          refine CX.exit ?_
          refine PX.thenE ?_
          refine PX.thenE ?_
          refine PX.blockE ?_
          refine PX.thenN ?_
          refine CX.seq ?_
          refine CX.region ?_
          refine LX.call (none_c) Fg.en41 rfl rfl rfl rfl rfl ?_
          intro _
          refine LX.storeA 0 Fg.ag34 rfl rfl rfl rfl rfl rfl rfl rfl rfl ?_
          refine LX.sub (l' := [(2, _)]) ⟨rfl, trivial⟩ ?_
          refine LX.next ?_
          refine PX.thenN ?_
          refine CX.ret ?_
          refine PX.retA (i := 0) (by simp) Tryz.results19 Fg.ag34 rfl rfl rfl ?_
          have hr : chk p = none := by unfold chk; rw [if_pos hwk, ← hsc]; rfl
          exact fun w hw => ⟨(), by rw [hr]; rfl, hw.drop (.cons _ (.cons _ (List.Sublist.refl _)))⟩
end Go.Proofs.YtgijpgkckiknjaaGreatDoor
