/-
  Proved here: light programs.
-/
import Derived.Test.YtgijpgkckiknjaaGreatDoorByJ
namespace Go.Proofs.YtgijpgkckiknjaaGreatDoor
open Go.SX Go.RowKit Go.Ck Go.Lex
namespace Fja
theorem en10 : Enters Tryz.prog 10 := Enters.of Tryz.func10 (by kernel_rfl) (by kernel_rfl)
theorem en26 : Enters Tryz.prog 26 := Enters.of Tryz.func26 (by kernel_rfl) (by kernel_rfl)
theorem fa28_0 : FieldOffA Tryz.prog 28 0 0 := fun a w => by kernel_rfl
theorem fa28_1 : FieldOffA Tryz.prog 28 1 1 := fun a w => by kernel_rfl
theorem fa28_2 : FieldOffA Tryz.prog 28 2 2 := fun a w => by kernel_rfl
theorem fa28_3 : FieldOffA Tryz.prog 28 3 3 := fun a w => by kernel_rfl
theorem fa51_0 : FieldOffA Tryz.prog 51 0 0 := fun a w => by kernel_rfl
theorem fa51_4 : FieldOffA Tryz.prog 51 4 4 := fun a w => by kernel_rfl
theorem fa51_5 : FieldOffA Tryz.prog 51 5 5 := fun a w => by kernel_rfl
theorem fo28_0 : FieldOff Tryz.prog 28 0 0 := fun b o w => by kernel_rfl
theorem fo28_1 : FieldOff Tryz.prog 28 1 1 := fun b o w => by kernel_rfl
theorem fo28_2 : FieldOff Tryz.prog 28 2 2 := fun b o w => by kernel_rfl
theorem fo28_3 : FieldOff Tryz.prog 28 3 3 := fun b o w => by kernel_rfl
theorem fo51_0 : FieldOff Tryz.prog 51 0 0 := fun b o w => by kernel_rfl
theorem fo51_4 : FieldOff Tryz.prog 51 4 4 := fun b o w => by kernel_rfl
theorem fo51_5 : FieldOff Tryz.prog 51 5 5 := fun b o w => by kernel_rfl
theorem one22 : One Tryz.prog 22 := fun w => by kernel_rfl
theorem one25 : One Tryz.prog 25 := fun w => by kernel_rfl
theorem one26 : One Tryz.prog 26 := fun w => by kernel_rfl
theorem one49 : One Tryz.prog 49 := fun w => by kernel_rfl
theorem sz51 : SizeIs Tryz.prog 51 6 := fun w => by kernel_rfl
theorem un25 : Tryz.prog.underlying 25 = some (.slice 51) := by kernel_rfl
theorem un49 : Tryz.prog.underlying 49 = some (.slice 53) := by kernel_rfl
end Fja
theorem light_c {w0 : World} {base : Nat} {fr : List It} {X : Cx} {p : Pg} (hX : CkAt (Lies w0 base) X p ⟨[], 0, 0, 0, [], []⟩) : FnC Tryz.prog 21 #[.agg (X.pcs p).toArray] (WA w0 base fr) (fun _ : Unit => .bool (decide (lightB p))) (fun _ => WA w0 base fr) := by
  refine FnC.of_body (fn := Tryz.f21) [(0, _)] Tryz.func21 rfl Tryz.ntmps21 rfl ⟨rfl, trivial⟩ ?_
  refine CX.seq ?_
  refine CX.region ?_
  refine LX.box rfl rfl rfl rfl rfl ?_
  intro b1y
  refine LX.pure (Y.assign rfl) rfl rfl rfl ?_
  refine LX.sub (l' := [(1, _), (2, _)]) ⟨rfl, rfl, trivial⟩ ?_
  refine LX.next ?_
  refine PX.thenN ?_
  refine CX.seq ?_
  refine CX.seq ?_
  refine CX.region ?_
  refine LX.pure (Y.fieldAddr0 Fja.fo28_0 rfl) rfl rfl rfl ?_
  refine LX.pure (Y.ldB 0 Fja.one25 rfl rfl rfl) rfl rfl rfl ?_
  refine LX.pure (Y.lenSl rfl Fja.un25 rfl) rfl rfl rfl ?_
  refine LX.pure (Y.gtN rfl rfl) rfl rfl rfl ?_
  refine LX.pure (Y.move rfl) rfl rfl rfl ?_
  refine LX.sub (l' := [(1, _), (2, _), (8, _)]) ⟨rfl, rfl, rfl, trivial⟩ ?_
  apply LX.joinOr 5 13 8 rfl
  · intro hb1
    have hb1p := hb1
    try simp at hb1p
    refine LX.gF rfl rfl rfl hb1 rfl rfl ?_
    refine LX.gF rfl rfl rfl hb1 rfl rfl ?_
    refine LX.gF rfl rfl rfl hb1 rfl rfl ?_
    refine LX.gF rfl rfl rfl hb1 rfl rfl ?_
    refine LX.pure (Y.pickT rfl hb1 rfl) rfl rfl rfl ?_
    exact LX.left ⟨rfl, rfl, rfl, rfl, trivial⟩
  · intro hb1
    have hb1p := hb1
    try simp at hb1p
    refine LX.gT rfl rfl rfl hb1 (Y.fieldAddr0 Fja.fo28_1 rfl) rfl rfl ?_
    refine LX.gT rfl rfl rfl hb1 (Y.ldB 0 Fja.one22 rfl rfl rfl) rfl rfl ?_
    refine LX.callQT rfl rfl rfl hb1 (lTree_q X.cc (fun w hw => hX.hC.push hw)) Fja.en10 rfl rfl rfl rfl ?_
    refine LX.gT rfl rfl rfl hb1 (Y.not rfl) rfl rfl ?_
    refine LX.pure (Y.pickF rfl hb1 rfl) rfl rfl rfl ?_
    exact LX.left ⟨rfl, rfl, rfl, rfl, trivial⟩
  refine LX.pure (Y.move rfl) rfl rfl rfl ?_
  refine LX.sub (l' := [(1, _), (2, _), (14, _)]) ⟨rfl, rfl, rfl, trivial⟩ ?_
  apply LX.joinOr 5 19 14 rfl
  · intro hb2
    have hb2p := hb2
    try simp at hb2p
    refine LX.gF rfl rfl rfl hb2 rfl rfl ?_
    refine LX.gF rfl rfl rfl hb2 rfl rfl ?_
    refine LX.gF rfl rfl rfl hb2 rfl rfl ?_
    refine LX.gF rfl rfl rfl hb2 rfl rfl ?_
    refine LX.pure (Y.pickT rfl hb2 rfl) rfl rfl rfl ?_
    exact LX.left ⟨rfl, rfl, rfl, rfl, trivial⟩
  · intro hb2
    have hb2p := hb2
    try simp at hb2p
    refine LX.gT rfl rfl rfl hb2 (Y.fieldAddr0 Fja.fo28_2 rfl) rfl rfl ?_
    refine LX.gT rfl rfl rfl hb2 (Y.ldB 0 Fja.one26 rfl rfl rfl) rfl rfl ?_
    refine LX.callQT rfl rfl rfl hb2 (lTexts_q X.cg 50 100 (by decide) (fun w hw => hX.hG.push hw)) Fja.en26 rfl rfl rfl rfl ?_
    refine LX.gT rfl rfl rfl hb2 (Y.not rfl) rfl rfl ?_
    refine LX.pure (Y.pickF rfl hb2 rfl) rfl rfl rfl ?_
    exact LX.left ⟨rfl, rfl, rfl, rfl, trivial⟩
  refine LX.pure (Y.move rfl) rfl rfl rfl ?_
  refine LX.sub (l' := [(1, _), (2, _), (20, _)]) ⟨rfl, rfl, rfl, trivial⟩ ?_
  apply LX.joinOr 5 25 20 rfl
  · intro hb3
    have hb3p := hb3
    try simp at hb3p
    refine LX.gF rfl rfl rfl hb3 rfl rfl ?_
    refine LX.gF rfl rfl rfl hb3 rfl rfl ?_
    refine LX.gF rfl rfl rfl hb3 rfl rfl ?_
    refine LX.gF rfl rfl rfl hb3 rfl rfl ?_
    refine LX.pure (Y.pickT rfl hb3 rfl) rfl rfl rfl ?_
    exact LX.left ⟨rfl, rfl, rfl, rfl, trivial⟩
  · intro hb3
    have hb3p := hb3
    try simp at hb3p
    refine LX.gT rfl rfl rfl hb3 (Y.fieldAddr0 Fja.fo28_3 rfl) rfl rfl ?_
    refine LX.gT rfl rfl rfl hb3 (Y.ldB 0 Fja.one26 rfl rfl rfl) rfl rfl ?_
    refine LX.callQT rfl rfl rfl hb3 (lTexts_q X.cn 50 100 (by decide) (fun w hw => hX.hN.push hw)) Fja.en26 rfl rfl rfl rfl ?_
    refine LX.gT rfl rfl rfl hb3 (Y.not rfl) rfl rfl ?_
    refine LX.pure (Y.pickF rfl hb3 rfl) rfl rfl rfl ?_
    exact LX.left ⟨rfl, rfl, rfl, rfl, trivial⟩
  refine LX.sub (l' := [(1, _), (2, _), (25, _)]) ⟨rfl, rfl, rfl, trivial⟩ ?_
  refine LX.next ?_
  refine PX.thenN ?_
  refine CX.cond rfl (fun hb4 => ?_) (fun hb4 => ?_)
  · try simp at hb4
    have hno : ¬(p.funcs.length ≤ 20 ∧ treeB p.consts ∧ textsB p.globals 50 100 ∧ textsB p.names 50 100) := by
      rintro ⟨h1, h2, h3, h4⟩
      rcases hb4 with ((h | h) | h) | h
      · omega
      · exact h h2
      · exact h h3
      · exact h h4
    refine CX.seq ?_
    refine CX.region ?_
    refine LX.pure (Y.assign rfl) rfl rfl rfl ?_
    refine LX.sub (l' := [(1, _), (2, _)]) ⟨rfl, rfl, trivial⟩ ?_
    refine LX.next ?_
    refine PX.thenN ?_
    refine CX.ret ?_
    refine PX.thenR ?_
    refine PX.ret1 (by simp) Tryz.results21 rfl ?_
    exact fun w hw => ⟨(), congrArg (fun z => Ending.returned (Value.bool z)) ((decide_eq_false (fun h => hno h.1)).symm), hw.drop (List.sublist_cons_self _ _)⟩
  · try simp at hb4
    have hyes : p.funcs.length ≤ 20 ∧ treeB p.consts ∧ textsB p.globals 50 100 ∧ textsB p.names 50 100 := ⟨hb4.1.1.1, hb4.1.1.2, hb4.1.2, hb4.2⟩
    refine CX.skip ?_
    refine PX.thenN ?_
    refine CX.seq ?_
    refine CX.seq ?_
    refine CX.region ?_
    refine LX.pure (Y.assign rfl) rfl rfl rfl ?_
    refine LX.sub (l' := [(1, _), (2, _), (3, _)]) ⟨rfl, rfl, rfl, trivial⟩ ?_
    refine LX.next ?_
    refine PX.thenN ?_
    refine CX.block ?_
    refine CX.loop (fun j : Nat => [(1, .pointer (some ⟨b1y, 0, none⟩)), (3, .int .i64 (j : Int))]) (fun (j : Nat) w => (j ≤ p.funcs.length ∧ ∀ f ∈ p.funcs.take j, f.code.length ≤ 300 ∧ f.name.length ≤ 100 ∧ textsB f.names 50 100) ∧ WA w0 base (blk b1y (X.pcs p) 28 :: fr) w) (fun j => p.funcs.length - j) 0 ⟨rfl, rfl, trivial⟩ (fun w hw => ⟨⟨Nat.zero_le _, fun g hg => by cases hg⟩, hw⟩) ?_
    intro j
    refine CX.have fun ⟨hj0, hall⟩ => ?_
    try dsimp only at hj0 hall ⊢
    refine CX.seq ?_
    refine CX.seq ?_
    refine CX.region ?_
    refine LX.pure (Y.move rfl) rfl rfl rfl ?_
    refine LX.pure (Y.fieldAddr0 Fja.fo28_0 rfl) rfl rfl rfl ?_
    refine LX.pure (Y.ldB 0 Fja.one25 rfl rfl rfl) rfl rfl rfl ?_
    refine LX.pure (Y.lenSl rfl Fja.un25 rfl) rfl rfl rfl ?_
    refine LX.pure (Y.ltN rfl rfl) rfl rfl rfl ?_
    refine LX.sub (l' := [(1, _), (3, _), (30, _)]) ⟨rfl, rfl, rfl, trivial⟩ ?_
    refine LX.next ?_
    refine PX.thenN ?_
    refine CX.cond rfl (fun hb5 => ?_) (fun hb5 => ?_)
    · try simp at hb5
      have hj : j < p.funcs.length := by omega
      obtain ⟨g, hg⟩ : ∃ g, p.funcs[j]? = some g := ⟨_, List.getElem?_eq_getElem hj⟩
      obtain ⟨a, cs, hav, hcl, hL, vn2, vc2, rfl, hnm, hcd, hi1, hi2, hi3⟩ := hX.hF j g hg
      obtain ⟨an2, cn2, rfl, ⟨hn1, hn2⟩, hna⟩ := hnm.sl
      obtain ⟨ad2, cd2, rfl, ⟨hd1, hd2⟩, hda⟩ := hcd.sl
      refine CX.skip ?_
      refine PX.thenN ?_
      refine CX.seq ?_
      refine CX.block ?_
      refine CX.seq ?_
      refine CX.region ?_
      refine LX.pure (Y.fieldAddr0 Fja.fo28_0 rfl) rfl rfl rfl ?_
      refine LX.pure (Y.ldB 0 Fja.one25 rfl rfl rfl) rfl rfl rfl ?_
      refine LX.pure (Y.move rfl) rfl rfl rfl ?_
      refine LX.pure (Y.idxZ Fja.un25 Fja.sz51 rfl rfl hav (j := j) rfl hj) rfl rfl rfl ?_
      refine LX.pure (Y.fieldA Fja.fa51_5 rfl) rfl rfl rfl ?_
      refine LX.pure (Y.ldFO Fja.one49 rfl hL rfl) rfl rfl rfl ?_
      refine LX.pure (Y.lenSl rfl Fja.un49 rfl) rfl rfl rfl ?_
      refine LX.pure (Y.gtN rfl rfl) rfl rfl rfl ?_
      refine LX.pure (Y.move rfl) rfl rfl rfl ?_
      refine LX.sub (l' := [(1, _), (3, _), (41, _)]) ⟨rfl, rfl, rfl, trivial⟩ ?_
      apply LX.joinOr 9 50 41 rfl
      · intro hb6
        have hb6p := hb6
        try simp at hb6p
        refine LX.gF rfl rfl rfl hb6 rfl rfl ?_
        refine LX.gF rfl rfl rfl hb6 rfl rfl ?_
        refine LX.gF rfl rfl rfl hb6 rfl rfl ?_
        refine LX.gF rfl rfl rfl hb6 rfl rfl ?_
        refine LX.gF rfl rfl rfl hb6 rfl rfl ?_
        refine LX.gF rfl rfl rfl hb6 rfl rfl ?_
        refine LX.gF rfl rfl rfl hb6 rfl rfl ?_
        refine LX.gF rfl rfl rfl hb6 rfl rfl ?_
        refine LX.pure (Y.pickT rfl hb6 rfl) rfl rfl rfl ?_
        exact LX.left ⟨rfl, rfl, rfl, rfl, trivial⟩
      · intro hb6
        have hb6p := hb6
        try simp at hb6p
        refine LX.gT rfl rfl rfl hb6 (Y.fieldAddr0 Fja.fo28_0 rfl) rfl rfl ?_
        refine LX.gT rfl rfl rfl hb6 (Y.ldB 0 Fja.one25 rfl rfl rfl) rfl rfl ?_
        refine LX.gT rfl rfl rfl hb6 (Y.move rfl) rfl rfl ?_
        refine LX.gT rfl rfl rfl hb6 (Y.idxZ Fja.un25 Fja.sz51 rfl rfl hav (j := j) rfl hj) rfl rfl ?_
        refine LX.gT rfl rfl rfl hb6 (Y.fieldA Fja.fa51_0 rfl) rfl rfl ?_
        refine LX.gT rfl rfl rfl hb6 (Y.ldFO (v := str g.name) Fj.one9 rfl hL rfl) rfl rfl ?_
        refine LX.gT rfl rfl rfl hb6 (Y.lenStr rfl Fj.un9 rfl) rfl rfl ?_
        refine LX.gT rfl rfl rfl hb6 (Y.gtN rfl rfl) rfl rfl ?_
        refine LX.pure (Y.pickF rfl hb6 rfl) rfl rfl rfl ?_
        exact LX.left ⟨rfl, rfl, rfl, rfl, trivial⟩
      refine LX.pure (Y.move rfl) rfl rfl rfl ?_
      refine LX.sub (l' := [(1, _), (3, _), (51, _)]) ⟨rfl, rfl, rfl, trivial⟩ ?_
      apply LX.joinOr 9 60 51 rfl
      · intro hb7
        have hb7p := hb7
        try simp at hb7p
        refine LX.gF rfl rfl rfl hb7 rfl rfl ?_
        refine LX.gF rfl rfl rfl hb7 rfl rfl ?_
        refine LX.gF rfl rfl rfl hb7 rfl rfl ?_
        refine LX.gF rfl rfl rfl hb7 rfl rfl ?_
        refine LX.gF rfl rfl rfl hb7 rfl rfl ?_
        refine LX.gF rfl rfl rfl hb7 rfl rfl ?_
        refine LX.gF rfl rfl rfl hb7 rfl rfl ?_
        refine LX.gF rfl rfl rfl hb7 rfl rfl ?_
        refine LX.pure (Y.pickT rfl hb7 rfl) rfl rfl rfl ?_
        exact LX.left ⟨rfl, rfl, rfl, rfl, trivial⟩
      · intro hb7
        have hb7p := hb7
        try simp at hb7p
        refine LX.gT rfl rfl rfl hb7 (Y.fieldAddr0 Fja.fo28_0 rfl) rfl rfl ?_
        refine LX.gT rfl rfl rfl hb7 (Y.ldB 0 Fja.one25 rfl rfl rfl) rfl rfl ?_
        refine LX.gT rfl rfl rfl hb7 (Y.move rfl) rfl rfl ?_
        refine LX.gT rfl rfl rfl hb7 (Y.idxZ Fja.un25 Fja.sz51 rfl rfl hav (j := j) rfl hj) rfl rfl ?_
        refine LX.gT rfl rfl rfl hb7 (Y.fieldA Fja.fa51_4 rfl) rfl rfl ?_
        refine LX.gT rfl rfl rfl hb7 (Y.ldFO (v := .slice an2 g.names.length cn2) Fja.one26 rfl hL rfl) rfl rfl ?_
        refine LX.callQT rfl rfl rfl hb7 (lTexts_q cn2 50 100 (by decide) (fun w hw => hna.push hw)) Fja.en26 rfl rfl rfl rfl ?_
        refine LX.gT rfl rfl rfl hb7 (Y.not rfl) rfl rfl ?_
        refine LX.pure (Y.pickF rfl hb7 rfl) rfl rfl rfl ?_
        exact LX.left ⟨rfl, rfl, rfl, rfl, trivial⟩
      refine LX.sub (l' := [(1, _), (3, _), (60, _)]) ⟨rfl, rfl, rfl, trivial⟩ ?_
      refine LX.next ?_
      refine PX.thenN ?_
      refine CX.cond rfl (fun hb8 => ?_) (fun hb8 => ?_)
      · try simp at hb8
        have hno : ¬(g.code.length ≤ 300 ∧ g.name.length ≤ 100 ∧ textsB g.names 50 100) := by
          rintro ⟨h1, h2, h3⟩
          rcases hb8 with (h | h) | h
          · omega
          · omega
          · exact h h3
        refine CX.seq ?_
        refine CX.region ?_
        refine LX.pure (Y.assign rfl) rfl rfl rfl ?_
        refine LX.sub (l' := [(1, _), (2, _), (3, _)]) ⟨rfl, rfl, rfl, trivial⟩ ?_
        refine LX.next ?_
        refine PX.thenN ?_
        refine CX.ret ?_
        refine PX.blockR ?_
        refine PX.thenR ?_
        refine PX.thenR ?_
        refine PX.blockR ?_
        refine PX.thenR ?_
        refine PX.ret1 (by simp) Tryz.results21 rfl ?_
        exact fun w hw => ⟨(), congrArg (fun z => Ending.returned (Value.bool z)) ((decide_eq_false (fun h => hno (h.2 g (List.mem_of_getElem? hg)))).symm), hw.drop (List.sublist_cons_self _ _)⟩
      · try simp at hb8
        have hok : g.code.length ≤ 300 ∧ g.name.length ≤ 100 ∧ textsB g.names 50 100 := ⟨hb8.1.1, hb8.1.2, hb8.2⟩
        refine CX.skip ?_
        refine PX.blockN ?_
        refine PX.thenN ?_
        refine CX.region ?_
        refine LX.pure (Y.move rfl) rfl rfl rfl ?_
        refine LX.pure (Y.addN rfl rfl (by (simp only []; omega))) rfl rfl rfl ?_
        refine LX.pure (Y.assign rfl) rfl rfl rfl ?_
        refine LX.sub (l' := [(1, _), (3, _)]) ⟨rfl, rfl, trivial⟩ ?_
        refine LX.next ?_
        exact PX.again (L := (fun j : Nat => [(1, .pointer (some ⟨b1y, 0, none⟩)), (3, .int .i64 (j : Int))])) (WW := (fun (j : Nat) w => (j ≤ p.funcs.length ∧ ∀ f ∈ p.funcs.take j, f.code.length ≤ 300 ∧ f.name.length ≤ 100 ∧ textsB f.names 50 100) ∧ WA w0 base (blk b1y (X.pcs p) 28 :: fr) w)) (μ := fun j => p.funcs.length - j) (i := j) (j + 1) (by show p.funcs.length - (j + 1) < p.funcs.length - j; omega) ⟨rfl, rfl, trivial⟩ (fun w hw => ⟨⟨by omega, take_next hall hg hok⟩, hw⟩)
    · try simp at hb5
      have hal := take_all hall (by omega)
      refine CX.exit ?_
      refine PX.thenE ?_
      refine PX.thenE ?_
      refine PX.blockE ?_
      refine PX.thenN ?_
      refine CX.seq ?_
      refine CX.region ?_
      refine LX.pure (Y.assign rfl) rfl rfl rfl ?_
      refine LX.sub (l' := [(2, _)]) ⟨rfl, trivial⟩ ?_
      refine LX.next ?_
      refine PX.thenN ?_
      refine CX.ret ?_
      refine PX.ret1 (by simp) Tryz.results21 rfl ?_
      exact fun w hw => ⟨(), congrArg (fun z => Ending.returned (Value.bool z)) ((decide_eq_true (show lightB p from ⟨hyes, hal⟩)).symm), hw.drop (List.sublist_cons_self _ _)⟩
end Go.Proofs.YtgijpgkckiknjaaGreatDoor
