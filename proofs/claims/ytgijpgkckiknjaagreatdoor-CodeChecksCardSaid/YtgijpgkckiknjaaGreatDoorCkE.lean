/-
  Proved here: what is no instruction.
-/
import Derived.Test.YtgijpgkckiknjaaGreatDoorCkD
import Derived.Test.YtgijpgkckiknjaaGreatDoorCkC
namespace Go.Proofs.YtgijpgkckiknjaaGreatDoor
open Go.SX Go.RowKit Go.Ck Go.Lex
namespace Fr
theorem ag51 : AggT Tryz.prog 51 6 := AggT.of (by kernel_rfl) (by kernel_rfl)
theorem en111 : Enters Tryz.prog 111 := Enters.of Tryz.func111 (by kernel_rfl) (by kernel_rfl)
theorem fa115_0 : FieldOffA Tryz.prog 115 0 0 := fun a w => by kernel_rfl
theorem fa28_0 : FieldOffA Tryz.prog 28 0 0 := fun a w => by kernel_rfl
theorem fa28_1 : FieldOffA Tryz.prog 28 1 1 := fun a w => by kernel_rfl
theorem fa51_1 : FieldOffA Tryz.prog 51 1 1 := fun a w => by kernel_rfl
theorem fa51_2 : FieldOffA Tryz.prog 51 2 2 := fun a w => by kernel_rfl
theorem fa51_3 : FieldOffA Tryz.prog 51 3 3 := fun a w => by kernel_rfl
theorem fa51_4 : FieldOffA Tryz.prog 51 4 4 := fun a w => by kernel_rfl
theorem fa51_5 : FieldOffA Tryz.prog 51 5 5 := fun a w => by kernel_rfl
theorem fo115_0 : FieldOff Tryz.prog 115 0 0 := fun b o w => by kernel_rfl
theorem fo28_0 : FieldOff Tryz.prog 28 0 0 := fun b o w => by kernel_rfl
theorem fo28_1 : FieldOff Tryz.prog 28 1 1 := fun b o w => by kernel_rfl
theorem fo51_1 : FieldOff Tryz.prog 51 1 1 := fun b o w => by kernel_rfl
theorem fo51_2 : FieldOff Tryz.prog 51 2 2 := fun b o w => by kernel_rfl
theorem fo51_3 : FieldOff Tryz.prog 51 3 3 := fun b o w => by kernel_rfl
theorem fo51_4 : FieldOff Tryz.prog 51 4 4 := fun b o w => by kernel_rfl
theorem fo51_5 : FieldOff Tryz.prog 51 5 5 := fun b o w => by kernel_rfl
theorem one25 : One Tryz.prog 25 := fun w => by kernel_rfl
theorem one26 : One Tryz.prog 26 := fun w => by kernel_rfl
theorem one49 : One Tryz.prog 49 := fun w => by kernel_rfl
theorem sz51 : SizeIs Tryz.prog 51 6 := fun w => by kernel_rfl
theorem un25 : Tryz.prog.underlying 25 = some (.slice 51) := by kernel_rfl
theorem un49 : Tryz.prog.underlying 49 = some (.slice 53) := by kernel_rfl
theorem zv51 : ∀ w, (zeroValue 51).run Tryz.prog w = .ok (.agg #[.string ⟨#[]⟩, .int .i64 0, .int .i64 0, .int .i64 0, .slice none 0 0, .slice none 0 0]) w := fun w => by kernel_rfl
end Fr
open Go.Tr (EnvV)
theorem whole_c {w0 : World} {base : Nat} {fr : List It} {X : Cx} {p : Pg} {f : Fc} (hX : CkAt (Lies w0 base) X p f) (hlf : p.funcs.length ≤ 1048576 ∧ p.consts.length ≤ 1048576) (hkb : ∀ x ∈ p.consts, x.kids.length ≤ 1048576) (hxs : ∀ x ∈ p.consts, x.s.length ≤ 9223372036854775807) {eS : Value} (hE : EnvV w0 base 1 eS) (bc : Nat) : FnC Tryz.prog 46 #[.pointer (some ⟨bc, 0, none⟩)] (WA w0 base (blk bc (X.all p f) 115 :: fr)) (fun _ : Unit => .bool (decide (wholeOk p))) (fun _ => WA w0 base (blk bc (X.all p f) 115 :: fr)) := by
  refine FnC.of_body (fn := Tryz.f46) [(0, _)] Tryz.func46 rfl Tryz.ntmps46 rfl ⟨rfl, trivial⟩ ?_
  refine CX.seq ?_
  refine CX.region ?_
  refine LX.pure (Y.assign rfl) rfl rfl rfl ?_
  refine LX.sub (l' := [(0, _), (2, _)]) ⟨rfl, rfl, trivial⟩ ?_
  refine LX.next ?_
  refine PX.thenN ?_
  refine CX.seq ?_
  refine CX.seq ?_
  refine CX.region ?_
  refine LX.pure (Y.move rfl) rfl rfl rfl ?_
  refine LX.pure (Y.nilCheck rfl) rfl rfl rfl ?_
  refine LX.pure (Y.fieldAddr0 Fr.fo115_0 rfl) rfl rfl rfl ?_
  refine LX.pure (Y.fieldAddr0 Fr.fo28_0 rfl) rfl rfl rfl ?_
  refine LX.pure (Y.ldB 0 Fr.one25 rfl rfl rfl) rfl rfl rfl ?_
  refine LX.pure (Y.lenSl rfl Fr.un25 rfl) rfl rfl rfl ?_
  refine LX.pure (Y.move rfl) rfl rfl rfl ?_
  refine LX.sub (l' := [(0, _), (2, _), (11, _), (12, _), (13, _)]) ⟨rfl, rfl, rfl, rfl, rfl, trivial⟩ ?_
  refine LX.next ?_
  refine PX.thenN ?_
  refine CX.block ?_
  refine CX.loop (fun j : Nat => [(0, .pointer (some ⟨bc, 0, none⟩)), (11, .slice X.af p.funcs.length X.cf), (12, .int .i64 (p.funcs.length : Int)), (13, .int .i64 (j : Int))]) (fun (j : Nat) w => (j ≤ p.funcs.length ∧ ∀ g ∈ p.funcs.take j, funcOk g) ∧ WA w0 base (blk bc (X.all p f) 115 :: fr) w) (fun j => p.funcs.length - j) 0 ⟨rfl, rfl, rfl, rfl, trivial⟩ (fun w hw => ⟨⟨Nat.zero_le _, fun g hg => by cases hg⟩, hw⟩) ?_
  intro j
  refine CX.have fun ⟨hj0, hall⟩ => ?_
  try dsimp only at hj0 hall ⊢
  refine CX.seq ?_
  refine CX.region ?_
  refine LX.pure (Y.ltN rfl rfl) rfl rfl rfl ?_
  refine LX.sub (l' := [(0, _), (11, _), (12, _), (13, _), (14, _)]) ⟨rfl, rfl, rfl, rfl, rfl, trivial⟩ ?_
  refine LX.next ?_
  refine PX.thenN ?_
  refine CX.seq ?_
  refine CX.cond rfl (fun hb1 => ?_) (fun hb1 => ?_)
  · try simp at hb1
    have hj : j < p.funcs.length := by omega
    obtain ⟨g, hg⟩ : ∃ g, p.funcs[j]? = some g := ⟨_, List.getElem?_eq_getElem hj⟩
    obtain ⟨a, cs, hav, hcl, hL, vn2, vc2, rfl, hnm, hcd, hi1, hi2, hi3⟩ := hX.hF j g hg
    obtain ⟨an2, cn2, rfl, ⟨hn1, hn2⟩, hna⟩ := hnm.sl
    obtain ⟨ad2, cd2, rfl, ⟨hd1, hd2⟩, hda⟩ := hcd.sl
    refine CX.skip ?_
    refine PX.thenN ?_
    refine CX.seq ?_
    refine CX.block ?_
    refine CX.seq ?_
    refine CX.region ?_
    refine LX.pure (Y.idxZ Fr.un25 Fr.sz51 rfl rfl hav (j := j) rfl hj) rfl rfl rfl ?_
    refine LX.pure (Y.ldAO (cs := [str g.name, .int .i64 g.params, .int .i64 g.given, .int .i64 g.slots, .slice an2 g.names.length cn2, .slice ad2 g.code.length cd2]) Fr.ag51 rfl hL rfl) rfl rfl rfl ?_
    refine LX.alloc rfl Fr.zv51 rfl rfl rfl ?_
    intro bx11
    refine LX.storeA 0 Fr.ag51 rfl rfl rfl rfl rfl rfl rfl rfl rfl ?_
    refine LX.sub (l' := [(0, _), (4, _), (11, _), (12, _), (13, _)]) ⟨rfl, rfl, rfl, rfl, rfl, trivial⟩ ?_
    refine LX.next ?_
    refine PX.thenN ?_
    refine CX.seq ?_
    refine CX.region ?_
    refine LX.pure (Y.fieldAddr0 Fr.fo51_5 rfl) rfl rfl rfl ?_
    refine LX.pure (Y.ldB 0 Fr.one49 rfl rfl rfl) rfl rfl rfl ?_
    refine LX.pure (Y.lenSl rfl Fr.un49 rfl) rfl rfl rfl ?_
    refine LX.pure (Y.eqN rfl rfl) rfl rfl rfl ?_
    refine LX.pure (Y.move rfl) rfl rfl rfl ?_
    refine LX.sub (l' := [(0, _), (4, _), (11, _), (12, _), (13, _), (21, _)]) ⟨rfl, rfl, rfl, rfl, rfl, rfl, trivial⟩ ?_
    apply LX.joinOr 4 25 21 rfl
    · intro hb2
      have hb2p := hb2
      try simp at hb2p
      refine LX.gF rfl rfl rfl hb2 rfl rfl ?_
      refine LX.gF rfl rfl rfl hb2 rfl rfl ?_
      refine LX.gF rfl rfl rfl hb2 rfl rfl ?_
      refine LX.pure (Y.pickT rfl hb2 rfl) rfl rfl rfl ?_
      exact LX.left ⟨rfl, rfl, rfl, rfl, rfl, rfl, rfl, trivial⟩
    · intro hb2
      have hb2p := hb2
      try simp at hb2p
      refine LX.gT rfl rfl rfl hb2 (Y.fieldAddr0 Fr.fo51_1 rfl) rfl rfl ?_
      refine LX.gT rfl rfl rfl hb2 (Y.ldB 0 Ft.one3 rfl rfl rfl) rfl rfl ?_
      refine LX.gT rfl rfl rfl hb2 (Y.ltI rfl rfl) rfl rfl ?_
      refine LX.pure (Y.pickF rfl hb2 rfl) rfl rfl rfl ?_
      exact LX.left ⟨rfl, rfl, rfl, rfl, rfl, rfl, rfl, trivial⟩
    refine LX.pure (Y.move rfl) rfl rfl rfl ?_
    refine LX.sub (l' := [(0, _), (4, _), (11, _), (12, _), (13, _), (26, _)]) ⟨rfl, rfl, rfl, rfl, rfl, rfl, trivial⟩ ?_
    apply LX.joinOr 4 30 26 rfl
    · intro hb3
      have hb3p := hb3
      try simp at hb3p
      refine LX.gF rfl rfl rfl hb3 rfl rfl ?_
      refine LX.gF rfl rfl rfl hb3 rfl rfl ?_
      refine LX.gF rfl rfl rfl hb3 rfl rfl ?_
      refine LX.pure (Y.pickT rfl hb3 rfl) rfl rfl rfl ?_
      exact LX.left ⟨rfl, rfl, rfl, rfl, rfl, rfl, rfl, trivial⟩
    · intro hb3
      have hb3p := hb3
      try simp at hb3p
      refine LX.gT rfl rfl rfl hb3 (Y.fieldAddr0 Fr.fo51_2 rfl) rfl rfl ?_
      refine LX.gT rfl rfl rfl hb3 (Y.ldB 0 Ft.one3 rfl rfl rfl) rfl rfl ?_
      refine LX.gT rfl rfl rfl hb3 (Y.ltI rfl rfl) rfl rfl ?_
      refine LX.pure (Y.pickF rfl hb3 rfl) rfl rfl rfl ?_
      exact LX.left ⟨rfl, rfl, rfl, rfl, rfl, rfl, rfl, trivial⟩
    refine LX.pure (Y.move rfl) rfl rfl rfl ?_
    refine LX.sub (l' := [(0, _), (4, _), (11, _), (12, _), (13, _), (31, _)]) ⟨rfl, rfl, rfl, rfl, rfl, rfl, trivial⟩ ?_
    apply LX.joinOr 6 37 31 rfl
    · intro hb4
      have hb4p := hb4
      try simp at hb4p
      refine LX.gF rfl rfl rfl hb4 rfl rfl ?_
      refine LX.gF rfl rfl rfl hb4 rfl rfl ?_
      refine LX.gF rfl rfl rfl hb4 rfl rfl ?_
      refine LX.gF rfl rfl rfl hb4 rfl rfl ?_
      refine LX.gF rfl rfl rfl hb4 rfl rfl ?_
      refine LX.pure (Y.pickT rfl hb4 rfl) rfl rfl rfl ?_
      exact LX.left ⟨rfl, rfl, rfl, rfl, rfl, rfl, rfl, trivial⟩
    · intro hb4
      have hb4p := hb4
      try simp at hb4p
      refine LX.gT rfl rfl rfl hb4 (Y.fieldAddr0 Fr.fo51_2 rfl) rfl rfl ?_
      refine LX.gT rfl rfl rfl hb4 (Y.ldB 0 Ft.one3 rfl rfl rfl) rfl rfl ?_
      refine LX.gT rfl rfl rfl hb4 (Y.fieldAddr0 Fr.fo51_1 rfl) rfl rfl ?_
      refine LX.gT rfl rfl rfl hb4 (Y.ldB 0 Ft.one3 rfl rfl rfl) rfl rfl ?_
      refine LX.gT rfl rfl rfl hb4 (Y.gtI rfl rfl) rfl rfl ?_
      refine LX.pure (Y.pickF rfl hb4 rfl) rfl rfl rfl ?_
      exact LX.left ⟨rfl, rfl, rfl, rfl, rfl, rfl, rfl, trivial⟩
    refine LX.pure (Y.move rfl) rfl rfl rfl ?_
    refine LX.sub (l' := [(0, _), (4, _), (11, _), (12, _), (13, _), (38, _)]) ⟨rfl, rfl, rfl, rfl, rfl, rfl, trivial⟩ ?_
    apply LX.joinOr 6 44 38 rfl
    · intro hb5
      have hb5p := hb5
      try simp at hb5p
      refine LX.gF rfl rfl rfl hb5 rfl rfl ?_
      refine LX.gF rfl rfl rfl hb5 rfl rfl ?_
      refine LX.gF rfl rfl rfl hb5 rfl rfl ?_
      refine LX.gF rfl rfl rfl hb5 rfl rfl ?_
      refine LX.gF rfl rfl rfl hb5 rfl rfl ?_
      refine LX.pure (Y.pickT rfl hb5 rfl) rfl rfl rfl ?_
      exact LX.left ⟨rfl, rfl, rfl, rfl, rfl, rfl, rfl, trivial⟩
    · intro hb5
      have hb5p := hb5
      try simp at hb5p
      refine LX.gT rfl rfl rfl hb5 (Y.fieldAddr0 Fr.fo51_3 rfl) rfl rfl ?_
      refine LX.gT rfl rfl rfl hb5 (Y.ldB 0 Ft.one3 rfl rfl rfl) rfl rfl ?_
      refine LX.gT rfl rfl rfl hb5 (Y.fieldAddr0 Fr.fo51_1 rfl) rfl rfl ?_
      refine LX.gT rfl rfl rfl hb5 (Y.ldB 0 Ft.one3 rfl rfl rfl) rfl rfl ?_
      refine LX.gT rfl rfl rfl hb5 (Y.ltI rfl rfl) rfl rfl ?_
      refine LX.pure (Y.pickF rfl hb5 rfl) rfl rfl rfl ?_
      exact LX.left ⟨rfl, rfl, rfl, rfl, rfl, rfl, rfl, trivial⟩
    refine LX.pure (Y.move rfl) rfl rfl rfl ?_
    refine LX.sub (l' := [(0, _), (4, _), (11, _), (12, _), (13, _), (45, _)]) ⟨rfl, rfl, rfl, rfl, rfl, rfl, trivial⟩ ?_
    apply LX.joinOr 4 49 45 rfl
    · intro hb6
      have hb6p := hb6
      try simp at hb6p
      refine LX.gF rfl rfl rfl hb6 rfl rfl ?_
      refine LX.gF rfl rfl rfl hb6 rfl rfl ?_
      refine LX.gF rfl rfl rfl hb6 rfl rfl ?_
      refine LX.pure (Y.pickT rfl hb6 rfl) rfl rfl rfl ?_
      exact LX.left ⟨rfl, rfl, rfl, rfl, rfl, rfl, rfl, trivial⟩
    · intro hb6
      have hb6p := hb6
      try simp at hb6p
      refine LX.gT rfl rfl rfl hb6 (Y.fieldAddr0 Fr.fo51_3 rfl) rfl rfl ?_
      refine LX.gT rfl rfl rfl hb6 (Y.ldB 0 Ft.one3 rfl rfl rfl) rfl rfl ?_
      refine LX.gT rfl rfl rfl hb6 (Y.gtI rfl rfl) rfl rfl ?_
      refine LX.pure (Y.pickF rfl hb6 rfl) rfl rfl rfl ?_
      exact LX.left ⟨rfl, rfl, rfl, rfl, rfl, rfl, rfl, trivial⟩
    refine LX.pure (Y.move rfl) rfl rfl rfl ?_
    refine LX.sub (l' := [(0, _), (4, _), (11, _), (12, _), (13, _), (50, _)]) ⟨rfl, rfl, rfl, rfl, rfl, rfl, trivial⟩ ?_
    apply LX.joinOr 7 57 50 rfl
    · intro hb7
      have hb7p := hb7
      try simp at hb7p
      refine LX.gF rfl rfl rfl hb7 rfl rfl ?_
      refine LX.gF rfl rfl rfl hb7 rfl rfl ?_
      refine LX.gF rfl rfl rfl hb7 rfl rfl ?_
      refine LX.gF rfl rfl rfl hb7 rfl rfl ?_
      refine LX.gF rfl rfl rfl hb7 rfl rfl ?_
      refine LX.gF rfl rfl rfl hb7 rfl rfl ?_
      refine LX.pure (Y.pickT rfl hb7 rfl) rfl rfl rfl ?_
      exact LX.left ⟨rfl, rfl, rfl, rfl, rfl, rfl, rfl, trivial⟩
    · intro hb7
      have hb7p := hb7
      try simp at hb7p
      refine LX.gT rfl rfl rfl hb7 (Y.fieldAddr0 Fr.fo51_4 rfl) rfl rfl ?_
      refine LX.gT rfl rfl rfl hb7 (Y.ldB 0 Fr.one26 rfl rfl rfl) rfl rfl ?_
      refine LX.gT rfl rfl rfl hb7 (Y.lenSl rfl Fy.un26 rfl) rfl rfl ?_
      refine LX.gT rfl rfl rfl hb7 (Y.fieldAddr0 Fr.fo51_1 rfl) rfl rfl ?_
      refine LX.gT rfl rfl rfl hb7 (Y.ldB 0 Ft.one3 rfl rfl rfl) rfl rfl ?_
      refine LX.gT rfl rfl rfl hb7 (Y.neI rfl rfl) rfl rfl ?_
      refine LX.pure (Y.pickF rfl hb7 rfl) rfl rfl rfl ?_
      exact LX.left ⟨rfl, rfl, rfl, rfl, rfl, rfl, rfl, trivial⟩
    refine LX.sub (l' := [(0, _), (11, _), (12, _), (13, _), (57, _)]) ⟨rfl, rfl, rfl, rfl, rfl, trivial⟩ ?_
    refine LX.next ?_
    refine PX.thenN ?_
    refine CX.cond rfl (fun hb8 => ?_) (fun hb8 => ?_)
    · try simp at hb8
      have hno : ¬funcOk g := by
        rw [← List.length_eq_zero_iff] at hb8
        unfold funcOk
        rintro ⟨h1, h2, h3, h4, h5, h6, h7⟩
        have := List.length_pos_iff.2 h1
        omega
      refine CX.seq ?_
      refine CX.region ?_
      refine LX.pure (Y.assign rfl) rfl rfl rfl ?_
      refine LX.sub (l' := [(0, _), (2, _), (11, _), (12, _), (13, _)]) ⟨rfl, rfl, rfl, rfl, rfl, trivial⟩ ?_
      refine LX.next ?_
      refine PX.thenN ?_
      refine CX.ret ?_
      refine PX.blockR ?_
      refine PX.thenR ?_
      refine PX.thenR ?_
      refine PX.blockR ?_
      refine PX.thenR ?_
      refine PX.ret1 (by simp) Tryz.results46 rfl ?_
      exact fun w hw => ⟨(), congrArg (fun z => Ending.returned (Value.bool z)) (decide_eq_false (fun h => hno (h.2.1 g (List.mem_of_getElem? hg)))).symm, hw.drop (List.sublist_cons_self _ _)⟩
    · try simp at hb8
      have hok : funcOk g := by
        unfold funcOk
        exact ⟨hb8.1.1.1.1.1.1, by omega, by omega, by omega, by omega, by omega, by omega⟩
      refine CX.skip ?_
      refine PX.blockN ?_
      refine PX.thenN ?_
      refine CX.region ?_
      refine LX.pure (Y.addN rfl rfl (by (simp only []; omega))) rfl rfl rfl ?_
      refine LX.pure (Y.move rfl) rfl rfl rfl ?_
      refine LX.sub (l' := [(0, _), (11, _), (12, _), (13, _)]) ⟨rfl, rfl, rfl, rfl, trivial⟩ ?_
      refine LX.next ?_
      exact PX.again (L := (fun j : Nat => [(0, .pointer (some ⟨bc, 0, none⟩)), (11, .slice X.af p.funcs.length X.cf), (12, .int .i64 (p.funcs.length : Int)), (13, .int .i64 (j : Int))])) (WW := (fun (j : Nat) w => (j ≤ p.funcs.length ∧ ∀ g ∈ p.funcs.take j, funcOk g) ∧ WA w0 base (blk bc (X.all p f) 115 :: fr) w)) (μ := fun j => p.funcs.length - j) (i := j) (j + 1) (by show p.funcs.length - (j + 1) < p.funcs.length - j; omega) ⟨rfl, rfl, rfl, rfl, trivial⟩ (fun w hw => ⟨⟨by omega, fun y hy => by
        rw [List.take_add_one, hg] at hy
        rcases List.mem_append.1 hy with hy | hy
        · exact hall y hy
        · obtain rfl : y = g := by simpa using hy
          exact hok⟩, hw.drop (List.sublist_cons_self _ _)⟩)
  · try simp at hb1
    have hfs : ∀ g ∈ p.funcs, funcOk g := by rw [List.take_of_length_le (show p.funcs.length ≤ j by omega)] at hall; exact hall
    refine CX.exit ?_
    refine PX.thenE ?_
    refine PX.thenE ?_
    refine PX.blockE ?_
    refine PX.thenN ?_
    refine CX.seq ?_
    refine CX.seq ?_
    refine CX.region ?_
    refine LX.pure (Y.move rfl) rfl rfl rfl ?_
    refine LX.pure (Y.nilCheck rfl) rfl rfl rfl ?_
    refine LX.pure (Y.fieldAddr0 Fr.fo115_0 rfl) rfl rfl rfl ?_
    refine LX.pure (Y.fieldAddr0 Fr.fo28_1 rfl) rfl rfl rfl ?_
    refine LX.pure (Y.ldB 0 Ft.one22 rfl rfl rfl) rfl rfl rfl ?_
    refine LX.pure (Y.lenSl rfl Ft.un22 rfl) rfl rfl rfl ?_
    refine LX.pure (Y.move rfl) rfl rfl rfl ?_
    refine LX.sub (l' := [(0, _), (63, _), (64, _), (65, _)]) ⟨rfl, rfl, rfl, rfl, trivial⟩ ?_
    refine LX.next ?_
    refine PX.thenN ?_
    refine CX.block ?_
    refine CX.loop (fun j : Nat => [(0, .pointer (some ⟨bc, 0, none⟩)), (63, .slice X.ac p.consts.length X.cc), (64, .int .i64 (p.consts.length : Int)), (65, .int .i64 (j : Int))]) (fun (j : Nat) w => (j ≤ p.consts.length ∧ ∀ x ∈ p.consts.take j, leafOk x) ∧ WA w0 base (blk bc (X.all p f) 115 :: fr) w) (fun j => p.consts.length - j) 0 ⟨rfl, rfl, rfl, rfl, trivial⟩ (fun w hw => ⟨⟨Nat.zero_le _, fun g hg => by cases hg⟩, hw⟩) ?_
    intro j
    refine CX.have fun ⟨hj0, hall⟩ => ?_
    try dsimp only at hj0 hall ⊢
    refine CX.seq ?_
    refine CX.region ?_
    refine LX.pure (Y.ltN rfl rfl) rfl rfl rfl ?_
    refine LX.sub (l' := [(0, _), (63, _), (64, _), (65, _), (66, _)]) ⟨rfl, rfl, rfl, rfl, rfl, trivial⟩ ?_
    refine LX.next ?_
    refine PX.thenN ?_
    refine CX.seq ?_
    refine CX.cond rfl (fun hb9 => ?_) (fun hb9 => ?_)
    · try simp at hb9
      have hj : j < p.consts.length := by omega
      obtain ⟨x, hx⟩ : ∃ x, p.consts[j]? = some x := ⟨_, List.getElem?_eq_getElem hj⟩
      obtain ⟨a, cs, hav, hcl, hL, vk, rfl, hks, hin⟩ := hX.hC j x hx
      obtain ⟨ak2, ck2, rfl, ⟨hkn2, hkc2⟩, hka2⟩ := hks.sl
      refine CX.skip ?_
      refine PX.thenN ?_
      refine CX.seq ?_
      refine CX.block ?_
      refine CX.seq ?_
      refine CX.region ?_
      refine LX.pure (Y.idxZ Ft.un22 Ft.sz44 rfl rfl hav (j := j) rfl hj) rfl rfl rfl ?_
      refine LX.pure (Y.ldAO (cs := [.int .i64 x.op, .int .i64 x.n, .int .i64 x.pos, str x.s, .slice ak2 x.kids.length ck2]) Ft.ag44 rfl hL rfl) rfl rfl rfl ?_
      refine LX.alloc rfl Fu.zv44 rfl rfl rfl ?_
      intro bx73
      refine LX.storeA 0 Ft.ag44 rfl rfl rfl rfl rfl rfl rfl rfl rfl ?_
      refine LX.sub (l' := [(0, _), (6, _), (63, _), (64, _), (65, _)]) ⟨rfl, rfl, rfl, rfl, rfl, trivial⟩ ?_
      refine LX.next ?_
      refine PX.thenN ?_
      refine CX.seq ?_
      refine CX.region ?_
      refine LX.pure (Y.ldAggB (vs := [.int .i64 x.op, .int .i64 x.n, .int .i64 x.pos, str x.s, .slice ak2 x.kids.length ck2]) 0 Ft.ag44 rfl rfl rfl rfl) rfl rfl rfl ?_
      refine LX.call (leaf_c (x := x) (cs := [.int .i64 x.op, .int .i64 x.n, .int .i64 x.pos, str x.s, .slice ak2 x.kids.length ck2]) ⟨_, rfl, hks, hin⟩ (hkb x (List.mem_of_getElem? hx)) (hxs x (List.mem_of_getElem? hx)) hE) Fr.en111 rfl rfl rfl rfl rfl ?_
      intro _
      refine LX.pure (Y.not rfl) rfl rfl rfl ?_
      refine LX.sub (l' := [(0, _), (63, _), (64, _), (65, _), (71, _)]) ⟨rfl, rfl, rfl, rfl, rfl, trivial⟩ ?_
      refine LX.next ?_
      refine PX.thenN ?_
      refine CX.cond rfl (fun hb10 => ?_) (fun hb10 => ?_)
      · try simp at hb10
        have hno : ¬leafOk x := by simpa using hb10
        refine CX.seq ?_
        refine CX.region ?_
        refine LX.pure (Y.assign rfl) rfl rfl rfl ?_
        refine LX.sub (l' := [(0, _), (2, _), (63, _), (64, _), (65, _)]) ⟨rfl, rfl, rfl, rfl, rfl, trivial⟩ ?_
        refine LX.next ?_
        refine PX.thenN ?_
        refine CX.ret ?_
        refine PX.blockR ?_
        refine PX.thenR ?_
        refine PX.thenR ?_
        refine PX.blockR ?_
        refine PX.thenR ?_
        refine PX.ret1 (by simp) Tryz.results46 rfl ?_
        exact fun w hw => ⟨(), congrArg (fun z => Ending.returned (Value.bool z)) (decide_eq_false (fun h => hno (h.2.2 x (List.mem_of_getElem? hx)))).symm, hw.drop (List.sublist_cons_self _ _)⟩
      · try simp at hb10
        have hok : leafOk x := by simpa using hb10
        refine CX.skip ?_
        refine PX.blockN ?_
        refine PX.thenN ?_
        refine CX.region ?_
        refine LX.pure (Y.addN rfl rfl (by (simp only []; omega))) rfl rfl rfl ?_
        refine LX.pure (Y.move rfl) rfl rfl rfl ?_
        refine LX.sub (l' := [(0, _), (63, _), (64, _), (65, _)]) ⟨rfl, rfl, rfl, rfl, trivial⟩ ?_
        refine LX.next ?_
        exact PX.again (L := (fun j : Nat => [(0, .pointer (some ⟨bc, 0, none⟩)), (63, .slice X.ac p.consts.length X.cc), (64, .int .i64 (p.consts.length : Int)), (65, .int .i64 (j : Int))])) (WW := (fun (j : Nat) w => (j ≤ p.consts.length ∧ ∀ x ∈ p.consts.take j, leafOk x) ∧ WA w0 base (blk bc (X.all p f) 115 :: fr) w)) (μ := fun j => p.consts.length - j) (i := j) (j + 1) (by show p.consts.length - (j + 1) < p.consts.length - j; omega) ⟨rfl, rfl, rfl, rfl, trivial⟩ (fun w hw => ⟨⟨by omega, fun y hy => by
          rw [List.take_add_one, hx] at hy
          rcases List.mem_append.1 hy with hy | hy
          · exact hall y hy
          · obtain rfl : y = x := by simpa using hy
            exact hok⟩, hw.drop (List.sublist_cons_self _ _)⟩)
    · try simp at hb9
      have hcs : ∀ x ∈ p.consts, leafOk x := by rw [List.take_of_length_le (show p.consts.length ≤ j by omega)] at hall; exact hall
      refine CX.exit ?_
      refine PX.thenE ?_
      refine PX.thenE ?_
      refine PX.blockE ?_
      refine PX.thenN ?_
      refine CX.seq ?_
      refine CX.region ?_
      refine LX.pure (Y.move rfl) rfl rfl rfl ?_
      refine LX.pure (Y.nilCheck rfl) rfl rfl rfl ?_
      refine LX.pure (Y.fieldAddr0 Fr.fo115_0 rfl) rfl rfl rfl ?_
      refine LX.pure (Y.fieldAddr0 Fr.fo28_0 rfl) rfl rfl rfl ?_
      refine LX.pure (Y.ldB 0 Fr.one25 rfl rfl rfl) rfl rfl rfl ?_
      refine LX.pure (Y.lenSl rfl Fr.un25 rfl) rfl rfl rfl ?_
      refine LX.pure (Y.gtN rfl rfl) rfl rfl rfl ?_
      refine LX.pure (Y.assign rfl) rfl rfl rfl ?_
      refine LX.sub (l' := [(2, _)]) ⟨rfl, trivial⟩ ?_
      refine LX.next ?_
      refine PX.thenN ?_
      refine CX.ret ?_
      refine PX.ret1 (by simp) Tryz.results46 rfl ?_
      exact fun w hw => ⟨(), congrArg (fun z => Ending.returned (Value.bool z)) (decide_eq_decide.2 ⟨fun h => ⟨fun e => by rw [e] at h; exact absurd h (by decide), hfs, hcs⟩, fun h => List.length_pos_iff.2 h.1⟩), hw⟩
end Go.Proofs.YtgijpgkckiknjaaGreatDoor
