/-
  Proved here: light trees and texts.
-/
import Derived.Test.YtgijpgkckiknjaaGreatDoorByA
import Derived.Test.YtgijpgkckiknjaaGreatDoorLgP
namespace Go.Proofs.YtgijpgkckiknjaaGreatDoor
open Go.SX Go.RowKit Go.Ck Go.Lex
namespace Fj
theorem fa44_3 : FieldOffA Tryz.prog 44 3 3 := fun a w => by kernel_rfl
theorem fa44_4 : FieldOffA Tryz.prog 44 4 4 := fun a w => by kernel_rfl
theorem fo44_3 : FieldOff Tryz.prog 44 3 3 := fun b o w => by kernel_rfl
theorem fo44_4 : FieldOff Tryz.prog 44 4 4 := fun b o w => by kernel_rfl
theorem one42 : One Tryz.prog 42 := fun w => by kernel_rfl
theorem one9 : One Tryz.prog 9 := fun w => by kernel_rfl
theorem sz44 : SizeIs Tryz.prog 44 5 := fun w => by kernel_rfl
theorem sz9 : SizeIs Tryz.prog 9 1 := fun w => by kernel_rfl
theorem un22 : Tryz.prog.underlying 22 = some (.slice 44) := by kernel_rfl
theorem un26 : Tryz.prog.underlying 26 = some (.slice 9) := by kernel_rfl
theorem un42 : Tryz.prog.underlying 42 = some (.slice 3) := by kernel_rfl
theorem un9 : Tryz.prog.underlying 9 = some .string := by kernel_rfl
end Fj
open Go.Tr (ndA)
theorem lTree_c {w0 : World} {base : Nat} {al : Option Addr} (cl : Nat) {l : List Nd}  (hl : SlAt 5 ndA (Lies w0 base) al l) : FnC Tryz.prog 10 #[.slice al l.length cl] (WA w0 base []) (fun _ : Unit => .bool (decide (treeB l))) (fun _ => WA w0 base []) := by
  refine FnC.of_body (fn := Tryz.f10) [(0, _)] Tryz.func10 rfl Tryz.ntmps10 rfl ⟨rfl, trivial⟩ ?_
  refine CX.seq ?_
  refine CX.region ?_
  refine LX.pure (Y.assign rfl) rfl rfl rfl ?_
  refine LX.sub (l' := [(0, _), (2, _)]) ⟨rfl, rfl, trivial⟩ ?_
  refine LX.next ?_
  refine PX.thenN ?_
  refine CX.seq ?_
  refine CX.seq ?_
  refine CX.region ?_
  refine LX.pure (Y.move rfl) rfl rfl rfl ?_
  refine LX.pure (Y.lenSl rfl Fj.un22 rfl) rfl rfl rfl ?_
  refine LX.pure (Y.gtN rfl rfl) rfl rfl rfl ?_
  refine LX.sub (l' := [(0, _), (2, _), (6, _)]) ⟨rfl, rfl, rfl, trivial⟩ ?_
  refine LX.next ?_
  refine PX.thenN ?_
  refine CX.cond rfl (fun hb1 => ?_) (fun hb1 => ?_)
  · try simp at hb1
    refine CX.seq ?_
    refine CX.region ?_
    refine LX.pure (Y.assign rfl) rfl rfl rfl ?_
    refine LX.sub (l' := [(0, _), (2, _)]) ⟨rfl, rfl, trivial⟩ ?_
    refine LX.next ?_
    refine PX.thenN ?_
    refine CX.ret ?_
    refine PX.thenR ?_
    refine PX.ret1 (by simp) Tryz.results10 rfl ?_
    exact fun w hw => ⟨(), congrArg (fun z => Ending.returned (Value.bool z)) ((decide_eq_false (fun h => by have := h.1; omega)).symm), hw⟩
  · try simp at hb1
    refine CX.skip ?_
    refine PX.thenN ?_
    refine CX.seq ?_
    refine CX.seq ?_
    refine CX.region ?_
    refine LX.pure (Y.assign rfl) rfl rfl rfl ?_
    refine LX.sub (l' := [(0, _), (2, _), (3, _)]) ⟨rfl, rfl, rfl, trivial⟩ ?_
    refine LX.next ?_
    refine PX.thenN ?_
    refine CX.block ?_
    refine CX.loop (fun j : Nat => [(0, .slice al l.length cl), (3, .int .i64 (j : Int))]) (fun (j : Nat) w => (j ≤ l.length ∧ ∀ x ∈ l.take j, x.kids.length ≤ 300 ∧ x.s.length ≤ 300) ∧ WA w0 base [] w) (fun j => l.length - j) 0 ⟨rfl, rfl, trivial⟩ (fun w hw => ⟨⟨Nat.zero_le _, fun g hg => by cases hg⟩, hw⟩) ?_
    intro j
    refine CX.have fun ⟨hj0, hall⟩ => ?_
    try dsimp only at hj0 hall ⊢
    refine CX.seq ?_
    refine CX.seq ?_
    refine CX.region ?_
    refine LX.pure (Y.move rfl) rfl rfl rfl ?_
    refine LX.pure (Y.move rfl) rfl rfl rfl ?_
    refine LX.pure (Y.lenSl rfl Fj.un22 rfl) rfl rfl rfl ?_
    refine LX.pure (Y.ltN rfl rfl) rfl rfl rfl ?_
    refine LX.sub (l' := [(0, _), (3, _), (10, _)]) ⟨rfl, rfl, rfl, trivial⟩ ?_
    refine LX.next ?_
    refine PX.thenN ?_
    refine CX.cond rfl (fun hb2 => ?_) (fun hb2 => ?_)
    · try simp at hb2
      have hj : j < l.length := by omega
      obtain ⟨x, hx⟩ : ∃ x, l[j]? = some x := ⟨_, List.getElem?_eq_getElem hj⟩
      obtain ⟨a, cs, hav, hcl, hL, vk, rfl, hks, hin⟩ := hl j x hx
      obtain ⟨ak2, ck2, rfl, ⟨hkn2, hkc2⟩, hka2⟩ := hks.sl
      refine CX.skip ?_
      refine PX.thenN ?_
      refine CX.seq ?_
      refine CX.block ?_
      refine CX.seq ?_
      refine CX.region ?_
      refine LX.pure (Y.move rfl) rfl rfl rfl ?_
      refine LX.pure (Y.move rfl) rfl rfl rfl ?_
      refine LX.pure (Y.idxZ Fj.un22 Fj.sz44 rfl rfl hav (j := j) rfl hj) rfl rfl rfl ?_
      refine LX.pure (Y.fieldA Fj.fa44_4 rfl) rfl rfl rfl ?_
      refine LX.pure (Y.ldFO Fj.one42 rfl hL rfl) rfl rfl rfl ?_
      refine LX.pure (Y.lenSl rfl Fj.un42 rfl) rfl rfl rfl ?_
      refine LX.pure (Y.gtN rfl rfl) rfl rfl rfl ?_
      refine LX.pure (Y.move rfl) rfl rfl rfl ?_
      refine LX.sub (l' := [(0, _), (3, _), (20, _)]) ⟨rfl, rfl, rfl, trivial⟩ ?_
      apply LX.joinOr 8 28 20 rfl
      · intro hb3
        have hb3p := hb3
        try simp at hb3p
        refine LX.gF rfl rfl rfl hb3 rfl rfl ?_
        refine LX.gF rfl rfl rfl hb3 rfl rfl ?_
        refine LX.gF rfl rfl rfl hb3 rfl rfl ?_
        refine LX.gF rfl rfl rfl hb3 rfl rfl ?_
        refine LX.gF rfl rfl rfl hb3 rfl rfl ?_
        refine LX.gF rfl rfl rfl hb3 rfl rfl ?_
        refine LX.gF rfl rfl rfl hb3 rfl rfl ?_
        refine LX.pure (Y.pickT rfl hb3 rfl) rfl rfl rfl ?_
        exact LX.left ⟨rfl, rfl, rfl, rfl, trivial⟩
      · intro hb3
        have hb3p := hb3
        try simp at hb3p
        refine LX.gT rfl rfl rfl hb3 (Y.move rfl) rfl rfl ?_
        refine LX.gT rfl rfl rfl hb3 (Y.move rfl) rfl rfl ?_
        refine LX.gT rfl rfl rfl hb3 (Y.idxZ Fj.un22 Fj.sz44 rfl rfl hav (j := j) rfl hj) rfl rfl ?_
        refine LX.gT rfl rfl rfl hb3 (Y.fieldA Fj.fa44_3 rfl) rfl rfl ?_
        refine LX.gT rfl rfl rfl hb3 (Y.ldFO (v := str x.s) Fj.one9 rfl hL rfl) rfl rfl ?_
        refine LX.gT rfl rfl rfl hb3 (Y.lenStr rfl Fj.un9 rfl) rfl rfl ?_
        refine LX.gT rfl rfl rfl hb3 (Y.gtN rfl rfl) rfl rfl ?_
        refine LX.pure (Y.pickF rfl hb3 rfl) rfl rfl rfl ?_
        exact LX.left ⟨rfl, rfl, rfl, rfl, trivial⟩
      refine LX.sub (l' := [(0, _), (3, _), (28, _)]) ⟨rfl, rfl, rfl, trivial⟩ ?_
      refine LX.next ?_
      refine PX.thenN ?_
      refine CX.cond rfl (fun hb4 => ?_) (fun hb4 => ?_)
      · try simp at hb4
        have hno : ¬(x.kids.length ≤ 300 ∧ x.s.length ≤ 300) := by omega
        refine CX.seq ?_
        refine CX.region ?_
        refine LX.pure (Y.assign rfl) rfl rfl rfl ?_
        refine LX.sub (l' := [(0, _), (2, _), (3, _)]) ⟨rfl, rfl, rfl, trivial⟩ ?_
        refine LX.next ?_
        refine PX.thenN ?_
        refine CX.ret ?_
        refine PX.blockR ?_
        refine PX.thenR ?_
        refine PX.thenR ?_
        refine PX.blockR ?_
        refine PX.thenR ?_
        refine PX.ret1 (by simp) Tryz.results10 rfl ?_
        exact fun w hw => ⟨(), congrArg (fun z => Ending.returned (Value.bool z)) ((decide_eq_false (fun h => hno (h.2 x (List.mem_of_getElem? hx)))).symm), hw⟩
      · try simp at hb4
        have hok : x.kids.length ≤ 300 ∧ x.s.length ≤ 300 := by omega
        refine CX.skip ?_
        refine PX.blockN ?_
        refine PX.thenN ?_
        refine CX.region ?_
        refine LX.pure (Y.move rfl) rfl rfl rfl ?_
        refine LX.pure (Y.addN rfl rfl (by (simp only []; omega))) rfl rfl rfl ?_
        refine LX.pure (Y.assign rfl) rfl rfl rfl ?_
        refine LX.sub (l' := [(0, _), (3, _)]) ⟨rfl, rfl, trivial⟩ ?_
        refine LX.next ?_
        exact PX.again (L := (fun j : Nat => [(0, .slice al l.length cl), (3, .int .i64 (j : Int))])) (WW := (fun (j : Nat) w => (j ≤ l.length ∧ ∀ x ∈ l.take j, x.kids.length ≤ 300 ∧ x.s.length ≤ 300) ∧ WA w0 base [] w)) (μ := fun j => l.length - j) (i := j) (j + 1) (by show l.length - (j + 1) < l.length - j; omega) ⟨rfl, rfl, trivial⟩ (fun w hw => ⟨⟨by omega, take_next hall hx hok⟩, hw⟩)
    · try simp at hb2
      have hal := take_all hall (by omega)
      refine CX.exit ?_
      refine PX.thenE ?_
      refine PX.thenE ?_
      refine PX.blockE ?_
      refine PX.thenN ?_
      refine CX.seq ?_
      refine CX.region ?_
      refine LX.pure (Y.assign rfl) rfl rfl rfl ?_
      refine LX.sub (l' := [(2, _)]) ⟨rfl, trivial⟩ ?_
      refine LX.next ?_
      refine PX.thenN ?_
      refine CX.ret ?_
      refine PX.ret1 (by simp) Tryz.results10 rfl ?_
      exact fun w hw => ⟨(), congrArg (fun z => Ending.returned (Value.bool z)) ((decide_eq_true (show treeB l from ⟨by omega, hal⟩)).symm), hw⟩
theorem lTree_q {W : World → Prop} [Stab W] {al : Option Addr} (cl : Nat) {l : List Nd}  (hl : ∀ w, W w → SlAt 5 ndA (Lies w w.heap.size) al l) : FnQ Tryz.prog 10 #[.slice al l.length cl] W (.bool (decide (treeB l))) := FnC.quiet fun w hw => lTree_c cl (hl w hw)
theorem lTexts_c {w0 : World} {base : Nat} {av : Option Addr} (ck : Nat) {ss : List (List UInt8)} (m n : Nat) (hm : m ≤ 1000000)  (hk : SlAt 1 strA (Lies w0 base) av ss) : FnC Tryz.prog 26 #[.slice av ss.length ck, .int .i64 (m : Int), .int .i64 (n : Int)] (WA w0 base []) (fun _ : Unit => .bool (decide (textsB ss m n))) (fun _ => WA w0 base []) := by
  refine FnC.of_body (fn := Tryz.f26) [(0, _), (1, _), (2, _)] Tryz.func26 rfl Tryz.ntmps26 rfl ⟨rfl, rfl, rfl, trivial⟩ ?_
  refine CX.seq ?_
  refine CX.region ?_
  refine LX.pure (Y.assign rfl) rfl rfl rfl ?_
  refine LX.sub (l' := [(0, _), (1, _), (2, _), (6, _)]) ⟨rfl, rfl, rfl, rfl, trivial⟩ ?_
  refine LX.next ?_
  refine PX.thenN ?_
  refine CX.seq ?_
  refine CX.seq ?_
  refine CX.region ?_
  refine LX.pure (Y.move rfl) rfl rfl rfl ?_
  refine LX.pure (Y.lenSl rfl Fj.un26 rfl) rfl rfl rfl ?_
  refine LX.pure (Y.move rfl) rfl rfl rfl ?_
  refine LX.pure (Y.gtN rfl rfl) rfl rfl rfl ?_
  refine LX.sub (l' := [(0, _), (2, _), (6, _), (11, _)]) ⟨rfl, rfl, rfl, rfl, trivial⟩ ?_
  refine LX.next ?_
  refine PX.thenN ?_
  refine CX.cond rfl (fun hb1 => ?_) (fun hb1 => ?_)
  · try simp at hb1
    refine CX.seq ?_
    refine CX.region ?_
    refine LX.pure (Y.assign rfl) rfl rfl rfl ?_
    refine LX.sub (l' := [(0, _), (2, _), (6, _)]) ⟨rfl, rfl, rfl, trivial⟩ ?_
    refine LX.next ?_
    refine PX.thenN ?_
    refine CX.ret ?_
    refine PX.thenR ?_
    refine PX.ret1 (by simp) Tryz.results26 rfl ?_
    exact fun w hw => ⟨(), congrArg (fun z => Ending.returned (Value.bool z)) ((decide_eq_false (fun h => by have := h.1; omega)).symm), hw⟩
  · try simp at hb1
    refine CX.skip ?_
    refine PX.thenN ?_
    refine CX.seq ?_
    refine CX.seq ?_
    refine CX.region ?_
    refine LX.pure (Y.assign rfl) rfl rfl rfl ?_
    refine LX.sub (l' := [(0, _), (2, _), (6, _), (7, _)]) ⟨rfl, rfl, rfl, rfl, trivial⟩ ?_
    refine LX.next ?_
    refine PX.thenN ?_
    refine CX.block ?_
    refine CX.loop (fun j : Nat => [(0, .slice av ss.length ck), (2, .int .i64 (n : Int)), (7, .int .i64 (j : Int))]) (fun (j : Nat) w => (j ≤ ss.length ∧ ∀ s ∈ ss.take j, s.length ≤ n) ∧ WA w0 base [] w) (fun j => ss.length - j) 0 ⟨rfl, rfl, rfl, trivial⟩ (fun w hw => ⟨⟨Nat.zero_le _, fun g hg => by cases hg⟩, hw⟩) ?_
    intro j
    refine CX.have fun ⟨hj0, hall⟩ => ?_
    try dsimp only at hj0 hall ⊢
    refine CX.seq ?_
    refine CX.seq ?_
    refine CX.region ?_
    refine LX.pure (Y.move rfl) rfl rfl rfl ?_
    refine LX.pure (Y.move rfl) rfl rfl rfl ?_
    refine LX.pure (Y.lenSl rfl Fj.un26 rfl) rfl rfl rfl ?_
    refine LX.pure (Y.ltN rfl rfl) rfl rfl rfl ?_
    refine LX.sub (l' := [(0, _), (2, _), (7, _), (15, _)]) ⟨rfl, rfl, rfl, rfl, trivial⟩ ?_
    refine LX.next ?_
    refine PX.thenN ?_
    refine CX.cond rfl (fun hb2 => ?_) (fun hb2 => ?_)
    · try simp at hb2
      have hj : j < ss.length := by omega
      obtain ⟨s, hs⟩ : ∃ s, ss[j]? = some s := ⟨_, List.getElem?_eq_getElem hj⟩
      obtain ⟨a, cs, hav, hcl, hL, rfl⟩ := hk j s hs
      refine CX.skip ?_
      refine PX.thenN ?_
      refine CX.seq ?_
      refine CX.block ?_
      refine CX.seq ?_
      refine CX.region ?_
      refine LX.pure (Y.move rfl) rfl rfl rfl ?_
      refine LX.pure (Y.move rfl) rfl rfl rfl ?_
      refine LX.pure (Y.idxZ Fj.un26 Fj.sz9 rfl rfl hav (j := j) rfl hj) rfl rfl rfl ?_
      refine LX.pure (Y.ldO1 (v := str s) Fj.one9 rfl hL) rfl rfl rfl ?_
      refine LX.pure (Y.lenStr rfl Fj.un9 rfl) rfl rfl rfl ?_
      refine LX.pure (Y.move rfl) rfl rfl rfl ?_
      refine LX.pure (Y.gtN rfl rfl) rfl rfl rfl ?_
      refine LX.sub (l' := [(0, _), (2, _), (7, _), (24, _)]) ⟨rfl, rfl, rfl, rfl, trivial⟩ ?_
      refine LX.next ?_
      refine PX.thenN ?_
      refine CX.cond rfl (fun hb3 => ?_) (fun hb3 => ?_)
      · try simp at hb3
        have hno : ¬s.length ≤ n := by omega
        refine CX.seq ?_
        refine CX.region ?_
        refine LX.pure (Y.assign rfl) rfl rfl rfl ?_
        refine LX.sub (l' := [(0, _), (2, _), (6, _), (7, _)]) ⟨rfl, rfl, rfl, rfl, trivial⟩ ?_
        refine LX.next ?_
        refine PX.thenN ?_
        refine CX.ret ?_
        refine PX.blockR ?_
        refine PX.thenR ?_
        refine PX.thenR ?_
        refine PX.blockR ?_
        refine PX.thenR ?_
        refine PX.ret1 (by simp) Tryz.results26 rfl ?_
        exact fun w hw => ⟨(), congrArg (fun z => Ending.returned (Value.bool z)) ((decide_eq_false (fun h => hno (h.2 s (List.mem_of_getElem? hs)))).symm), hw⟩
      · try simp at hb3
        have hok : s.length ≤ n := by omega
        refine CX.skip ?_
        refine PX.blockN ?_
        refine PX.thenN ?_
        refine CX.region ?_
        refine LX.pure (Y.move rfl) rfl rfl rfl ?_
        refine LX.pure (Y.addN rfl rfl (by (simp only []; omega))) rfl rfl rfl ?_
        refine LX.pure (Y.assign rfl) rfl rfl rfl ?_
        refine LX.sub (l' := [(0, _), (2, _), (7, _)]) ⟨rfl, rfl, rfl, trivial⟩ ?_
        refine LX.next ?_
        exact PX.again (L := (fun j : Nat => [(0, .slice av ss.length ck), (2, .int .i64 (n : Int)), (7, .int .i64 (j : Int))])) (WW := (fun (j : Nat) w => (j ≤ ss.length ∧ ∀ s ∈ ss.take j, s.length ≤ n) ∧ WA w0 base [] w)) (μ := fun j => ss.length - j) (i := j) (j + 1) (by show ss.length - (j + 1) < ss.length - j; omega) ⟨rfl, rfl, rfl, trivial⟩ (fun w hw => ⟨⟨by omega, take_next hall hs hok⟩, hw⟩)
    · try simp at hb2
      have hal := take_all hall (by omega)
      refine CX.exit ?_
      refine PX.thenE ?_
      refine PX.thenE ?_
      refine PX.blockE ?_
      refine PX.thenN ?_
      refine CX.seq ?_
      refine CX.region ?_
      refine LX.pure (Y.assign rfl) rfl rfl rfl ?_
      refine LX.sub (l' := [(6, _)]) ⟨rfl, trivial⟩ ?_
      refine LX.next ?_
      refine PX.thenN ?_
      refine CX.ret ?_
      refine PX.ret1 (by simp) Tryz.results26 rfl ?_
      exact fun w hw => ⟨(), congrArg (fun z => Ending.returned (Value.bool z)) ((decide_eq_true (show textsB ss m n from ⟨by omega, hal⟩)).symm), hw⟩
theorem lTexts_q {W : World → Prop} [Stab W] {av : Option Addr} (ck : Nat) {ss : List (List UInt8)} (m n : Nat) (hm : m ≤ 1000000)  (hk : ∀ w, W w → SlAt 1 strA (Lies w w.heap.size) av ss) : FnQ Tryz.prog 26 #[.slice av ss.length ck, .int .i64 (m : Int), .int .i64 (n : Int)] W (.bool (decide (textsB ss m n))) := FnC.quiet fun w hw => lTexts_c ck m n hm (hk w hw)
end Go.Proofs.YtgijpgkckiknjaaGreatDoor
