/-
  Proved here: what instructions take and put; which may be.
-/
import Derived.Test.YtgijpgkckiknjaaGreatDoorCkS
import Derived.Test.YtgijpgkckiknjaaGreatDoorProg
namespace Go.Proofs.YtgijpgkckiknjaaGreatDoor
open Go.SX Go.RowKit Go.Ck
namespace Fk
theorem ag53 : AggT Tryz.prog 53 4 := AggT.of (by kernel_rfl) (by kernel_rfl)
theorem en112 : Enters Tryz.prog 112 := Enters.of Tryz.func112 (by kernel_rfl) (by kernel_rfl)
theorem en60 : Enters Tryz.prog 60 := Enters.of Tryz.func60 (by kernel_rfl) (by kernel_rfl)
theorem fa115_0 : FieldOffA Tryz.prog 115 0 0 := fun a w => by kernel_rfl
theorem fa115_1 : FieldOffA Tryz.prog 115 1 4 := fun a w => by kernel_rfl
theorem fa124_3 : FieldOffA Tryz.prog 124 3 3 := fun a w => by kernel_rfl
theorem fa124_5 : FieldOffA Tryz.prog 124 5 5 := fun a w => by kernel_rfl
theorem fa28_0 : FieldOffA Tryz.prog 28 0 0 := fun a w => by kernel_rfl
theorem fa28_1 : FieldOffA Tryz.prog 28 1 1 := fun a w => by kernel_rfl
theorem fa28_2 : FieldOffA Tryz.prog 28 2 2 := fun a w => by kernel_rfl
theorem fa28_3 : FieldOffA Tryz.prog 28 3 3 := fun a w => by kernel_rfl
theorem fa44_0 : FieldOffA Tryz.prog 44 0 0 := fun a w => by kernel_rfl
theorem fa51_3 : FieldOffA Tryz.prog 51 3 3 := fun a w => by kernel_rfl
theorem fa51_5 : FieldOffA Tryz.prog 51 5 5 := fun a w => by kernel_rfl
theorem fa53_0 : FieldOffA Tryz.prog 53 0 0 := fun a w => by kernel_rfl
theorem fa53_1 : FieldOffA Tryz.prog 53 1 1 := fun a w => by kernel_rfl
theorem fa53_2 : FieldOffA Tryz.prog 53 2 2 := fun a w => by kernel_rfl
theorem fa57_0 : FieldOffA Tryz.prog 57 0 0 := fun a w => by kernel_rfl
theorem fa57_1 : FieldOffA Tryz.prog 57 1 1 := fun a w => by kernel_rfl
theorem fa57_2 : FieldOffA Tryz.prog 57 2 2 := fun a w => by kernel_rfl
theorem fa57_3 : FieldOffA Tryz.prog 57 3 3 := fun a w => by kernel_rfl
theorem fa65_0 : FieldOffA Tryz.prog 65 0 0 := fun a w => by kernel_rfl
theorem fa65_1 : FieldOffA Tryz.prog 65 1 1 := fun a w => by kernel_rfl
theorem fa65_2 : FieldOffA Tryz.prog 65 2 2 := fun a w => by kernel_rfl
theorem fo115_0 : FieldOff Tryz.prog 115 0 0 := fun b o w => by kernel_rfl
theorem fo115_1 : FieldOff Tryz.prog 115 1 4 := fun b o w => by kernel_rfl
theorem fo124_3 : FieldOff Tryz.prog 124 3 3 := fun b o w => by kernel_rfl
theorem fo124_5 : FieldOff Tryz.prog 124 5 5 := fun b o w => by kernel_rfl
theorem fo28_0 : FieldOff Tryz.prog 28 0 0 := fun b o w => by kernel_rfl
theorem fo28_1 : FieldOff Tryz.prog 28 1 1 := fun b o w => by kernel_rfl
theorem fo28_2 : FieldOff Tryz.prog 28 2 2 := fun b o w => by kernel_rfl
theorem fo28_3 : FieldOff Tryz.prog 28 3 3 := fun b o w => by kernel_rfl
theorem fo44_0 : FieldOff Tryz.prog 44 0 0 := fun b o w => by kernel_rfl
theorem fo51_3 : FieldOff Tryz.prog 51 3 3 := fun b o w => by kernel_rfl
theorem fo51_5 : FieldOff Tryz.prog 51 5 5 := fun b o w => by kernel_rfl
theorem fo53_0 : FieldOff Tryz.prog 53 0 0 := fun b o w => by kernel_rfl
theorem fo53_1 : FieldOff Tryz.prog 53 1 1 := fun b o w => by kernel_rfl
theorem fo53_2 : FieldOff Tryz.prog 53 2 2 := fun b o w => by kernel_rfl
theorem fo57_0 : FieldOff Tryz.prog 57 0 0 := fun b o w => by kernel_rfl
theorem fo57_1 : FieldOff Tryz.prog 57 1 1 := fun b o w => by kernel_rfl
theorem fo57_2 : FieldOff Tryz.prog 57 2 2 := fun b o w => by kernel_rfl
theorem fo57_3 : FieldOff Tryz.prog 57 3 3 := fun b o w => by kernel_rfl
theorem fo65_0 : FieldOff Tryz.prog 65 0 0 := fun b o w => by kernel_rfl
theorem fo65_1 : FieldOff Tryz.prog 65 1 1 := fun b o w => by kernel_rfl
theorem fo65_2 : FieldOff Tryz.prog 65 2 2 := fun b o w => by kernel_rfl
theorem one122 : One Tryz.prog 122 := fun w => by kernel_rfl
theorem one22 : One Tryz.prog 22 := fun w => by kernel_rfl
theorem one25 : One Tryz.prog 25 := fun w => by kernel_rfl
theorem one26 : One Tryz.prog 26 := fun w => by kernel_rfl
theorem one3 : One Tryz.prog 3 := fun w => by kernel_rfl
theorem one49 : One Tryz.prog 49 := fun w => by kernel_rfl
theorem one55 : One Tryz.prog 55 := fun w => by kernel_rfl
theorem sz3 : SizeIs Tryz.prog 3 1 := fun w => by kernel_rfl
theorem sz44 : SizeIs Tryz.prog 44 5 := fun w => by kernel_rfl
theorem un122 : Tryz.prog.underlying 122 = some (.slice 65) := by kernel_rfl
theorem un22 : Tryz.prog.underlying 22 = some (.slice 44) := by kernel_rfl
theorem un25 : Tryz.prog.underlying 25 = some (.slice 51) := by kernel_rfl
theorem un26 : Tryz.prog.underlying 26 = some (.slice 9) := by kernel_rfl
theorem un49 : Tryz.prog.underlying 49 = some (.slice 53) := by kernel_rfl
theorem un55 : Tryz.prog.underlying 55 = some (.slice 124) := by kernel_rfl
end Fk
theorem tup2 {a b c d : Int} (h1 : c = a) (h2 : d = b) : Value.tuple #[.int .i64 a, .int .i64 b] = .tuple #[.int .i64 c, .int .i64 d] := by rw [h1, h2]
theorem effect_c {w0 : World} {base : Nat} {fr : List It} {i : Ins} (ha : i.a ≤ 1099511627776) (hb : i.b ≤ 1099511627776) (hn : ¬(i.op = 1 ∨ i.op = 2 ∨ i.op = 4 ∨ i.op = 6 ∨ i.op = 28 ∨ i.op = 30) ∧ ¬(i.op = 3 ∨ i.op = 5 ∨ i.op = 13 ∨ i.op = 14 ∨ i.op = 15 ∨ i.op = 24 ∨ i.op = 26 ∨ i.op = 27 ∨ i.op = 29) ∧ ¬(i.op = 10 ∨ i.op = 17 ∨ i.op = 22) ∧ ¬(i.op = 11 ∨ i.op = 18 ∨ i.op = 25) ∧ ¬(i.op = 23 ∨ i.op = 32)) : FnC Tryz.prog 60 #[insV i] (WA w0 base fr) (fun _ : Unit => .tuple #[.int .i64 (tk i), .int .i64 (pt i)]) (fun _ => WA w0 base fr) := by
  have hm1 : 0 ≤ mx i.a ∧ mx i.a ≤ 1099511627776 := by unfold mx; split <;> omega
  have hm2 : 0 ≤ mx i.b ∧ mx i.b ≤ 1099511627776 := by unfold mx; split <;> omega
  refine FnC.of_body (fn := Tryz.f60) [(0, _)] Tryz.func60 rfl Tryz.ntmps60 rfl ⟨rfl, trivial⟩ ?_
  refine CX.seq ?_
  refine CX.region ?_
  refine LX.box rfl rfl rfl rfl rfl ?_
  intro bx0
  refine LX.pure (Y.assign rfl) rfl rfl rfl ?_
  refine LX.pure (Y.assign rfl) rfl rfl rfl ?_
  refine LX.sub (l' := [(1, _), (2, _), (3, _)]) ⟨rfl, rfl, rfl, trivial⟩ ?_
  refine LX.next ?_
  refine PX.thenN ?_
  refine CX.seq ?_
  refine CX.region ?_
  refine LX.pure (Y.fieldAddr0 Fk.fo53_1 rfl) rfl rfl rfl ?_
  refine LX.pure (Y.ldB 0 Fk.one3 rfl rfl rfl) rfl rfl rfl ?_
  refine LX.pure (Y.max2 rfl rfl) rfl rfl rfl ?_
  refine LX.pure (Y.fieldAddr0 Fk.fo53_2 rfl) rfl rfl rfl ?_
  refine LX.pure (Y.ldB 0 Fk.one3 rfl rfl rfl) rfl rfl rfl ?_
  refine LX.pure (Y.max2 rfl rfl) rfl rfl rfl ?_
  refine LX.pure (Y.fieldAddr0 Fk.fo53_1 rfl) rfl rfl rfl ?_
  refine LX.storeB 0 Fk.sz3 rfl rfl rfl rfl rfl rfl rfl rfl ?_
  refine LX.pure (Y.fieldAddr0 Fk.fo53_2 rfl) rfl rfl rfl ?_
  refine LX.storeB 0 Fk.sz3 rfl rfl rfl rfl rfl rfl rfl rfl ?_
  refine LX.sub (l' := [(1, _), (2, _), (3, _)]) ⟨rfl, rfl, rfl, trivial⟩ ?_
  refine LX.next ?_
  refine PX.thenN ?_
  refine CX.seq ?_
  refine CX.seq ?_
  refine CX.region ?_
  refine LX.pure (Y.fieldAddr0 Fk.fo53_0 rfl) rfl rfl rfl ?_
  refine LX.pure (Y.ldB 0 Fk.one3 rfl rfl rfl) rfl rfl rfl ?_
  refine LX.sub (l' := [(1, _), (2, _), (3, _), (13, _)]) ⟨rfl, rfl, rfl, rfl, trivial⟩ ?_
  refine LX.next ?_
  refine PX.thenN ?_
  refine CX.block ?_
  refine CX.sub (l' := [(1, _), (2, _), (3, _), (13, _)]) ⟨rfl, rfl, rfl, rfl, trivial⟩ ?_
  apply CX.seqSw 14
  ·
    refine CX.seq ?_
    refine CX.region ?_
    refine LX.pure (Y.eqI rfl rfl) rfl rfl rfl ?_
    refine LX.pure (Y.assign rfl) rfl rfl rfl ?_
    refine LX.next ?_
    refine PX.thenN ?_
    apply CX.swOr
    · rfl
    · exact ⟨rfl, rfl, rfl, rfl, rfl, trivial⟩
    intro hb1
    try simp at hb1
    refine CX.region ?_
    refine LX.pure (Y.eqI rfl rfl) rfl rfl rfl ?_
    refine LX.pure (Y.assign rfl) rfl rfl rfl ?_
    refine LX.next ?_
    exact PX.sw ⟨rfl, rfl, rfl, rfl, rfl, trivial⟩
  refine CX.cond rfl (fun hb2 => ?_) (fun hb2 => ?_)
  · try simp at hb2
    refine CX.seq ?_
    refine CX.region ?_
    refine LX.pure (Y.fieldAddr0 Fk.fo53_1 rfl) rfl rfl rfl ?_
    refine LX.pure (Y.ldB 0 Fk.one3 rfl rfl rfl) rfl rfl rfl ?_
    refine LX.pure (Y.assign rfl) rfl rfl rfl ?_
    refine LX.pure (Y.assign rfl) rfl rfl rfl ?_
    refine LX.sub (l' := [(2, _), (3, _)]) ⟨rfl, rfl, trivial⟩ ?_
    refine LX.next ?_
    refine PX.thenN ?_
    refine CX.ret ?_
    refine PX.blockR ?_
    refine PX.thenR ?_
    refine PX.ret2 (by simp) Tryz.results60 rfl rfl ?_
    exact fun w hw => ⟨(), congrArg Ending.returned (tup2 (by unfold tk; repeat (first | rw [if_pos (by omega)] | rw [if_neg (by omega)]); try rfl) (by unfold pt; repeat (first | rw [if_pos (by omega)] | rw [if_neg (by omega)]); try rfl)), hw.drop (List.sublist_cons_self _ _)⟩
  · try simp at hb2
    refine CX.seq ?_
    refine CX.region ?_
    refine LX.pure (Y.eqI rfl rfl) rfl rfl rfl ?_
    refine LX.pure (Y.assign rfl) rfl rfl rfl ?_
    refine LX.sub (l' := [(1, _), (2, _), (3, _), (13, _), (19, _)]) ⟨rfl, rfl, rfl, rfl, rfl, trivial⟩ ?_
    refine LX.next ?_
    refine PX.thenN ?_
    refine CX.cond rfl (fun hb3 => ?_) (fun hb3 => ?_)
    · try simp at hb3
      refine CX.seq ?_
      refine CX.region ?_
      refine LX.pure (Y.fieldAddr0 Fk.fo53_1 rfl) rfl rfl rfl ?_
      refine LX.pure (Y.ldB 0 Fk.one3 rfl rfl rfl) rfl rfl rfl ?_
      refine LX.pure (Y.mul rfl rfl (by omega)) rfl rfl rfl ?_
      refine LX.pure (Y.assign rfl) rfl rfl rfl ?_
      refine LX.pure (Y.assign rfl) rfl rfl rfl ?_
      refine LX.sub (l' := [(2, _), (3, _)]) ⟨rfl, rfl, trivial⟩ ?_
      refine LX.next ?_
      refine PX.thenN ?_
      refine CX.ret ?_
      refine PX.blockR ?_
      refine PX.thenR ?_
      refine PX.ret2 (by simp) Tryz.results60 rfl rfl ?_
      exact fun w hw => ⟨(), congrArg Ending.returned (tup2 (by unfold tk; repeat (first | rw [if_pos (by omega)] | rw [if_neg (by omega)]); try rfl) (by unfold pt; repeat (first | rw [if_pos (by omega)] | rw [if_neg (by omega)]); try rfl)), hw.drop (List.sublist_cons_self _ _)⟩
    · try simp at hb3
      refine CX.seq ?_
      refine CX.region ?_
      refine LX.pure (Y.eqI rfl rfl) rfl rfl rfl ?_
      refine LX.pure (Y.assign rfl) rfl rfl rfl ?_
      refine LX.sub (l' := [(1, _), (2, _), (3, _), (13, _), (24, _)]) ⟨rfl, rfl, rfl, rfl, rfl, trivial⟩ ?_
      refine LX.next ?_
      refine PX.thenN ?_
      refine CX.cond rfl (fun hb4 => ?_) (fun hb4 => ?_)
      · try simp at hb4
        refine CX.seq ?_
        refine CX.region ?_
        refine LX.pure (Y.fieldAddr0 Fk.fo53_1 rfl) rfl rfl rfl ?_
        refine LX.pure (Y.ldB 0 Fk.one3 rfl rfl rfl) rfl rfl rfl ?_
        refine LX.pure (Y.add rfl rfl (by omega)) rfl rfl rfl ?_
        refine LX.pure (Y.fieldAddr0 Fk.fo53_2 rfl) rfl rfl rfl ?_
        refine LX.pure (Y.ldB 0 Fk.one3 rfl rfl rfl) rfl rfl rfl ?_
        refine LX.pure (Y.mul rfl rfl (by omega)) rfl rfl rfl ?_
        refine LX.pure (Y.add rfl rfl (by omega)) rfl rfl rfl ?_
        refine LX.pure (Y.assign rfl) rfl rfl rfl ?_
        refine LX.pure (Y.assign rfl) rfl rfl rfl ?_
        refine LX.sub (l' := [(2, _), (3, _)]) ⟨rfl, rfl, trivial⟩ ?_
        refine LX.next ?_
        refine PX.thenN ?_
        refine CX.ret ?_
        refine PX.blockR ?_
        refine PX.thenR ?_
        refine PX.ret2 (by simp) Tryz.results60 rfl rfl ?_
        exact fun w hw => ⟨(), congrArg Ending.returned (tup2 (by unfold tk; repeat (first | rw [if_pos (by omega)] | rw [if_neg (by omega)]); try rfl) (by unfold pt; repeat (first | rw [if_pos (by omega)] | rw [if_neg (by omega)]); try rfl)), hw.drop (List.sublist_cons_self _ _)⟩
      · try simp at hb4
        refine CX.seq ?_
        refine CX.region ?_
        refine LX.pure (Y.eqI rfl rfl) rfl rfl rfl ?_
        refine LX.pure (Y.assign rfl) rfl rfl rfl ?_
        refine LX.sub (l' := [(1, _), (2, _), (3, _), (13, _), (33, _)]) ⟨rfl, rfl, rfl, rfl, rfl, trivial⟩ ?_
        refine LX.next ?_
        refine PX.thenN ?_
        refine CX.cond rfl (fun hb5 => ?_) (fun hb5 => ?_)
        · try simp at hb5
          refine CX.seq ?_
          refine CX.region ?_
          refine LX.pure (Y.fieldAddr0 Fk.fo53_1 rfl) rfl rfl rfl ?_
          refine LX.pure (Y.ldB 0 Fk.one3 rfl rfl rfl) rfl rfl rfl ?_
          refine LX.pure (Y.and1 rfl rfl) rfl rfl rfl ?_
          refine LX.pure (Y.add rfl rfl (by omega)) rfl rfl rfl ?_
          refine LX.pure (Y.fieldAddr0 Fk.fo53_1 rfl) rfl rfl rfl ?_
          refine LX.pure (Y.ldB 0 Fk.one3 rfl rfl rfl) rfl rfl rfl ?_
          refine LX.pure (Y.shr1 rfl rfl) rfl rfl rfl ?_
          refine LX.pure (Y.and1 rfl rfl) rfl rfl rfl ?_
          refine LX.pure (Y.add rfl rfl (by omega)) rfl rfl rfl ?_
          refine LX.pure (Y.assign rfl) rfl rfl rfl ?_
          refine LX.pure (Y.assign rfl) rfl rfl rfl ?_
          refine LX.sub (l' := [(2, _), (3, _)]) ⟨rfl, rfl, trivial⟩ ?_
          refine LX.next ?_
          refine PX.thenN ?_
          refine CX.ret ?_
          refine PX.blockR ?_
          refine PX.thenR ?_
          refine PX.ret2 (by simp) Tryz.results60 rfl rfl ?_
          exact fun w hw => ⟨(), congrArg Ending.returned (tup2 (by unfold tk; repeat (first | rw [if_pos (by omega)] | rw [if_neg (by omega)]); try rfl) (by unfold pt; repeat (first | rw [if_pos (by omega)] | rw [if_neg (by omega)]); try rfl)), hw.drop (List.sublist_cons_self _ _)⟩
        · try simp at hb5
          refine CX.seq ?_
          refine CX.region ?_
          refine LX.pure (Y.eqI rfl rfl) rfl rfl rfl ?_
          refine LX.pure (Y.assign rfl) rfl rfl rfl ?_
          refine LX.sub (l' := [(1, _), (2, _), (3, _), (13, _), (44, _)]) ⟨rfl, rfl, rfl, rfl, rfl, trivial⟩ ?_
          refine LX.next ?_
          refine PX.thenN ?_
          refine CX.cond rfl (fun hb6 => ?_) (fun hb6 => ?_)
          · try simp at hb6
            refine CX.seq ?_
            refine CX.region ?_
            refine LX.pure (Y.assign rfl) rfl rfl rfl ?_
            refine LX.pure (Y.assign rfl) rfl rfl rfl ?_
            refine LX.sub (l' := [(2, _), (3, _)]) ⟨rfl, rfl, trivial⟩ ?_
            refine LX.next ?_
            refine PX.thenN ?_
            refine CX.ret ?_
            refine PX.blockR ?_
            refine PX.thenR ?_
            refine PX.ret2 (by simp) Tryz.results60 rfl rfl ?_
            exact fun w hw => ⟨(), congrArg Ending.returned (tup2 (by unfold tk; repeat (first | rw [if_pos (by omega)] | rw [if_neg (by omega)]); try rfl) (by unfold pt; repeat (first | rw [if_pos (by omega)] | rw [if_neg (by omega)]); try rfl)), hw.drop (List.sublist_cons_self _ _)⟩
          · try simp at hb6
            refine CX.seq ?_
            refine CX.region ?_
            refine LX.pure (Y.eqI rfl rfl) rfl rfl rfl ?_
            refine LX.pure (Y.assign rfl) rfl rfl rfl ?_
            refine LX.sub (l' := [(1, _), (2, _), (3, _), (13, _), (46, _)]) ⟨rfl, rfl, rfl, rfl, rfl, trivial⟩ ?_
            refine LX.next ?_
            refine PX.thenN ?_
            refine CX.cond rfl (fun hb7 => ?_) (fun hb7 => ?_)
            · try simp at hb7
              refine CX.seq ?_
              refine CX.regionQ rfl (by kernel_rfl) ?_
              refine LX.pure (Y.fieldAddr0 Fk.fo53_1 rfl) rfl rfl rfl ?_
              refine LX.pure (Y.ldB 0 Fk.one3 rfl rfl rfl) rfl rfl rfl ?_
              refine LX.pure (Y.assign rfl) rfl rfl rfl ?_
              refine LX.pure (Y.assign rfl) rfl rfl rfl ?_
              refine LX.sub (l' := [(2, _), (3, _)]) ⟨rfl, rfl, trivial⟩ ?_
              refine LX.nextQ ?_
              refine PX.thenN ?_
              refine CX.ret ?_
              refine PX.blockR ?_
              refine PX.thenR ?_
              refine PX.ret2 (by simp) Tryz.results60 rfl rfl ?_
              exact fun w hw => ⟨(), congrArg Ending.returned (tup2 (by unfold tk; repeat (first | rw [if_pos (by omega)] | rw [if_neg (by omega)]); try rfl) (by unfold pt; repeat (first | rw [if_pos (by omega)] | rw [if_neg (by omega)]); try rfl)), hw.drop (List.sublist_cons_self _ _)⟩
            · try simp at hb7
              refine CX.seq ?_
              refine CX.region ?_
              refine LX.pure (Y.eqI rfl rfl) rfl rfl rfl ?_
              refine LX.pure (Y.assign rfl) rfl rfl rfl ?_
              refine LX.sub (l' := [(2, _), (3, _), (50, _)]) ⟨rfl, rfl, rfl, trivial⟩ ?_
              refine LX.next ?_
              refine PX.thenN ?_
              refine CX.cond rfl (fun hb8 => ?_) (fun hb8 => ?_)
              · try simp at hb8
                refine CX.seq ?_
                refine CX.region ?_
                refine LX.pure (Y.assign rfl) rfl rfl rfl ?_
                refine LX.pure (Y.assign rfl) rfl rfl rfl ?_
                refine LX.sub (l' := [(2, _), (3, _)]) ⟨rfl, rfl, trivial⟩ ?_
                refine LX.next ?_
                refine PX.thenN ?_
                refine CX.ret ?_
                refine PX.blockR ?_
                refine PX.thenR ?_
                refine PX.ret2 (by simp) Tryz.results60 rfl rfl ?_
                exact fun w hw => ⟨(), congrArg Ending.returned (tup2 (by unfold tk; repeat (first | rw [if_pos (by omega)] | rw [if_neg (by omega)]); try rfl) (by unfold pt; repeat (first | rw [if_pos (by omega)] | rw [if_neg (by omega)]); try rfl)), hw.drop (List.sublist_cons_self _ _)⟩
              · try simp at hb8
                refine CX.skip ?_
                refine PX.blockN ?_
                refine PX.thenN ?_
                refine CX.seq ?_
                refine CX.region ?_
                refine LX.pure (Y.assign rfl) rfl rfl rfl ?_
                refine LX.pure (Y.assign rfl) rfl rfl rfl ?_
                refine LX.sub (l' := [(2, _), (3, _)]) ⟨rfl, rfl, trivial⟩ ?_
                refine LX.next ?_
                refine PX.thenN ?_
                refine CX.ret ?_
                refine PX.ret2 (by simp) Tryz.results60 rfl rfl ?_
                exact fun w hw => ⟨(), congrArg Ending.returned (tup2 (by unfold tk; repeat (rw [if_neg (by omega)]); try rfl) (by unfold pt; repeat (rw [if_neg (by omega)]); try rfl)), hw.drop (List.sublist_cons_self _ _)⟩
theorem Effect_c {w0 : World} {base : Nat} {fr : List It} {i : Ins} (ha : i.a ≤ 1099511627776) (hb : i.b ≤ 1099511627776) : FnC Tryz.prog 23 #[insV i] (WA w0 base fr) (fun _ : Unit => .tuple #[.int .i64 (tk i), .int .i64 (pt i)]) (fun _ => WA w0 base fr) := by
  have hm1 : 0 ≤ mx i.a ∧ mx i.a ≤ 1099511627776 := by unfold mx; split <;> omega
  have hm2 : 0 ≤ mx i.b ∧ mx i.b ≤ 1099511627776 := by unfold mx; split <;> omega
  refine FnC.of_body (fn := Tryz.f23) [(0, _)] Tryz.func23 rfl Tryz.ntmps23 rfl ⟨rfl, trivial⟩ ?_
  refine CX.seq ?_
  refine CX.region ?_
  refine LX.box rfl rfl rfl rfl rfl ?_
  intro bx0
  refine LX.pure (Y.assign rfl) rfl rfl rfl ?_
  refine LX.pure (Y.assign rfl) rfl rfl rfl ?_
  refine LX.sub (l' := [(1, _), (2, _), (3, _)]) ⟨rfl, rfl, rfl, trivial⟩ ?_
  refine LX.next ?_
  refine PX.thenN ?_
  refine CX.seq ?_
  refine CX.seq ?_
  refine CX.region ?_
  refine LX.pure (Y.fieldAddr0 Fk.fo53_0 rfl) rfl rfl rfl ?_
  refine LX.pure (Y.ldB 0 Fk.one3 rfl rfl rfl) rfl rfl rfl ?_
  refine LX.sub (l' := [(1, _), (2, _), (3, _), (5, _)]) ⟨rfl, rfl, rfl, rfl, trivial⟩ ?_
  refine LX.next ?_
  refine PX.thenN ?_
  refine CX.block ?_
  refine CX.sub (l' := [(1, _), (2, _), (3, _), (5, _)]) ⟨rfl, rfl, rfl, rfl, trivial⟩ ?_
  apply CX.seqSw 6
  ·
    refine CX.seq ?_
    refine CX.region ?_
    refine LX.pure (Y.eqI rfl rfl) rfl rfl rfl ?_
    refine LX.pure (Y.assign rfl) rfl rfl rfl ?_
    refine LX.next ?_
    refine PX.thenN ?_
    apply CX.swOr
    · rfl
    · exact ⟨rfl, rfl, rfl, rfl, rfl, trivial⟩
    intro hb1
    try simp at hb1
    refine CX.seq ?_
    refine CX.region ?_
    refine LX.pure (Y.eqI rfl rfl) rfl rfl rfl ?_
    refine LX.pure (Y.assign rfl) rfl rfl rfl ?_
    refine LX.next ?_
    refine PX.thenN ?_
    apply CX.swOr
    · rfl
    · exact ⟨rfl, rfl, rfl, rfl, rfl, trivial⟩
    intro hb2
    try simp at hb2
    refine CX.seq ?_
    refine CX.region ?_
    refine LX.pure (Y.eqI rfl rfl) rfl rfl rfl ?_
    refine LX.pure (Y.assign rfl) rfl rfl rfl ?_
    refine LX.next ?_
    refine PX.thenN ?_
    apply CX.swOr
    · rfl
    · exact ⟨rfl, rfl, rfl, rfl, rfl, trivial⟩
    intro hb3
    try simp at hb3
    refine CX.seq ?_
    refine CX.region ?_
    refine LX.pure (Y.eqI rfl rfl) rfl rfl rfl ?_
    refine LX.pure (Y.assign rfl) rfl rfl rfl ?_
    refine LX.next ?_
    refine PX.thenN ?_
    apply CX.swOr
    · rfl
    · exact ⟨rfl, rfl, rfl, rfl, rfl, trivial⟩
    intro hb4
    try simp at hb4
    refine CX.seq ?_
    refine CX.region ?_
    refine LX.pure (Y.eqI rfl rfl) rfl rfl rfl ?_
    refine LX.pure (Y.assign rfl) rfl rfl rfl ?_
    refine LX.next ?_
    refine PX.thenN ?_
    apply CX.swOr
    · rfl
    · exact ⟨rfl, rfl, rfl, rfl, rfl, trivial⟩
    intro hb5
    try simp at hb5
    refine CX.region ?_
    refine LX.pure (Y.eqI rfl rfl) rfl rfl rfl ?_
    refine LX.pure (Y.assign rfl) rfl rfl rfl ?_
    refine LX.next ?_
    exact PX.sw ⟨rfl, rfl, rfl, rfl, rfl, trivial⟩
  refine CX.cond rfl (fun hb6 => ?_) (fun hb6 => ?_)
  · try simp at hb6
    refine CX.seq ?_
    refine CX.region ?_
    refine LX.pure (Y.assign rfl) rfl rfl rfl ?_
    refine LX.pure (Y.assign rfl) rfl rfl rfl ?_
    refine LX.sub (l' := [(1, _), (2, _), (3, _)]) ⟨rfl, rfl, rfl, trivial⟩ ?_
    refine LX.next ?_
    refine PX.thenN ?_
    refine CX.ret ?_
    refine PX.blockR ?_
    refine PX.thenR ?_
    refine PX.ret2 (by simp) Tryz.results23 rfl rfl ?_
    exact fun w hw => ⟨(), congrArg Ending.returned (tup2 (by unfold tk; repeat (rw [if_pos (by omega)]); try rfl) (by unfold pt; repeat (rw [if_pos (by omega)]); try rfl)), hw.drop (List.sublist_cons_self _ _)⟩
  · try simp at hb6
    refine CX.sub (l' := [(1, _), (2, _), (3, _), (5, _)]) ⟨rfl, rfl, rfl, rfl, trivial⟩ ?_
    apply CX.seqSw 13
    ·
      refine CX.seq ?_
      refine CX.region ?_
      refine LX.pure (Y.eqI rfl rfl) rfl rfl rfl ?_
      refine LX.pure (Y.assign rfl) rfl rfl rfl ?_
      refine LX.next ?_
      refine PX.thenN ?_
      apply CX.swOr
      · rfl
      · exact ⟨rfl, rfl, rfl, rfl, rfl, trivial⟩
      intro hb7
      try simp at hb7
      refine CX.seq ?_
      refine CX.region ?_
      refine LX.pure (Y.eqI rfl rfl) rfl rfl rfl ?_
      refine LX.pure (Y.assign rfl) rfl rfl rfl ?_
      refine LX.next ?_
      refine PX.thenN ?_
      apply CX.swOr
      · rfl
      · exact ⟨rfl, rfl, rfl, rfl, rfl, trivial⟩
      intro hb8
      try simp at hb8
      refine CX.seq ?_
      refine CX.region ?_
      refine LX.pure (Y.eqI rfl rfl) rfl rfl rfl ?_
      refine LX.pure (Y.assign rfl) rfl rfl rfl ?_
      refine LX.next ?_
      refine PX.thenN ?_
      apply CX.swOr
      · rfl
      · exact ⟨rfl, rfl, rfl, rfl, rfl, trivial⟩
      intro hb9
      try simp at hb9
      refine CX.seq ?_
      refine CX.region ?_
      refine LX.pure (Y.eqI rfl rfl) rfl rfl rfl ?_
      refine LX.pure (Y.assign rfl) rfl rfl rfl ?_
      refine LX.next ?_
      refine PX.thenN ?_
      apply CX.swOr
      · rfl
      · exact ⟨rfl, rfl, rfl, rfl, rfl, trivial⟩
      intro hb10
      try simp at hb10
      refine CX.seq ?_
      refine CX.region ?_
      refine LX.pure (Y.eqI rfl rfl) rfl rfl rfl ?_
      refine LX.pure (Y.assign rfl) rfl rfl rfl ?_
      refine LX.next ?_
      refine PX.thenN ?_
      apply CX.swOr
      · rfl
      · exact ⟨rfl, rfl, rfl, rfl, rfl, trivial⟩
      intro hb11
      try simp at hb11
      refine CX.seq ?_
      refine CX.region ?_
      refine LX.pure (Y.eqI rfl rfl) rfl rfl rfl ?_
      refine LX.pure (Y.assign rfl) rfl rfl rfl ?_
      refine LX.next ?_
      refine PX.thenN ?_
      apply CX.swOr
      · rfl
      · exact ⟨rfl, rfl, rfl, rfl, rfl, trivial⟩
      intro hb12
      try simp at hb12
      refine CX.seq ?_
      refine CX.region ?_
      refine LX.pure (Y.eqI rfl rfl) rfl rfl rfl ?_
      refine LX.pure (Y.assign rfl) rfl rfl rfl ?_
      refine LX.next ?_
      refine PX.thenN ?_
      apply CX.swOr
      · rfl
      · exact ⟨rfl, rfl, rfl, rfl, rfl, trivial⟩
      intro hb13
      try simp at hb13
      refine CX.seq ?_
      refine CX.region ?_
      refine LX.pure (Y.eqI rfl rfl) rfl rfl rfl ?_
      refine LX.pure (Y.assign rfl) rfl rfl rfl ?_
      refine LX.next ?_
      refine PX.thenN ?_
      apply CX.swOr
      · rfl
      · exact ⟨rfl, rfl, rfl, rfl, rfl, trivial⟩
      intro hb14
      try simp at hb14
      refine CX.region ?_
      refine LX.pure (Y.eqI rfl rfl) rfl rfl rfl ?_
      refine LX.pure (Y.assign rfl) rfl rfl rfl ?_
      refine LX.next ?_
      exact PX.sw ⟨rfl, rfl, rfl, rfl, rfl, trivial⟩
    refine CX.cond rfl (fun hb15 => ?_) (fun hb15 => ?_)
    · try simp at hb15
      refine CX.seq ?_
      refine CX.region ?_
      refine LX.pure (Y.assign rfl) rfl rfl rfl ?_
      refine LX.pure (Y.assign rfl) rfl rfl rfl ?_
      refine LX.sub (l' := [(1, _), (2, _), (3, _)]) ⟨rfl, rfl, rfl, trivial⟩ ?_
      refine LX.next ?_
      refine PX.thenN ?_
      refine CX.ret ?_
      refine PX.blockR ?_
      refine PX.thenR ?_
      refine PX.ret2 (by simp) Tryz.results23 rfl rfl ?_
      exact fun w hw => ⟨(), congrArg Ending.returned (tup2 (by unfold tk; repeat (first | rw [if_pos (by omega)] | rw [if_neg (by omega)]); try rfl) (by unfold pt; repeat (first | rw [if_pos (by omega)] | rw [if_neg (by omega)]); try rfl)), hw.drop (List.sublist_cons_self _ _)⟩
    · try simp at hb15
      refine CX.sub (l' := [(1, _), (2, _), (3, _), (5, _)]) ⟨rfl, rfl, rfl, rfl, trivial⟩ ?_
      apply CX.seqSw 23
      ·
        refine CX.seq ?_
        refine CX.region ?_
        refine LX.pure (Y.eqI rfl rfl) rfl rfl rfl ?_
        refine LX.pure (Y.assign rfl) rfl rfl rfl ?_
        refine LX.next ?_
        refine PX.thenN ?_
        apply CX.swOr
        · rfl
        · exact ⟨rfl, rfl, rfl, rfl, rfl, trivial⟩
        intro hb16
        try simp at hb16
        refine CX.seq ?_
        refine CX.region ?_
        refine LX.pure (Y.eqI rfl rfl) rfl rfl rfl ?_
        refine LX.pure (Y.assign rfl) rfl rfl rfl ?_
        refine LX.next ?_
        refine PX.thenN ?_
        apply CX.swOr
        · rfl
        · exact ⟨rfl, rfl, rfl, rfl, rfl, trivial⟩
        intro hb17
        try simp at hb17
        refine CX.region ?_
        refine LX.pure (Y.eqI rfl rfl) rfl rfl rfl ?_
        refine LX.pure (Y.assign rfl) rfl rfl rfl ?_
        refine LX.next ?_
        exact PX.sw ⟨rfl, rfl, rfl, rfl, rfl, trivial⟩
      refine CX.cond rfl (fun hb18 => ?_) (fun hb18 => ?_)
      · try simp at hb18
        refine CX.seq ?_
        refine CX.region ?_
        refine LX.pure (Y.assign rfl) rfl rfl rfl ?_
        refine LX.pure (Y.assign rfl) rfl rfl rfl ?_
        refine LX.sub (l' := [(1, _), (2, _), (3, _)]) ⟨rfl, rfl, rfl, trivial⟩ ?_
        refine LX.next ?_
        refine PX.thenN ?_
        refine CX.ret ?_
        refine PX.blockR ?_
        refine PX.thenR ?_
        refine PX.ret2 (by simp) Tryz.results23 rfl rfl ?_
        exact fun w hw => ⟨(), congrArg Ending.returned (tup2 (by unfold tk; repeat (first | rw [if_pos (by omega)] | rw [if_neg (by omega)]); try rfl) (by unfold pt; repeat (first | rw [if_pos (by omega)] | rw [if_neg (by omega)]); try rfl)), hw.drop (List.sublist_cons_self _ _)⟩
      · try simp at hb18
        refine CX.sub (l' := [(1, _), (2, _), (3, _), (5, _)]) ⟨rfl, rfl, rfl, rfl, trivial⟩ ?_
        apply CX.seqSw 27
        ·
          refine CX.seq ?_
          refine CX.region ?_
          refine LX.pure (Y.eqI rfl rfl) rfl rfl rfl ?_
          refine LX.pure (Y.assign rfl) rfl rfl rfl ?_
          refine LX.next ?_
          refine PX.thenN ?_
          apply CX.swOr
          · rfl
          · exact ⟨rfl, rfl, rfl, rfl, rfl, trivial⟩
          intro hb19
          try simp at hb19
          refine CX.seq ?_
          refine CX.region ?_
          refine LX.pure (Y.eqI rfl rfl) rfl rfl rfl ?_
          refine LX.pure (Y.assign rfl) rfl rfl rfl ?_
          refine LX.next ?_
          refine PX.thenN ?_
          apply CX.swOr
          · rfl
          · exact ⟨rfl, rfl, rfl, rfl, rfl, trivial⟩
          intro hb20
          try simp at hb20
          refine CX.region ?_
          refine LX.pure (Y.eqI rfl rfl) rfl rfl rfl ?_
          refine LX.pure (Y.assign rfl) rfl rfl rfl ?_
          refine LX.next ?_
          exact PX.sw ⟨rfl, rfl, rfl, rfl, rfl, trivial⟩
        refine CX.cond rfl (fun hb21 => ?_) (fun hb21 => ?_)
        · try simp at hb21
          refine CX.seq ?_
          refine CX.region ?_
          refine LX.pure (Y.assign rfl) rfl rfl rfl ?_
          refine LX.pure (Y.assign rfl) rfl rfl rfl ?_
          refine LX.sub (l' := [(1, _), (2, _), (3, _)]) ⟨rfl, rfl, rfl, trivial⟩ ?_
          refine LX.next ?_
          refine PX.thenN ?_
          refine CX.ret ?_
          refine PX.blockR ?_
          refine PX.thenR ?_
          refine PX.ret2 (by simp) Tryz.results23 rfl rfl ?_
          exact fun w hw => ⟨(), congrArg Ending.returned (tup2 (by unfold tk; repeat (first | rw [if_pos (by omega)] | rw [if_neg (by omega)]); try rfl) (by unfold pt; repeat (first | rw [if_pos (by omega)] | rw [if_neg (by omega)]); try rfl)), hw.drop (List.sublist_cons_self _ _)⟩
        · try simp at hb21
          refine CX.sub (l' := [(1, _), (2, _), (3, _), (5, _)]) ⟨rfl, rfl, rfl, rfl, trivial⟩ ?_
          apply CX.seqSw 31
          ·
            refine CX.seq ?_
            refine CX.region ?_
            refine LX.pure (Y.eqI rfl rfl) rfl rfl rfl ?_
            refine LX.pure (Y.assign rfl) rfl rfl rfl ?_
            refine LX.next ?_
            refine PX.thenN ?_
            apply CX.swOr
            · rfl
            · exact ⟨rfl, rfl, rfl, rfl, rfl, trivial⟩
            intro hb22
            try simp at hb22
            refine CX.region ?_
            refine LX.pure (Y.eqI rfl rfl) rfl rfl rfl ?_
            refine LX.pure (Y.assign rfl) rfl rfl rfl ?_
            refine LX.next ?_
            exact PX.sw ⟨rfl, rfl, rfl, rfl, rfl, trivial⟩
          refine CX.cond rfl (fun hb23 => ?_) (fun hb23 => ?_)
          · try simp at hb23
            refine CX.seq ?_
            refine CX.region ?_
            refine LX.pure (Y.assign rfl) rfl rfl rfl ?_
            refine LX.pure (Y.assign rfl) rfl rfl rfl ?_
            refine LX.sub (l' := [(1, _), (2, _), (3, _)]) ⟨rfl, rfl, rfl, trivial⟩ ?_
            refine LX.next ?_
            refine PX.thenN ?_
            refine CX.ret ?_
            refine PX.blockR ?_
            refine PX.thenR ?_
            refine PX.ret2 (by simp) Tryz.results23 rfl rfl ?_
            exact fun w hw => ⟨(), congrArg Ending.returned (tup2 (by unfold tk; repeat (first | rw [if_pos (by omega)] | rw [if_neg (by omega)]); try rfl) (by unfold pt; repeat (first | rw [if_pos (by omega)] | rw [if_neg (by omega)]); try rfl)), hw.drop (List.sublist_cons_self _ _)⟩
          · try simp at hb23
            refine CX.skip ?_
            refine PX.blockN ?_
            refine PX.thenN ?_
            refine CX.seq ?_
            refine CX.region ?_
            refine LX.pure (Y.ldAggB (vs := insCs i) 0 Fk.ag53 rfl rfl rfl rfl) rfl rfl rfl ?_
            refine LX.call (effect_c ha hb (by omega)) Fk.en60 rfl rfl rfl rfl rfl ?_
            intro _
            refine LX.pure (Y.extract rfl rfl) rfl rfl rfl ?_
            refine LX.pure (Y.extract rfl rfl) rfl rfl rfl ?_
            refine LX.pure (Y.assign rfl) rfl rfl rfl ?_
            refine LX.pure (Y.assign rfl) rfl rfl rfl ?_
            refine LX.sub (l' := [(2, _), (3, _)]) ⟨rfl, rfl, trivial⟩ ?_
            refine LX.next ?_
            refine PX.thenN ?_
            refine CX.ret ?_
            refine PX.ret2 (by simp) Tryz.results23 rfl rfl ?_
            exact fun w hw => ⟨(), rfl, hw.drop (List.sublist_cons_self _ _)⟩
theorem refEffect_c {w0 : World} {base : Nat} {fr : List It} {i : Ins} (ha : i.a ≤ 1099511627776) (hb : i.b ≤ 1099511627776) : FnC Tryz.prog 24 #[insV i] (WA w0 base fr) (fun _ : Unit => .tuple #[.int .i64 (tk i), .int .i64 (pt i)]) (fun _ => WA w0 base fr) := by
  have hm1 : 0 ≤ mx i.a ∧ mx i.a ≤ 1099511627776 := by unfold mx; split <;> omega
  have hm2 : 0 ≤ mx i.b ∧ mx i.b ≤ 1099511627776 := by unfold mx; split <;> omega
  refine FnC.of_body (fn := Tryz.f24) [(0, _)] Tryz.func24 rfl Tryz.ntmps24 rfl ⟨rfl, trivial⟩ ?_
  refine CX.seq ?_
  refine CX.region ?_
  refine LX.box rfl rfl rfl rfl rfl ?_
  intro bx0
  refine LX.pure (Y.assign rfl) rfl rfl rfl ?_
  refine LX.pure (Y.assign rfl) rfl rfl rfl ?_
  refine LX.sub (l' := [(1, _), (2, _), (3, _)]) ⟨rfl, rfl, rfl, trivial⟩ ?_
  refine LX.next ?_
  refine PX.thenN ?_
  refine CX.seq ?_
  refine CX.region ?_
  refine LX.pure (Y.fieldAddr0 Fk.fo65_1 rfl) rfl rfl rfl ?_
  refine LX.pure (Y.ldB 0 Fk.one3 rfl rfl rfl) rfl rfl rfl ?_
  refine LX.pure (Y.max2 rfl rfl) rfl rfl rfl ?_
  refine LX.pure (Y.assign rfl) rfl rfl rfl ?_
  refine LX.sub (l' := [(1, _), (2, _), (3, _), (4, _)]) ⟨rfl, rfl, rfl, rfl, trivial⟩ ?_
  refine LX.next ?_
  refine PX.thenN ?_
  refine CX.seq ?_
  refine CX.seq ?_
  refine CX.region ?_
  refine LX.pure (Y.fieldAddr0 Fk.fo65_0 rfl) rfl rfl rfl ?_
  refine LX.pure (Y.ldB 0 Fk.one3 rfl rfl rfl) rfl rfl rfl ?_
  refine LX.sub (l' := [(1, _), (2, _), (3, _), (4, _), (9, _)]) ⟨rfl, rfl, rfl, rfl, rfl, trivial⟩ ?_
  refine LX.next ?_
  refine PX.thenN ?_
  refine CX.block ?_
  refine CX.sub (l' := [(1, _), (2, _), (3, _), (4, _), (9, _)]) ⟨rfl, rfl, rfl, rfl, rfl, trivial⟩ ?_
  apply CX.seqSw 10
  ·
    refine CX.seq ?_
    refine CX.region ?_
    refine LX.pure (Y.eqI rfl rfl) rfl rfl rfl ?_
    refine LX.pure (Y.assign rfl) rfl rfl rfl ?_
    refine LX.next ?_
    refine PX.thenN ?_
    apply CX.swOr
    · rfl
    · exact ⟨rfl, rfl, rfl, rfl, rfl, rfl, trivial⟩
    intro hb1
    try simp at hb1
    refine CX.seq ?_
    refine CX.region ?_
    refine LX.pure (Y.eqI rfl rfl) rfl rfl rfl ?_
    refine LX.pure (Y.assign rfl) rfl rfl rfl ?_
    refine LX.next ?_
    refine PX.thenN ?_
    apply CX.swOr
    · rfl
    · exact ⟨rfl, rfl, rfl, rfl, rfl, rfl, trivial⟩
    intro hb2
    try simp at hb2
    refine CX.seq ?_
    refine CX.region ?_
    refine LX.pure (Y.eqI rfl rfl) rfl rfl rfl ?_
    refine LX.pure (Y.assign rfl) rfl rfl rfl ?_
    refine LX.next ?_
    refine PX.thenN ?_
    apply CX.swOr
    · rfl
    · exact ⟨rfl, rfl, rfl, rfl, rfl, rfl, trivial⟩
    intro hb3
    try simp at hb3
    refine CX.seq ?_
    refine CX.region ?_
    refine LX.pure (Y.eqI rfl rfl) rfl rfl rfl ?_
    refine LX.pure (Y.assign rfl) rfl rfl rfl ?_
    refine LX.next ?_
    refine PX.thenN ?_
    apply CX.swOr
    · rfl
    · exact ⟨rfl, rfl, rfl, rfl, rfl, rfl, trivial⟩
    intro hb4
    try simp at hb4
    refine CX.region ?_
    refine LX.pure (Y.eqI rfl rfl) rfl rfl rfl ?_
    refine LX.pure (Y.assign rfl) rfl rfl rfl ?_
    refine LX.next ?_
    exact PX.sw ⟨rfl, rfl, rfl, rfl, rfl, rfl, trivial⟩
  refine CX.cond rfl (fun hb5 => ?_) (fun hb5 => ?_)
  · try simp at hb5
    refine CX.seq ?_
    refine CX.region ?_
    refine LX.pure (Y.assign rfl) rfl rfl rfl ?_
    refine LX.pure (Y.assign rfl) rfl rfl rfl ?_
    refine LX.sub (l' := [(2, _), (3, _)]) ⟨rfl, rfl, trivial⟩ ?_
    refine LX.next ?_
    refine PX.thenN ?_
    refine CX.ret ?_
    refine PX.blockR ?_
    refine PX.thenR ?_
    refine PX.ret2 (by simp) Tryz.results24 rfl rfl ?_
    exact fun w hw => ⟨(), congrArg Ending.returned (tup2 (by unfold tk; repeat (rw [if_pos (by omega)]); try rfl) (by unfold pt; repeat (rw [if_pos (by omega)]); try rfl)), hw.drop (List.sublist_cons_self _ _)⟩
  · try simp at hb5
    refine CX.sub (l' := [(1, _), (2, _), (3, _), (4, _), (9, _)]) ⟨rfl, rfl, rfl, rfl, rfl, trivial⟩ ?_
    apply CX.seqSw 16
    ·
      refine CX.seq ?_
      refine CX.region ?_
      refine LX.pure (Y.eqI rfl rfl) rfl rfl rfl ?_
      refine LX.pure (Y.assign rfl) rfl rfl rfl ?_
      refine LX.next ?_
      refine PX.thenN ?_
      apply CX.swOr
      · rfl
      · exact ⟨rfl, rfl, rfl, rfl, rfl, rfl, trivial⟩
      intro hb6
      try simp at hb6
      refine CX.seq ?_
      refine CX.region ?_
      refine LX.pure (Y.eqI rfl rfl) rfl rfl rfl ?_
      refine LX.pure (Y.assign rfl) rfl rfl rfl ?_
      refine LX.next ?_
      refine PX.thenN ?_
      apply CX.swOr
      · rfl
      · exact ⟨rfl, rfl, rfl, rfl, rfl, rfl, trivial⟩
      intro hb7
      try simp at hb7
      refine CX.seq ?_
      refine CX.region ?_
      refine LX.pure (Y.eqI rfl rfl) rfl rfl rfl ?_
      refine LX.pure (Y.assign rfl) rfl rfl rfl ?_
      refine LX.next ?_
      refine PX.thenN ?_
      apply CX.swOr
      · rfl
      · exact ⟨rfl, rfl, rfl, rfl, rfl, rfl, trivial⟩
      intro hb8
      try simp at hb8
      refine CX.seq ?_
      refine CX.region ?_
      refine LX.pure (Y.eqI rfl rfl) rfl rfl rfl ?_
      refine LX.pure (Y.assign rfl) rfl rfl rfl ?_
      refine LX.next ?_
      refine PX.thenN ?_
      apply CX.swOr
      · rfl
      · exact ⟨rfl, rfl, rfl, rfl, rfl, rfl, trivial⟩
      intro hb9
      try simp at hb9
      refine CX.seq ?_
      refine CX.region ?_
      refine LX.pure (Y.eqI rfl rfl) rfl rfl rfl ?_
      refine LX.pure (Y.assign rfl) rfl rfl rfl ?_
      refine LX.next ?_
      refine PX.thenN ?_
      apply CX.swOr
      · rfl
      · exact ⟨rfl, rfl, rfl, rfl, rfl, rfl, trivial⟩
      intro hb10
      try simp at hb10
      refine CX.seq ?_
      refine CX.region ?_
      refine LX.pure (Y.eqI rfl rfl) rfl rfl rfl ?_
      refine LX.pure (Y.assign rfl) rfl rfl rfl ?_
      refine LX.next ?_
      refine PX.thenN ?_
      apply CX.swOr
      · rfl
      · exact ⟨rfl, rfl, rfl, rfl, rfl, rfl, trivial⟩
      intro hb11
      try simp at hb11
      refine CX.seq ?_
      refine CX.region ?_
      refine LX.pure (Y.eqI rfl rfl) rfl rfl rfl ?_
      refine LX.pure (Y.assign rfl) rfl rfl rfl ?_
      refine LX.next ?_
      refine PX.thenN ?_
      apply CX.swOr
      · rfl
      · exact ⟨rfl, rfl, rfl, rfl, rfl, rfl, trivial⟩
      intro hb12
      try simp at hb12
      refine CX.region ?_
      refine LX.pure (Y.eqI rfl rfl) rfl rfl rfl ?_
      refine LX.pure (Y.assign rfl) rfl rfl rfl ?_
      refine LX.next ?_
      exact PX.sw ⟨rfl, rfl, rfl, rfl, rfl, rfl, trivial⟩
    refine CX.cond rfl (fun hb13 => ?_) (fun hb13 => ?_)
    · try simp at hb13
      refine CX.seq ?_
      refine CX.region ?_
      refine LX.pure (Y.assign rfl) rfl rfl rfl ?_
      refine LX.pure (Y.assign rfl) rfl rfl rfl ?_
      refine LX.sub (l' := [(2, _), (3, _)]) ⟨rfl, rfl, trivial⟩ ?_
      refine LX.next ?_
      refine PX.thenN ?_
      refine CX.ret ?_
      refine PX.blockR ?_
      refine PX.thenR ?_
      refine PX.ret2 (by simp) Tryz.results24 rfl rfl ?_
      exact fun w hw => ⟨(), congrArg Ending.returned (tup2 (by unfold tk; repeat (first | rw [if_pos (by omega)] | rw [if_neg (by omega)]); try rfl) (by unfold pt; repeat (first | rw [if_pos (by omega)] | rw [if_neg (by omega)]); try rfl)), hw.drop (List.sublist_cons_self _ _)⟩
    · try simp at hb13
      refine CX.sub (l' := [(1, _), (2, _), (3, _), (4, _), (9, _)]) ⟨rfl, rfl, rfl, rfl, rfl, trivial⟩ ?_
      apply CX.seqSw 25
      ·
        refine CX.seq ?_
        refine CX.region ?_
        refine LX.pure (Y.eqI rfl rfl) rfl rfl rfl ?_
        refine LX.pure (Y.assign rfl) rfl rfl rfl ?_
        refine LX.next ?_
        refine PX.thenN ?_
        apply CX.swOr
        · rfl
        · exact ⟨rfl, rfl, rfl, rfl, rfl, rfl, trivial⟩
        intro hb14
        try simp at hb14
        refine CX.region ?_
        refine LX.pure (Y.eqI rfl rfl) rfl rfl rfl ?_
        refine LX.pure (Y.assign rfl) rfl rfl rfl ?_
        refine LX.next ?_
        exact PX.sw ⟨rfl, rfl, rfl, rfl, rfl, rfl, trivial⟩
      refine CX.cond rfl (fun hb15 => ?_) (fun hb15 => ?_)
      · try simp at hb15
        refine CX.seq ?_
        refine CX.region ?_
        refine LX.pure (Y.move rfl) rfl rfl rfl ?_
        refine LX.pure (Y.assign rfl) rfl rfl rfl ?_
        refine LX.pure (Y.assign rfl) rfl rfl rfl ?_
        refine LX.sub (l' := [(2, _), (3, _)]) ⟨rfl, rfl, trivial⟩ ?_
        refine LX.next ?_
        refine PX.thenN ?_
        refine CX.ret ?_
        refine PX.blockR ?_
        refine PX.thenR ?_
        refine PX.ret2 (by simp) Tryz.results24 rfl rfl ?_
        exact fun w hw => ⟨(), congrArg Ending.returned (tup2 (by unfold tk; repeat (first | rw [if_pos (by omega)] | rw [if_neg (by omega)]); try rfl) (by unfold pt; repeat (first | rw [if_pos (by omega)] | rw [if_neg (by omega)]); try rfl)), hw.drop (List.sublist_cons_self _ _)⟩
      · try simp at hb15
        refine CX.seq ?_
        refine CX.region ?_
        refine LX.pure (Y.eqI rfl rfl) rfl rfl rfl ?_
        refine LX.pure (Y.assign rfl) rfl rfl rfl ?_
        refine LX.sub (l' := [(1, _), (2, _), (3, _), (4, _), (9, _), (29, _)]) ⟨rfl, rfl, rfl, rfl, rfl, rfl, trivial⟩ ?_
        refine LX.next ?_
        refine PX.thenN ?_
        refine CX.cond rfl (fun hb16 => ?_) (fun hb16 => ?_)
        · try simp at hb16
          refine CX.seq ?_
          refine CX.region ?_
          refine LX.pure (Y.move rfl) rfl rfl rfl ?_
          refine LX.pure (Y.mul rfl rfl (by omega)) rfl rfl rfl ?_
          refine LX.pure (Y.assign rfl) rfl rfl rfl ?_
          refine LX.pure (Y.assign rfl) rfl rfl rfl ?_
          refine LX.sub (l' := [(2, _), (3, _)]) ⟨rfl, rfl, trivial⟩ ?_
          refine LX.next ?_
          refine PX.thenN ?_
          refine CX.ret ?_
          refine PX.blockR ?_
          refine PX.thenR ?_
          refine PX.ret2 (by simp) Tryz.results24 rfl rfl ?_
          exact fun w hw => ⟨(), congrArg Ending.returned (tup2 (by unfold tk; repeat (first | rw [if_pos (by omega)] | rw [if_neg (by omega)]); try rfl) (by unfold pt; repeat (first | rw [if_pos (by omega)] | rw [if_neg (by omega)]); try rfl)), hw.drop (List.sublist_cons_self _ _)⟩
        · try simp at hb16
          refine CX.sub (l' := [(1, _), (2, _), (3, _), (4, _), (9, _)]) ⟨rfl, rfl, rfl, rfl, rfl, trivial⟩ ?_
          apply CX.seqSw 33
          ·
            refine CX.seq ?_
            refine CX.region ?_
            refine LX.pure (Y.eqI rfl rfl) rfl rfl rfl ?_
            refine LX.pure (Y.assign rfl) rfl rfl rfl ?_
            refine LX.next ?_
            refine PX.thenN ?_
            apply CX.swOr
            · rfl
            · exact ⟨rfl, rfl, rfl, rfl, rfl, rfl, trivial⟩
            intro hb17
            try simp at hb17
            refine CX.seq ?_
            refine CX.region ?_
            refine LX.pure (Y.eqI rfl rfl) rfl rfl rfl ?_
            refine LX.pure (Y.assign rfl) rfl rfl rfl ?_
            refine LX.next ?_
            refine PX.thenN ?_
            apply CX.swOr
            · rfl
            · exact ⟨rfl, rfl, rfl, rfl, rfl, rfl, trivial⟩
            intro hb18
            try simp at hb18
            refine CX.region ?_
            refine LX.pure (Y.eqI rfl rfl) rfl rfl rfl ?_
            refine LX.pure (Y.assign rfl) rfl rfl rfl ?_
            refine LX.next ?_
            exact PX.sw ⟨rfl, rfl, rfl, rfl, rfl, rfl, trivial⟩
          refine CX.cond rfl (fun hb19 => ?_) (fun hb19 => ?_)
          · try simp at hb19
            refine CX.seq ?_
            refine CX.region ?_
            refine LX.pure (Y.assign rfl) rfl rfl rfl ?_
            refine LX.pure (Y.assign rfl) rfl rfl rfl ?_
            refine LX.sub (l' := [(2, _), (3, _)]) ⟨rfl, rfl, trivial⟩ ?_
            refine LX.next ?_
            refine PX.thenN ?_
            refine CX.ret ?_
            refine PX.blockR ?_
            refine PX.thenR ?_
            refine PX.ret2 (by simp) Tryz.results24 rfl rfl ?_
            exact fun w hw => ⟨(), congrArg Ending.returned (tup2 (by unfold tk; repeat (first | rw [if_pos (by omega)] | rw [if_neg (by omega)]); try rfl) (by unfold pt; repeat (first | rw [if_pos (by omega)] | rw [if_neg (by omega)]); try rfl)), hw.drop (List.sublist_cons_self _ _)⟩
          · try simp at hb19
            refine CX.sub (l' := [(1, _), (2, _), (3, _), (4, _), (9, _)]) ⟨rfl, rfl, rfl, rfl, rfl, trivial⟩ ?_
            apply CX.seqSw 37
            ·
              refine CX.seq ?_
              refine CX.region ?_
              refine LX.pure (Y.eqI rfl rfl) rfl rfl rfl ?_
              refine LX.pure (Y.assign rfl) rfl rfl rfl ?_
              refine LX.next ?_
              refine PX.thenN ?_
              apply CX.swOr
              · rfl
              · exact ⟨rfl, rfl, rfl, rfl, rfl, rfl, trivial⟩
              intro hb20
              try simp at hb20
              refine CX.seq ?_
              refine CX.region ?_
              refine LX.pure (Y.eqI rfl rfl) rfl rfl rfl ?_
              refine LX.pure (Y.assign rfl) rfl rfl rfl ?_
              refine LX.next ?_
              refine PX.thenN ?_
              apply CX.swOr
              · rfl
              · exact ⟨rfl, rfl, rfl, rfl, rfl, rfl, trivial⟩
              intro hb21
              try simp at hb21
              refine CX.region ?_
              refine LX.pure (Y.eqI rfl rfl) rfl rfl rfl ?_
              refine LX.pure (Y.assign rfl) rfl rfl rfl ?_
              refine LX.next ?_
              exact PX.sw ⟨rfl, rfl, rfl, rfl, rfl, rfl, trivial⟩
            refine CX.cond rfl (fun hb22 => ?_) (fun hb22 => ?_)
            · try simp at hb22
              refine CX.seq ?_
              refine CX.region ?_
              refine LX.pure (Y.assign rfl) rfl rfl rfl ?_
              refine LX.pure (Y.assign rfl) rfl rfl rfl ?_
              refine LX.sub (l' := [(2, _), (3, _)]) ⟨rfl, rfl, trivial⟩ ?_
              refine LX.next ?_
              refine PX.thenN ?_
              refine CX.ret ?_
              refine PX.blockR ?_
              refine PX.thenR ?_
              refine PX.ret2 (by simp) Tryz.results24 rfl rfl ?_
              exact fun w hw => ⟨(), congrArg Ending.returned (tup2 (by unfold tk; repeat (first | rw [if_pos (by omega)] | rw [if_neg (by omega)]); try rfl) (by unfold pt; repeat (first | rw [if_pos (by omega)] | rw [if_neg (by omega)]); try rfl)), hw.drop (List.sublist_cons_self _ _)⟩
            · try simp at hb22
              refine CX.seq ?_
              refine CX.region ?_
              refine LX.pure (Y.eqI rfl rfl) rfl rfl rfl ?_
              refine LX.pure (Y.assign rfl) rfl rfl rfl ?_
              refine LX.sub (l' := [(1, _), (2, _), (3, _), (4, _), (9, _), (41, _)]) ⟨rfl, rfl, rfl, rfl, rfl, rfl, trivial⟩ ?_
              refine LX.next ?_
              refine PX.thenN ?_
              refine CX.cond rfl (fun hb23 => ?_) (fun hb23 => ?_)
              · try simp at hb23
                refine CX.seq ?_
                refine CX.region ?_
                refine LX.pure (Y.move rfl) rfl rfl rfl ?_
                refine LX.pure (Y.add rfl rfl (by omega)) rfl rfl rfl ?_
                refine LX.pure (Y.fieldAddr0 Fk.fo65_2 rfl) rfl rfl rfl ?_
                refine LX.pure (Y.ldB 0 Fk.one3 rfl rfl rfl) rfl rfl rfl ?_
                refine LX.pure (Y.max2 rfl rfl) rfl rfl rfl ?_
                refine LX.pure (Y.mul rfl rfl (by omega)) rfl rfl rfl ?_
                refine LX.pure (Y.add rfl rfl (by omega)) rfl rfl rfl ?_
                refine LX.pure (Y.assign rfl) rfl rfl rfl ?_
                refine LX.pure (Y.assign rfl) rfl rfl rfl ?_
                refine LX.sub (l' := [(2, _), (3, _)]) ⟨rfl, rfl, trivial⟩ ?_
                refine LX.next ?_
                refine PX.thenN ?_
                refine CX.ret ?_
                refine PX.blockR ?_
                refine PX.thenR ?_
                refine PX.ret2 (by simp) Tryz.results24 rfl rfl ?_
                exact fun w hw => ⟨(), congrArg Ending.returned (tup2 (by unfold tk; repeat (first | rw [if_pos (by omega)] | rw [if_neg (by omega)]); try rfl) (by unfold pt; repeat (first | rw [if_pos (by omega)] | rw [if_neg (by omega)]); try rfl)), hw.drop (List.sublist_cons_self _ _)⟩
              · try simp at hb23
                refine CX.seq ?_
                refine CX.region ?_
                refine LX.pure (Y.eqI rfl rfl) rfl rfl rfl ?_
                refine LX.pure (Y.assign rfl) rfl rfl rfl ?_
                refine LX.sub (l' := [(2, _), (3, _), (4, _), (9, _), (50, _)]) ⟨rfl, rfl, rfl, rfl, rfl, trivial⟩ ?_
                refine LX.next ?_
                refine PX.thenN ?_
                refine CX.cond rfl (fun hb24 => ?_) (fun hb24 => ?_)
                · try simp at hb24
                  refine CX.seq ?_
                  refine CX.region ?_
                  refine LX.pure (Y.move rfl) rfl rfl rfl ?_
                  refine LX.pure (Y.and1 rfl rfl) rfl rfl rfl ?_
                  refine LX.pure (Y.add rfl rfl (by omega)) rfl rfl rfl ?_
                  refine LX.pure (Y.move rfl) rfl rfl rfl ?_
                  refine LX.pure (Y.shr1 rfl rfl) rfl rfl rfl ?_
                  refine LX.pure (Y.and1 rfl rfl) rfl rfl rfl ?_
                  refine LX.pure (Y.add rfl rfl (by omega)) rfl rfl rfl ?_
                  refine LX.pure (Y.assign rfl) rfl rfl rfl ?_
                  refine LX.pure (Y.assign rfl) rfl rfl rfl ?_
                  refine LX.sub (l' := [(2, _), (3, _)]) ⟨rfl, rfl, trivial⟩ ?_
                  refine LX.next ?_
                  refine PX.thenN ?_
                  refine CX.ret ?_
                  refine PX.blockR ?_
                  refine PX.thenR ?_
                  refine PX.ret2 (by simp) Tryz.results24 rfl rfl ?_
                  exact fun w hw => ⟨(), congrArg Ending.returned (tup2 (by unfold tk; repeat (first | rw [if_pos (by omega)] | rw [if_neg (by omega)]); try rfl) (by unfold pt; repeat (first | rw [if_pos (by omega)] | rw [if_neg (by omega)]); try rfl)), hw.drop (List.sublist_cons_self _ _)⟩
                · try simp at hb24
                  refine CX.seq ?_
                  refine CX.region ?_
                  refine LX.pure (Y.eqI rfl rfl) rfl rfl rfl ?_
                  refine LX.pure (Y.assign rfl) rfl rfl rfl ?_
                  refine LX.sub (l' := [(2, _), (3, _), (4, _), (9, _), (59, _)]) ⟨rfl, rfl, rfl, rfl, rfl, trivial⟩ ?_
                  refine LX.next ?_
                  refine PX.thenN ?_
                  refine CX.cond rfl (fun hb25 => ?_) (fun hb25 => ?_)
                  · try simp at hb25
                    refine CX.seq ?_
                    refine CX.region ?_
                    refine LX.pure (Y.assign rfl) rfl rfl rfl ?_
                    refine LX.pure (Y.assign rfl) rfl rfl rfl ?_
                    refine LX.sub (l' := [(2, _), (3, _)]) ⟨rfl, rfl, trivial⟩ ?_
                    refine LX.next ?_
                    refine PX.thenN ?_
                    refine CX.ret ?_
                    refine PX.blockR ?_
                    refine PX.thenR ?_
                    refine PX.ret2 (by simp) Tryz.results24 rfl rfl ?_
                    exact fun w hw => ⟨(), congrArg Ending.returned (tup2 (by unfold tk; repeat (first | rw [if_pos (by omega)] | rw [if_neg (by omega)]); try rfl) (by unfold pt; repeat (first | rw [if_pos (by omega)] | rw [if_neg (by omega)]); try rfl)), hw.drop (List.sublist_cons_self _ _)⟩
                  · try simp at hb25
                    refine CX.seq ?_
                    refine CX.region ?_
                    refine LX.pure (Y.eqI rfl rfl) rfl rfl rfl ?_
                    refine LX.pure (Y.assign rfl) rfl rfl rfl ?_
                    refine LX.sub (l' := [(2, _), (3, _), (4, _), (9, _), (61, _)]) ⟨rfl, rfl, rfl, rfl, rfl, trivial⟩ ?_
                    refine LX.next ?_
                    refine PX.thenN ?_
                    refine CX.cond rfl (fun hb26 => ?_) (fun hb26 => ?_)
                    · try simp at hb26
                      refine CX.seq ?_
                      refine CX.region ?_
                      refine LX.pure (Y.move rfl) rfl rfl rfl ?_
                      refine LX.pure (Y.assign rfl) rfl rfl rfl ?_
                      refine LX.pure (Y.assign rfl) rfl rfl rfl ?_
                      refine LX.sub (l' := [(2, _), (3, _)]) ⟨rfl, rfl, trivial⟩ ?_
                      refine LX.next ?_
                      refine PX.thenN ?_
                      refine CX.ret ?_
                      refine PX.blockR ?_
                      refine PX.thenR ?_
                      refine PX.ret2 (by simp) Tryz.results24 rfl rfl ?_
                      exact fun w hw => ⟨(), congrArg Ending.returned (tup2 (by unfold tk; repeat (first | rw [if_pos (by omega)] | rw [if_neg (by omega)]); try rfl) (by unfold pt; repeat (first | rw [if_pos (by omega)] | rw [if_neg (by omega)]); try rfl)), hw.drop (List.sublist_cons_self _ _)⟩
                    · try simp at hb26
                      refine CX.sub (l' := [(2, _), (3, _), (9, _)]) ⟨rfl, rfl, rfl, trivial⟩ ?_
                      apply CX.seqSw 64
                      ·
                        refine CX.seq ?_
                        refine CX.region ?_
                        refine LX.pure (Y.eqI rfl rfl) rfl rfl rfl ?_
                        refine LX.pure (Y.assign rfl) rfl rfl rfl ?_
                        refine LX.next ?_
                        refine PX.thenN ?_
                        apply CX.swOr
                        · rfl
                        · exact ⟨rfl, rfl, rfl, rfl, trivial⟩
                        intro hb27
                        try simp at hb27
                        refine CX.region ?_
                        refine LX.pure (Y.eqI rfl rfl) rfl rfl rfl ?_
                        refine LX.pure (Y.assign rfl) rfl rfl rfl ?_
                        refine LX.next ?_
                        exact PX.sw ⟨rfl, rfl, rfl, rfl, trivial⟩
                      refine CX.cond rfl (fun hb28 => ?_) (fun hb28 => ?_)
                      · try simp at hb28
                        refine CX.seq ?_
                        refine CX.region ?_
                        refine LX.pure (Y.assign rfl) rfl rfl rfl ?_
                        refine LX.pure (Y.assign rfl) rfl rfl rfl ?_
                        refine LX.sub (l' := [(2, _), (3, _)]) ⟨rfl, rfl, trivial⟩ ?_
                        refine LX.next ?_
                        refine PX.thenN ?_
                        refine CX.ret ?_
                        refine PX.blockR ?_
                        refine PX.thenR ?_
                        refine PX.ret2 (by simp) Tryz.results24 rfl rfl ?_
                        exact fun w hw => ⟨(), congrArg Ending.returned (tup2 (by unfold tk; repeat (first | rw [if_pos (by omega)] | rw [if_neg (by omega)]); try rfl) (by unfold pt; repeat (first | rw [if_pos (by omega)] | rw [if_neg (by omega)]); try rfl)), hw.drop (List.sublist_cons_self _ _)⟩
                      · try simp at hb28
                        refine CX.seq ?_
                        refine CX.region ?_
                        refine LX.pure (Y.eqI rfl rfl) rfl rfl rfl ?_
                        refine LX.pure (Y.assign rfl) rfl rfl rfl ?_
                        refine LX.sub (l' := [(2, _), (3, _), (9, _), (67, _)]) ⟨rfl, rfl, rfl, rfl, trivial⟩ ?_
                        refine LX.next ?_
                        refine PX.thenN ?_
                        refine CX.cond rfl (fun hb29 => ?_) (fun hb29 => ?_)
                        · try simp at hb29
                          refine CX.seq ?_
                          refine CX.region ?_
                          refine LX.pure (Y.assign rfl) rfl rfl rfl ?_
                          refine LX.pure (Y.assign rfl) rfl rfl rfl ?_
                          refine LX.sub (l' := [(2, _), (3, _)]) ⟨rfl, rfl, trivial⟩ ?_
                          refine LX.next ?_
                          refine PX.thenN ?_
                          refine CX.ret ?_
                          refine PX.blockR ?_
                          refine PX.thenR ?_
                          refine PX.ret2 (by simp) Tryz.results24 rfl rfl ?_
                          exact fun w hw => ⟨(), congrArg Ending.returned (tup2 (by unfold tk; repeat (first | rw [if_pos (by omega)] | rw [if_neg (by omega)]); try rfl) (by unfold pt; repeat (first | rw [if_pos (by omega)] | rw [if_neg (by omega)]); try rfl)), hw.drop (List.sublist_cons_self _ _)⟩
                        · try simp at hb29
                          refine CX.seq ?_
                          refine CX.region ?_
                          refine LX.pure (Y.eqI rfl rfl) rfl rfl rfl ?_
                          refine LX.pure (Y.assign rfl) rfl rfl rfl ?_
                          refine LX.sub (l' := [(2, _), (3, _), (9, _), (69, _)]) ⟨rfl, rfl, rfl, rfl, trivial⟩ ?_
                          refine LX.next ?_
                          refine PX.thenN ?_
                          refine CX.cond rfl (fun hb30 => ?_) (fun hb30 => ?_)
                          · try simp at hb30
                            refine CX.seq ?_
                            refine CX.region ?_
                            refine LX.pure (Y.assign rfl) rfl rfl rfl ?_
                            refine LX.pure (Y.assign rfl) rfl rfl rfl ?_
                            refine LX.sub (l' := [(2, _), (3, _)]) ⟨rfl, rfl, trivial⟩ ?_
                            refine LX.next ?_
                            refine PX.thenN ?_
                            refine CX.ret ?_
                            refine PX.blockR ?_
                            refine PX.thenR ?_
                            refine PX.ret2 (by simp) Tryz.results24 rfl rfl ?_
                            exact fun w hw => ⟨(), congrArg Ending.returned (tup2 (by unfold tk; repeat (rw [if_pos (by omega)]); try rfl) (by unfold pt; repeat (rw [if_pos (by omega)]); try rfl)), hw.drop (List.sublist_cons_self _ _)⟩
                          · try simp at hb30
                            refine CX.seq ?_
                            refine CX.region ?_
                            refine LX.pure (Y.eqI rfl rfl) rfl rfl rfl ?_
                            refine LX.pure (Y.assign rfl) rfl rfl rfl ?_
                            refine LX.sub (l' := [(2, _), (3, _), (71, _)]) ⟨rfl, rfl, rfl, trivial⟩ ?_
                            refine LX.next ?_
                            refine PX.thenN ?_
                            refine CX.cond rfl (fun hb31 => ?_) (fun hb31 => ?_)
                            · try simp at hb31
                              refine CX.seq ?_
                              refine CX.region ?_
                              refine LX.pure (Y.assign rfl) rfl rfl rfl ?_
                              refine LX.pure (Y.assign rfl) rfl rfl rfl ?_
                              refine LX.sub (l' := [(2, _), (3, _)]) ⟨rfl, rfl, trivial⟩ ?_
                              refine LX.next ?_
                              refine PX.thenN ?_
                              refine CX.ret ?_
                              refine PX.blockR ?_
                              refine PX.thenR ?_
                              refine PX.ret2 (by simp) Tryz.results24 rfl rfl ?_
                              exact fun w hw => ⟨(), congrArg Ending.returned (tup2 (by unfold tk; repeat (first | rw [if_pos (by omega)] | rw [if_neg (by omega)]); try rfl) (by unfold pt; repeat (first | rw [if_pos (by omega)] | rw [if_neg (by omega)]); try rfl)), hw.drop (List.sublist_cons_self _ _)⟩
                            · try simp at hb31
                              refine CX.skip ?_
                              refine PX.blockN ?_
                              refine PX.thenN ?_
                              refine CX.seq ?_
                              refine CX.region ?_
                              refine LX.pure (Y.assign rfl) rfl rfl rfl ?_
                              refine LX.pure (Y.assign rfl) rfl rfl rfl ?_
                              refine LX.sub (l' := [(2, _), (3, _)]) ⟨rfl, rfl, trivial⟩ ?_
                              refine LX.next ?_
                              refine PX.thenN ?_
                              refine CX.ret ?_
                              refine PX.ret2 (by simp) Tryz.results24 rfl rfl ?_
                              exact fun w hw => ⟨(), congrArg Ending.returned (tup2 (by unfold tk; repeat (rw [if_neg (by omega)]); try rfl) (by unfold pt; repeat (rw [if_neg (by omega)]); try rfl)), hw.drop (List.sublist_cons_self _ _)⟩
theorem in_c {w0 : World} {base : Nat} {fr : List It} (a b c : Int) : FnC Tryz.prog 112 #[.int .i64 a, .int .i64 b, .int .i64 c] (WA w0 base fr) (fun _ : Unit => .bool (decide (b ≤ a) && decide (a < c))) (fun _ => WA w0 base fr) := by
  refine FnC.of_body (fn := Tryz.f112) [(0, _), (1, _), (2, _)] Tryz.func112 rfl Tryz.ntmps112 rfl ⟨rfl, rfl, rfl, trivial⟩ ?_
  refine CX.seq ?_
  refine CX.region ?_
  refine LX.pure (Y.assign rfl) rfl rfl rfl ?_
  refine LX.sub (l' := [(0, _), (1, _), (2, _), (6, _)]) ⟨rfl, rfl, rfl, rfl, trivial⟩ ?_
  refine LX.next ?_
  refine PX.thenN ?_
  refine CX.seq ?_
  refine CX.region ?_
  refine LX.pure (Y.move rfl) rfl rfl rfl ?_
  refine LX.pure (Y.move rfl) rfl rfl rfl ?_
  refine LX.pure (Y.geI rfl rfl) rfl rfl rfl ?_
  refine LX.pure (Y.move rfl) rfl rfl rfl ?_
  refine LX.sub (l' := [(0, _), (2, _), (6, _), (10, _)]) ⟨rfl, rfl, rfl, rfl, trivial⟩ ?_
  apply LX.joinAnd 4 14 10 rfl
  · intro hb1
    have hb1p := hb1
    try simp at hb1p
    refine LX.gT rfl rfl rfl hb1 (Y.move rfl) rfl rfl ?_
    refine LX.gT rfl rfl rfl hb1 (Y.move rfl) rfl rfl ?_
    refine LX.gT rfl rfl rfl hb1 (Y.ltI rfl rfl) rfl rfl ?_
    refine LX.pure (Y.pickT rfl hb1 rfl) rfl rfl rfl ?_
    exact LX.left ⟨rfl, rfl, rfl, rfl, rfl, trivial⟩
  · intro hb1
    have hb1p := hb1
    try simp at hb1p
    refine LX.gF rfl rfl rfl hb1 rfl rfl ?_
    refine LX.gF rfl rfl rfl hb1 rfl rfl ?_
    refine LX.gF rfl rfl rfl hb1 rfl rfl ?_
    refine LX.pure (Y.pickF rfl hb1 rfl) rfl rfl rfl ?_
    exact LX.left ⟨rfl, rfl, rfl, rfl, rfl, trivial⟩
  refine LX.pure (Y.assign rfl) rfl rfl rfl ?_
  refine LX.sub (l' := [(6, _)]) ⟨rfl, trivial⟩ ?_
  refine LX.next ?_
  refine PX.thenN ?_
  refine CX.ret ?_
  refine PX.ret1 (by simp) Tryz.results112 rfl ?_
  exact fun w hw => ⟨(), rfl, hw⟩
theorem in_q {W : World → Prop} [Stab W] (a b c : Int) : FnQ Tryz.prog 112 #[.int .i64 a, .int .i64 b, .int .i64 c] W (.bool (decide (b ≤ a) && decide (a < c))) := FnC.quiet fun w _ => in_c a b c
theorem fits_c {w0 : World} {base : Nat} {fr : List It} {X : Cx} {p : Pg} {f : Fc} (hX : CkAt (Lies w0 base) X p f) (bc : Nat) (i : Ins) : FnC Tryz.prog 50 #[.pointer (some ⟨bc, 0, none⟩), insV i] (WA w0 base (blk bc (X.all p f) 115 :: fr)) (fun _ : Unit => .bool (decide (fits p f i))) (fun _ => WA w0 base (blk bc (X.all p f) 115 :: fr)) := by
  refine FnC.of_body (fn := Tryz.f50) [(0, _), (1, _)] Tryz.func50 rfl Tryz.ntmps50 rfl ⟨rfl, rfl, trivial⟩ ?_
  refine CX.seq ?_
  refine CX.region ?_
  refine LX.box rfl rfl rfl rfl rfl ?_
  intro bx0
  refine LX.pure (Y.assign rfl) rfl rfl rfl ?_
  refine LX.sub (l' := [(0, _), (3, _), (4, _)]) ⟨rfl, rfl, rfl, trivial⟩ ?_
  refine LX.next ?_
  refine PX.thenN ?_
  refine CX.seq ?_
  refine CX.seq ?_
  refine CX.region ?_
  refine LX.pure (Y.fieldAddr0 Fk.fo53_0 rfl) rfl rfl rfl ?_
  refine LX.pure (Y.ldB 0 Fk.one3 rfl rfl rfl) rfl rfl rfl ?_
  refine LX.sub (l' := [(0, _), (3, _), (4, _), (6, _)]) ⟨rfl, rfl, rfl, rfl, trivial⟩ ?_
  refine LX.next ?_
  refine PX.thenN ?_
  refine CX.block ?_
  refine CX.seq ?_
  refine CX.region ?_
  refine LX.pure (Y.eqI rfl rfl) rfl rfl rfl ?_
  refine LX.pure (Y.assign rfl) rfl rfl rfl ?_
  refine LX.sub (l' := [(0, _), (3, _), (4, _), (6, _), (7, _)]) ⟨rfl, rfl, rfl, rfl, rfl, trivial⟩ ?_
  refine LX.next ?_
  refine PX.thenN ?_
  refine CX.cond rfl (fun hb1 => ?_) (fun hb1 => ?_)
  · try simp at hb1
    refine CX.seq ?_
    refine CX.region ?_
    refine LX.pure (Y.fieldAddr0 Fk.fo53_1 rfl) rfl rfl rfl ?_
    refine LX.pure (Y.ldB 0 Fk.one3 rfl rfl rfl) rfl rfl rfl ?_
    refine LX.callQ (in_q _ _ _) Fk.en112 rfl rfl rfl rfl rfl ?_
    refine LX.pure (Y.move rfl) rfl rfl rfl ?_
    refine LX.sub (l' := [(0, _), (3, _), (4, _), (12, _)]) ⟨rfl, rfl, rfl, rfl, trivial⟩ ?_
    apply LX.joinAnd 4 16 12 rfl
    · intro hb2
      have hb2p := hb2
      try simp at hb2p
      refine LX.gT rfl rfl rfl hb2 (Y.fieldAddr0 Fk.fo53_2 rfl) rfl rfl ?_
      refine LX.gT rfl rfl rfl hb2 (Y.ldB 0 Fk.one3 rfl rfl rfl) rfl rfl ?_
      refine LX.callQT rfl rfl rfl hb2 (in_q _ _ _) Fk.en112 rfl rfl rfl rfl ?_
      refine LX.pure (Y.pickT rfl hb2 rfl) rfl rfl rfl ?_
      exact LX.left ⟨rfl, rfl, rfl, rfl, rfl, trivial⟩
    · intro hb2
      have hb2p := hb2
      try simp at hb2p
      refine LX.gF rfl rfl rfl hb2 rfl rfl ?_
      refine LX.gF rfl rfl rfl hb2 rfl rfl ?_
      refine LX.gF rfl rfl rfl hb2 rfl rfl ?_
      refine LX.pure (Y.pickF rfl hb2 rfl) rfl rfl rfl ?_
      exact LX.left ⟨rfl, rfl, rfl, rfl, rfl, trivial⟩
    refine LX.pure (Y.assign rfl) rfl rfl rfl ?_
    refine LX.sub (l' := [(0, _), (3, _), (4, _)]) ⟨rfl, rfl, rfl, trivial⟩ ?_
    refine LX.next ?_
    refine PX.thenN ?_
    refine CX.ret ?_
    refine PX.blockR ?_
    refine PX.thenR ?_
    refine PX.ret1 (by simp) Tryz.results50 rfl ?_
    exact fun w hw => ⟨(), congrArg (fun z => Ending.returned (Value.bool z)) (by
      (rw [Bool.eq_iff_iff]; simp only [decide_eq_true_eq, Bool.and_eq_true, Bool.or_eq_true]; unfold fits; (repeat (rw [if_pos (by omega)])); omega)), hw.drop (List.sublist_cons_self _ _)⟩
  · try simp at hb1
    refine CX.seq ?_
    refine CX.region ?_
    refine LX.pure (Y.eqI rfl rfl) rfl rfl rfl ?_
    refine LX.pure (Y.assign rfl) rfl rfl rfl ?_
    refine LX.sub (l' := [(0, _), (3, _), (4, _), (17, _)]) ⟨rfl, rfl, rfl, rfl, trivial⟩ ?_
    refine LX.next ?_
    refine PX.thenN ?_
    refine CX.cond rfl (fun hb3 => ?_) (fun hb3 => ?_)
    · try simp at hb3
      refine CX.seq ?_
      refine CX.region ?_
      refine LX.pure (Y.fieldAddr0 Fk.fo53_1 rfl) rfl rfl rfl ?_
      refine LX.pure (Y.ldB 0 Fk.one3 rfl rfl rfl) rfl rfl rfl ?_
      refine LX.pure (Y.eqI rfl rfl) rfl rfl rfl ?_
      refine LX.pure (Y.move rfl) rfl rfl rfl ?_
      refine LX.sub (l' := [(0, _), (3, _), (4, _), (22, _)]) ⟨rfl, rfl, rfl, rfl, trivial⟩ ?_
      apply LX.joinAnd 4 26 22 rfl
      · intro hb4
        have hb4p := hb4
        try simp at hb4p
        refine LX.gT rfl rfl rfl hb4 (Y.fieldAddr0 Fk.fo53_2 rfl) rfl rfl ?_
        refine LX.gT rfl rfl rfl hb4 (Y.ldB 0 Fk.one3 rfl rfl rfl) rfl rfl ?_
        refine LX.callQT rfl rfl rfl hb4 (in_q _ _ _) Fk.en112 rfl rfl rfl rfl ?_
        refine LX.pure (Y.pickT rfl hb4 rfl) rfl rfl rfl ?_
        exact LX.left ⟨rfl, rfl, rfl, rfl, rfl, trivial⟩
      · intro hb4
        have hb4p := hb4
        try simp at hb4p
        refine LX.gF rfl rfl rfl hb4 rfl rfl ?_
        refine LX.gF rfl rfl rfl hb4 rfl rfl ?_
        refine LX.gF rfl rfl rfl hb4 rfl rfl ?_
        refine LX.pure (Y.pickF rfl hb4 rfl) rfl rfl rfl ?_
        exact LX.left ⟨rfl, rfl, rfl, rfl, rfl, trivial⟩
      refine LX.pure (Y.assign rfl) rfl rfl rfl ?_
      refine LX.sub (l' := [(0, _), (3, _), (4, _)]) ⟨rfl, rfl, rfl, trivial⟩ ?_
      refine LX.next ?_
      refine PX.thenN ?_
      refine CX.ret ?_
      refine PX.blockR ?_
      refine PX.thenR ?_
      refine PX.ret1 (by simp) Tryz.results50 rfl ?_
      exact fun w hw => ⟨(), congrArg (fun z => Ending.returned (Value.bool z)) (by
        (rw [Bool.eq_iff_iff]; simp only [decide_eq_true_eq, Bool.and_eq_true, Bool.or_eq_true]; unfold fits; (repeat (first | rw [if_pos (by omega)] | rw [if_neg (by omega)])); omega)), hw.drop (List.sublist_cons_self _ _)⟩
    · try simp at hb3
      refine CX.skip ?_
      refine PX.blockN ?_
      refine PX.thenN ?_
      refine CX.seq ?_
      refine CX.seq ?_
      refine CX.region ?_
      refine LX.pure (Y.fieldAddr0 Fk.fo53_2 rfl) rfl rfl rfl ?_
      refine LX.pure (Y.ldB 0 Fk.one3 rfl rfl rfl) rfl rfl rfl ?_
      refine LX.pure (Y.neI rfl rfl) rfl rfl rfl ?_
      refine LX.sub (l' := [(0, _), (3, _), (4, _), (29, _)]) ⟨rfl, rfl, rfl, rfl, trivial⟩ ?_
      refine LX.next ?_
      refine PX.thenN ?_
      refine CX.cond rfl (fun hb5 => ?_) (fun hb5 => ?_)
      · try simp at hb5
        refine CX.seq ?_
        refine CX.region ?_
        refine LX.pure (Y.assign rfl) rfl rfl rfl ?_
        refine LX.sub (l' := [(0, _), (3, _), (4, _)]) ⟨rfl, rfl, rfl, trivial⟩ ?_
        refine LX.next ?_
        refine PX.thenN ?_
        refine CX.ret ?_
        refine PX.thenR ?_
        refine PX.ret1 (by simp) Tryz.results50 rfl ?_
        exact fun w hw => ⟨(), congrArg (fun z => Ending.returned (Value.bool z)) (by
          exact (decide_eq_false (fun h => by have := fits_b h; omega)).symm), hw.drop (List.sublist_cons_self _ _)⟩
      · try simp at hb5
        refine CX.skip ?_
        refine PX.thenN ?_
        refine CX.seq ?_
        refine CX.seq ?_
        refine CX.region ?_
        refine LX.pure (Y.fieldAddr0 Fk.fo53_0 rfl) rfl rfl rfl ?_
        refine LX.pure (Y.ldB 0 Fk.one3 rfl rfl rfl) rfl rfl rfl ?_
        refine LX.sub (l' := [(0, _), (3, _), (4, _), (31, _)]) ⟨rfl, rfl, rfl, rfl, trivial⟩ ?_
        refine LX.next ?_
        refine PX.thenN ?_
        refine CX.block ?_
        refine CX.seq ?_
        refine CX.region ?_
        refine LX.pure (Y.eqI rfl rfl) rfl rfl rfl ?_
        refine LX.pure (Y.assign rfl) rfl rfl rfl ?_
        refine LX.sub (l' := [(0, _), (3, _), (4, _), (31, _), (32, _)]) ⟨rfl, rfl, rfl, rfl, rfl, trivial⟩ ?_
        refine LX.next ?_
        refine PX.thenN ?_
        refine CX.cond rfl (fun hb6 => ?_) (fun hb6 => ?_)
        · try simp at hb6
          refine CX.seq ?_
          refine CX.regionQ rfl (by kernel_rfl) ?_
          refine LX.pure (Y.fieldAddr0 Fk.fo53_1 rfl) rfl rfl rfl ?_
          refine LX.pure (Y.ldB 0 Fk.one3 rfl rfl rfl) rfl rfl rfl ?_
          refine LX.pure (Y.move rfl) rfl rfl rfl ?_
          refine LX.pure (Y.nilCheck rfl) rfl rfl rfl ?_
          refine LX.pure (Y.fieldAddr0 Fk.fo115_0 rfl) rfl rfl rfl ?_
          refine LX.pure (Y.fieldAddr0 Fk.fo28_1 rfl) rfl rfl rfl ?_
          refine LX.pure (Y.ldB 1 Fk.one22 rfl rfl rfl) rfl rfl rfl ?_
          refine LX.pure (Y.lenSl rfl Fk.un22 rfl) rfl rfl rfl ?_
          refine LX.callQ (in_q _ _ _) Fk.en112 rfl rfl rfl rfl rfl ?_
          refine LX.pure (Y.assign rfl) rfl rfl rfl ?_
          refine LX.sub (l' := [(4, _)]) ⟨rfl, trivial⟩ ?_
          refine LX.nextQ ?_
          refine PX.thenN ?_
          refine CX.ret ?_
          refine PX.blockR ?_
          refine PX.thenR ?_
          refine PX.ret1 (by simp) Tryz.results50 rfl ?_
          exact fun w hw => ⟨(), congrArg (fun z => Ending.returned (Value.bool z)) (by
            (rw [Bool.eq_iff_iff]; simp only [decide_eq_true_eq, Bool.and_eq_true, Bool.or_eq_true]; unfold fits; (repeat (first | rw [if_pos (by omega)] | rw [if_neg (by omega)])); omega)), hw.drop (List.sublist_cons_self _ _)⟩
        · try simp at hb6
          refine CX.seq ?_
          refine CX.region ?_
          refine LX.pure (Y.eqI rfl rfl) rfl rfl rfl ?_
          refine LX.pure (Y.assign rfl) rfl rfl rfl ?_
          refine LX.sub (l' := [(0, _), (3, _), (4, _), (31, _), (43, _)]) ⟨rfl, rfl, rfl, rfl, rfl, trivial⟩ ?_
          refine LX.next ?_
          refine PX.thenN ?_
          refine CX.cond rfl (fun hb7 => ?_) (fun hb7 => ?_)
          · try simp at hb7
            refine CX.seq ?_
            refine CX.regionQ rfl (by kernel_rfl) ?_
            refine LX.pure (Y.fieldAddr0 Fk.fo53_1 rfl) rfl rfl rfl ?_
            refine LX.pure (Y.ldB 0 Fk.one3 rfl rfl rfl) rfl rfl rfl ?_
            refine LX.pure (Y.move rfl) rfl rfl rfl ?_
            refine LX.pure (Y.nilCheck rfl) rfl rfl rfl ?_
            refine LX.pure (Y.fieldAddr0 Fk.fo115_0 rfl) rfl rfl rfl ?_
            refine LX.pure (Y.fieldAddr0 Fk.fo28_1 rfl) rfl rfl rfl ?_
            refine LX.pure (Y.ldB 1 Fk.one22 rfl rfl rfl) rfl rfl rfl ?_
            refine LX.pure (Y.lenSl rfl Fk.un22 rfl) rfl rfl rfl ?_
            refine LX.callQ (in_q _ _ _) Fk.en112 rfl rfl rfl rfl rfl ?_
            refine LX.pure (Y.move rfl) rfl rfl rfl ?_
            refine LX.sub (l' := [(0, _), (3, _), (4, _), (54, _)]) ⟨rfl, rfl, rfl, rfl, trivial⟩ ?_
            apply LX.joinAnd 12 66 54 rfl
            · intro hb8
              have hb8p := hb8
              try simp at hb8p
              refine LX.gT rfl rfl rfl hb8 (Y.move rfl) rfl rfl ?_
              refine LX.gT rfl rfl rfl hb8 (Y.nilCheck rfl) rfl rfl ?_
              refine LX.gT rfl rfl rfl hb8 (Y.fieldAddr0 Fk.fo115_0 rfl) rfl rfl ?_
              refine LX.gT rfl rfl rfl hb8 (Y.fieldAddr0 Fk.fo28_1 rfl) rfl rfl ?_
              refine LX.gT rfl rfl rfl hb8 (Y.ldB 1 Fk.one22 rfl rfl rfl) rfl rfl ?_
              refine LX.gT rfl rfl rfl hb8 (Y.fieldAddr0 Fk.fo53_1 rfl) rfl rfl ?_
              refine LX.gT rfl rfl rfl hb8 (Y.ldB 0 Fk.one3 rfl rfl rfl) rfl rfl ?_
              obtain ⟨x, hx⟩ : ∃ x, p.consts[i.a.toNat]? = some x := ⟨_, List.getElem?_eq_getElem (by omega)⟩
              have hcop : cop p i.a = x.op := by unfold cop; rw [hx]; rfl
              obtain ⟨a, cs, hav, hcl, hL, vk, rfl, _⟩ := hX.hC _ x hx
              refine LX.gT rfl rfl rfl hb8 (Y.idxZ Fk.un22 Fk.sz44 rfl rfl hav (j := i.a.toNat) (by omega) (by omega)) rfl rfl ?_
              refine LX.gT rfl rfl rfl hb8 (Y.fieldA Fk.fa44_0 rfl) rfl rfl ?_
              refine LX.gT rfl rfl rfl hb8 (Y.ldFO (v := .int .i64 (cop p i.a)) Fk.one3 rfl hL (by rw [hcop]; rfl)) rfl rfl ?_
              refine LX.gT rfl rfl rfl hb8 (Y.eqI rfl rfl) rfl rfl ?_
              refine LX.pure (Y.pickT rfl hb8 rfl) rfl rfl rfl ?_
              exact LX.left ⟨rfl, rfl, rfl, rfl, rfl, trivial⟩
            · intro hb8
              have hb8p := hb8
              try simp at hb8p
              refine LX.gF rfl rfl rfl hb8 rfl rfl ?_
              refine LX.gF rfl rfl rfl hb8 rfl rfl ?_
              refine LX.gF rfl rfl rfl hb8 rfl rfl ?_
              refine LX.gF rfl rfl rfl hb8 rfl rfl ?_
              refine LX.gF rfl rfl rfl hb8 rfl rfl ?_
              refine LX.gF rfl rfl rfl hb8 rfl rfl ?_
              refine LX.gF rfl rfl rfl hb8 rfl rfl ?_
              refine LX.gF rfl rfl rfl hb8 rfl rfl ?_
              refine LX.gF rfl rfl rfl hb8 rfl rfl ?_
              refine LX.gF rfl rfl rfl hb8 rfl rfl ?_
              refine LX.gF rfl rfl rfl hb8 rfl rfl ?_
              refine LX.pure (Y.pickF rfl hb8 rfl) rfl rfl rfl ?_
              exact LX.left ⟨rfl, rfl, rfl, rfl, rfl, trivial⟩
            refine LX.pure (Y.assign rfl) rfl rfl rfl ?_
            refine LX.sub (l' := [(4, _)]) ⟨rfl, trivial⟩ ?_
            refine LX.nextQ ?_
            refine PX.thenN ?_
            refine CX.ret ?_
            refine PX.blockR ?_
            refine PX.thenR ?_
            refine PX.ret1 (by simp) Tryz.results50 rfl ?_
            exact fun w hw => ⟨(), congrArg (fun z => Ending.returned (Value.bool z)) (by
              (rw [Bool.eq_iff_iff]; simp only [decide_eq_true_eq, Bool.and_eq_true, Bool.or_eq_true]; unfold fits; (repeat (first | rw [if_pos (by omega)] | rw [if_neg (by omega)])); omega)), hw.drop (List.sublist_cons_self _ _)⟩
          · try simp at hb7
            refine CX.sub (l' := [(0, _), (3, _), (4, _), (31, _)]) ⟨rfl, rfl, rfl, rfl, trivial⟩ ?_
            apply CX.seqSw 67
            ·
              refine CX.seq ?_
              refine CX.region ?_
              refine LX.pure (Y.eqI rfl rfl) rfl rfl rfl ?_
              refine LX.pure (Y.assign rfl) rfl rfl rfl ?_
              refine LX.next ?_
              refine PX.thenN ?_
              apply CX.swOr
              · rfl
              · exact ⟨rfl, rfl, rfl, rfl, rfl, trivial⟩
              intro hb9
              try simp at hb9
              refine CX.seq ?_
              refine CX.region ?_
              refine LX.pure (Y.eqI rfl rfl) rfl rfl rfl ?_
              refine LX.pure (Y.assign rfl) rfl rfl rfl ?_
              refine LX.next ?_
              refine PX.thenN ?_
              apply CX.swOr
              · rfl
              · exact ⟨rfl, rfl, rfl, rfl, rfl, trivial⟩
              intro hb10
              try simp at hb10
              refine CX.region ?_
              refine LX.pure (Y.eqI rfl rfl) rfl rfl rfl ?_
              refine LX.pure (Y.assign rfl) rfl rfl rfl ?_
              refine LX.next ?_
              exact PX.sw ⟨rfl, rfl, rfl, rfl, rfl, trivial⟩
            refine CX.cond rfl (fun hb11 => ?_) (fun hb11 => ?_)
            · try simp at hb11
              refine CX.seq ?_
              refine CX.regionQ rfl (by kernel_rfl) ?_
              refine LX.pure (Y.fieldAddr0 Fk.fo53_1 rfl) rfl rfl rfl ?_
              refine LX.pure (Y.ldB 0 Fk.one3 rfl rfl rfl) rfl rfl rfl ?_
              refine LX.pure (Y.move rfl) rfl rfl rfl ?_
              refine LX.pure (Y.nilCheck rfl) rfl rfl rfl ?_
              refine LX.pure (Y.fieldAddr0 Fk.fo115_1 rfl) rfl rfl rfl ?_
              refine LX.pure (Y.fieldAddr Fk.fo51_3 rfl) rfl rfl rfl ?_
              refine LX.pure (Y.ldB 1 Fk.one3 rfl rfl rfl) rfl rfl rfl ?_
              refine LX.callQ (in_q _ _ _) Fk.en112 rfl rfl rfl rfl rfl ?_
              refine LX.pure (Y.assign rfl) rfl rfl rfl ?_
              refine LX.sub (l' := [(4, _)]) ⟨rfl, trivial⟩ ?_
              refine LX.nextQ ?_
              refine PX.thenN ?_
              refine CX.ret ?_
              refine PX.blockR ?_
              refine PX.thenR ?_
              refine PX.ret1 (by simp) Tryz.results50 rfl ?_
              exact fun w hw => ⟨(), congrArg (fun z => Ending.returned (Value.bool z)) (by
                (rw [Bool.eq_iff_iff]; simp only [decide_eq_true_eq, Bool.and_eq_true, Bool.or_eq_true]; unfold fits; (repeat (first | rw [if_pos (by omega)] | rw [if_neg (by omega)])); omega)), hw.drop (List.sublist_cons_self _ _)⟩
            · try simp at hb11
              refine CX.sub (l' := [(0, _), (3, _), (4, _), (31, _)]) ⟨rfl, rfl, rfl, rfl, trivial⟩ ?_
              apply CX.seqSw 79
              ·
                refine CX.seq ?_
                refine CX.region ?_
                refine LX.pure (Y.eqI rfl rfl) rfl rfl rfl ?_
                refine LX.pure (Y.assign rfl) rfl rfl rfl ?_
                refine LX.next ?_
                refine PX.thenN ?_
                apply CX.swOr
                · rfl
                · exact ⟨rfl, rfl, rfl, rfl, rfl, trivial⟩
                intro hb12
                try simp at hb12
                refine CX.region ?_
                refine LX.pure (Y.eqI rfl rfl) rfl rfl rfl ?_
                refine LX.pure (Y.assign rfl) rfl rfl rfl ?_
                refine LX.next ?_
                exact PX.sw ⟨rfl, rfl, rfl, rfl, rfl, trivial⟩
              refine CX.cond rfl (fun hb13 => ?_) (fun hb13 => ?_)
              · try simp at hb13
                refine CX.seq ?_
                refine CX.regionQ rfl (by kernel_rfl) ?_
                refine LX.pure (Y.fieldAddr0 Fk.fo53_1 rfl) rfl rfl rfl ?_
                refine LX.pure (Y.ldB 0 Fk.one3 rfl rfl rfl) rfl rfl rfl ?_
                refine LX.pure (Y.move rfl) rfl rfl rfl ?_
                refine LX.pure (Y.nilCheck rfl) rfl rfl rfl ?_
                refine LX.pure (Y.fieldAddr0 Fk.fo115_0 rfl) rfl rfl rfl ?_
                refine LX.pure (Y.fieldAddr0 Fk.fo28_2 rfl) rfl rfl rfl ?_
                refine LX.pure (Y.ldB 1 Fk.one26 rfl rfl rfl) rfl rfl rfl ?_
                refine LX.pure (Y.lenSl rfl Fk.un26 rfl) rfl rfl rfl ?_
                refine LX.callQ (in_q _ _ _) Fk.en112 rfl rfl rfl rfl rfl ?_
                refine LX.pure (Y.assign rfl) rfl rfl rfl ?_
                refine LX.sub (l' := [(4, _)]) ⟨rfl, trivial⟩ ?_
                refine LX.nextQ ?_
                refine PX.thenN ?_
                refine CX.ret ?_
                refine PX.blockR ?_
                refine PX.thenR ?_
                refine PX.ret1 (by simp) Tryz.results50 rfl ?_
                exact fun w hw => ⟨(), congrArg (fun z => Ending.returned (Value.bool z)) (by
                  (rw [Bool.eq_iff_iff]; simp only [decide_eq_true_eq, Bool.and_eq_true, Bool.or_eq_true]; unfold fits; (repeat (first | rw [if_pos (by omega)] | rw [if_neg (by omega)])); omega)), hw.drop (List.sublist_cons_self _ _)⟩
              · try simp at hb13
                refine CX.sub (l' := [(0, _), (3, _), (4, _), (31, _)]) ⟨rfl, rfl, rfl, rfl, trivial⟩ ?_
                apply CX.seqSw 91
                ·
                  refine CX.seq ?_
                  refine CX.region ?_
                  refine LX.pure (Y.eqI rfl rfl) rfl rfl rfl ?_
                  refine LX.pure (Y.assign rfl) rfl rfl rfl ?_
                  refine LX.next ?_
                  refine PX.thenN ?_
                  apply CX.swOr
                  · rfl
                  · exact ⟨rfl, rfl, rfl, rfl, rfl, trivial⟩
                  intro hb14
                  try simp at hb14
                  refine CX.region ?_
                  refine LX.pure (Y.eqI rfl rfl) rfl rfl rfl ?_
                  refine LX.pure (Y.assign rfl) rfl rfl rfl ?_
                  refine LX.next ?_
                  exact PX.sw ⟨rfl, rfl, rfl, rfl, rfl, trivial⟩
                refine CX.cond rfl (fun hb15 => ?_) (fun hb15 => ?_)
                · try simp at hb15
                  refine CX.seq ?_
                  refine CX.regionQ rfl (by kernel_rfl) ?_
                  refine LX.pure (Y.fieldAddr0 Fk.fo53_1 rfl) rfl rfl rfl ?_
                  refine LX.pure (Y.ldB 0 Fk.one3 rfl rfl rfl) rfl rfl rfl ?_
                  refine LX.pure (Y.move rfl) rfl rfl rfl ?_
                  refine LX.pure (Y.nilCheck rfl) rfl rfl rfl ?_
                  refine LX.pure (Y.fieldAddr0 Fk.fo115_0 rfl) rfl rfl rfl ?_
                  refine LX.pure (Y.fieldAddr0 Fk.fo28_3 rfl) rfl rfl rfl ?_
                  refine LX.pure (Y.ldB 1 Fk.one26 rfl rfl rfl) rfl rfl rfl ?_
                  refine LX.pure (Y.lenSl rfl Fk.un26 rfl) rfl rfl rfl ?_
                  refine LX.callQ (in_q _ _ _) Fk.en112 rfl rfl rfl rfl rfl ?_
                  refine LX.pure (Y.assign rfl) rfl rfl rfl ?_
                  refine LX.sub (l' := [(4, _)]) ⟨rfl, trivial⟩ ?_
                  refine LX.nextQ ?_
                  refine PX.thenN ?_
                  refine CX.ret ?_
                  refine PX.blockR ?_
                  refine PX.thenR ?_
                  refine PX.ret1 (by simp) Tryz.results50 rfl ?_
                  exact fun w hw => ⟨(), congrArg (fun z => Ending.returned (Value.bool z)) (by
                    (rw [Bool.eq_iff_iff]; simp only [decide_eq_true_eq, Bool.and_eq_true, Bool.or_eq_true]; unfold fits; (repeat (first | rw [if_pos (by omega)] | rw [if_neg (by omega)])); omega)), hw.drop (List.sublist_cons_self _ _)⟩
                · try simp at hb15
                  refine CX.seq ?_
                  refine CX.region ?_
                  refine LX.pure (Y.eqI rfl rfl) rfl rfl rfl ?_
                  refine LX.pure (Y.assign rfl) rfl rfl rfl ?_
                  refine LX.sub (l' := [(0, _), (3, _), (4, _), (31, _), (103, _)]) ⟨rfl, rfl, rfl, rfl, rfl, trivial⟩ ?_
                  refine LX.next ?_
                  refine PX.thenN ?_
                  refine CX.cond rfl (fun hb16 => ?_) (fun hb16 => ?_)
                  · try simp at hb16
                    refine CX.seq ?_
                    refine CX.regionQ rfl (by kernel_rfl) ?_
                    refine LX.pure (Y.fieldAddr0 Fk.fo53_1 rfl) rfl rfl rfl ?_
                    refine LX.pure (Y.ldB 0 Fk.one3 rfl rfl rfl) rfl rfl rfl ?_
                    refine LX.pure (Y.move rfl) rfl rfl rfl ?_
                    refine LX.pure (Y.nilCheck rfl) rfl rfl rfl ?_
                    refine LX.pure (Y.fieldAddr0 Fk.fo115_0 rfl) rfl rfl rfl ?_
                    refine LX.pure (Y.fieldAddr0 Fk.fo28_0 rfl) rfl rfl rfl ?_
                    refine LX.pure (Y.ldB 1 Fk.one25 rfl rfl rfl) rfl rfl rfl ?_
                    refine LX.pure (Y.lenSl rfl Fk.un25 rfl) rfl rfl rfl ?_
                    refine LX.callQ (in_q _ _ _) Fk.en112 rfl rfl rfl rfl rfl ?_
                    refine LX.pure (Y.assign rfl) rfl rfl rfl ?_
                    refine LX.sub (l' := [(4, _)]) ⟨rfl, trivial⟩ ?_
                    refine LX.nextQ ?_
                    refine PX.thenN ?_
                    refine CX.ret ?_
                    refine PX.blockR ?_
                    refine PX.thenR ?_
                    refine PX.ret1 (by simp) Tryz.results50 rfl ?_
                    exact fun w hw => ⟨(), congrArg (fun z => Ending.returned (Value.bool z)) (by
                      (rw [Bool.eq_iff_iff]; simp only [decide_eq_true_eq, Bool.and_eq_true, Bool.or_eq_true]; unfold fits; (repeat (first | rw [if_pos (by omega)] | rw [if_neg (by omega)])); omega)), hw.drop (List.sublist_cons_self _ _)⟩
                  · try simp at hb16
                    refine CX.sub (l' := [(0, _), (3, _), (4, _), (31, _)]) ⟨rfl, rfl, rfl, rfl, trivial⟩ ?_
                    apply CX.seqSw 114
                    ·
                      refine CX.seq ?_
                      refine CX.region ?_
                      refine LX.pure (Y.eqI rfl rfl) rfl rfl rfl ?_
                      refine LX.pure (Y.assign rfl) rfl rfl rfl ?_
                      refine LX.next ?_
                      refine PX.thenN ?_
                      apply CX.swOr
                      · rfl
                      · exact ⟨rfl, rfl, rfl, rfl, rfl, trivial⟩
                      intro hb17
                      try simp at hb17
                      refine CX.seq ?_
                      refine CX.region ?_
                      refine LX.pure (Y.eqI rfl rfl) rfl rfl rfl ?_
                      refine LX.pure (Y.assign rfl) rfl rfl rfl ?_
                      refine LX.next ?_
                      refine PX.thenN ?_
                      apply CX.swOr
                      · rfl
                      · exact ⟨rfl, rfl, rfl, rfl, rfl, trivial⟩
                      intro hb18
                      try simp at hb18
                      refine CX.seq ?_
                      refine CX.region ?_
                      refine LX.pure (Y.eqI rfl rfl) rfl rfl rfl ?_
                      refine LX.pure (Y.assign rfl) rfl rfl rfl ?_
                      refine LX.next ?_
                      refine PX.thenN ?_
                      apply CX.swOr
                      · rfl
                      · exact ⟨rfl, rfl, rfl, rfl, rfl, trivial⟩
                      intro hb19
                      try simp at hb19
                      refine CX.seq ?_
                      refine CX.region ?_
                      refine LX.pure (Y.eqI rfl rfl) rfl rfl rfl ?_
                      refine LX.pure (Y.assign rfl) rfl rfl rfl ?_
                      refine LX.next ?_
                      refine PX.thenN ?_
                      apply CX.swOr
                      · rfl
                      · exact ⟨rfl, rfl, rfl, rfl, rfl, trivial⟩
                      intro hb20
                      try simp at hb20
                      refine CX.region ?_
                      refine LX.pure (Y.eqI rfl rfl) rfl rfl rfl ?_
                      refine LX.pure (Y.assign rfl) rfl rfl rfl ?_
                      refine LX.next ?_
                      exact PX.sw ⟨rfl, rfl, rfl, rfl, rfl, trivial⟩
                    refine CX.cond rfl (fun hb21 => ?_) (fun hb21 => ?_)
                    · try simp at hb21
                      refine CX.seq ?_
                      refine CX.regionQ rfl (by kernel_rfl) ?_
                      refine LX.pure (Y.fieldAddr0 Fk.fo53_1 rfl) rfl rfl rfl ?_
                      refine LX.pure (Y.ldB 0 Fk.one3 rfl rfl rfl) rfl rfl rfl ?_
                      refine LX.pure (Y.move rfl) rfl rfl rfl ?_
                      refine LX.pure (Y.nilCheck rfl) rfl rfl rfl ?_
                      refine LX.pure (Y.fieldAddr0 Fk.fo115_1 rfl) rfl rfl rfl ?_
                      refine LX.pure (Y.fieldAddr Fk.fo51_5 rfl) rfl rfl rfl ?_
                      refine LX.pure (Y.ldB 1 Fk.one49 rfl rfl rfl) rfl rfl rfl ?_
                      refine LX.pure (Y.lenSl rfl Fk.un49 rfl) rfl rfl rfl ?_
                      refine LX.callQ (in_q _ _ _) Fk.en112 rfl rfl rfl rfl rfl ?_
                      refine LX.pure (Y.assign rfl) rfl rfl rfl ?_
                      refine LX.sub (l' := [(4, _)]) ⟨rfl, trivial⟩ ?_
                      refine LX.nextQ ?_
                      refine PX.thenN ?_
                      refine CX.ret ?_
                      refine PX.blockR ?_
                      refine PX.thenR ?_
                      refine PX.ret1 (by simp) Tryz.results50 rfl ?_
                      exact fun w hw => ⟨(), congrArg (fun z => Ending.returned (Value.bool z)) (by
                        (rw [Bool.eq_iff_iff]; simp only [decide_eq_true_eq, Bool.and_eq_true, Bool.or_eq_true]; unfold fits; (repeat (first | rw [if_pos (by omega)] | rw [if_neg (by omega)])); omega)), hw.drop (List.sublist_cons_self _ _)⟩
                    · try simp at hb21
                      refine CX.sub (l' := [(3, _), (4, _), (31, _)]) ⟨rfl, rfl, rfl, trivial⟩ ?_
                      apply CX.seqSw 129
                      ·
                        refine CX.seq ?_
                        refine CX.region ?_
                        refine LX.pure (Y.eqI rfl rfl) rfl rfl rfl ?_
                        refine LX.pure (Y.assign rfl) rfl rfl rfl ?_
                        refine LX.next ?_
                        refine PX.thenN ?_
                        apply CX.swOr
                        · rfl
                        · exact ⟨rfl, rfl, rfl, rfl, trivial⟩
                        intro hb22
                        try simp at hb22
                        refine CX.seq ?_
                        refine CX.region ?_
                        refine LX.pure (Y.eqI rfl rfl) rfl rfl rfl ?_
                        refine LX.pure (Y.assign rfl) rfl rfl rfl ?_
                        refine LX.next ?_
                        refine PX.thenN ?_
                        apply CX.swOr
                        · rfl
                        · exact ⟨rfl, rfl, rfl, rfl, trivial⟩
                        intro hb23
                        try simp at hb23
                        refine CX.seq ?_
                        refine CX.region ?_
                        refine LX.pure (Y.eqI rfl rfl) rfl rfl rfl ?_
                        refine LX.pure (Y.assign rfl) rfl rfl rfl ?_
                        refine LX.next ?_
                        refine PX.thenN ?_
                        apply CX.swOr
                        · rfl
                        · exact ⟨rfl, rfl, rfl, rfl, trivial⟩
                        intro hb24
                        try simp at hb24
                        refine CX.seq ?_
                        refine CX.region ?_
                        refine LX.pure (Y.eqI rfl rfl) rfl rfl rfl ?_
                        refine LX.pure (Y.assign rfl) rfl rfl rfl ?_
                        refine LX.next ?_
                        refine PX.thenN ?_
                        apply CX.swOr
                        · rfl
                        · exact ⟨rfl, rfl, rfl, rfl, trivial⟩
                        intro hb25
                        try simp at hb25
                        refine CX.region ?_
                        refine LX.pure (Y.eqI rfl rfl) rfl rfl rfl ?_
                        refine LX.pure (Y.assign rfl) rfl rfl rfl ?_
                        refine LX.next ?_
                        exact PX.sw ⟨rfl, rfl, rfl, rfl, trivial⟩
                      refine CX.cond rfl (fun hb26 => ?_) (fun hb26 => ?_)
                      · try simp at hb26
                        refine CX.seq ?_
                        refine CX.region ?_
                        refine LX.pure (Y.fieldAddr0 Fk.fo53_1 rfl) rfl rfl rfl ?_
                        refine LX.pure (Y.ldB 0 Fk.one3 rfl rfl rfl) rfl rfl rfl ?_
                        refine LX.callQ (in_q _ _ _) Fk.en112 rfl rfl rfl rfl rfl ?_
                        refine LX.pure (Y.assign rfl) rfl rfl rfl ?_
                        refine LX.sub (l' := [(4, _)]) ⟨rfl, trivial⟩ ?_
                        refine LX.next ?_
                        refine PX.thenN ?_
                        refine CX.ret ?_
                        refine PX.blockR ?_
                        refine PX.thenR ?_
                        refine PX.ret1 (by simp) Tryz.results50 rfl ?_
                        exact fun w hw => ⟨(), congrArg (fun z => Ending.returned (Value.bool z)) (by
                          (rw [Bool.eq_iff_iff]; simp only [decide_eq_true_eq, Bool.and_eq_true, Bool.or_eq_true]; unfold fits; (repeat (first | rw [if_pos (by omega)] | rw [if_neg (by omega)])); omega)), hw.drop (List.sublist_cons_self _ _)⟩
                      · try simp at hb26
                        refine CX.seq ?_
                        refine CX.region ?_
                        refine LX.pure (Y.eqI rfl rfl) rfl rfl rfl ?_
                        refine LX.pure (Y.assign rfl) rfl rfl rfl ?_
                        refine LX.sub (l' := [(3, _), (4, _), (31, _), (138, _)]) ⟨rfl, rfl, rfl, rfl, trivial⟩ ?_
                        refine LX.next ?_
                        refine PX.thenN ?_
                        refine CX.cond rfl (fun hb27 => ?_) (fun hb27 => ?_)
                        · try simp at hb27
                          refine CX.seq ?_
                          refine CX.region ?_
                          refine LX.pure (Y.fieldAddr0 Fk.fo53_1 rfl) rfl rfl rfl ?_
                          refine LX.pure (Y.ldB 0 Fk.one3 rfl rfl rfl) rfl rfl rfl ?_
                          refine LX.pure (Y.eqI rfl rfl) rfl rfl rfl ?_
                          refine LX.pure (Y.move rfl) rfl rfl rfl ?_
                          refine LX.sub (l' := [(3, _), (4, _), (143, _)]) ⟨rfl, rfl, rfl, trivial⟩ ?_
                          apply LX.joinOr 4 147 143 rfl
                          · intro hb28
                            have hb28p := hb28
                            try simp at hb28p
                            refine LX.gF rfl rfl rfl hb28 rfl rfl ?_
                            refine LX.gF rfl rfl rfl hb28 rfl rfl ?_
                            refine LX.gF rfl rfl rfl hb28 rfl rfl ?_
                            refine LX.pure (Y.pickT rfl hb28 rfl) rfl rfl rfl ?_
                            exact LX.left ⟨rfl, rfl, rfl, rfl, trivial⟩
                          · intro hb28
                            have hb28p := hb28
                            try simp at hb28p
                            refine LX.gT rfl rfl rfl hb28 (Y.fieldAddr0 Fk.fo53_1 rfl) rfl rfl ?_
                            refine LX.gT rfl rfl rfl hb28 (Y.ldB 0 Fk.one3 rfl rfl rfl) rfl rfl ?_
                            refine LX.gT rfl rfl rfl hb28 (Y.eqI rfl rfl) rfl rfl ?_
                            refine LX.pure (Y.pickF rfl hb28 rfl) rfl rfl rfl ?_
                            exact LX.left ⟨rfl, rfl, rfl, rfl, trivial⟩
                          refine LX.pure (Y.assign rfl) rfl rfl rfl ?_
                          refine LX.sub (l' := [(4, _)]) ⟨rfl, trivial⟩ ?_
                          refine LX.next ?_
                          refine PX.thenN ?_
                          refine CX.ret ?_
                          refine PX.blockR ?_
                          refine PX.thenR ?_
                          refine PX.ret1 (by simp) Tryz.results50 rfl ?_
                          exact fun w hw => ⟨(), congrArg (fun z => Ending.returned (Value.bool z)) (by
                            (rw [Bool.eq_iff_iff]; simp only [decide_eq_true_eq, Bool.and_eq_true, Bool.or_eq_true]; unfold fits; (repeat (first | rw [if_pos (by omega)] | rw [if_neg (by omega)])); omega)), hw.drop (List.sublist_cons_self _ _)⟩
                        · try simp at hb27
                          refine CX.seq ?_
                          refine CX.region ?_
                          refine LX.pure (Y.eqI rfl rfl) rfl rfl rfl ?_
                          refine LX.pure (Y.assign rfl) rfl rfl rfl ?_
                          refine LX.sub (l' := [(3, _), (4, _), (31, _), (148, _)]) ⟨rfl, rfl, rfl, rfl, trivial⟩ ?_
                          refine LX.next ?_
                          refine PX.thenN ?_
                          refine CX.cond rfl (fun hb29 => ?_) (fun hb29 => ?_)
                          · try simp at hb29
                            refine CX.seq ?_
                            refine CX.region ?_
                            refine LX.pure (Y.fieldAddr0 Fk.fo53_1 rfl) rfl rfl rfl ?_
                            refine LX.pure (Y.ldB 0 Fk.one3 rfl rfl rfl) rfl rfl rfl ?_
                            refine LX.callQ (in_q _ _ _) Fk.en112 rfl rfl rfl rfl rfl ?_
                            refine LX.pure (Y.assign rfl) rfl rfl rfl ?_
                            refine LX.sub (l' := [(4, _)]) ⟨rfl, trivial⟩ ?_
                            refine LX.next ?_
                            refine PX.thenN ?_
                            refine CX.ret ?_
                            refine PX.blockR ?_
                            refine PX.thenR ?_
                            refine PX.ret1 (by simp) Tryz.results50 rfl ?_
                            exact fun w hw => ⟨(), congrArg (fun z => Ending.returned (Value.bool z)) (by
                              (rw [Bool.eq_iff_iff]; simp only [decide_eq_true_eq, Bool.and_eq_true, Bool.or_eq_true]; unfold fits; (repeat (first | rw [if_pos (by omega)] | rw [if_neg (by omega)])); omega)), hw.drop (List.sublist_cons_self _ _)⟩
                          · try simp at hb29
                            refine CX.seq ?_
                            refine CX.region ?_
                            refine LX.pure (Y.eqI rfl rfl) rfl rfl rfl ?_
                            refine LX.pure (Y.assign rfl) rfl rfl rfl ?_
                            refine LX.sub (l' := [(3, _), (4, _), (31, _), (153, _)]) ⟨rfl, rfl, rfl, rfl, trivial⟩ ?_
                            refine LX.next ?_
                            refine PX.thenN ?_
                            refine CX.cond rfl (fun hb30 => ?_) (fun hb30 => ?_)
                            · try simp at hb30
                              refine CX.seq ?_
                              refine CX.region ?_
                              refine LX.pure (Y.fieldAddr0 Fk.fo53_1 rfl) rfl rfl rfl ?_
                              refine LX.pure (Y.ldB 0 Fk.one3 rfl rfl rfl) rfl rfl rfl ?_
                              refine LX.callQ (in_q _ _ _) Fk.en112 rfl rfl rfl rfl rfl ?_
                              refine LX.pure (Y.assign rfl) rfl rfl rfl ?_
                              refine LX.sub (l' := [(4, _)]) ⟨rfl, trivial⟩ ?_
                              refine LX.next ?_
                              refine PX.thenN ?_
                              refine CX.ret ?_
                              refine PX.blockR ?_
                              refine PX.thenR ?_
                              refine PX.ret1 (by simp) Tryz.results50 rfl ?_
                              exact fun w hw => ⟨(), congrArg (fun z => Ending.returned (Value.bool z)) (by
                                (rw [Bool.eq_iff_iff]; simp only [decide_eq_true_eq, Bool.and_eq_true, Bool.or_eq_true]; unfold fits; (repeat (first | rw [if_pos (by omega)] | rw [if_neg (by omega)])); omega)), hw.drop (List.sublist_cons_self _ _)⟩
                            · try simp at hb30
                              refine CX.sub (l' := [(3, _), (4, _), (31, _)]) ⟨rfl, rfl, rfl, trivial⟩ ?_
                              apply CX.seqSw 158
                              ·
                                refine CX.seq ?_
                                refine CX.region ?_
                                refine LX.pure (Y.eqI rfl rfl) rfl rfl rfl ?_
                                refine LX.pure (Y.assign rfl) rfl rfl rfl ?_
                                refine LX.next ?_
                                refine PX.thenN ?_
                                apply CX.swOr
                                · rfl
                                · exact ⟨rfl, rfl, rfl, rfl, trivial⟩
                                intro hb31
                                try simp at hb31
                                refine CX.seq ?_
                                refine CX.region ?_
                                refine LX.pure (Y.eqI rfl rfl) rfl rfl rfl ?_
                                refine LX.pure (Y.assign rfl) rfl rfl rfl ?_
                                refine LX.next ?_
                                refine PX.thenN ?_
                                apply CX.swOr
                                · rfl
                                · exact ⟨rfl, rfl, rfl, rfl, trivial⟩
                                intro hb32
                                try simp at hb32
                                refine CX.seq ?_
                                refine CX.region ?_
                                refine LX.pure (Y.eqI rfl rfl) rfl rfl rfl ?_
                                refine LX.pure (Y.assign rfl) rfl rfl rfl ?_
                                refine LX.next ?_
                                refine PX.thenN ?_
                                apply CX.swOr
                                · rfl
                                · exact ⟨rfl, rfl, rfl, rfl, trivial⟩
                                intro hb33
                                try simp at hb33
                                refine CX.seq ?_
                                refine CX.region ?_
                                refine LX.pure (Y.eqI rfl rfl) rfl rfl rfl ?_
                                refine LX.pure (Y.assign rfl) rfl rfl rfl ?_
                                refine LX.next ?_
                                refine PX.thenN ?_
                                apply CX.swOr
                                · rfl
                                · exact ⟨rfl, rfl, rfl, rfl, trivial⟩
                                intro hb34
                                try simp at hb34
                                refine CX.seq ?_
                                refine CX.region ?_
                                refine LX.pure (Y.eqI rfl rfl) rfl rfl rfl ?_
                                refine LX.pure (Y.assign rfl) rfl rfl rfl ?_
                                refine LX.next ?_
                                refine PX.thenN ?_
                                apply CX.swOr
                                · rfl
                                · exact ⟨rfl, rfl, rfl, rfl, trivial⟩
                                intro hb35
                                try simp at hb35
                                refine CX.seq ?_
                                refine CX.region ?_
                                refine LX.pure (Y.eqI rfl rfl) rfl rfl rfl ?_
                                refine LX.pure (Y.assign rfl) rfl rfl rfl ?_
                                refine LX.next ?_
                                refine PX.thenN ?_
                                apply CX.swOr
                                · rfl
                                · exact ⟨rfl, rfl, rfl, rfl, trivial⟩
                                intro hb36
                                try simp at hb36
                                refine CX.seq ?_
                                refine CX.region ?_
                                refine LX.pure (Y.eqI rfl rfl) rfl rfl rfl ?_
                                refine LX.pure (Y.assign rfl) rfl rfl rfl ?_
                                refine LX.next ?_
                                refine PX.thenN ?_
                                apply CX.swOr
                                · rfl
                                · exact ⟨rfl, rfl, rfl, rfl, trivial⟩
                                intro hb37
                                try simp at hb37
                                refine CX.region ?_
                                refine LX.pure (Y.eqI rfl rfl) rfl rfl rfl ?_
                                refine LX.pure (Y.assign rfl) rfl rfl rfl ?_
                                refine LX.next ?_
                                exact PX.sw ⟨rfl, rfl, rfl, rfl, trivial⟩
                              refine CX.cond rfl (fun hb38 => ?_) (fun hb38 => ?_)
                              · try simp at hb38
                                refine CX.seq ?_
                                refine CX.region ?_
                                refine LX.pure (Y.fieldAddr0 Fk.fo53_1 rfl) rfl rfl rfl ?_
                                refine LX.pure (Y.ldB 0 Fk.one3 rfl rfl rfl) rfl rfl rfl ?_
                                refine LX.pure (Y.eqI rfl rfl) rfl rfl rfl ?_
                                refine LX.pure (Y.assign rfl) rfl rfl rfl ?_
                                refine LX.sub (l' := [(4, _)]) ⟨rfl, trivial⟩ ?_
                                refine LX.next ?_
                                refine PX.thenN ?_
                                refine CX.ret ?_
                                refine PX.blockR ?_
                                refine PX.thenR ?_
                                refine PX.ret1 (by simp) Tryz.results50 rfl ?_
                                exact fun w hw => ⟨(), congrArg (fun z => Ending.returned (Value.bool z)) (by
                                  (rw [Bool.eq_iff_iff]; simp only [decide_eq_true_eq, Bool.and_eq_true, Bool.or_eq_true]; unfold fits; (repeat (first | rw [if_pos (by omega)] | rw [if_neg (by omega)])); omega)), hw.drop (List.sublist_cons_self _ _)⟩
                              · try simp at hb38
                                refine CX.skip ?_
                                refine PX.blockN ?_
                                refine PX.thenN ?_
                                refine CX.seq ?_
                                refine CX.region ?_
                                refine LX.pure (Y.assign rfl) rfl rfl rfl ?_
                                refine LX.sub (l' := [(4, _)]) ⟨rfl, trivial⟩ ?_
                                refine LX.next ?_
                                refine PX.thenN ?_
                                refine CX.ret ?_
                                refine PX.ret1 (by simp) Tryz.results50 rfl ?_
                                exact fun w hw => ⟨(), congrArg (fun z => Ending.returned (Value.bool z)) (by
                                  exact (decide_eq_false (fun h => by have := fits_b h; omega)).symm), hw.drop (List.sublist_cons_self _ _)⟩
theorem refFits_c {w0 : World} {base : Nat} {fr : List It} {X : Cx} {p : Pg} {f : Fc} (hX : CkAt (Lies w0 base) X p f) (i : Ins) : FnC Tryz.prog 56 #[.agg (X.pcs p).toArray, .agg (X.fcs f).toArray, insV i] (WA w0 base fr) (fun _ : Unit => .bool (decide (fits p f i))) (fun _ => WA w0 base fr) := by
  refine FnC.of_body (fn := Tryz.f56) [(0, _), (1, _), (2, _)] Tryz.func56 rfl Tryz.ntmps56 rfl ⟨rfl, rfl, rfl, trivial⟩ ?_
  refine CX.seq ?_
  refine CX.region ?_
  refine LX.box rfl rfl rfl rfl rfl ?_
  intro bx0
  refine LX.box rfl rfl rfl rfl rfl ?_
  intro bx1
  refine LX.box rfl rfl rfl rfl rfl ?_
  intro bx2
  refine LX.pure (Y.assign rfl) rfl rfl rfl ?_
  refine LX.sub (l' := [(3, _), (4, _), (5, _), (6, _)]) ⟨rfl, rfl, rfl, rfl, trivial⟩ ?_
  refine LX.next ?_
  refine PX.thenN ?_
  refine CX.seq ?_
  refine CX.region ?_
  refine LX.pure (Y.assign rfl) rfl rfl rfl ?_
  refine LX.sub (l' := [(3, _), (4, _), (5, _), (6, _), (7, _)]) ⟨rfl, rfl, rfl, rfl, rfl, trivial⟩ ?_
  refine LX.next ?_
  refine PX.thenN ?_
  refine CX.seq ?_
  refine CX.seq ?_
  refine CX.region ?_
  refine LX.pure (Y.fieldAddr0 Fk.fo65_0 rfl) rfl rfl rfl ?_
  refine LX.pure (Y.ldB 0 Fk.one3 rfl rfl rfl) rfl rfl rfl ?_
  refine LX.pure (Y.ltI rfl rfl) rfl rfl rfl ?_
  refine LX.pure (Y.move rfl) rfl rfl rfl ?_
  refine LX.sub (l' := [(3, _), (4, _), (5, _), (6, _), (7, _), (12, _)]) ⟨rfl, rfl, rfl, rfl, rfl, rfl, trivial⟩ ?_
  apply LX.joinOr 4 16 12 rfl
  · intro hb1
    have hb1p := hb1
    try simp at hb1p
    refine LX.gF rfl rfl rfl hb1 rfl rfl ?_
    refine LX.gF rfl rfl rfl hb1 rfl rfl ?_
    refine LX.gF rfl rfl rfl hb1 rfl rfl ?_
    refine LX.pure (Y.pickT rfl hb1 rfl) rfl rfl rfl ?_
    exact LX.left ⟨rfl, rfl, rfl, rfl, rfl, rfl, rfl, trivial⟩
  · intro hb1
    have hb1p := hb1
    try simp at hb1p
    refine LX.gT rfl rfl rfl hb1 (Y.fieldAddr0 Fk.fo65_0 rfl) rfl rfl ?_
    refine LX.gT rfl rfl rfl hb1 (Y.ldB 0 Fk.one3 rfl rfl rfl) rfl rfl ?_
    refine LX.gT rfl rfl rfl hb1 (Y.gtI rfl rfl) rfl rfl ?_
    refine LX.pure (Y.pickF rfl hb1 rfl) rfl rfl rfl ?_
    exact LX.left ⟨rfl, rfl, rfl, rfl, rfl, rfl, rfl, trivial⟩
  refine LX.pure (Y.move rfl) rfl rfl rfl ?_
  refine LX.sub (l' := [(3, _), (4, _), (5, _), (6, _), (7, _), (17, _)]) ⟨rfl, rfl, rfl, rfl, rfl, rfl, trivial⟩ ?_
  apply LX.joinOr 14 31 17 rfl
  · intro hb2
    have hb2p := hb2
    try simp at hb2p
    refine LX.gF rfl rfl rfl hb2 rfl rfl ?_
    refine LX.gF rfl rfl rfl hb2 rfl rfl ?_
    refine LX.gF rfl rfl rfl hb2 rfl rfl ?_
    refine LX.gF rfl rfl rfl hb2 rfl rfl ?_
    refine LX.gU rfl rfl rfl rfl rfl ?_
    refine LX.gU rfl rfl rfl rfl rfl ?_
    refine LX.gU rfl rfl rfl rfl rfl ?_
    refine LX.gF rfl rfl rfl hb2 rfl rfl ?_
    refine LX.gF rfl rfl rfl hb2 rfl rfl ?_
    refine LX.gU rfl rfl rfl rfl rfl ?_
    refine LX.gU rfl rfl rfl rfl rfl ?_
    refine LX.gU rfl rfl rfl rfl rfl ?_
    refine LX.gF rfl rfl rfl hb2 rfl rfl ?_
    refine LX.pure (Y.pickT rfl hb2 rfl) rfl rfl rfl ?_
    exact LX.left ⟨rfl, rfl, rfl, rfl, rfl, rfl, rfl, trivial⟩
  · intro hb2
    have hb2p := hb2
    try simp at hb2p
    refine LX.gT rfl rfl rfl hb2 (Y.fieldAddr0 Fk.fo65_0 rfl) rfl rfl ?_
    refine LX.gT rfl rfl rfl hb2 (Y.ldB 0 Fk.one3 rfl rfl rfl) rfl rfl ?_
    refine LX.gT rfl rfl rfl hb2 (Y.neI rfl rfl) rfl rfl ?_
    refine LX.gT rfl rfl rfl hb2 (Y.move rfl) rfl rfl ?_
    refine LX.sub (l' := [(3, _), (4, _), (5, _), (6, _), (7, _), (17, _), (21, _)]) ⟨rfl, rfl, rfl, rfl, rfl, rfl, rfl, trivial⟩ ?_
    apply LX.joinAnd 4 25 21 rfl
    · intro hb3
      have hb3p := hb3
      try simp at hb3p
      refine LX.gT rfl rfl rfl hb3 (Y.fieldAddr0 Fk.fo65_0 rfl) rfl rfl ?_
      refine LX.gT rfl rfl rfl hb3 (Y.ldB 0 Fk.one3 rfl rfl rfl) rfl rfl ?_
      refine LX.gT rfl rfl rfl hb3 (Y.neI rfl rfl) rfl rfl ?_
      refine LX.gT rfl rfl rfl hb2 (Y.pickT rfl hb3 rfl) rfl rfl ?_
      exact LX.left ⟨rfl, rfl, rfl, rfl, rfl, rfl, rfl, rfl, trivial⟩
    · intro hb3
      have hb3p := hb3
      try simp at hb3p
      refine LX.gF rfl rfl rfl hb3 rfl rfl ?_
      refine LX.gF rfl rfl rfl hb3 rfl rfl ?_
      refine LX.gF rfl rfl rfl hb3 rfl rfl ?_
      refine LX.gT rfl rfl rfl hb2 (Y.pickF rfl hb3 rfl) rfl rfl ?_
      exact LX.left ⟨rfl, rfl, rfl, rfl, rfl, rfl, rfl, rfl, trivial⟩
    refine LX.gT rfl rfl rfl hb2 (Y.move rfl) rfl rfl ?_
    refine LX.sub (l' := [(3, _), (4, _), (5, _), (6, _), (7, _), (17, _), (26, _)]) ⟨rfl, rfl, rfl, rfl, rfl, rfl, rfl, trivial⟩ ?_
    apply LX.joinAnd 4 30 26 rfl
    · intro hb4
      have hb4p := hb4
      try simp at hb4p
      refine LX.gT rfl rfl rfl hb4 (Y.fieldAddr0 Fk.fo65_2 rfl) rfl rfl ?_
      refine LX.gT rfl rfl rfl hb4 (Y.ldB 0 Fk.one3 rfl rfl rfl) rfl rfl ?_
      refine LX.gT rfl rfl rfl hb4 (Y.neI rfl rfl) rfl rfl ?_
      refine LX.gT rfl rfl rfl hb2 (Y.pickT rfl hb4 rfl) rfl rfl ?_
      exact LX.left ⟨rfl, rfl, rfl, rfl, rfl, rfl, rfl, rfl, trivial⟩
    · intro hb4
      have hb4p := hb4
      try simp at hb4p
      refine LX.gF rfl rfl rfl hb4 rfl rfl ?_
      refine LX.gF rfl rfl rfl hb4 rfl rfl ?_
      refine LX.gF rfl rfl rfl hb4 rfl rfl ?_
      refine LX.gT rfl rfl rfl hb2 (Y.pickF rfl hb4 rfl) rfl rfl ?_
      exact LX.left ⟨rfl, rfl, rfl, rfl, rfl, rfl, rfl, rfl, trivial⟩
    refine LX.pure (Y.pickF rfl hb2 rfl) rfl rfl rfl ?_
    exact LX.left ⟨rfl, rfl, rfl, rfl, rfl, rfl, rfl, trivial⟩
  refine LX.pure (Y.move rfl) rfl rfl rfl ?_
  refine LX.sub (l' := [(3, _), (4, _), (5, _), (6, _), (7, _), (32, _)]) ⟨rfl, rfl, rfl, rfl, rfl, rfl, trivial⟩ ?_
  apply LX.joinOr 4 36 32 rfl
  · intro hb5
    have hb5p := hb5
    try simp at hb5p
    refine LX.gF rfl rfl rfl hb5 rfl rfl ?_
    refine LX.gF rfl rfl rfl hb5 rfl rfl ?_
    refine LX.gF rfl rfl rfl hb5 rfl rfl ?_
    refine LX.pure (Y.pickT rfl hb5 rfl) rfl rfl rfl ?_
    exact LX.left ⟨rfl, rfl, rfl, rfl, rfl, rfl, rfl, trivial⟩
  · intro hb5
    have hb5p := hb5
    try simp at hb5p
    refine LX.gT rfl rfl rfl hb5 (Y.fieldAddr0 Fk.fo65_2 rfl) rfl rfl ?_
    refine LX.gT rfl rfl rfl hb5 (Y.ldB 0 Fk.one3 rfl rfl rfl) rfl rfl ?_
    refine LX.gT rfl rfl rfl hb5 (Y.ltI rfl rfl) rfl rfl ?_
    refine LX.pure (Y.pickF rfl hb5 rfl) rfl rfl rfl ?_
    exact LX.left ⟨rfl, rfl, rfl, rfl, rfl, rfl, rfl, trivial⟩
  refine LX.pure (Y.move rfl) rfl rfl rfl ?_
  refine LX.sub (l' := [(3, _), (4, _), (5, _), (6, _), (7, _), (37, _)]) ⟨rfl, rfl, rfl, rfl, rfl, rfl, trivial⟩ ?_
  apply LX.joinOr 5 42 37 rfl
  · intro hb6
    have hb6p := hb6
    try simp at hb6p
    refine LX.gF rfl rfl rfl hb6 rfl rfl ?_
    refine LX.gF rfl rfl rfl hb6 rfl rfl ?_
    refine LX.gF rfl rfl rfl hb6 rfl rfl ?_
    refine LX.gF rfl rfl rfl hb6 rfl rfl ?_
    refine LX.pure (Y.pickT rfl hb6 rfl) rfl rfl rfl ?_
    exact LX.left ⟨rfl, rfl, rfl, rfl, rfl, rfl, rfl, trivial⟩
  · intro hb6
    have hb6p := hb6
    try simp at hb6p
    refine LX.gT rfl rfl rfl hb6 (Y.fieldAddr0 Fk.fo65_2 rfl) rfl rfl ?_
    refine LX.gT rfl rfl rfl hb6 (Y.ldB 0 Fk.one3 rfl rfl rfl) rfl rfl ?_
    refine LX.gT rfl rfl rfl hb6 (Y.move rfl) rfl rfl ?_
    refine LX.gT rfl rfl rfl hb6 (Y.gtI rfl rfl) rfl rfl ?_
    refine LX.pure (Y.pickF rfl hb6 rfl) rfl rfl rfl ?_
    exact LX.left ⟨rfl, rfl, rfl, rfl, rfl, rfl, rfl, trivial⟩
  refine LX.sub (l' := [(3, _), (4, _), (5, _), (6, _), (7, _), (42, _)]) ⟨rfl, rfl, rfl, rfl, rfl, rfl, trivial⟩ ?_
  refine LX.next ?_
  refine PX.thenN ?_
  refine CX.cond rfl (fun hb7 => ?_) (fun hb7 => ?_)
  · try simp at hb7
    refine CX.seq ?_
    refine CX.region ?_
    refine LX.pure (Y.assign rfl) rfl rfl rfl ?_
    refine LX.sub (l' := [(3, _), (4, _), (5, _), (6, _), (7, _)]) ⟨rfl, rfl, rfl, rfl, rfl, trivial⟩ ?_
    refine LX.next ?_
    refine PX.thenN ?_
    refine CX.ret ?_
    refine PX.thenR ?_
    refine PX.ret1 (by simp) Tryz.results56 rfl ?_
    exact fun w hw => ⟨(), congrArg (fun z => Ending.returned (Value.bool z)) (by
      exact (decide_eq_false (fun h => by have := fits_b h; omega)).symm), hw.drop (((List.sublist_cons_self _ _).cons _).cons _)⟩
  · try simp at hb7
    refine CX.skip ?_
    refine PX.thenN ?_
    refine CX.seq ?_
    refine CX.region ?_
    refine LX.pure (Y.fieldAddr0 Fk.fo65_1 rfl) rfl rfl rfl ?_
    refine LX.pure (Y.ldB 0 Fk.one3 rfl rfl rfl) rfl rfl rfl ?_
    refine LX.pure (Y.assign rfl) rfl rfl rfl ?_
    refine LX.sub (l' := [(3, _), (4, _), (5, _), (6, _), (7, _), (8, _)]) ⟨rfl, rfl, rfl, rfl, rfl, rfl, trivial⟩ ?_
    refine LX.next ?_
    refine PX.thenN ?_
    refine CX.seq ?_
    refine CX.seq ?_
    refine CX.region ?_
    refine LX.pure (Y.fieldAddr0 Fk.fo65_0 rfl) rfl rfl rfl ?_
    refine LX.pure (Y.ldB 0 Fk.one3 rfl rfl rfl) rfl rfl rfl ?_
    refine LX.sub (l' := [(3, _), (4, _), (5, _), (6, _), (7, _), (8, _), (46, _)]) ⟨rfl, rfl, rfl, rfl, rfl, rfl, rfl, trivial⟩ ?_
    refine LX.next ?_
    refine PX.thenN ?_
    refine CX.block ?_
    refine CX.seq ?_
    refine CX.region ?_
    refine LX.pure (Y.eqI rfl rfl) rfl rfl rfl ?_
    refine LX.pure (Y.assign rfl) rfl rfl rfl ?_
    refine LX.sub (l' := [(3, _), (4, _), (5, _), (6, _), (7, _), (8, _), (46, _), (47, _)]) ⟨rfl, rfl, rfl, rfl, rfl, rfl, rfl, rfl, trivial⟩ ?_
    refine LX.next ?_
    refine PX.thenN ?_
    refine CX.cond rfl (fun hb8 => ?_) (fun hb8 => ?_)
    · try simp at hb8
      refine CX.seq ?_
      refine CX.region ?_
      refine LX.pure (Y.move rfl) rfl rfl rfl ?_
      refine LX.pure (Y.geI rfl rfl) rfl rfl rfl ?_
      refine LX.pure (Y.move rfl) rfl rfl rfl ?_
      refine LX.sub (l' := [(3, _), (6, _), (8, _), (51, _)]) ⟨rfl, rfl, rfl, rfl, trivial⟩ ?_
      apply LX.joinAnd 6 57 51 rfl
      · intro hb9
        have hb9p := hb9
        try simp at hb9p
        refine LX.gT rfl rfl rfl hb9 (Y.move rfl) rfl rfl ?_
        refine LX.gT rfl rfl rfl hb9 (Y.fieldAddr0 Fk.fo57_1 rfl) rfl rfl ?_
        refine LX.gT rfl rfl rfl hb9 (Y.ldB 2 Fk.one22 rfl rfl rfl) rfl rfl ?_
        refine LX.gT rfl rfl rfl hb9 (Y.lenSl rfl Fk.un22 rfl) rfl rfl ?_
        refine LX.gT rfl rfl rfl hb9 (Y.ltI rfl rfl) rfl rfl ?_
        refine LX.pure (Y.pickT rfl hb9 rfl) rfl rfl rfl ?_
        exact LX.left ⟨rfl, rfl, rfl, rfl, rfl, trivial⟩
      · intro hb9
        have hb9p := hb9
        try simp at hb9p
        refine LX.gF rfl rfl rfl hb9 rfl rfl ?_
        refine LX.gF rfl rfl rfl hb9 rfl rfl ?_
        refine LX.gF rfl rfl rfl hb9 rfl rfl ?_
        refine LX.gF rfl rfl rfl hb9 rfl rfl ?_
        refine LX.gF rfl rfl rfl hb9 rfl rfl ?_
        refine LX.pure (Y.pickF rfl hb9 rfl) rfl rfl rfl ?_
        exact LX.left ⟨rfl, rfl, rfl, rfl, rfl, trivial⟩
      refine LX.pure (Y.assign rfl) rfl rfl rfl ?_
      refine LX.sub (l' := [(6, _), (8, _)]) ⟨rfl, rfl, trivial⟩ ?_
      refine LX.next ?_
      refine PX.thenN ?_
      refine CX.ret ?_
      refine PX.blockR ?_
      refine PX.thenR ?_
      refine PX.ret1 (by simp) Tryz.results56 rfl ?_
      exact fun w hw => ⟨(), congrArg (fun z => Ending.returned (Value.bool z)) (by
        (rw [Bool.eq_iff_iff]; simp only [decide_eq_true_eq, Bool.and_eq_true, Bool.or_eq_true]; unfold fits; (repeat (first | rw [if_pos (by omega)] | rw [if_neg (by omega)])); omega)), hw.drop (((List.sublist_cons_self _ _).cons _).cons _)⟩
    · try simp at hb8
      refine CX.sub (l' := [(3, _), (4, _), (5, _), (6, _), (7, _), (8, _), (46, _)]) ⟨rfl, rfl, rfl, rfl, rfl, rfl, rfl, trivial⟩ ?_
      apply CX.seqSw 58
      ·
        refine CX.seq ?_
        refine CX.region ?_
        refine LX.pure (Y.eqI rfl rfl) rfl rfl rfl ?_
        refine LX.pure (Y.assign rfl) rfl rfl rfl ?_
        refine LX.next ?_
        refine PX.thenN ?_
        apply CX.swOr
        · rfl
        · exact ⟨rfl, rfl, rfl, rfl, rfl, rfl, rfl, rfl, trivial⟩
        intro hb10
        try simp at hb10
        refine CX.seq ?_
        refine CX.region ?_
        refine LX.pure (Y.eqI rfl rfl) rfl rfl rfl ?_
        refine LX.pure (Y.assign rfl) rfl rfl rfl ?_
        refine LX.next ?_
        refine PX.thenN ?_
        apply CX.swOr
        · rfl
        · exact ⟨rfl, rfl, rfl, rfl, rfl, rfl, rfl, rfl, trivial⟩
        intro hb11
        try simp at hb11
        refine CX.region ?_
        refine LX.pure (Y.eqI rfl rfl) rfl rfl rfl ?_
        refine LX.pure (Y.assign rfl) rfl rfl rfl ?_
        refine LX.next ?_
        exact PX.sw ⟨rfl, rfl, rfl, rfl, rfl, rfl, rfl, rfl, trivial⟩
      refine CX.cond rfl (fun hb12 => ?_) (fun hb12 => ?_)
      · try simp at hb12
        refine CX.seq ?_
        refine CX.region ?_
        refine LX.pure (Y.move rfl) rfl rfl rfl ?_
        refine LX.pure (Y.geI rfl rfl) rfl rfl rfl ?_
        refine LX.pure (Y.move rfl) rfl rfl rfl ?_
        refine LX.sub (l' := [(4, _), (6, _), (8, _), (64, _)]) ⟨rfl, rfl, rfl, rfl, trivial⟩ ?_
        apply LX.joinAnd 5 69 64 rfl
        · intro hb13
          have hb13p := hb13
          try simp at hb13p
          refine LX.gT rfl rfl rfl hb13 (Y.move rfl) rfl rfl ?_
          refine LX.gT rfl rfl rfl hb13 (Y.fieldAddr0 Fk.fo124_3 rfl) rfl rfl ?_
          refine LX.gT rfl rfl rfl hb13 (Y.ldB 1 Fk.one3 rfl rfl rfl) rfl rfl ?_
          refine LX.gT rfl rfl rfl hb13 (Y.ltI rfl rfl) rfl rfl ?_
          refine LX.pure (Y.pickT rfl hb13 rfl) rfl rfl rfl ?_
          exact LX.left ⟨rfl, rfl, rfl, rfl, rfl, trivial⟩
        · intro hb13
          have hb13p := hb13
          try simp at hb13p
          refine LX.gF rfl rfl rfl hb13 rfl rfl ?_
          refine LX.gF rfl rfl rfl hb13 rfl rfl ?_
          refine LX.gF rfl rfl rfl hb13 rfl rfl ?_
          refine LX.gF rfl rfl rfl hb13 rfl rfl ?_
          refine LX.pure (Y.pickF rfl hb13 rfl) rfl rfl rfl ?_
          exact LX.left ⟨rfl, rfl, rfl, rfl, rfl, trivial⟩
        refine LX.pure (Y.assign rfl) rfl rfl rfl ?_
        refine LX.sub (l' := [(6, _), (8, _)]) ⟨rfl, rfl, trivial⟩ ?_
        refine LX.next ?_
        refine PX.thenN ?_
        refine CX.ret ?_
        refine PX.blockR ?_
        refine PX.thenR ?_
        refine PX.ret1 (by simp) Tryz.results56 rfl ?_
        exact fun w hw => ⟨(), congrArg (fun z => Ending.returned (Value.bool z)) (by
          (rw [Bool.eq_iff_iff]; simp only [decide_eq_true_eq, Bool.and_eq_true, Bool.or_eq_true]; unfold fits; (repeat (first | rw [if_pos (by omega)] | rw [if_neg (by omega)])); omega)), hw.drop (((List.sublist_cons_self _ _).cons _).cons _)⟩
      · try simp at hb12
        refine CX.sub (l' := [(3, _), (4, _), (5, _), (6, _), (7, _), (8, _), (46, _)]) ⟨rfl, rfl, rfl, rfl, rfl, rfl, rfl, trivial⟩ ?_
        apply CX.seqSw 70
        ·
          refine CX.seq ?_
          refine CX.region ?_
          refine LX.pure (Y.eqI rfl rfl) rfl rfl rfl ?_
          refine LX.pure (Y.assign rfl) rfl rfl rfl ?_
          refine LX.next ?_
          refine PX.thenN ?_
          apply CX.swOr
          · rfl
          · exact ⟨rfl, rfl, rfl, rfl, rfl, rfl, rfl, rfl, trivial⟩
          intro hb14
          try simp at hb14
          refine CX.region ?_
          refine LX.pure (Y.eqI rfl rfl) rfl rfl rfl ?_
          refine LX.pure (Y.assign rfl) rfl rfl rfl ?_
          refine LX.next ?_
          exact PX.sw ⟨rfl, rfl, rfl, rfl, rfl, rfl, rfl, rfl, trivial⟩
        refine CX.cond rfl (fun hb15 => ?_) (fun hb15 => ?_)
        · try simp at hb15
          refine CX.seq ?_
          refine CX.region ?_
          refine LX.pure (Y.move rfl) rfl rfl rfl ?_
          refine LX.pure (Y.geI rfl rfl) rfl rfl rfl ?_
          refine LX.pure (Y.move rfl) rfl rfl rfl ?_
          refine LX.sub (l' := [(3, _), (6, _), (8, _), (75, _)]) ⟨rfl, rfl, rfl, rfl, trivial⟩ ?_
          apply LX.joinAnd 6 81 75 rfl
          · intro hb16
            have hb16p := hb16
            try simp at hb16p
            refine LX.gT rfl rfl rfl hb16 (Y.move rfl) rfl rfl ?_
            refine LX.gT rfl rfl rfl hb16 (Y.fieldAddr0 Fk.fo57_2 rfl) rfl rfl ?_
            refine LX.gT rfl rfl rfl hb16 (Y.ldB 2 Fk.one26 rfl rfl rfl) rfl rfl ?_
            refine LX.gT rfl rfl rfl hb16 (Y.lenSl rfl Fk.un26 rfl) rfl rfl ?_
            refine LX.gT rfl rfl rfl hb16 (Y.ltI rfl rfl) rfl rfl ?_
            refine LX.pure (Y.pickT rfl hb16 rfl) rfl rfl rfl ?_
            exact LX.left ⟨rfl, rfl, rfl, rfl, rfl, trivial⟩
          · intro hb16
            have hb16p := hb16
            try simp at hb16p
            refine LX.gF rfl rfl rfl hb16 rfl rfl ?_
            refine LX.gF rfl rfl rfl hb16 rfl rfl ?_
            refine LX.gF rfl rfl rfl hb16 rfl rfl ?_
            refine LX.gF rfl rfl rfl hb16 rfl rfl ?_
            refine LX.gF rfl rfl rfl hb16 rfl rfl ?_
            refine LX.pure (Y.pickF rfl hb16 rfl) rfl rfl rfl ?_
            exact LX.left ⟨rfl, rfl, rfl, rfl, rfl, trivial⟩
          refine LX.pure (Y.assign rfl) rfl rfl rfl ?_
          refine LX.sub (l' := [(6, _), (8, _)]) ⟨rfl, rfl, trivial⟩ ?_
          refine LX.next ?_
          refine PX.thenN ?_
          refine CX.ret ?_
          refine PX.blockR ?_
          refine PX.thenR ?_
          refine PX.ret1 (by simp) Tryz.results56 rfl ?_
          exact fun w hw => ⟨(), congrArg (fun z => Ending.returned (Value.bool z)) (by
            (rw [Bool.eq_iff_iff]; simp only [decide_eq_true_eq, Bool.and_eq_true, Bool.or_eq_true]; unfold fits; (repeat (first | rw [if_pos (by omega)] | rw [if_neg (by omega)])); omega)), hw.drop (((List.sublist_cons_self _ _).cons _).cons _)⟩
        · try simp at hb15
          refine CX.sub (l' := [(3, _), (4, _), (5, _), (6, _), (7, _), (8, _), (46, _)]) ⟨rfl, rfl, rfl, rfl, rfl, rfl, rfl, trivial⟩ ?_
          apply CX.seqSw 82
          ·
            refine CX.seq ?_
            refine CX.region ?_
            refine LX.pure (Y.eqI rfl rfl) rfl rfl rfl ?_
            refine LX.pure (Y.assign rfl) rfl rfl rfl ?_
            refine LX.next ?_
            refine PX.thenN ?_
            apply CX.swOr
            · rfl
            · exact ⟨rfl, rfl, rfl, rfl, rfl, rfl, rfl, rfl, trivial⟩
            intro hb17
            try simp at hb17
            refine CX.seq ?_
            refine CX.region ?_
            refine LX.pure (Y.eqI rfl rfl) rfl rfl rfl ?_
            refine LX.pure (Y.assign rfl) rfl rfl rfl ?_
            refine LX.next ?_
            refine PX.thenN ?_
            apply CX.swOr
            · rfl
            · exact ⟨rfl, rfl, rfl, rfl, rfl, rfl, rfl, rfl, trivial⟩
            intro hb18
            try simp at hb18
            refine CX.seq ?_
            refine CX.region ?_
            refine LX.pure (Y.eqI rfl rfl) rfl rfl rfl ?_
            refine LX.pure (Y.assign rfl) rfl rfl rfl ?_
            refine LX.next ?_
            refine PX.thenN ?_
            apply CX.swOr
            · rfl
            · exact ⟨rfl, rfl, rfl, rfl, rfl, rfl, rfl, rfl, trivial⟩
            intro hb19
            try simp at hb19
            refine CX.seq ?_
            refine CX.region ?_
            refine LX.pure (Y.eqI rfl rfl) rfl rfl rfl ?_
            refine LX.pure (Y.assign rfl) rfl rfl rfl ?_
            refine LX.next ?_
            refine PX.thenN ?_
            apply CX.swOr
            · rfl
            · exact ⟨rfl, rfl, rfl, rfl, rfl, rfl, rfl, rfl, trivial⟩
            intro hb20
            try simp at hb20
            refine CX.seq ?_
            refine CX.region ?_
            refine LX.pure (Y.eqI rfl rfl) rfl rfl rfl ?_
            refine LX.pure (Y.assign rfl) rfl rfl rfl ?_
            refine LX.next ?_
            refine PX.thenN ?_
            apply CX.swOr
            · rfl
            · exact ⟨rfl, rfl, rfl, rfl, rfl, rfl, rfl, rfl, trivial⟩
            intro hb21
            try simp at hb21
            refine CX.region ?_
            refine LX.pure (Y.eqI rfl rfl) rfl rfl rfl ?_
            refine LX.pure (Y.assign rfl) rfl rfl rfl ?_
            refine LX.next ?_
            exact PX.sw ⟨rfl, rfl, rfl, rfl, rfl, rfl, rfl, rfl, trivial⟩
          refine CX.cond rfl (fun hb22 => ?_) (fun hb22 => ?_)
          · try simp at hb22
            refine CX.seq ?_
            refine CX.region ?_
            refine LX.pure (Y.move rfl) rfl rfl rfl ?_
            refine LX.pure (Y.geI rfl rfl) rfl rfl rfl ?_
            refine LX.pure (Y.move rfl) rfl rfl rfl ?_
            refine LX.sub (l' := [(6, _), (7, _), (8, _), (91, _)]) ⟨rfl, rfl, rfl, rfl, trivial⟩ ?_
            apply LX.joinAnd 4 95 91 rfl
            · intro hb23
              have hb23p := hb23
              try simp at hb23p
              refine LX.gT rfl rfl rfl hb23 (Y.move rfl) rfl rfl ?_
              refine LX.gT rfl rfl rfl hb23 (Y.move rfl) rfl rfl ?_
              refine LX.gT rfl rfl rfl hb23 (Y.leI rfl rfl) rfl rfl ?_
              refine LX.pure (Y.pickT rfl hb23 rfl) rfl rfl rfl ?_
              exact LX.left ⟨rfl, rfl, rfl, rfl, rfl, trivial⟩
            · intro hb23
              have hb23p := hb23
              try simp at hb23p
              refine LX.gF rfl rfl rfl hb23 rfl rfl ?_
              refine LX.gF rfl rfl rfl hb23 rfl rfl ?_
              refine LX.gF rfl rfl rfl hb23 rfl rfl ?_
              refine LX.pure (Y.pickF rfl hb23 rfl) rfl rfl rfl ?_
              exact LX.left ⟨rfl, rfl, rfl, rfl, rfl, trivial⟩
            refine LX.pure (Y.assign rfl) rfl rfl rfl ?_
            refine LX.sub (l' := [(6, _), (8, _)]) ⟨rfl, rfl, trivial⟩ ?_
            refine LX.next ?_
            refine PX.thenN ?_
            refine CX.ret ?_
            refine PX.blockR ?_
            refine PX.thenR ?_
            refine PX.ret1 (by simp) Tryz.results56 rfl ?_
            exact fun w hw => ⟨(), congrArg (fun z => Ending.returned (Value.bool z)) (by
              (rw [Bool.eq_iff_iff]; simp only [decide_eq_true_eq, Bool.and_eq_true, Bool.or_eq_true]; unfold fits; by_cases h16 : i.op = 16 <;> (repeat (first | rw [if_pos (by omega)] | rw [if_neg (by omega)])) <;> omega)), hw.drop (((List.sublist_cons_self _ _).cons _).cons _)⟩
          · try simp at hb22
            refine CX.seq ?_
            refine CX.region ?_
            refine LX.pure (Y.eqI rfl rfl) rfl rfl rfl ?_
            refine LX.pure (Y.assign rfl) rfl rfl rfl ?_
            refine LX.sub (l' := [(3, _), (4, _), (5, _), (6, _), (8, _), (46, _), (96, _)]) ⟨rfl, rfl, rfl, rfl, rfl, rfl, rfl, trivial⟩ ?_
            refine LX.next ?_
            refine PX.thenN ?_
            refine CX.cond rfl (fun hb24 => ?_) (fun hb24 => ?_)
            · try simp at hb24
              refine CX.seq ?_
              refine CX.region ?_
              refine LX.pure (Y.move rfl) rfl rfl rfl ?_
              refine LX.pure (Y.eqI rfl rfl) rfl rfl rfl ?_
              refine LX.pure (Y.move rfl) rfl rfl rfl ?_
              refine LX.sub (l' := [(6, _), (8, _), (100, _)]) ⟨rfl, rfl, rfl, trivial⟩ ?_
              apply LX.joinOr 3 103 100 rfl
              · intro hb25
                have hb25p := hb25
                try simp at hb25p
                refine LX.gF rfl rfl rfl hb25 rfl rfl ?_
                refine LX.gF rfl rfl rfl hb25 rfl rfl ?_
                refine LX.pure (Y.pickT rfl hb25 rfl) rfl rfl rfl ?_
                exact LX.left ⟨rfl, rfl, rfl, rfl, trivial⟩
              · intro hb25
                have hb25p := hb25
                try simp at hb25p
                refine LX.gT rfl rfl rfl hb25 (Y.move rfl) rfl rfl ?_
                refine LX.gT rfl rfl rfl hb25 (Y.eqI rfl rfl) rfl rfl ?_
                refine LX.pure (Y.pickF rfl hb25 rfl) rfl rfl rfl ?_
                exact LX.left ⟨rfl, rfl, rfl, rfl, trivial⟩
              refine LX.pure (Y.assign rfl) rfl rfl rfl ?_
              refine LX.sub (l' := [(6, _), (8, _)]) ⟨rfl, rfl, trivial⟩ ?_
              refine LX.next ?_
              refine PX.thenN ?_
              refine CX.ret ?_
              refine PX.blockR ?_
              refine PX.thenR ?_
              refine PX.ret1 (by simp) Tryz.results56 rfl ?_
              exact fun w hw => ⟨(), congrArg (fun z => Ending.returned (Value.bool z)) (by
                (rw [Bool.eq_iff_iff]; simp only [decide_eq_true_eq, Bool.and_eq_true, Bool.or_eq_true]; unfold fits; (repeat (first | rw [if_pos (by omega)] | rw [if_neg (by omega)])); omega)), hw.drop (((List.sublist_cons_self _ _).cons _).cons _)⟩
            · try simp at hb24
              refine CX.seq ?_
              refine CX.region ?_
              refine LX.pure (Y.eqI rfl rfl) rfl rfl rfl ?_
              refine LX.pure (Y.assign rfl) rfl rfl rfl ?_
              refine LX.sub (l' := [(3, _), (4, _), (5, _), (6, _), (8, _), (46, _), (104, _)]) ⟨rfl, rfl, rfl, rfl, rfl, rfl, rfl, trivial⟩ ?_
              refine LX.next ?_
              refine PX.thenN ?_
              refine CX.cond rfl (fun hb26 => ?_) (fun hb26 => ?_)
              · try simp at hb26
                refine CX.seq ?_
                refine CX.region ?_
                refine LX.pure (Y.move rfl) rfl rfl rfl ?_
                refine LX.pure (Y.geI rfl rfl) rfl rfl rfl ?_
                refine LX.pure (Y.move rfl) rfl rfl rfl ?_
                refine LX.sub (l' := [(6, _), (8, _), (108, _)]) ⟨rfl, rfl, rfl, trivial⟩ ?_
                apply LX.joinAnd 3 111 108 rfl
                · intro hb27
                  have hb27p := hb27
                  try simp at hb27p
                  refine LX.gT rfl rfl rfl hb27 (Y.move rfl) rfl rfl ?_
                  refine LX.gT rfl rfl rfl hb27 (Y.leI rfl rfl) rfl rfl ?_
                  refine LX.pure (Y.pickT rfl hb27 rfl) rfl rfl rfl ?_
                  exact LX.left ⟨rfl, rfl, rfl, rfl, trivial⟩
                · intro hb27
                  have hb27p := hb27
                  try simp at hb27p
                  refine LX.gF rfl rfl rfl hb27 rfl rfl ?_
                  refine LX.gF rfl rfl rfl hb27 rfl rfl ?_
                  refine LX.pure (Y.pickF rfl hb27 rfl) rfl rfl rfl ?_
                  exact LX.left ⟨rfl, rfl, rfl, rfl, trivial⟩
                refine LX.pure (Y.assign rfl) rfl rfl rfl ?_
                refine LX.sub (l' := [(6, _), (8, _)]) ⟨rfl, rfl, trivial⟩ ?_
                refine LX.next ?_
                refine PX.thenN ?_
                refine CX.ret ?_
                refine PX.blockR ?_
                refine PX.thenR ?_
                refine PX.ret1 (by simp) Tryz.results56 rfl ?_
                exact fun w hw => ⟨(), congrArg (fun z => Ending.returned (Value.bool z)) (by
                  (rw [Bool.eq_iff_iff]; simp only [decide_eq_true_eq, Bool.and_eq_true, Bool.or_eq_true]; unfold fits; (repeat (first | rw [if_pos (by omega)] | rw [if_neg (by omega)])); omega)), hw.drop (((List.sublist_cons_self _ _).cons _).cons _)⟩
              · try simp at hb26
                refine CX.sub (l' := [(3, _), (4, _), (5, _), (6, _), (8, _), (46, _)]) ⟨rfl, rfl, rfl, rfl, rfl, rfl, trivial⟩ ?_
                apply CX.seqSw 112
                ·
                  refine CX.seq ?_
                  refine CX.region ?_
                  refine LX.pure (Y.eqI rfl rfl) rfl rfl rfl ?_
                  refine LX.pure (Y.assign rfl) rfl rfl rfl ?_
                  refine LX.next ?_
                  refine PX.thenN ?_
                  apply CX.swOr
                  · rfl
                  · exact ⟨rfl, rfl, rfl, rfl, rfl, rfl, rfl, trivial⟩
                  intro hb28
                  try simp at hb28
                  refine CX.seq ?_
                  refine CX.region ?_
                  refine LX.pure (Y.eqI rfl rfl) rfl rfl rfl ?_
                  refine LX.pure (Y.assign rfl) rfl rfl rfl ?_
                  refine LX.next ?_
                  refine PX.thenN ?_
                  apply CX.swOr
                  · rfl
                  · exact ⟨rfl, rfl, rfl, rfl, rfl, rfl, rfl, trivial⟩
                  intro hb29
                  try simp at hb29
                  refine CX.seq ?_
                  refine CX.region ?_
                  refine LX.pure (Y.eqI rfl rfl) rfl rfl rfl ?_
                  refine LX.pure (Y.assign rfl) rfl rfl rfl ?_
                  refine LX.next ?_
                  refine PX.thenN ?_
                  apply CX.swOr
                  · rfl
                  · exact ⟨rfl, rfl, rfl, rfl, rfl, rfl, rfl, trivial⟩
                  intro hb30
                  try simp at hb30
                  refine CX.seq ?_
                  refine CX.region ?_
                  refine LX.pure (Y.eqI rfl rfl) rfl rfl rfl ?_
                  refine LX.pure (Y.assign rfl) rfl rfl rfl ?_
                  refine LX.next ?_
                  refine PX.thenN ?_
                  apply CX.swOr
                  · rfl
                  · exact ⟨rfl, rfl, rfl, rfl, rfl, rfl, rfl, trivial⟩
                  intro hb31
                  try simp at hb31
                  refine CX.region ?_
                  refine LX.pure (Y.eqI rfl rfl) rfl rfl rfl ?_
                  refine LX.pure (Y.assign rfl) rfl rfl rfl ?_
                  refine LX.next ?_
                  exact PX.sw ⟨rfl, rfl, rfl, rfl, rfl, rfl, rfl, trivial⟩
                refine CX.cond rfl (fun hb32 => ?_) (fun hb32 => ?_)
                · try simp at hb32
                  refine CX.seq ?_
                  refine CX.region ?_
                  refine LX.pure (Y.move rfl) rfl rfl rfl ?_
                  refine LX.pure (Y.geI rfl rfl) rfl rfl rfl ?_
                  refine LX.pure (Y.move rfl) rfl rfl rfl ?_
                  refine LX.sub (l' := [(4, _), (6, _), (8, _), (120, _)]) ⟨rfl, rfl, rfl, rfl, trivial⟩ ?_
                  apply LX.joinAnd 6 126 120 rfl
                  · intro hb33
                    have hb33p := hb33
                    try simp at hb33p
                    refine LX.gT rfl rfl rfl hb33 (Y.move rfl) rfl rfl ?_
                    refine LX.gT rfl rfl rfl hb33 (Y.fieldAddr0 Fk.fo124_5 rfl) rfl rfl ?_
                    refine LX.gT rfl rfl rfl hb33 (Y.ldB 1 Fk.one122 rfl rfl rfl) rfl rfl ?_
                    refine LX.gT rfl rfl rfl hb33 (Y.lenSl rfl Fk.un122 rfl) rfl rfl ?_
                    refine LX.gT rfl rfl rfl hb33 (Y.ltI rfl rfl) rfl rfl ?_
                    refine LX.pure (Y.pickT rfl hb33 rfl) rfl rfl rfl ?_
                    exact LX.left ⟨rfl, rfl, rfl, rfl, rfl, trivial⟩
                  · intro hb33
                    have hb33p := hb33
                    try simp at hb33p
                    refine LX.gF rfl rfl rfl hb33 rfl rfl ?_
                    refine LX.gF rfl rfl rfl hb33 rfl rfl ?_
                    refine LX.gF rfl rfl rfl hb33 rfl rfl ?_
                    refine LX.gF rfl rfl rfl hb33 rfl rfl ?_
                    refine LX.gF rfl rfl rfl hb33 rfl rfl ?_
                    refine LX.pure (Y.pickF rfl hb33 rfl) rfl rfl rfl ?_
                    exact LX.left ⟨rfl, rfl, rfl, rfl, rfl, trivial⟩
                  refine LX.pure (Y.assign rfl) rfl rfl rfl ?_
                  refine LX.sub (l' := [(6, _), (8, _)]) ⟨rfl, rfl, trivial⟩ ?_
                  refine LX.next ?_
                  refine PX.thenN ?_
                  refine CX.ret ?_
                  refine PX.blockR ?_
                  refine PX.thenR ?_
                  refine PX.ret1 (by simp) Tryz.results56 rfl ?_
                  exact fun w hw => ⟨(), congrArg (fun z => Ending.returned (Value.bool z)) (by
                    (rw [Bool.eq_iff_iff]; simp only [decide_eq_true_eq, Bool.and_eq_true, Bool.or_eq_true]; unfold fits; (repeat (first | rw [if_pos (by omega)] | rw [if_neg (by omega)])); omega)), hw.drop (((List.sublist_cons_self _ _).cons _).cons _)⟩
                · try simp at hb32
                  refine CX.sub (l' := [(3, _), (5, _), (6, _), (8, _), (46, _)]) ⟨rfl, rfl, rfl, rfl, rfl, trivial⟩ ?_
                  apply CX.seqSw 127
                  ·
                    refine CX.seq ?_
                    refine CX.region ?_
                    refine LX.pure (Y.eqI rfl rfl) rfl rfl rfl ?_
                    refine LX.pure (Y.assign rfl) rfl rfl rfl ?_
                    refine LX.next ?_
                    refine PX.thenN ?_
                    apply CX.swOr
                    · rfl
                    · exact ⟨rfl, rfl, rfl, rfl, rfl, rfl, trivial⟩
                    intro hb34
                    try simp at hb34
                    refine CX.region ?_
                    refine LX.pure (Y.eqI rfl rfl) rfl rfl rfl ?_
                    refine LX.pure (Y.assign rfl) rfl rfl rfl ?_
                    refine LX.next ?_
                    exact PX.sw ⟨rfl, rfl, rfl, rfl, rfl, rfl, trivial⟩
                  refine CX.cond rfl (fun hb35 => ?_) (fun hb35 => ?_)
                  · try simp at hb35
                    refine CX.seq ?_
                    refine CX.region ?_
                    refine LX.pure (Y.move rfl) rfl rfl rfl ?_
                    refine LX.pure (Y.geI rfl rfl) rfl rfl rfl ?_
                    refine LX.pure (Y.move rfl) rfl rfl rfl ?_
                    refine LX.sub (l' := [(3, _), (6, _), (8, _), (132, _)]) ⟨rfl, rfl, rfl, rfl, trivial⟩ ?_
                    apply LX.joinAnd 6 138 132 rfl
                    · intro hb36
                      have hb36p := hb36
                      try simp at hb36p
                      refine LX.gT rfl rfl rfl hb36 (Y.move rfl) rfl rfl ?_
                      refine LX.gT rfl rfl rfl hb36 (Y.fieldAddr0 Fk.fo57_3 rfl) rfl rfl ?_
                      refine LX.gT rfl rfl rfl hb36 (Y.ldB 2 Fk.one26 rfl rfl rfl) rfl rfl ?_
                      refine LX.gT rfl rfl rfl hb36 (Y.lenSl rfl Fk.un26 rfl) rfl rfl ?_
                      refine LX.gT rfl rfl rfl hb36 (Y.ltI rfl rfl) rfl rfl ?_
                      refine LX.pure (Y.pickT rfl hb36 rfl) rfl rfl rfl ?_
                      exact LX.left ⟨rfl, rfl, rfl, rfl, rfl, trivial⟩
                    · intro hb36
                      have hb36p := hb36
                      try simp at hb36p
                      refine LX.gF rfl rfl rfl hb36 rfl rfl ?_
                      refine LX.gF rfl rfl rfl hb36 rfl rfl ?_
                      refine LX.gF rfl rfl rfl hb36 rfl rfl ?_
                      refine LX.gF rfl rfl rfl hb36 rfl rfl ?_
                      refine LX.gF rfl rfl rfl hb36 rfl rfl ?_
                      refine LX.pure (Y.pickF rfl hb36 rfl) rfl rfl rfl ?_
                      exact LX.left ⟨rfl, rfl, rfl, rfl, rfl, trivial⟩
                    refine LX.pure (Y.assign rfl) rfl rfl rfl ?_
                    refine LX.sub (l' := [(6, _), (8, _)]) ⟨rfl, rfl, trivial⟩ ?_
                    refine LX.next ?_
                    refine PX.thenN ?_
                    refine CX.ret ?_
                    refine PX.blockR ?_
                    refine PX.thenR ?_
                    refine PX.ret1 (by simp) Tryz.results56 rfl ?_
                    exact fun w hw => ⟨(), congrArg (fun z => Ending.returned (Value.bool z)) (by
                      (rw [Bool.eq_iff_iff]; simp only [decide_eq_true_eq, Bool.and_eq_true, Bool.or_eq_true]; unfold fits; (repeat (first | rw [if_pos (by omega)] | rw [if_neg (by omega)])); omega)), hw.drop (((List.sublist_cons_self _ _).cons _).cons _)⟩
                  · try simp at hb35
                    refine CX.seq ?_
                    refine CX.region ?_
                    refine LX.pure (Y.eqI rfl rfl) rfl rfl rfl ?_
                    refine LX.pure (Y.assign rfl) rfl rfl rfl ?_
                    refine LX.sub (l' := [(3, _), (5, _), (6, _), (8, _), (46, _), (139, _)]) ⟨rfl, rfl, rfl, rfl, rfl, rfl, trivial⟩ ?_
                    refine LX.next ?_
                    refine PX.thenN ?_
                    refine CX.cond rfl (fun hb37 => ?_) (fun hb37 => ?_)
                    · try simp at hb37
                      refine CX.seq ?_
                      refine CX.region ?_
                      refine LX.pure (Y.move rfl) rfl rfl rfl ?_
                      refine LX.pure (Y.geI rfl rfl) rfl rfl rfl ?_
                      refine LX.pure (Y.move rfl) rfl rfl rfl ?_
                      refine LX.sub (l' := [(6, _), (8, _), (143, _)]) ⟨rfl, rfl, rfl, trivial⟩ ?_
                      apply LX.joinAnd 3 146 143 rfl
                      · intro hb38
                        have hb38p := hb38
                        try simp at hb38p
                        refine LX.gT rfl rfl rfl hb38 (Y.move rfl) rfl rfl ?_
                        refine LX.gT rfl rfl rfl hb38 (Y.leI rfl rfl) rfl rfl ?_
                        refine LX.pure (Y.pickT rfl hb38 rfl) rfl rfl rfl ?_
                        exact LX.left ⟨rfl, rfl, rfl, rfl, trivial⟩
                      · intro hb38
                        have hb38p := hb38
                        try simp at hb38p
                        refine LX.gF rfl rfl rfl hb38 rfl rfl ?_
                        refine LX.gF rfl rfl rfl hb38 rfl rfl ?_
                        refine LX.pure (Y.pickF rfl hb38 rfl) rfl rfl rfl ?_
                        exact LX.left ⟨rfl, rfl, rfl, rfl, trivial⟩
                      refine LX.pure (Y.assign rfl) rfl rfl rfl ?_
                      refine LX.sub (l' := [(6, _), (8, _)]) ⟨rfl, rfl, trivial⟩ ?_
                      refine LX.next ?_
                      refine PX.thenN ?_
                      refine CX.ret ?_
                      refine PX.blockR ?_
                      refine PX.thenR ?_
                      refine PX.ret1 (by simp) Tryz.results56 rfl ?_
                      exact fun w hw => ⟨(), congrArg (fun z => Ending.returned (Value.bool z)) (by
                        (rw [Bool.eq_iff_iff]; simp only [decide_eq_true_eq, Bool.and_eq_true, Bool.or_eq_true]; unfold fits; (repeat (first | rw [if_pos (by omega)] | rw [if_neg (by omega)])); omega)), hw.drop (((List.sublist_cons_self _ _).cons _).cons _)⟩
                    · try simp at hb37
                      refine CX.seq ?_
                      refine CX.region ?_
                      refine LX.pure (Y.eqI rfl rfl) rfl rfl rfl ?_
                      refine LX.pure (Y.assign rfl) rfl rfl rfl ?_
                      refine LX.sub (l' := [(3, _), (5, _), (6, _), (8, _), (46, _), (147, _)]) ⟨rfl, rfl, rfl, rfl, rfl, rfl, trivial⟩ ?_
                      refine LX.next ?_
                      refine PX.thenN ?_
                      refine CX.cond rfl (fun hb39 => ?_) (fun hb39 => ?_)
                      · try simp at hb39
                        refine CX.seq ?_
                        refine CX.region ?_
                        refine LX.pure (Y.move rfl) rfl rfl rfl ?_
                        refine LX.pure (Y.eqI rfl rfl) rfl rfl rfl ?_
                        refine LX.pure (Y.move rfl) rfl rfl rfl ?_
                        refine LX.sub (l' := [(5, _), (6, _), (8, _), (151, _)]) ⟨rfl, rfl, rfl, rfl, trivial⟩ ?_
                        apply LX.joinAnd 4 155 151 rfl
                        · intro hb40
                          have hb40p := hb40
                          try simp at hb40p
                          refine LX.gT rfl rfl rfl hb40 (Y.fieldAddr0 Fk.fo65_2 rfl) rfl rfl ?_
                          refine LX.gT rfl rfl rfl hb40 (Y.ldB 0 Fk.one3 rfl rfl rfl) rfl rfl ?_
                          refine LX.gT rfl rfl rfl hb40 (Y.geI rfl rfl) rfl rfl ?_
                          refine LX.pure (Y.pickT rfl hb40 rfl) rfl rfl rfl ?_
                          exact LX.left ⟨rfl, rfl, rfl, rfl, rfl, trivial⟩
                        · intro hb40
                          have hb40p := hb40
                          try simp at hb40p
                          refine LX.gF rfl rfl rfl hb40 rfl rfl ?_
                          refine LX.gF rfl rfl rfl hb40 rfl rfl ?_
                          refine LX.gF rfl rfl rfl hb40 rfl rfl ?_
                          refine LX.pure (Y.pickF rfl hb40 rfl) rfl rfl rfl ?_
                          exact LX.left ⟨rfl, rfl, rfl, rfl, rfl, trivial⟩
                        refine LX.pure (Y.assign rfl) rfl rfl rfl ?_
                        refine LX.sub (l' := [(6, _), (8, _)]) ⟨rfl, rfl, trivial⟩ ?_
                        refine LX.next ?_
                        refine PX.thenN ?_
                        refine CX.ret ?_
                        refine PX.blockR ?_
                        refine PX.thenR ?_
                        refine PX.ret1 (by simp) Tryz.results56 rfl ?_
                        exact fun w hw => ⟨(), congrArg (fun z => Ending.returned (Value.bool z)) (by
                          (rw [Bool.eq_iff_iff]; simp only [decide_eq_true_eq, Bool.and_eq_true, Bool.or_eq_true]; unfold fits; (repeat (first | rw [if_pos (by omega)] | rw [if_neg (by omega)])); omega)), hw.drop (((List.sublist_cons_self _ _).cons _).cons _)⟩
                      · try simp at hb39
                        refine CX.seq ?_
                        refine CX.region ?_
                        refine LX.pure (Y.eqI rfl rfl) rfl rfl rfl ?_
                        refine LX.pure (Y.assign rfl) rfl rfl rfl ?_
                        refine LX.sub (l' := [(3, _), (6, _), (8, _), (46, _), (156, _)]) ⟨rfl, rfl, rfl, rfl, rfl, trivial⟩ ?_
                        refine LX.next ?_
                        refine PX.thenN ?_
                        refine CX.cond rfl (fun hb41 => ?_) (fun hb41 => ?_)
                        · try simp at hb41
                          refine CX.seq ?_
                          refine CX.region ?_
                          refine LX.pure (Y.move rfl) rfl rfl rfl ?_
                          refine LX.pure (Y.geI rfl rfl) rfl rfl rfl ?_
                          refine LX.pure (Y.move rfl) rfl rfl rfl ?_
                          refine LX.sub (l' := [(3, _), (6, _), (8, _), (160, _)]) ⟨rfl, rfl, rfl, rfl, trivial⟩ ?_
                          apply LX.joinAnd 6 166 160 rfl
                          · intro hb42
                            have hb42p := hb42
                            try simp at hb42p
                            refine LX.gT rfl rfl rfl hb42 (Y.move rfl) rfl rfl ?_
                            refine LX.gT rfl rfl rfl hb42 (Y.fieldAddr0 Fk.fo57_0 rfl) rfl rfl ?_
                            refine LX.gT rfl rfl rfl hb42 (Y.ldB 2 Fk.one55 rfl rfl rfl) rfl rfl ?_
                            refine LX.gT rfl rfl rfl hb42 (Y.lenSl rfl Fk.un55 rfl) rfl rfl ?_
                            refine LX.gT rfl rfl rfl hb42 (Y.ltI rfl rfl) rfl rfl ?_
                            refine LX.pure (Y.pickT rfl hb42 rfl) rfl rfl rfl ?_
                            exact LX.left ⟨rfl, rfl, rfl, rfl, rfl, trivial⟩
                          · intro hb42
                            have hb42p := hb42
                            try simp at hb42p
                            refine LX.gF rfl rfl rfl hb42 rfl rfl ?_
                            refine LX.gF rfl rfl rfl hb42 rfl rfl ?_
                            refine LX.gF rfl rfl rfl hb42 rfl rfl ?_
                            refine LX.gF rfl rfl rfl hb42 rfl rfl ?_
                            refine LX.gF rfl rfl rfl hb42 rfl rfl ?_
                            refine LX.pure (Y.pickF rfl hb42 rfl) rfl rfl rfl ?_
                            exact LX.left ⟨rfl, rfl, rfl, rfl, rfl, trivial⟩
                          refine LX.pure (Y.assign rfl) rfl rfl rfl ?_
                          refine LX.sub (l' := [(6, _), (8, _)]) ⟨rfl, rfl, trivial⟩ ?_
                          refine LX.next ?_
                          refine PX.thenN ?_
                          refine CX.ret ?_
                          refine PX.blockR ?_
                          refine PX.thenR ?_
                          refine PX.ret1 (by simp) Tryz.results56 rfl ?_
                          exact fun w hw => ⟨(), congrArg (fun z => Ending.returned (Value.bool z)) (by
                            (rw [Bool.eq_iff_iff]; simp only [decide_eq_true_eq, Bool.and_eq_true, Bool.or_eq_true]; unfold fits; (repeat (first | rw [if_pos (by omega)] | rw [if_neg (by omega)])); omega)), hw.drop (((List.sublist_cons_self _ _).cons _).cons _)⟩
                        · try simp at hb41
                          refine CX.seq ?_
                          refine CX.region ?_
                          refine LX.pure (Y.eqI rfl rfl) rfl rfl rfl ?_
                          refine LX.pure (Y.assign rfl) rfl rfl rfl ?_
                          refine LX.sub (l' := [(3, _), (6, _), (8, _), (167, _)]) ⟨rfl, rfl, rfl, rfl, trivial⟩ ?_
                          refine LX.next ?_
                          refine PX.thenN ?_
                          refine CX.cond rfl (fun hb43 => ?_) (fun hb43 => ?_)
                          · try simp at hb43
                            refine CX.seq ?_
                            refine CX.region ?_
                            refine LX.pure (Y.move rfl) rfl rfl rfl ?_
                            refine LX.pure (Y.geI rfl rfl) rfl rfl rfl ?_
                            refine LX.pure (Y.move rfl) rfl rfl rfl ?_
                            refine LX.sub (l' := [(3, _), (6, _), (8, _), (171, _)]) ⟨rfl, rfl, rfl, rfl, trivial⟩ ?_
                            apply LX.joinAnd 6 177 171 rfl
                            · intro hb44
                              have hb44p := hb44
                              try simp at hb44p
                              refine LX.gT rfl rfl rfl hb44 (Y.move rfl) rfl rfl ?_
                              refine LX.gT rfl rfl rfl hb44 (Y.fieldAddr0 Fk.fo57_1 rfl) rfl rfl ?_
                              refine LX.gT rfl rfl rfl hb44 (Y.ldB 2 Fk.one22 rfl rfl rfl) rfl rfl ?_
                              refine LX.gT rfl rfl rfl hb44 (Y.lenSl rfl Fk.un22 rfl) rfl rfl ?_
                              refine LX.gT rfl rfl rfl hb44 (Y.ltI rfl rfl) rfl rfl ?_
                              refine LX.pure (Y.pickT rfl hb44 rfl) rfl rfl rfl ?_
                              exact LX.left ⟨rfl, rfl, rfl, rfl, rfl, trivial⟩
                            · intro hb44
                              have hb44p := hb44
                              try simp at hb44p
                              refine LX.gF rfl rfl rfl hb44 rfl rfl ?_
                              refine LX.gF rfl rfl rfl hb44 rfl rfl ?_
                              refine LX.gF rfl rfl rfl hb44 rfl rfl ?_
                              refine LX.gF rfl rfl rfl hb44 rfl rfl ?_
                              refine LX.gF rfl rfl rfl hb44 rfl rfl ?_
                              refine LX.pure (Y.pickF rfl hb44 rfl) rfl rfl rfl ?_
                              exact LX.left ⟨rfl, rfl, rfl, rfl, rfl, trivial⟩
                            refine LX.pure (Y.move rfl) rfl rfl rfl ?_
                            refine LX.sub (l' := [(3, _), (6, _), (8, _), (178, _)]) ⟨rfl, rfl, rfl, rfl, trivial⟩ ?_
                            apply LX.joinAnd 8 186 178 rfl
                            · intro hb45
                              have hb45p := hb45
                              try simp at hb45p
                              refine LX.gT rfl rfl rfl hb45 (Y.fieldAddr0 Fk.fo57_1 rfl) rfl rfl ?_
                              refine LX.gT rfl rfl rfl hb45 (Y.ldB 2 Fk.one22 rfl rfl rfl) rfl rfl ?_
                              refine LX.gT rfl rfl rfl hb45 (Y.move rfl) rfl rfl ?_
                              obtain ⟨x, hx⟩ : ∃ x, p.consts[i.a.toNat]? = some x := ⟨_, List.getElem?_eq_getElem (by omega)⟩
                              have hcop : cop p i.a = x.op := by unfold cop; rw [hx]; rfl
                              obtain ⟨a, cs, hav, hcl, hL, vk, rfl, _⟩ := hX.hC _ x hx
                              refine LX.gT rfl rfl rfl hb45 (Y.idxZ Fk.un22 Fk.sz44 rfl rfl hav (j := i.a.toNat) (by omega) (by omega)) rfl rfl ?_
                              refine LX.gT rfl rfl rfl hb45 (Y.fieldA Fk.fa44_0 rfl) rfl rfl ?_
                              refine LX.gT rfl rfl rfl hb45 (Y.ldFO (v := .int .i64 (cop p i.a)) Fk.one3 rfl hL (by rw [hcop]; rfl)) rfl rfl ?_
                              refine LX.gT rfl rfl rfl hb45 (Y.eqI rfl rfl) rfl rfl ?_
                              refine LX.pure (Y.pickT rfl hb45 rfl) rfl rfl rfl ?_
                              exact LX.left ⟨rfl, rfl, rfl, rfl, rfl, trivial⟩
                            · intro hb45
                              have hb45p := hb45
                              try simp at hb45p
                              refine LX.gF rfl rfl rfl hb45 rfl rfl ?_
                              refine LX.gF rfl rfl rfl hb45 rfl rfl ?_
                              refine LX.gF rfl rfl rfl hb45 rfl rfl ?_
                              refine LX.gF rfl rfl rfl hb45 rfl rfl ?_
                              refine LX.gF rfl rfl rfl hb45 rfl rfl ?_
                              refine LX.gF rfl rfl rfl hb45 rfl rfl ?_
                              refine LX.gF rfl rfl rfl hb45 rfl rfl ?_
                              refine LX.pure (Y.pickF rfl hb45 rfl) rfl rfl rfl ?_
                              exact LX.left ⟨rfl, rfl, rfl, rfl, rfl, trivial⟩
                            refine LX.pure (Y.assign rfl) rfl rfl rfl ?_
                            refine LX.sub (l' := [(6, _), (8, _)]) ⟨rfl, rfl, trivial⟩ ?_
                            refine LX.next ?_
                            refine PX.thenN ?_
                            refine CX.ret ?_
                            refine PX.blockR ?_
                            refine PX.thenR ?_
                            refine PX.ret1 (by simp) Tryz.results56 rfl ?_
                            exact fun w hw => ⟨(), congrArg (fun z => Ending.returned (Value.bool z)) (by
                              (rw [Bool.eq_iff_iff]; simp only [decide_eq_true_eq, Bool.and_eq_true, Bool.or_eq_true]; unfold fits; (repeat (first | rw [if_pos (by omega)] | rw [if_neg (by omega)])); omega)), hw.drop (((List.sublist_cons_self _ _).cons _).cons _)⟩
                          · try simp at hb43
                            refine CX.skip ?_
                            refine PX.blockN ?_
                            refine PX.thenN ?_
                            refine CX.seq ?_
                            refine CX.region ?_
                            refine LX.pure (Y.move rfl) rfl rfl rfl ?_
                            refine LX.pure (Y.eqI rfl rfl) rfl rfl rfl ?_
                            refine LX.pure (Y.assign rfl) rfl rfl rfl ?_
                            refine LX.sub (l' := [(6, _)]) ⟨rfl, trivial⟩ ?_
                            refine LX.next ?_
                            refine PX.thenN ?_
                            refine CX.ret ?_
                            refine PX.ret1 (by simp) Tryz.results56 rfl ?_
                            exact fun w hw => ⟨(), congrArg (fun z => Ending.returned (Value.bool z)) (by
                              (rw [Bool.eq_iff_iff]; simp only [decide_eq_true_eq, Bool.and_eq_true, Bool.or_eq_true]; unfold fits; (repeat (first | rw [if_pos (by omega)] | rw [if_neg (by omega)])); omega)), hw.drop (((List.sublist_cons_self _ _).cons _).cons _)⟩
end Go.Proofs.YtgijpgkckiknjaaGreatDoor
