/-
  Proved here: which of two values is less, and whether they are equal.
-/
import Derived.Test.YtljaoofbklkglaaGreatDoorVoA
namespace Go.Proofs.YtljaoofbklkglaaGreatDoor
open Go.SX Go.RowKit Go.Vo
namespace Fp
theorem ag37 : AggT Tryz.prog 37 2 := AggT.of (by kernel_rfl) (by kernel_rfl)
theorem ag58 : AggT Tryz.prog 58 2 := AggT.of (by kernel_rfl) (by kernel_rfl)
theorem en16 : Enters Tryz.prog 16 := Enters.of Tryz.func16 (by kernel_rfl) (by kernel_rfl)
theorem en17 : Enters Tryz.prog 17 := Enters.of Tryz.func17 (by kernel_rfl) (by kernel_rfl)
theorem en25 : Enters Tryz.prog 25 := Enters.of Tryz.func25 (by kernel_rfl) (by kernel_rfl)
theorem en26 : Enters Tryz.prog 26 := Enters.of Tryz.func26 (by kernel_rfl) (by kernel_rfl)
theorem en52 : Enters Tryz.prog 52 := Enters.of Tryz.func52 (by kernel_rfl) (by kernel_rfl)
theorem fo58_1 : FieldOff Tryz.prog 58 1 0 := fun b o w => by kernel_rfl
theorem one25 : One Tryz.prog 25 := fun w => by kernel_rfl
theorem sz25 : SizeIs Tryz.prog 25 1 := fun w => by kernel_rfl
theorem un28 : Tryz.prog.underlying 28 = some (.interface #[("Error", 110)]) := by kernel_rfl
theorem un42 : Tryz.prog.underlying 42 = some (.slice 25) := by kernel_rfl
theorem un58 : Tryz.prog.underlying 58 = some (.struct #[⟨"Mark", 56, 0, true, "", "", 0⟩, ⟨"n", 37, 0, false, "", "smithy/val", 0⟩]) := by kernel_rfl
theorem un62 : Tryz.prog.underlying 62 = some .string := by kernel_rfl
theorem un77 : Tryz.prog.underlying 77 = some .bool := by kernel_rfl
theorem un84 : Tryz.prog.underlying 84 = some (.struct #[⟨"Mark", 56, 0, true, "", "", 0⟩]) := by kernel_rfl
theorem zv58 : ∀ w, (zeroValue 58).run Tryz.prog w = .ok (.agg #[.bool false, .slice none 0 0]) w := fun w => by kernel_rfl
theorem zv62 : ∀ w, (zeroValue 62).run Tryz.prog w = .ok (.string ⟨#[]⟩) w := fun w => by kernel_rfl
theorem zv77 : ∀ w, (zeroValue 77).run Tryz.prog w = .ok (.bool false) w := fun w => by kernel_rfl
theorem zv84 : ∀ w, (zeroValue 84).run Tryz.prog w = .ok (.agg #[]) w := fun w => by kernel_rfl
theorem nif58 : NotIface Tryz.prog 58 := NotIface.of un58 (fun ms h => by cases h)
theorem nif62 : NotIface Tryz.prog 62 := NotIface.of un62 (fun ms h => by cases h)
theorem nif77 : NotIface Tryz.prog 77 := NotIface.of un77 (fun ms h => by cases h)
theorem nif84 : NotIface Tryz.prog 84 := NotIface.of un84 (fun ms h => by cases h)
end Fp
theorem lessW_c {w0 : World} {base : Nat} {fr : List It} (bk : Nat) {dd L : Int} (hd : 0 ≤ dd ∧ dd ≤ 60) (hL : 1 ≤ L ∧ L ≤ 5000) {x y : Int} {u v : Value} (hx : NumV w0 base x u) (hy : NumV w0 base y v) : FnC Tryz.prog 16 #[.pointer (some ⟨bk, 0, none⟩), .iface 58 u, .iface 58 v, .int .i64 dd] (WA w0 base (blk bk [.int .i64 L] 48 :: fr)) (fun _ : Unit => .tuple #[.bool (decide (cmp3 x y < 0)), .nilIface]) (fun _ => WA w0 base (blk bk [.int .i64 (L - 1)] 48 :: fr)) := by
  obtain ⟨⟨g1, c1, e1, _⟩, _⟩ := id hx
  subst e1
  obtain ⟨⟨g2, c2, e2, _⟩, _⟩ := id hy
  subst e2
  refine FnC.of_body (fn := Tryz.f16) [(0, _), (1, _), (2, _), (3, _)] Tryz.func16 rfl Tryz.ntmps16 rfl ⟨rfl, rfl, rfl, rfl, trivial⟩ ?_
  refine CX.seq (CX.region ?_)
  refine LX.pure (Y.assign rfl) rfl rfl rfl ?_
  refine LX.pure (Y.assign rfl) rfl rfl rfl ?_
  refine LX.sub (l' := [(0, _), (1, _), (2, _), (3, _), (8, _), (9, _)]) ⟨rfl, rfl, rfl, rfl, rfl, rfl, trivial⟩ ?_
  refine LX.next (PX.thenN (CX.seq (CX.seq (CX.region ?_))))
  refine LX.pure (Y.move rfl) rfl rfl rfl ?_
  refine LX.pure (Y.move rfl) rfl rfl rfl ?_
  refine LX.call (look_c bk hd hL) Fp.en25 rfl rfl rfl rfl rfl ?_
  intro _
  refine LX.pure (Y.assign rfl) rfl rfl rfl ?_
  refine LX.sub (l' := [(0, _), (1, _), (2, _), (3, _), (8, _), (9, _), (10, _)]) ⟨rfl, rfl, rfl, rfl, rfl, rfl, rfl, trivial⟩ ?_
  refine LX.next (PX.thenN (CX.seq (CX.region ?_)))
  refine LX.pure (Y.move rfl) rfl rfl rfl ?_
  first
    | refine LX.pure (Y.neNil Fp.un28 rfl rfl) rfl rfl rfl ?_
    | refine LX.pure (Y.neNilNil Fp.un28 rfl) rfl rfl rfl ?_
  refine LX.sub (l' := [(0, _), (1, _), (2, _), (3, _), (8, _), (9, _), (10, _), (20, _)]) ⟨rfl, rfl, rfl, rfl, rfl, rfl, rfl, rfl, trivial⟩ ?_
  refine LX.next (PX.thenN ?_)
  refine CX.cond rfl (fun hb1 => ?_) (fun hb1 => ?_)
  · try simp at hb1
    first | done | (exfalso; omega) | (exfalso; simp_all; done) | (exfalso; simp_all; omega)
  · try simp at hb1
    refine CX.skip (PX.thenN (CX.seq (CX.seq (CX.region ?_))))
    refine LX.pure (Y.move rfl) rfl rfl rfl ?_
    refine LX.invC (kindW_c x g1 c1) rfl (fun _ => by kernel_rfl) rfl rfl rfl rfl ?_
    intro _
    refine LX.pure (Y.move rfl) rfl rfl rfl ?_
    refine LX.invC (kindW_c y g2 c2) rfl (fun _ => by kernel_rfl) rfl rfl rfl rfl ?_
    intro _
    first
      | refine LX.pure (Y.neN rfl rfl) rfl rfl rfl ?_
      | refine LX.pure (Y.neI rfl rfl) rfl rfl rfl ?_
    refine LX.sub (l' := [(0, _), (1, _), (2, _), (3, _), (8, _), (9, _), (26, _)]) ⟨rfl, rfl, rfl, rfl, rfl, rfl, rfl, trivial⟩ ?_
    refine LX.next (PX.thenN ?_)
    refine CX.cond rfl (fun hb2 => ?_) (fun hb2 => ?_)
    · try simp at hb2
      first | done | (exfalso; omega) | (exfalso; simp_all; done) | (exfalso; simp_all; omega)
    · try simp at hb2
      refine CX.skip (PX.thenN (CX.seq (CX.seq (CX.region ?_))))
      refine LX.pure (Y.move rfl) rfl rfl rfl ?_
      refine LX.sub (l' := [(0, _), (2, _), (3, _), (8, _), (9, _), (28, _)]) ⟨rfl, rfl, rfl, rfl, rfl, rfl, trivial⟩ ?_
      refine LX.next (PX.thenN (CX.block (CX.seq (CX.region ?_))))
      first
        | refine LX.pure (Y.assertYes Fp.nif77 rfl) rfl rfl rfl ?_
        | refine LX.pure (Y.assertNo Fp.nif77 rfl (by decide) Fp.zv77) rfl rfl rfl ?_
      refine LX.pure (Y.extract rfl rfl) rfl rfl rfl ?_
      refine LX.pure (Y.extract rfl rfl) rfl rfl rfl ?_
      refine LX.sub (l' := [(0, _), (2, _), (3, _), (8, _), (9, _), (28, _), (30, _), (31, _)]) ⟨rfl, rfl, rfl, rfl, rfl, rfl, rfl, rfl, trivial⟩ ?_
      refine LX.next (PX.thenN ?_)
      refine CX.cond rfl (fun hb3 => ?_) (fun hb3 => ?_)
      · try simp at hb3
        first | done | (exfalso; omega) | (exfalso; simp_all; done) | (exfalso; simp_all; omega)
      · try simp at hb3
        refine CX.seq (CX.region ?_)
        first
          | refine LX.pure (Y.assertYes Fp.nif58 rfl) rfl rfl rfl ?_
          | refine LX.pure (Y.assertNo Fp.nif58 rfl (by decide) Fp.zv58) rfl rfl rfl ?_
        refine LX.pure (Y.extract rfl rfl) rfl rfl rfl ?_
        refine LX.pure (Y.extract rfl rfl) rfl rfl rfl ?_
        refine LX.sub (l' := [(0, _), (2, _), (3, _), (8, _), (9, _), (28, _), (39, _), (40, _)]) ⟨rfl, rfl, rfl, rfl, rfl, rfl, rfl, rfl, trivial⟩ ?_
        refine LX.next (PX.thenN ?_)
        refine CX.cond rfl (fun hb4 => ?_) (fun hb4 => ?_)
        · try simp at hb4
          refine CX.seq (CX.region ?_)
          refine LX.alloc rfl Fp.zv58 rfl rfl rfl ?_
          intro bx20
          first
            | refine LX.storeA 0 Fp.ag58 rfl rfl rfl rfl rfl rfl rfl rfl rfl ?_
            | refine LX.storeA 1 Fp.ag58 rfl rfl rfl rfl rfl rfl rfl rfl rfl ?_
            | refine LX.storeA 2 Fp.ag58 rfl rfl rfl rfl rfl rfl rfl rfl rfl ?_
          refine LX.sub (l' := [(2, _), (8, _), (9, _), (12, _)]) ⟨rfl, rfl, rfl, rfl, trivial⟩ ?_
          refine LX.next (PX.thenN (CX.seq ?_))
          refine CX.regionM [(0, .anywhere), (1, .held), (2, .anywhere), (3, .anywhere), (4, .anywhere), (5, .alone), (6, .anywhere), (7, .anywhere), (8, .anywhere)] rfl (by kernel_rfl) ?_
          first
            | refine MX.lift0 (i := 0) rfl (Y.fieldAddr0 Fp.fo58_1 rfl) rfl rfl rfl ?_
            | refine MX.lift0 (i := 0) rfl (Y.fieldAddr Fp.fo58_1 rfl) rfl rfl rfl ?_
          refine MX.lift1 (i := 1) (pend' := []) rfl (fun w hw => by first | exact hw | exact hw.1 | exact hw.drop (List.sublist_cons_self _ _) | exact hw.drop ((List.sublist_cons_self _ _).cons _)) (Y.ldAggB (vs := [.bool (decide (x < 0)), rv g1 (digs x.natAbs).length c1]) 0 Fp.ag37 rfl rfl rfl rfl) rfl rfl rfl (by kernel_rfl) ?_
          refine MX.lift0 (i := 2) rfl (Y.move rfl) rfl rfl rfl ?_
          refine MX.lift0 (i := 3) rfl (Y.assert1 Fp.nif58 rfl) rfl rfl rfl ?_
          refine MX.lift0 (i := 4) rfl (Y.field (v := .agg #[.bool (decide (y < 0)), rv g2 (digs y.natAbs).length c2]) rfl (fun _ => by kernel_rfl)) rfl rfl rfl ?_
          refine MX.force (i := 5) rfl ?_
          refine LX.call (Cmp_c hx hy) Fp.en26 rfl rfl rfl rfl rfl ?_
          intro _
          refine LX.nextM [] (by kernel_rfl) (fun h => absurd rfl h) ?_
          first
            | refine MX.lift0 (i := 6) rfl (Y.ltN rfl rfl) rfl rfl rfl ?_
            | refine MX.lift0 (i := 6) rfl (Y.ltI rfl rfl) rfl rfl rfl ?_
          refine MX.lift0 (i := 7) rfl (Y.assign rfl) rfl rfl rfl ?_
          refine MX.lift0 (i := 8) rfl (Y.assign rfl) rfl rfl rfl ?_
          refine MX.sub (l' := [(8, _), (9, _)]) ⟨rfl, rfl, trivial⟩ ?_
          refine MX.done (PX.thenN (CX.ret (PX.blockR (PX.thenR ?_))))
          refine PX.ret2 (by simp) Tryz.results16 rfl rfl ?_
          exact fun w hw => ⟨(), rfl, hw.drop (List.sublist_cons_self _ _)⟩
        · try simp at hb4
          first | done | (exfalso; omega) | (exfalso; simp_all; done) | (exfalso; simp_all; omega)
theorem equalW_c {w0 : World} {base : Nat} {fr : List It} (bk : Nat) {dd L : Int} (hd : 0 ≤ dd ∧ dd ≤ 60) (hL : 1 ≤ L ∧ L ≤ 5000) {x y : Int} {u v : Value} (hx : NumV w0 base x u) (hy : NumV w0 base y v) : FnC Tryz.prog 17 #[.pointer (some ⟨bk, 0, none⟩), .iface 58 u, .iface 58 v, .int .i64 dd] (WA w0 base (blk bk [.int .i64 L] 48 :: fr)) (fun _ : Unit => .tuple #[.bool (decide (cmp3 x y = 0)), .nilIface]) (fun _ => WA w0 base (blk bk [.int .i64 (L - 1)] 48 :: fr)) := by
  obtain ⟨⟨g1, c1, e1, _⟩, _⟩ := id hx
  subst e1
  obtain ⟨⟨g2, c2, e2, _⟩, _⟩ := id hy
  subst e2
  refine FnC.of_body (fn := Tryz.f17) [(0, _), (1, _), (2, _), (3, _)] Tryz.func17 rfl Tryz.ntmps17 rfl ⟨rfl, rfl, rfl, rfl, trivial⟩ ?_
  refine CX.seq (CX.region ?_)
  refine LX.pure (Y.assign rfl) rfl rfl rfl ?_
  refine LX.pure (Y.assign rfl) rfl rfl rfl ?_
  refine LX.sub (l' := [(0, _), (1, _), (2, _), (3, _), (8, _), (9, _)]) ⟨rfl, rfl, rfl, rfl, rfl, rfl, trivial⟩ ?_
  refine LX.next (PX.thenN (CX.seq (CX.seq (CX.region ?_))))
  refine LX.pure (Y.move rfl) rfl rfl rfl ?_
  refine LX.pure (Y.move rfl) rfl rfl rfl ?_
  refine LX.call (look_c bk hd hL) Fp.en25 rfl rfl rfl rfl rfl ?_
  intro _
  refine LX.pure (Y.assign rfl) rfl rfl rfl ?_
  refine LX.sub (l' := [(0, _), (1, _), (2, _), (3, _), (8, _), (9, _), (10, _)]) ⟨rfl, rfl, rfl, rfl, rfl, rfl, rfl, trivial⟩ ?_
  refine LX.next (PX.thenN (CX.seq (CX.region ?_)))
  refine LX.pure (Y.move rfl) rfl rfl rfl ?_
  first
    | refine LX.pure (Y.neNil Fp.un28 rfl rfl) rfl rfl rfl ?_
    | refine LX.pure (Y.neNilNil Fp.un28 rfl) rfl rfl rfl ?_
  refine LX.sub (l' := [(0, _), (1, _), (2, _), (3, _), (8, _), (9, _), (10, _), (25, _)]) ⟨rfl, rfl, rfl, rfl, rfl, rfl, rfl, rfl, trivial⟩ ?_
  refine LX.next (PX.thenN ?_)
  refine CX.cond rfl (fun hb1 => ?_) (fun hb1 => ?_)
  · try simp at hb1
    first | done | (exfalso; omega) | (exfalso; simp_all; done) | (exfalso; simp_all; omega)
  · try simp at hb1
    refine CX.skip (PX.thenN (CX.seq (CX.seq (CX.region ?_))))
    refine LX.pure (Y.move rfl) rfl rfl rfl ?_
    refine LX.invC (kindW_c x g1 c1) rfl (fun _ => by kernel_rfl) rfl rfl rfl rfl ?_
    intro _
    refine LX.pure (Y.move rfl) rfl rfl rfl ?_
    refine LX.invC (kindW_c y g2 c2) rfl (fun _ => by kernel_rfl) rfl rfl rfl rfl ?_
    intro _
    first
      | refine LX.pure (Y.neN rfl rfl) rfl rfl rfl ?_
      | refine LX.pure (Y.neI rfl rfl) rfl rfl rfl ?_
    refine LX.sub (l' := [(0, _), (1, _), (2, _), (3, _), (8, _), (9, _), (31, _)]) ⟨rfl, rfl, rfl, rfl, rfl, rfl, rfl, trivial⟩ ?_
    refine LX.next (PX.thenN ?_)
    refine CX.cond rfl (fun hb2 => ?_) (fun hb2 => ?_)
    · try simp at hb2
      first | done | (exfalso; omega) | (exfalso; simp_all; done) | (exfalso; simp_all; omega)
    · try simp at hb2
      refine CX.skip (PX.thenN (CX.seq (CX.seq (CX.region ?_))))
      refine LX.pure (Y.move rfl) rfl rfl rfl ?_
      refine LX.sub (l' := [(0, _), (1, _), (2, _), (3, _), (8, _), (9, _), (32, _)]) ⟨rfl, rfl, rfl, rfl, rfl, rfl, rfl, trivial⟩ ?_
      refine LX.next (PX.thenN (CX.block (CX.seq (CX.region ?_))))
      first
        | refine LX.pure (Y.assertYes Fp.nif84 rfl) rfl rfl rfl ?_
        | refine LX.pure (Y.assertNo Fp.nif84 rfl (by decide) Fp.zv84) rfl rfl rfl ?_
      refine LX.pure (Y.extract rfl rfl) rfl rfl rfl ?_
      refine LX.pure (Y.extract rfl rfl) rfl rfl rfl ?_
      refine LX.sub (l' := [(0, _), (1, _), (2, _), (3, _), (8, _), (9, _), (32, _), (34, _), (35, _)]) ⟨rfl, rfl, rfl, rfl, rfl, rfl, rfl, rfl, rfl, trivial⟩ ?_
      refine LX.next (PX.thenN ?_)
      refine CX.cond rfl (fun hb3 => ?_) (fun hb3 => ?_)
      · try simp at hb3
        first | done | (exfalso; omega) | (exfalso; simp_all; done) | (exfalso; simp_all; omega)
      · try simp at hb3
        refine CX.seq (CX.region ?_)
        first
          | refine LX.pure (Y.assertYes Fp.nif77 rfl) rfl rfl rfl ?_
          | refine LX.pure (Y.assertNo Fp.nif77 rfl (by decide) Fp.zv77) rfl rfl rfl ?_
        refine LX.pure (Y.extract rfl rfl) rfl rfl rfl ?_
        refine LX.pure (Y.extract rfl rfl) rfl rfl rfl ?_
        refine LX.sub (l' := [(0, _), (1, _), (2, _), (3, _), (8, _), (9, _), (32, _), (37, _), (38, _)]) ⟨rfl, rfl, rfl, rfl, rfl, rfl, rfl, rfl, rfl, trivial⟩ ?_
        refine LX.next (PX.thenN ?_)
        refine CX.cond rfl (fun hb4 => ?_) (fun hb4 => ?_)
        · try simp at hb4
          first | done | (exfalso; omega) | (exfalso; simp_all; done) | (exfalso; simp_all; omega)
        · try simp at hb4
          refine CX.seq (CX.region ?_)
          first
            | refine LX.pure (Y.assertYes Fp.nif58 rfl) rfl rfl rfl ?_
            | refine LX.pure (Y.assertNo Fp.nif58 rfl (by decide) Fp.zv58) rfl rfl rfl ?_
          refine LX.pure (Y.extract rfl rfl) rfl rfl rfl ?_
          refine LX.pure (Y.extract rfl rfl) rfl rfl rfl ?_
          refine LX.sub (l' := [(0, _), (1, _), (2, _), (3, _), (8, _), (9, _), (32, _), (44, _), (45, _)]) ⟨rfl, rfl, rfl, rfl, rfl, rfl, rfl, rfl, rfl, trivial⟩ ?_
          refine LX.next (PX.thenN ?_)
          refine CX.cond rfl (fun hb5 => ?_) (fun hb5 => ?_)
          · try simp at hb5
            refine CX.seq (CX.region ?_)
            refine LX.alloc rfl Fp.zv58 rfl rfl rfl ?_
            intro bx23
            first
              | refine LX.storeA 0 Fp.ag58 rfl rfl rfl rfl rfl rfl rfl rfl rfl ?_
              | refine LX.storeA 1 Fp.ag58 rfl rfl rfl rfl rfl rfl rfl rfl rfl ?_
              | refine LX.storeA 2 Fp.ag58 rfl rfl rfl rfl rfl rfl rfl rfl rfl ?_
            refine LX.sub (l' := [(1, _), (2, _), (8, _), (9, _), (13, _)]) ⟨rfl, rfl, rfl, rfl, rfl, trivial⟩ ?_
            refine LX.next (PX.thenN (CX.seq ?_))
            refine CX.regionM [(0, .anywhere), (1, .held), (2, .anywhere), (3, .anywhere), (4, .anywhere), (5, .alone), (6, .anywhere), (7, .anywhere), (8, .anywhere)] rfl (by kernel_rfl) ?_
            first
              | refine MX.lift0 (i := 0) rfl (Y.fieldAddr0 Fp.fo58_1 rfl) rfl rfl rfl ?_
              | refine MX.lift0 (i := 0) rfl (Y.fieldAddr Fp.fo58_1 rfl) rfl rfl rfl ?_
            refine MX.lift1 (i := 1) (pend' := []) rfl (fun w hw => by first | exact hw | exact hw.1 | exact hw.drop (List.sublist_cons_self _ _) | exact hw.drop ((List.sublist_cons_self _ _).cons _)) (Y.ldAggB (vs := [.bool (decide (x < 0)), rv g1 (digs x.natAbs).length c1]) 0 Fp.ag37 rfl rfl rfl rfl) rfl rfl rfl (by kernel_rfl) ?_
            refine MX.lift0 (i := 2) rfl (Y.move rfl) rfl rfl rfl ?_
            refine MX.lift0 (i := 3) rfl (Y.assert1 Fp.nif58 rfl) rfl rfl rfl ?_
            refine MX.lift0 (i := 4) rfl (Y.field (v := .agg #[.bool (decide (y < 0)), rv g2 (digs y.natAbs).length c2]) rfl (fun _ => by kernel_rfl)) rfl rfl rfl ?_
            refine MX.force (i := 5) rfl ?_
            refine LX.call (Cmp_c hx hy) Fp.en26 rfl rfl rfl rfl rfl ?_
            intro _
            refine LX.nextM [] (by kernel_rfl) (fun h => absurd rfl h) ?_
            first
              | refine MX.lift0 (i := 6) rfl (Y.eqN rfl rfl) rfl rfl rfl ?_
              | refine MX.lift0 (i := 6) rfl (Y.eqI rfl rfl) rfl rfl rfl ?_
            refine MX.lift0 (i := 7) rfl (Y.assign rfl) rfl rfl rfl ?_
            refine MX.lift0 (i := 8) rfl (Y.assign rfl) rfl rfl rfl ?_
            refine MX.sub (l' := [(1, _), (2, _), (8, _), (9, _)]) ⟨rfl, rfl, rfl, rfl, trivial⟩ ?_
            refine MX.done (PX.thenN (CX.ret (PX.blockR (PX.thenR ?_))))
            refine PX.ret2 (by simp) Tryz.results17 rfl rfl ?_
            exact fun w hw => ⟨(), rfl, hw.drop (List.sublist_cons_self _ _)⟩
          · try simp at hb5
            first | done | (exfalso; omega) | (exfalso; simp_all; done) | (exfalso; simp_all; omega)
theorem lessT_c {w0 : World} {base : Nat} {fr : List It} (bk : Nat) {dd L : Int} (hd : 0 ≤ dd ∧ dd ≤ 60) (hL : 1 ≤ L ∧ L ≤ 5000) (a b : List UInt8) : FnC Tryz.prog 16 #[.pointer (some ⟨bk, 0, none⟩), .iface 62 (str a), .iface 62 (str b), .int .i64 dd] (WA w0 base (blk bk [.int .i64 L] 48 :: fr)) (fun _ : Unit => .tuple #[.bool (Op.bytesLess a b), .nilIface]) (fun _ => WA w0 base (blk bk [.int .i64 (L - 1)] 48 :: fr)) := by
  refine FnC.of_body (fn := Tryz.f16) [(0, _), (1, _), (2, _), (3, _)] Tryz.func16 rfl Tryz.ntmps16 rfl ⟨rfl, rfl, rfl, rfl, trivial⟩ ?_
  refine CX.seq (CX.region ?_)
  refine LX.pure (Y.assign rfl) rfl rfl rfl ?_
  refine LX.pure (Y.assign rfl) rfl rfl rfl ?_
  refine LX.sub (l' := [(0, _), (1, _), (2, _), (3, _), (8, _), (9, _)]) ⟨rfl, rfl, rfl, rfl, rfl, rfl, trivial⟩ ?_
  refine LX.next (PX.thenN (CX.seq (CX.seq (CX.region ?_))))
  refine LX.pure (Y.move rfl) rfl rfl rfl ?_
  refine LX.pure (Y.move rfl) rfl rfl rfl ?_
  refine LX.call (look_c bk hd hL) Fp.en25 rfl rfl rfl rfl rfl ?_
  intro _
  refine LX.pure (Y.assign rfl) rfl rfl rfl ?_
  refine LX.sub (l' := [(0, _), (1, _), (2, _), (3, _), (8, _), (9, _), (10, _)]) ⟨rfl, rfl, rfl, rfl, rfl, rfl, rfl, trivial⟩ ?_
  refine LX.next (PX.thenN (CX.seq (CX.region ?_)))
  refine LX.pure (Y.move rfl) rfl rfl rfl ?_
  first
    | refine LX.pure (Y.neNil Fp.un28 rfl rfl) rfl rfl rfl ?_
    | refine LX.pure (Y.neNilNil Fp.un28 rfl) rfl rfl rfl ?_
  refine LX.sub (l' := [(0, _), (1, _), (2, _), (3, _), (8, _), (9, _), (10, _), (20, _)]) ⟨rfl, rfl, rfl, rfl, rfl, rfl, rfl, rfl, trivial⟩ ?_
  refine LX.next (PX.thenN ?_)
  refine CX.cond rfl (fun hb1 => ?_) (fun hb1 => ?_)
  · try simp at hb1
    first | done | (exfalso; omega) | (exfalso; simp_all; done) | (exfalso; simp_all; omega)
  · try simp at hb1
    refine CX.skip (PX.thenN (CX.seq (CX.seq (CX.region ?_))))
    refine LX.pure (Y.move rfl) rfl rfl rfl ?_
    refine LX.invC (kindT_c _) rfl (fun _ => by kernel_rfl) rfl rfl rfl rfl ?_
    intro _
    refine LX.pure (Y.move rfl) rfl rfl rfl ?_
    refine LX.invC (kindT_c _) rfl (fun _ => by kernel_rfl) rfl rfl rfl rfl ?_
    intro _
    first
      | refine LX.pure (Y.neN rfl rfl) rfl rfl rfl ?_
      | refine LX.pure (Y.neI rfl rfl) rfl rfl rfl ?_
    refine LX.sub (l' := [(0, _), (1, _), (2, _), (3, _), (8, _), (9, _), (26, _)]) ⟨rfl, rfl, rfl, rfl, rfl, rfl, rfl, trivial⟩ ?_
    refine LX.next (PX.thenN ?_)
    refine CX.cond rfl (fun hb2 => ?_) (fun hb2 => ?_)
    · try simp at hb2
      first | done | (exfalso; omega) | (exfalso; simp_all; done) | (exfalso; simp_all; omega)
    · try simp at hb2
      refine CX.skip (PX.thenN (CX.seq (CX.seq (CX.region ?_))))
      refine LX.pure (Y.move rfl) rfl rfl rfl ?_
      refine LX.sub (l' := [(0, _), (2, _), (3, _), (8, _), (9, _), (28, _)]) ⟨rfl, rfl, rfl, rfl, rfl, rfl, trivial⟩ ?_
      refine LX.next (PX.thenN (CX.block (CX.seq (CX.region ?_))))
      first
        | refine LX.pure (Y.assertYes Fp.nif77 rfl) rfl rfl rfl ?_
        | refine LX.pure (Y.assertNo Fp.nif77 rfl (by decide) Fp.zv77) rfl rfl rfl ?_
      refine LX.pure (Y.extract rfl rfl) rfl rfl rfl ?_
      refine LX.pure (Y.extract rfl rfl) rfl rfl rfl ?_
      refine LX.sub (l' := [(0, _), (2, _), (3, _), (8, _), (9, _), (28, _), (30, _), (31, _)]) ⟨rfl, rfl, rfl, rfl, rfl, rfl, rfl, rfl, trivial⟩ ?_
      refine LX.next (PX.thenN ?_)
      refine CX.cond rfl (fun hb3 => ?_) (fun hb3 => ?_)
      · try simp at hb3
        first | done | (exfalso; omega) | (exfalso; simp_all; done) | (exfalso; simp_all; omega)
      · try simp at hb3
        refine CX.seq (CX.region ?_)
        first
          | refine LX.pure (Y.assertYes Fp.nif58 rfl) rfl rfl rfl ?_
          | refine LX.pure (Y.assertNo Fp.nif58 rfl (by decide) Fp.zv58) rfl rfl rfl ?_
        refine LX.pure (Y.extract rfl rfl) rfl rfl rfl ?_
        refine LX.pure (Y.extract rfl rfl) rfl rfl rfl ?_
        refine LX.sub (l' := [(0, _), (2, _), (3, _), (8, _), (9, _), (28, _), (39, _), (40, _)]) ⟨rfl, rfl, rfl, rfl, rfl, rfl, rfl, rfl, trivial⟩ ?_
        refine LX.next (PX.thenN ?_)
        refine CX.cond rfl (fun hb4 => ?_) (fun hb4 => ?_)
        · try simp at hb4
          first | done | (exfalso; omega) | (exfalso; simp_all; done) | (exfalso; simp_all; omega)
        · try simp at hb4
          refine CX.seq (CX.region ?_)
          first
            | refine LX.pure (Y.assertYes Fp.nif62 rfl) rfl rfl rfl ?_
            | refine LX.pure (Y.assertNo Fp.nif62 rfl (by decide) Fp.zv62) rfl rfl rfl ?_
          refine LX.pure (Y.extract rfl rfl) rfl rfl rfl ?_
          refine LX.pure (Y.extract rfl rfl) rfl rfl rfl ?_
          refine LX.sub (l' := [(0, _), (2, _), (3, _), (8, _), (9, _), (28, _), (49, _), (50, _)]) ⟨rfl, rfl, rfl, rfl, rfl, rfl, rfl, rfl, trivial⟩ ?_
          refine LX.next (PX.thenN ?_)
          refine CX.cond rfl (fun hb5 => ?_) (fun hb5 => ?_)
          · try simp at hb5
            refine CX.seq (CX.region ?_)
            refine LX.pure (Y.assign rfl) rfl rfl rfl ?_
            refine LX.sub (l' := [(2, _), (8, _), (9, _), (13, _)]) ⟨rfl, rfl, rfl, rfl, trivial⟩ ?_
            refine LX.next (PX.thenN (CX.seq (CX.region ?_)))
            refine LX.pure (Y.move rfl) rfl rfl rfl ?_
            refine LX.pure (Y.move rfl) rfl rfl rfl ?_
            refine LX.pure (Y.assert1 Fp.nif62 rfl) rfl rfl rfl ?_
            refine LX.pure (Y.ltS rfl rfl) rfl rfl rfl ?_
            refine LX.pure (Y.assign rfl) rfl rfl rfl ?_
            refine LX.pure (Y.assign rfl) rfl rfl rfl ?_
            refine LX.sub (l' := [(8, _), (9, _)]) ⟨rfl, rfl, trivial⟩ ?_
            refine LX.next (PX.thenN (CX.ret (PX.blockR (PX.thenR ?_))))
            refine PX.ret2 (by simp) Tryz.results16 rfl rfl ?_
            exact fun w hw => ⟨(), rfl, hw⟩
          · try simp at hb5
            first | done | (exfalso; omega) | (exfalso; simp_all; done) | (exfalso; simp_all; omega)
theorem equalT_c {w0 : World} {base : Nat} {fr : List It} (bk : Nat) {dd L : Int} (hd : 0 ≤ dd ∧ dd ≤ 60) (hL : 1 ≤ L ∧ L ≤ 5000) (a b : List UInt8) : FnC Tryz.prog 17 #[.pointer (some ⟨bk, 0, none⟩), .iface 62 (str a), .iface 62 (str b), .int .i64 dd] (WA w0 base (blk bk [.int .i64 L] 48 :: fr)) (fun _ : Unit => .tuple #[.bool (decide (a = b)), .nilIface]) (fun _ => WA w0 base (blk bk [.int .i64 (L - 1)] 48 :: fr)) := by
  refine FnC.of_body (fn := Tryz.f17) [(0, _), (1, _), (2, _), (3, _)] Tryz.func17 rfl Tryz.ntmps17 rfl ⟨rfl, rfl, rfl, rfl, trivial⟩ ?_
  refine CX.seq (CX.region ?_)
  refine LX.pure (Y.assign rfl) rfl rfl rfl ?_
  refine LX.pure (Y.assign rfl) rfl rfl rfl ?_
  refine LX.sub (l' := [(0, _), (1, _), (2, _), (3, _), (8, _), (9, _)]) ⟨rfl, rfl, rfl, rfl, rfl, rfl, trivial⟩ ?_
  refine LX.next (PX.thenN (CX.seq (CX.seq (CX.region ?_))))
  refine LX.pure (Y.move rfl) rfl rfl rfl ?_
  refine LX.pure (Y.move rfl) rfl rfl rfl ?_
  refine LX.call (look_c bk hd hL) Fp.en25 rfl rfl rfl rfl rfl ?_
  intro _
  refine LX.pure (Y.assign rfl) rfl rfl rfl ?_
  refine LX.sub (l' := [(0, _), (1, _), (2, _), (3, _), (8, _), (9, _), (10, _)]) ⟨rfl, rfl, rfl, rfl, rfl, rfl, rfl, trivial⟩ ?_
  refine LX.next (PX.thenN (CX.seq (CX.region ?_)))
  refine LX.pure (Y.move rfl) rfl rfl rfl ?_
  first
    | refine LX.pure (Y.neNil Fp.un28 rfl rfl) rfl rfl rfl ?_
    | refine LX.pure (Y.neNilNil Fp.un28 rfl) rfl rfl rfl ?_
  refine LX.sub (l' := [(0, _), (1, _), (2, _), (3, _), (8, _), (9, _), (10, _), (25, _)]) ⟨rfl, rfl, rfl, rfl, rfl, rfl, rfl, rfl, trivial⟩ ?_
  refine LX.next (PX.thenN ?_)
  refine CX.cond rfl (fun hb1 => ?_) (fun hb1 => ?_)
  · try simp at hb1
    first | done | (exfalso; omega) | (exfalso; simp_all; done) | (exfalso; simp_all; omega)
  · try simp at hb1
    refine CX.skip (PX.thenN (CX.seq (CX.seq (CX.region ?_))))
    refine LX.pure (Y.move rfl) rfl rfl rfl ?_
    refine LX.invC (kindT_c _) rfl (fun _ => by kernel_rfl) rfl rfl rfl rfl ?_
    intro _
    refine LX.pure (Y.move rfl) rfl rfl rfl ?_
    refine LX.invC (kindT_c _) rfl (fun _ => by kernel_rfl) rfl rfl rfl rfl ?_
    intro _
    first
      | refine LX.pure (Y.neN rfl rfl) rfl rfl rfl ?_
      | refine LX.pure (Y.neI rfl rfl) rfl rfl rfl ?_
    refine LX.sub (l' := [(0, _), (1, _), (2, _), (3, _), (8, _), (9, _), (31, _)]) ⟨rfl, rfl, rfl, rfl, rfl, rfl, rfl, trivial⟩ ?_
    refine LX.next (PX.thenN ?_)
    refine CX.cond rfl (fun hb2 => ?_) (fun hb2 => ?_)
    · try simp at hb2
      first | done | (exfalso; omega) | (exfalso; simp_all; done) | (exfalso; simp_all; omega)
    · try simp at hb2
      refine CX.skip (PX.thenN (CX.seq (CX.seq (CX.region ?_))))
      refine LX.pure (Y.move rfl) rfl rfl rfl ?_
      refine LX.sub (l' := [(0, _), (1, _), (2, _), (3, _), (8, _), (9, _), (32, _)]) ⟨rfl, rfl, rfl, rfl, rfl, rfl, rfl, trivial⟩ ?_
      refine LX.next (PX.thenN (CX.block (CX.seq (CX.region ?_))))
      first
        | refine LX.pure (Y.assertYes Fp.nif84 rfl) rfl rfl rfl ?_
        | refine LX.pure (Y.assertNo Fp.nif84 rfl (by decide) Fp.zv84) rfl rfl rfl ?_
      refine LX.pure (Y.extract rfl rfl) rfl rfl rfl ?_
      refine LX.pure (Y.extract rfl rfl) rfl rfl rfl ?_
      refine LX.sub (l' := [(0, _), (1, _), (2, _), (3, _), (8, _), (9, _), (32, _), (34, _), (35, _)]) ⟨rfl, rfl, rfl, rfl, rfl, rfl, rfl, rfl, rfl, trivial⟩ ?_
      refine LX.next (PX.thenN ?_)
      refine CX.cond rfl (fun hb3 => ?_) (fun hb3 => ?_)
      · try simp at hb3
        first | done | (exfalso; omega) | (exfalso; simp_all; done) | (exfalso; simp_all; omega)
      · try simp at hb3
        refine CX.seq (CX.region ?_)
        first
          | refine LX.pure (Y.assertYes Fp.nif77 rfl) rfl rfl rfl ?_
          | refine LX.pure (Y.assertNo Fp.nif77 rfl (by decide) Fp.zv77) rfl rfl rfl ?_
        refine LX.pure (Y.extract rfl rfl) rfl rfl rfl ?_
        refine LX.pure (Y.extract rfl rfl) rfl rfl rfl ?_
        refine LX.sub (l' := [(0, _), (1, _), (2, _), (3, _), (8, _), (9, _), (32, _), (37, _), (38, _)]) ⟨rfl, rfl, rfl, rfl, rfl, rfl, rfl, rfl, rfl, trivial⟩ ?_
        refine LX.next (PX.thenN ?_)
        refine CX.cond rfl (fun hb4 => ?_) (fun hb4 => ?_)
        · try simp at hb4
          first | done | (exfalso; omega) | (exfalso; simp_all; done) | (exfalso; simp_all; omega)
        · try simp at hb4
          refine CX.seq (CX.region ?_)
          first
            | refine LX.pure (Y.assertYes Fp.nif58 rfl) rfl rfl rfl ?_
            | refine LX.pure (Y.assertNo Fp.nif58 rfl (by decide) Fp.zv58) rfl rfl rfl ?_
          refine LX.pure (Y.extract rfl rfl) rfl rfl rfl ?_
          refine LX.pure (Y.extract rfl rfl) rfl rfl rfl ?_
          refine LX.sub (l' := [(0, _), (1, _), (2, _), (3, _), (8, _), (9, _), (32, _), (44, _), (45, _)]) ⟨rfl, rfl, rfl, rfl, rfl, rfl, rfl, rfl, rfl, trivial⟩ ?_
          refine LX.next (PX.thenN ?_)
          refine CX.cond rfl (fun hb5 => ?_) (fun hb5 => ?_)
          · try simp at hb5
            first | done | (exfalso; omega) | (exfalso; simp_all; done) | (exfalso; simp_all; omega)
          · try simp at hb5
            refine CX.seq (CX.region ?_)
            first
              | refine LX.pure (Y.assertYes Fp.nif62 rfl) rfl rfl rfl ?_
              | refine LX.pure (Y.assertNo Fp.nif62 rfl (by decide) Fp.zv62) rfl rfl rfl ?_
            refine LX.pure (Y.extract rfl rfl) rfl rfl rfl ?_
            refine LX.pure (Y.extract rfl rfl) rfl rfl rfl ?_
            refine LX.sub (l' := [(0, _), (1, _), (2, _), (3, _), (8, _), (9, _), (32, _), (54, _), (55, _)]) ⟨rfl, rfl, rfl, rfl, rfl, rfl, rfl, rfl, rfl, trivial⟩ ?_
            refine LX.next (PX.thenN ?_)
            refine CX.cond rfl (fun hb6 => ?_) (fun hb6 => ?_)
            · try simp at hb6
              refine CX.seq (CX.region ?_)
              refine LX.pure (Y.assign rfl) rfl rfl rfl ?_
              refine LX.sub (l' := [(1, _), (2, _), (8, _), (9, _), (14, _)]) ⟨rfl, rfl, rfl, rfl, rfl, trivial⟩ ?_
              refine LX.next (PX.thenN (CX.seq (CX.region ?_)))
              refine LX.pure (Y.move rfl) rfl rfl rfl ?_
              refine LX.pure (Y.move rfl) rfl rfl rfl ?_
              refine LX.pure (Y.assert1 Fp.nif62 rfl) rfl rfl rfl ?_
              refine LX.pure (Y.eqS rfl rfl) rfl rfl rfl ?_
              refine LX.pure (Y.assign rfl) rfl rfl rfl ?_
              refine LX.pure (Y.assign rfl) rfl rfl rfl ?_
              refine LX.sub (l' := [(1, _), (2, _), (8, _), (9, _)]) ⟨rfl, rfl, rfl, rfl, trivial⟩ ?_
              refine LX.next (PX.thenN (CX.ret (PX.blockR (PX.thenR ?_))))
              refine PX.ret2 (by simp) Tryz.results17 rfl rfl ?_
              exact fun w hw => ⟨(), rfl, hw⟩
            · try simp at hb6
              first | done | (exfalso; omega) | (exfalso; simp_all; done) | (exfalso; simp_all; omega)
theorem lessI_c {w0 : World} {base : Nat} {fr : List It} (bk : Nat) {dd L : Int} (hd : 0 ≤ dd ∧ dd ≤ 60) (hL : 1 ≤ L ∧ L ≤ 5000) {t : Bool} {x y : Int} {u v : Value} (hx : ItV w0 base t x u) (hy : ItV w0 base t y v) : FnC Tryz.prog 16 #[.pointer (some ⟨bk, 0, none⟩), u, v, .int .i64 dd] (WA w0 base (blk bk [.int .i64 L] 48 :: fr)) (fun _ : Unit => .tuple #[.bool (decide (key t x < key t y)), .nilIface]) (fun _ => WA w0 base (blk bk [.int .i64 (L - 1)] 48 :: fr)) := by
  rw [← key_lt t x y]
  cases t with
  | true => obtain rfl := hx; obtain rfl := hy; exact lessT_c bk hd hL _ _
  | false => obtain ⟨u1, rfl, h1⟩ := hx; obtain ⟨v1, rfl, h2⟩ := hy; exact lessW_c bk hd hL h1 h2
theorem equalI_c {w0 : World} {base : Nat} {fr : List It} (bk : Nat) {dd L : Int} (hd : 0 ≤ dd ∧ dd ≤ 60) (hL : 1 ≤ L ∧ L ≤ 5000) {t : Bool} {x y : Int} {u v : Value} (hx : ItV w0 base t x u) (hy : ItV w0 base t y v) : FnC Tryz.prog 17 #[.pointer (some ⟨bk, 0, none⟩), u, v, .int .i64 dd] (WA w0 base (blk bk [.int .i64 L] 48 :: fr)) (fun _ : Unit => .tuple #[.bool (decide (key t x = key t y)), .nilIface]) (fun _ => WA w0 base (blk bk [.int .i64 (L - 1)] 48 :: fr)) := by
  rw [← key_eq t x y]
  cases t with
  | true => obtain rfl := hx; obtain rfl := hy; exact equalT_c bk hd hL _ _
  | false => obtain ⟨u1, rfl, h1⟩ := hx; obtain ⟨v1, rfl, h2⟩ := hy; exact equalW_c bk hd hL h1 h2
theorem first_c {w0 : World} {base : Nat} {fr : List It} (bk : Nat) {L : Int} (hL : 100 ≤ L ∧ L ≤ 5000) {t : Bool} {xs ys : List Int} {g1 g2 : Option Nat} (c1 c2 : Nat) (h1 : ItsV w0 base t xs g1) (h2 : ItsV w0 base t ys g2) (l1 : xs.length ≤ 12) (l2 : ys.length ≤ 12) : FnC Tryz.prog 27 #[.pointer (some ⟨bk, 0, none⟩), rv g1 xs.length c1, rv g2 ys.length c2, .int .i64 0] (WA w0 base (blk bk [.int .i64 L] 48 :: fr)) (fun _ : Int => .tuple #[.bool (lexLt (kk t xs) (kk t ys)), .nilIface]) (fun L2 => WA w0 base (blk bk [.int .i64 L2] 48 :: fr)) := by
  refine FnC.of_body (fn := Tryz.f27) [(0, _), (1, _), (2, _), (3, _)] Tryz.func27 rfl Tryz.ntmps27 rfl ⟨rfl, rfl, rfl, rfl, trivial⟩ ?_
  refine CX.seq (CX.region ?_)
  refine LX.pure (Y.assign rfl) rfl rfl rfl ?_
  refine LX.pure (Y.assign rfl) rfl rfl rfl ?_
  refine LX.sub (l' := [(0, _), (1, _), (2, _), (3, _), (8, _), (9, _)]) ⟨rfl, rfl, rfl, rfl, rfl, rfl, trivial⟩ ?_
  refine LX.next (PX.thenN (CX.seq (CX.seq (CX.region ?_))))
  refine LX.pure (Y.move rfl) rfl rfl rfl ?_
  refine LX.pure (Y.lenSl rfl Fp.un42 rfl) rfl rfl rfl ?_
  refine LX.pure (Y.move rfl) rfl rfl rfl ?_
  refine LX.pure (Y.lenSl rfl Fp.un42 rfl) rfl rfl rfl ?_
  refine LX.pure (show Y _ _ _ _ _ (.int .i64 ((min xs.length ys.length : Nat) : Int)) from by rw [← min_int]; exact Y.min2 rfl rfl) rfl rfl rfl ?_
  refine LX.pure (Y.move rfl) rfl rfl rfl ?_
  refine LX.sub (l' := [(0, _), (1, _), (2, _), (3, _), (8, _), (9, _), (18, _), (19, _)]) ⟨rfl, rfl, rfl, rfl, rfl, rfl, rfl, rfl, trivial⟩ ?_
  refine LX.next (PX.thenN (CX.block ?_))
  refine CX.loop (fun i : Nat => [(0, .pointer (some ⟨bk, 0, none⟩)), (1, rv g1 xs.length c1), (2, rv g2 ys.length c2), (3, .int .i64 0), (18, .int .i64 ((min xs.length ys.length : Nat) : Int)), (19, .int .i64 (i : Int))]) (fun (i : Nat) w => (i ≤ min xs.length ys.length ∧ lexLt ((kk t xs).drop i) ((kk t ys).drop i) = lexLt (kk t xs) (kk t ys)) ∧ WA w0 base (blk bk [.int .i64 (L - i)] 48 :: fr) w) (fun i => min xs.length ys.length - i) 0 ⟨rfl, rfl, rfl, rfl, rfl, rfl, trivial⟩ (fun w hw => ⟨⟨Nat.zero_le _, rfl⟩, by simpa using hw⟩) ?_
  intro i
  refine CX.have fun ⟨hi0, hlex⟩ => ?_
  try dsimp only at hi0 hlex ⊢
  refine CX.seq (CX.region ?_)
  first
    | refine LX.pure (Y.ltN rfl rfl) rfl rfl rfl ?_
    | refine LX.pure (Y.ltI rfl rfl) rfl rfl rfl ?_
  refine LX.sub (l' := [(0, _), (1, _), (2, _), (3, _), (18, _), (19, _), (20, _)]) ⟨rfl, rfl, rfl, rfl, rfl, rfl, rfl, trivial⟩ ?_
  refine LX.next (PX.thenN (CX.seq ?_))
  refine CX.cond rfl (fun hb1 => ?_) (fun hb1 => ?_)
  · try simp at hb1
    have hi1 : i < xs.length := by omega
    have hi2 : i < ys.length := by omega
    have hk1 := kk_at t hi1
    have hk2 := kk_at t hi2
    have hn1 := kk_len t xs
    have hn2 := kk_len t ys
    obtain ⟨b1, u1, rfl, hq1, hc1, hu1⟩ := h1.at_ hi1
    obtain ⟨b2, u2, rfl, hq2, hc2, hu2⟩ := h2.at_ hi2
    refine CX.skip (PX.thenN (CX.seq (CX.block (CX.seq (CX.region ?_)))))
    refine LX.pure (Y.move rfl) rfl rfl rfl ?_
    refine LX.pure (Y.assign rfl) rfl rfl rfl ?_
    refine LX.sub (l' := [(0, _), (1, _), (2, _), (3, _), (10, _), (18, _), (19, _)]) ⟨rfl, rfl, rfl, rfl, rfl, rfl, rfl, trivial⟩ ?_
    refine LX.next (PX.thenN (CX.seq ?_))
    refine CX.regionM [(0, .anywhere), (1, .anywhere), (2, .anywhere), (3, .held), (4, .held), (5, .anywhere), (6, .anywhere), (7, .held), (8, .held), (9, .anywhere), (10, .anywhere), (11, .alone), (12, .anywhere), (13, .anywhere), (14, .anywhere), (15, .anywhere), (16, .anywhere)] rfl (by kernel_rfl) ?_
    refine MX.lift0 (i := 0) rfl (Y.move rfl) rfl rfl rfl ?_
    refine MX.lift0 (i := 1) rfl (Y.move rfl) rfl rfl rfl ?_
    refine MX.lift0 (i := 2) rfl (Y.move rfl) rfl rfl rfl ?_
    refine MX.lift1 (i := 3) (pend' := []) rfl (fun w hw => by first | exact hw | exact hw.1 | exact hw.drop (List.sublist_cons_self _ _) | exact hw.drop ((List.sublist_cons_self _ _).cons _)) (Y.idx1 Fp.un42 Fp.sz25 rfl rfl (by omega)) rfl rfl rfl (by kernel_rfl) ?_
    refine MX.lift1 (i := 4) (pend' := []) rfl (fun w hw => by first | exact hw | exact hw.1 | exact hw.drop (List.sublist_cons_self _ _) | exact hw.drop ((List.sublist_cons_self _ _).cons _)) (Y.ldO Fp.one25 rfl hc1 hq1) rfl rfl rfl (by kernel_rfl) ?_
    refine MX.lift0 (i := 5) rfl (Y.move rfl) rfl rfl rfl ?_
    refine MX.lift0 (i := 6) rfl (Y.move rfl) rfl rfl rfl ?_
    refine MX.lift1 (i := 7) (pend' := [4]) rfl (fun w hw => by first | exact hw | exact hw.1 | exact hw.drop (List.sublist_cons_self _ _) | exact hw.drop ((List.sublist_cons_self _ _).cons _)) (Y.idx1 Fp.un42 Fp.sz25 rfl rfl (by omega)) rfl rfl rfl (by kernel_rfl) ?_
    refine MX.lift1 (i := 8) (pend' := [4]) rfl (fun w hw => by first | exact hw | exact hw.1 | exact hw.drop (List.sublist_cons_self _ _) | exact hw.drop ((List.sublist_cons_self _ _).cons _)) (Y.ldO Fp.one25 rfl hc2 hq2) rfl rfl rfl (by kernel_rfl) ?_
    refine MX.lift0 (i := 9) rfl (Y.move rfl) rfl rfl rfl ?_
    refine MX.lift0 (i := 10) rfl (Y.add (a := 0) (b := 1) rfl rfl (by omega)) rfl rfl rfl ?_
    refine MX.force (i := 11) rfl ?_
    refine LX.call (equalI_c bk (dd := 0 + 1) (L := L - i) (by omega) (by omega) hu1 hu2) Fp.en17 rfl rfl rfl rfl rfl ?_
    intro _
    refine LX.nextM [] (by kernel_rfl) (fun h => absurd rfl h) ?_
    refine MX.lift0 (i := 12) rfl (Y.move rfl) rfl rfl rfl ?_
    refine MX.lift0 (i := 13) rfl (Y.extract rfl rfl) rfl rfl rfl ?_
    refine MX.lift0 (i := 14) rfl (Y.extract rfl rfl) rfl rfl rfl ?_
    refine MX.lift0 (i := 15) rfl (Y.assign rfl) rfl rfl rfl ?_
    refine MX.lift0 (i := 16) rfl (Y.assign rfl) rfl rfl rfl ?_
    refine MX.sub (l' := [(0, _), (1, _), (2, _), (3, _), (10, _), (11, _), (12, _), (18, _), (19, _)]) ⟨rfl, rfl, rfl, rfl, rfl, rfl, rfl, rfl, rfl, trivial⟩ ?_
    refine MX.done (PX.thenN (CX.seq (CX.seq (CX.region ?_))))
    refine LX.pure (Y.move rfl) rfl rfl rfl ?_
    first
      | refine LX.pure (Y.neNil Fp.un28 rfl rfl) rfl rfl rfl ?_
      | refine LX.pure (Y.neNilNil Fp.un28 rfl) rfl rfl rfl ?_
    refine LX.sub (l' := [(0, _), (1, _), (2, _), (3, _), (10, _), (11, _), (12, _), (18, _), (19, _), (38, _)]) ⟨rfl, rfl, rfl, rfl, rfl, rfl, rfl, rfl, rfl, rfl, trivial⟩ ?_
    refine LX.next (PX.thenN ?_)
    refine CX.cond rfl (fun hb2 => ?_) (fun hb2 => ?_)
    · try simp at hb2
      first | done | (exfalso; omega) | (exfalso; simp_all; done) | (exfalso; simp_all; omega)
    · try simp at hb2
      refine CX.skip (PX.thenN (CX.seq (CX.region ?_)))
      refine LX.pure (Y.move rfl) rfl rfl rfl ?_
      refine LX.pure (Y.not rfl) rfl rfl rfl ?_
      refine LX.sub (l' := [(0, _), (1, _), (2, _), (3, _), (10, _), (18, _), (19, _), (41, _)]) ⟨rfl, rfl, rfl, rfl, rfl, rfl, rfl, rfl, trivial⟩ ?_
      refine LX.next (PX.thenN ?_)
      refine CX.cond rfl (fun hb3 => ?_) (fun hb3 => ?_)
      · try simp at hb3
        refine CX.seq ?_
        refine CX.regionM [(0, .anywhere), (1, .anywhere), (2, .anywhere), (3, .held), (4, .held), (5, .anywhere), (6, .anywhere), (7, .held), (8, .held), (9, .anywhere), (10, .anywhere), (11, .alone), (12, .anywhere), (13, .anywhere), (14, .anywhere), (15, .anywhere)] rfl (by kernel_rfl) ?_
        refine MX.lift0 (i := 0) rfl (Y.move rfl) rfl rfl rfl ?_
        refine MX.lift0 (i := 1) rfl (Y.move rfl) rfl rfl rfl ?_
        refine MX.lift0 (i := 2) rfl (Y.move rfl) rfl rfl rfl ?_
        refine MX.lift1 (i := 3) (pend' := []) rfl (fun w hw => by first | exact hw | exact hw.1 | exact hw.drop (List.sublist_cons_self _ _) | exact hw.drop ((List.sublist_cons_self _ _).cons _)) (Y.idx1 Fp.un42 Fp.sz25 rfl rfl (by omega)) rfl rfl rfl (by kernel_rfl) ?_
        refine MX.lift1 (i := 4) (pend' := []) rfl (fun w hw => by first | exact hw | exact hw.1 | exact hw.drop (List.sublist_cons_self _ _) | exact hw.drop ((List.sublist_cons_self _ _).cons _)) (Y.ldO Fp.one25 rfl hc1 hq1) rfl rfl rfl (by kernel_rfl) ?_
        refine MX.lift0 (i := 5) rfl (Y.move rfl) rfl rfl rfl ?_
        refine MX.lift0 (i := 6) rfl (Y.move rfl) rfl rfl rfl ?_
        refine MX.lift1 (i := 7) (pend' := [4]) rfl (fun w hw => by first | exact hw | exact hw.1 | exact hw.drop (List.sublist_cons_self _ _) | exact hw.drop ((List.sublist_cons_self _ _).cons _)) (Y.idx1 Fp.un42 Fp.sz25 rfl rfl (by omega)) rfl rfl rfl (by kernel_rfl) ?_
        refine MX.lift1 (i := 8) (pend' := [4]) rfl (fun w hw => by first | exact hw | exact hw.1 | exact hw.drop (List.sublist_cons_self _ _) | exact hw.drop ((List.sublist_cons_self _ _).cons _)) (Y.ldO Fp.one25 rfl hc2 hq2) rfl rfl rfl (by kernel_rfl) ?_
        refine MX.lift0 (i := 9) rfl (Y.move rfl) rfl rfl rfl ?_
        refine MX.lift0 (i := 10) rfl (Y.add (a := 0) (b := 1) rfl rfl (by omega)) rfl rfl rfl ?_
        refine MX.force (i := 11) rfl ?_
        refine LX.call (lessI_c bk (dd := 0 + 1) (L := L - i - 1) (by omega) (by omega) hu1 hu2) Fp.en16 rfl rfl rfl rfl rfl ?_
        intro _
        refine LX.nextM [] (by kernel_rfl) (fun h => absurd rfl h) ?_
        refine MX.lift0 (i := 12) rfl (Y.extract rfl rfl) rfl rfl rfl ?_
        refine MX.lift0 (i := 13) rfl (Y.extract rfl rfl) rfl rfl rfl ?_
        refine MX.lift0 (i := 14) rfl (Y.assign rfl) rfl rfl rfl ?_
        refine MX.lift0 (i := 15) rfl (Y.assign rfl) rfl rfl rfl ?_
        refine MX.sub (l' := [(0, _), (1, _), (2, _), (3, _), (8, _), (9, _), (18, _), (19, _)]) ⟨rfl, rfl, rfl, rfl, rfl, rfl, rfl, rfl, trivial⟩ ?_
        refine MX.done (PX.thenN (CX.ret (PX.blockR (PX.thenR (PX.thenR (PX.blockR (PX.thenR ?_)))))))
        refine PX.ret2 (by simp) Tryz.results27 rfl rfl ?_
        exact fun w hw => ⟨L - i - 1 - 1, by rw [← hlex, lex_part (a := kk t xs) (b := kk t ys) (i := i) (by omega) (by omega) (by rw [hk1, hk2]; simpa using hb3), hk1, hk2]; rfl, hw⟩
      · try simp at hb3
        refine CX.skip (PX.blockN (PX.thenN (CX.region ?_)))
        first
          | refine LX.pure (Y.addN rfl rfl (by first | omega | (simp only []; omega) | (simp; done) | (simp; omega))) rfl rfl rfl ?_
          | refine LX.pure (Y.add rfl rfl (by first | omega | (simp only []; omega) | (simp; done) | (simp; omega))) rfl rfl rfl ?_
        refine LX.pure (Y.move rfl) rfl rfl rfl ?_
        refine LX.sub (l' := [(0, _), (1, _), (2, _), (3, _), (18, _), (19, _)]) ⟨rfl, rfl, rfl, rfl, rfl, rfl, trivial⟩ ?_
        refine LX.next ?_
        exact PX.again (L := (fun i : Nat => [(0, .pointer (some ⟨bk, 0, none⟩)), (1, rv (some b1) xs.length c1), (2, rv (some b2) ys.length c2), (3, .int .i64 0), (18, .int .i64 ((min xs.length ys.length : Nat) : Int)), (19, .int .i64 (i : Int))])) (WW := (fun (i : Nat) w => (i ≤ min xs.length ys.length ∧ lexLt ((kk t xs).drop i) ((kk t ys).drop i) = lexLt (kk t xs) (kk t ys)) ∧ WA w0 base (blk bk [.int .i64 (L - i)] 48 :: fr) w)) (μ := fun i => min xs.length ys.length - i) (i := i) (i + 1) (by show min xs.length ys.length - (i + 1) < min xs.length ys.length - i; omega) ⟨rfl, rfl, rfl, rfl, rfl, rfl, trivial⟩ (fun w hw => ⟨⟨by omega, by rw [← hlex, lex_same (a := kk t xs) (b := kk t ys) (i := i) (by omega) (by omega) (by rw [hk1, hk2]; simpa using hb3)]⟩, by rw [show L - ((i + 1 : Nat) : Int) = L - i - 1 by omega]; exact hw⟩)
  · try simp at hb1
    have hie : i = min xs.length ys.length := by omega
    refine CX.exit (PX.thenE (PX.thenE (PX.blockE (PX.thenN (CX.seq (CX.seq (CX.region ?_)))))))
    refine LX.pure (Y.move rfl) rfl rfl rfl ?_
    refine LX.pure (Y.lenSl rfl Fp.un42 rfl) rfl rfl rfl ?_
    refine LX.pure (Y.move rfl) rfl rfl rfl ?_
    refine LX.pure (Y.lenSl rfl Fp.un42 rfl) rfl rfl rfl ?_
    refine LX.pure (show Y _ _ _ _ _ (.int .i64 ((min xs.length ys.length : Nat) : Int)) from by rw [← min_int]; exact Y.min2 rfl rfl) rfl rfl rfl ?_
    refine LX.pure (Y.move rfl) rfl rfl rfl ?_
    refine LX.call (shallow_c _ (by omega)) Fp.en52 rfl rfl rfl rfl rfl ?_
    intro _
    refine LX.pure (Y.assign rfl) rfl rfl rfl ?_
    refine LX.sub (l' := [(1, _), (2, _), (13, _)]) ⟨rfl, rfl, rfl, trivial⟩ ?_
    refine LX.next (PX.thenN (CX.seq (CX.region ?_)))
    refine LX.pure (Y.move rfl) rfl rfl rfl ?_
    first
      | refine LX.pure (Y.neNil Fp.un28 rfl rfl) rfl rfl rfl ?_
      | refine LX.pure (Y.neNilNil Fp.un28 rfl) rfl rfl rfl ?_
    refine LX.sub (l' := [(1, _), (2, _), (13, _), (65, _)]) ⟨rfl, rfl, rfl, rfl, trivial⟩ ?_
    refine LX.next (PX.thenN ?_)
    refine CX.cond rfl (fun hb4 => ?_) (fun hb4 => ?_)
    · try simp at hb4
      first | done | (exfalso; omega) | (exfalso; simp_all; done) | (exfalso; simp_all; omega)
    · try simp at hb4
      refine CX.skip (PX.thenN (CX.seq (CX.region ?_)))
      refine LX.pure (Y.move rfl) rfl rfl rfl ?_
      refine LX.pure (Y.lenSl rfl Fp.un42 rfl) rfl rfl rfl ?_
      refine LX.pure (Y.move rfl) rfl rfl rfl ?_
      refine LX.pure (Y.lenSl rfl Fp.un42 rfl) rfl rfl rfl ?_
      first
        | refine LX.pure (Y.ltN rfl rfl) rfl rfl rfl ?_
        | refine LX.pure (Y.ltI rfl rfl) rfl rfl rfl ?_
      refine LX.pure (Y.assign rfl) rfl rfl rfl ?_
      refine LX.pure (Y.assign rfl) rfl rfl rfl ?_
      refine LX.sub (l' := [(8, _), (9, _)]) ⟨rfl, rfl, trivial⟩ ?_
      refine LX.next (PX.thenN (CX.ret ?_))
      refine PX.ret2 (by simp) Tryz.results27 rfl rfl ?_
      exact fun w hw => ⟨L - i, by rw [← hlex, lex_end (by rw [kk_len, kk_len]; exact hie), kk_len, kk_len], hw⟩
theorem all_c {w0 : World} {base : Nat} {fr : List It} (bk : Nat) {L : Int} (hL : 100 ≤ L ∧ L ≤ 5000) {t : Bool} {xs ys : List Int} {g1 g2 : Option Nat} (c1 c2 : Nat) (h1 : ItsV w0 base t xs g1) (h2 : ItsV w0 base t ys g2) (l1 : xs.length ≤ 12) (l2 : ys.length ≤ 12) : FnC Tryz.prog 28 #[.pointer (some ⟨bk, 0, none⟩), rv g1 xs.length c1, rv g2 ys.length c2, .int .i64 0] (WA w0 base (blk bk [.int .i64 L] 48 :: fr)) (fun _ : Int => .tuple #[.bool (decide (kk t xs = kk t ys)), .nilIface]) (fun L2 => WA w0 base (blk bk [.int .i64 L2] 48 :: fr)) := by
  refine FnC.of_body (fn := Tryz.f28) [(0, _), (1, _), (2, _), (3, _)] Tryz.func28 rfl Tryz.ntmps28 rfl ⟨rfl, rfl, rfl, rfl, trivial⟩ ?_
  refine CX.seq (CX.region ?_)
  refine LX.pure (Y.assign rfl) rfl rfl rfl ?_
  refine LX.pure (Y.assign rfl) rfl rfl rfl ?_
  refine LX.sub (l' := [(0, _), (1, _), (2, _), (3, _), (8, _), (9, _)]) ⟨rfl, rfl, rfl, rfl, rfl, rfl, trivial⟩ ?_
  refine LX.next (PX.thenN (CX.seq (CX.seq (CX.region ?_))))
  refine LX.pure (Y.move rfl) rfl rfl rfl ?_
  refine LX.pure (Y.lenSl rfl Fp.un42 rfl) rfl rfl rfl ?_
  refine LX.pure (Y.move rfl) rfl rfl rfl ?_
  refine LX.pure (Y.lenSl rfl Fp.un42 rfl) rfl rfl rfl ?_
  first
    | refine LX.pure (Y.neN rfl rfl) rfl rfl rfl ?_
    | refine LX.pure (Y.neI rfl rfl) rfl rfl rfl ?_
  refine LX.sub (l' := [(0, _), (1, _), (2, _), (3, _), (8, _), (9, _), (18, _)]) ⟨rfl, rfl, rfl, rfl, rfl, rfl, rfl, trivial⟩ ?_
  refine LX.next (PX.thenN ?_)
  refine CX.cond rfl (fun hb1 => ?_) (fun hb1 => ?_)
  · try simp at hb1
    refine CX.seq (CX.region ?_)
    refine LX.pure (Y.assign rfl) rfl rfl rfl ?_
    refine LX.pure (Y.assign rfl) rfl rfl rfl ?_
    refine LX.sub (l' := [(0, _), (1, _), (2, _), (3, _), (8, _), (9, _)]) ⟨rfl, rfl, rfl, rfl, rfl, rfl, trivial⟩ ?_
    refine LX.next (PX.thenN (CX.ret (PX.thenR ?_)))
    refine PX.ret2 (by simp) Tryz.results28 rfl rfl ?_
    exact fun w hw => ⟨L, by rw [decide_eq_false (fun e => hb1 (by have := congrArg List.length e; rwa [kk_len, kk_len] at this))], hw⟩
  · try simp at hb1
    refine CX.skip (PX.thenN (CX.seq (CX.seq (CX.region ?_))))
    refine LX.pure (Y.move rfl) rfl rfl rfl ?_
    refine LX.pure (Y.lenSl rfl Fp.un42 rfl) rfl rfl rfl ?_
    refine LX.pure (Y.move rfl) rfl rfl rfl ?_
    refine LX.sub (l' := [(0, _), (1, _), (2, _), (3, _), (8, _), (9, _), (20, _), (21, _)]) ⟨rfl, rfl, rfl, rfl, rfl, rfl, rfl, rfl, trivial⟩ ?_
    refine LX.next (PX.thenN (CX.block ?_))
    refine CX.loop (fun i : Nat => [(0, .pointer (some ⟨bk, 0, none⟩)), (1, rv g1 xs.length c1), (2, rv g2 ys.length c2), (3, .int .i64 0), (20, .int .i64 (xs.length : Int)), (21, .int .i64 (i : Int))]) (fun (i : Nat) w => (i ≤ xs.length ∧ decide ((kk t xs).drop i = (kk t ys).drop i) = decide (kk t xs = kk t ys)) ∧ WA w0 base (blk bk [.int .i64 (L - i)] 48 :: fr) w) (fun i => xs.length - i) 0 ⟨rfl, rfl, rfl, rfl, rfl, rfl, trivial⟩ (fun w hw => ⟨⟨Nat.zero_le _, rfl⟩, by simpa using hw⟩) ?_
    intro i
    refine CX.have fun ⟨hi0, hlex⟩ => ?_
    try dsimp only at hi0 hlex ⊢
    refine CX.seq (CX.region ?_)
    first
      | refine LX.pure (Y.ltN rfl rfl) rfl rfl rfl ?_
      | refine LX.pure (Y.ltI rfl rfl) rfl rfl rfl ?_
    refine LX.sub (l' := [(0, _), (1, _), (2, _), (3, _), (20, _), (21, _), (22, _)]) ⟨rfl, rfl, rfl, rfl, rfl, rfl, rfl, trivial⟩ ?_
    refine LX.next (PX.thenN (CX.seq ?_))
    refine CX.cond rfl (fun hb2 => ?_) (fun hb2 => ?_)
    · try simp at hb2
      have hi1 : i < xs.length := by omega
      have hi2 : i < ys.length := by omega
      have hk1 := kk_at t hi1
      have hk2 := kk_at t hi2
      have hn1 := kk_len t xs
      have hn2 := kk_len t ys
      obtain ⟨b1, u1, rfl, hq1, hc1, hu1⟩ := h1.at_ hi1
      obtain ⟨b2, u2, rfl, hq2, hc2, hu2⟩ := h2.at_ hi2
      refine CX.skip (PX.thenN (CX.seq (CX.block (CX.seq (CX.region ?_)))))
      refine LX.pure (Y.move rfl) rfl rfl rfl ?_
      refine LX.pure (Y.assign rfl) rfl rfl rfl ?_
      refine LX.sub (l' := [(0, _), (1, _), (2, _), (3, _), (10, _), (20, _), (21, _)]) ⟨rfl, rfl, rfl, rfl, rfl, rfl, rfl, trivial⟩ ?_
      refine LX.next (PX.thenN (CX.seq ?_))
      refine CX.regionM [(0, .anywhere), (1, .anywhere), (2, .anywhere), (3, .held), (4, .held), (5, .anywhere), (6, .anywhere), (7, .held), (8, .held), (9, .anywhere), (10, .anywhere), (11, .alone), (12, .anywhere), (13, .anywhere), (14, .anywhere), (15, .anywhere), (16, .anywhere)] rfl (by kernel_rfl) ?_
      refine MX.lift0 (i := 0) rfl (Y.move rfl) rfl rfl rfl ?_
      refine MX.lift0 (i := 1) rfl (Y.move rfl) rfl rfl rfl ?_
      refine MX.lift0 (i := 2) rfl (Y.move rfl) rfl rfl rfl ?_
      refine MX.lift1 (i := 3) (pend' := []) rfl (fun w hw => by first | exact hw | exact hw.1 | exact hw.drop (List.sublist_cons_self _ _) | exact hw.drop ((List.sublist_cons_self _ _).cons _)) (Y.idx1 Fp.un42 Fp.sz25 rfl rfl (by omega)) rfl rfl rfl (by kernel_rfl) ?_
      refine MX.lift1 (i := 4) (pend' := []) rfl (fun w hw => by first | exact hw | exact hw.1 | exact hw.drop (List.sublist_cons_self _ _) | exact hw.drop ((List.sublist_cons_self _ _).cons _)) (Y.ldO Fp.one25 rfl hc1 hq1) rfl rfl rfl (by kernel_rfl) ?_
      refine MX.lift0 (i := 5) rfl (Y.move rfl) rfl rfl rfl ?_
      refine MX.lift0 (i := 6) rfl (Y.move rfl) rfl rfl rfl ?_
      refine MX.lift1 (i := 7) (pend' := [4]) rfl (fun w hw => by first | exact hw | exact hw.1 | exact hw.drop (List.sublist_cons_self _ _) | exact hw.drop ((List.sublist_cons_self _ _).cons _)) (Y.idx1 Fp.un42 Fp.sz25 rfl rfl (by omega)) rfl rfl rfl (by kernel_rfl) ?_
      refine MX.lift1 (i := 8) (pend' := [4]) rfl (fun w hw => by first | exact hw | exact hw.1 | exact hw.drop (List.sublist_cons_self _ _) | exact hw.drop ((List.sublist_cons_self _ _).cons _)) (Y.ldO Fp.one25 rfl hc2 hq2) rfl rfl rfl (by kernel_rfl) ?_
      refine MX.lift0 (i := 9) rfl (Y.move rfl) rfl rfl rfl ?_
      refine MX.lift0 (i := 10) rfl (Y.add (a := 0) (b := 1) rfl rfl (by omega)) rfl rfl rfl ?_
      refine MX.force (i := 11) rfl ?_
      refine LX.call (equalI_c bk (dd := 0 + 1) (L := L - i) (by omega) (by omega) hu1 hu2) Fp.en17 rfl rfl rfl rfl rfl ?_
      intro _
      refine LX.nextM [] (by kernel_rfl) (fun h => absurd rfl h) ?_
      refine MX.lift0 (i := 12) rfl (Y.move rfl) rfl rfl rfl ?_
      refine MX.lift0 (i := 13) rfl (Y.extract rfl rfl) rfl rfl rfl ?_
      refine MX.lift0 (i := 14) rfl (Y.extract rfl rfl) rfl rfl rfl ?_
      refine MX.lift0 (i := 15) rfl (Y.assign rfl) rfl rfl rfl ?_
      refine MX.lift0 (i := 16) rfl (Y.assign rfl) rfl rfl rfl ?_
      refine MX.sub (l' := [(0, _), (1, _), (2, _), (3, _), (11, _), (12, _), (20, _), (21, _)]) ⟨rfl, rfl, rfl, rfl, rfl, rfl, rfl, rfl, trivial⟩ ?_
      refine MX.done (PX.thenN (CX.seq (CX.region ?_)))
      refine LX.pure (Y.move rfl) rfl rfl rfl ?_
      refine LX.pure (Y.not rfl) rfl rfl rfl ?_
      refine LX.pure (Y.move rfl) rfl rfl rfl ?_
      refine LX.sub (l' := [(0, _), (1, _), (2, _), (3, _), (12, _), (20, _), (21, _), (41, _)]) ⟨rfl, rfl, rfl, rfl, rfl, rfl, rfl, rfl, trivial⟩ ?_
      apply LX.joinOr 3 44 41 rfl
      · intro hb3
        have hb3p := hb3
        try simp at hb3p
        refine LX.gF rfl rfl rfl hb3 rfl rfl ?_
        refine LX.gF rfl rfl rfl hb3 rfl rfl ?_
        refine LX.pure (Y.pickT rfl hb3 rfl) rfl rfl rfl ?_
        exact LX.left ⟨rfl, rfl, rfl, rfl, rfl, rfl, rfl, rfl, rfl, trivial⟩
      · intro hb3
        have hb3p := hb3
        try simp at hb3p
        refine LX.gT rfl rfl rfl hb3 (Y.move rfl) rfl rfl ?_
        first
          | refine LX.gT rfl rfl rfl hb3 (Y.neNil Fp.un28 rfl rfl) rfl rfl ?_
          | refine LX.gT rfl rfl rfl hb3 (Y.neNilNil Fp.un28 rfl) rfl rfl ?_
        refine LX.pure (Y.pickF rfl hb3 rfl) rfl rfl rfl ?_
        exact LX.left ⟨rfl, rfl, rfl, rfl, rfl, rfl, rfl, rfl, rfl, trivial⟩
      refine LX.sub (l' := [(0, _), (1, _), (2, _), (3, _), (12, _), (20, _), (21, _), (44, _)]) ⟨rfl, rfl, rfl, rfl, rfl, rfl, rfl, rfl, trivial⟩ ?_
      refine LX.next (PX.thenN ?_)
      refine CX.cond rfl (fun hb4 => ?_) (fun hb4 => ?_)
      · try simp at hb4
        refine CX.seq (CX.region ?_)
        refine LX.pure (Y.move rfl) rfl rfl rfl ?_
        refine LX.pure (Y.assign rfl) rfl rfl rfl ?_
        refine LX.pure (Y.assign rfl) rfl rfl rfl ?_
        refine LX.sub (l' := [(0, _), (1, _), (2, _), (3, _), (8, _), (9, _), (20, _), (21, _)]) ⟨rfl, rfl, rfl, rfl, rfl, rfl, rfl, rfl, trivial⟩ ?_
        refine LX.next (PX.thenN (CX.ret (PX.blockR (PX.thenR (PX.thenR (PX.blockR (PX.thenR ?_)))))))
        refine PX.ret2 (by simp) Tryz.results28 rfl rfl ?_
        exact fun w hw => ⟨L - i - 1, by rw [← hlex, eq_part (a := kk t xs) (b := kk t ys) (i := i) (by omega) (by omega) (by rw [hk1, hk2]; simp_all)]; rfl, hw⟩
      · try simp at hb4
        refine CX.skip (PX.blockN (PX.thenN (CX.region ?_)))
        first
          | refine LX.pure (Y.addN rfl rfl (by first | omega | (simp only []; omega) | (simp; done) | (simp; omega))) rfl rfl rfl ?_
          | refine LX.pure (Y.add rfl rfl (by first | omega | (simp only []; omega) | (simp; done) | (simp; omega))) rfl rfl rfl ?_
        refine LX.pure (Y.move rfl) rfl rfl rfl ?_
        refine LX.sub (l' := [(0, _), (1, _), (2, _), (3, _), (20, _), (21, _)]) ⟨rfl, rfl, rfl, rfl, rfl, rfl, trivial⟩ ?_
        refine LX.next ?_
        exact PX.again (L := (fun i : Nat => [(0, .pointer (some ⟨bk, 0, none⟩)), (1, rv (some b1) xs.length c1), (2, rv (some b2) ys.length c2), (3, .int .i64 0), (20, .int .i64 (xs.length : Int)), (21, .int .i64 (i : Int))])) (WW := (fun (i : Nat) w => (i ≤ xs.length ∧ decide ((kk t xs).drop i = (kk t ys).drop i) = decide (kk t xs = kk t ys)) ∧ WA w0 base (blk bk [.int .i64 (L - i)] 48 :: fr) w)) (μ := fun i => xs.length - i) (i := i) (i + 1) (by show xs.length - (i + 1) < xs.length - i; omega) ⟨rfl, rfl, rfl, rfl, rfl, rfl, trivial⟩ (fun w hw => ⟨⟨by omega, by rw [← hlex, eq_same (a := kk t xs) (b := kk t ys) (i := i) (by omega) (by omega) (by rw [hk1, hk2]; simp_all)]⟩, by rw [show L - ((i + 1 : Nat) : Int) = L - i - 1 by omega]; exact hw⟩)
    · try simp at hb2
      have hie : i = xs.length := by omega
      refine CX.exit (PX.thenE (PX.thenE (PX.blockE (PX.thenN (CX.seq (CX.seq (CX.region ?_)))))))
      refine LX.pure (Y.move rfl) rfl rfl rfl ?_
      refine LX.pure (Y.lenSl rfl Fp.un42 rfl) rfl rfl rfl ?_
      refine LX.pure (Y.move rfl) rfl rfl rfl ?_
      refine LX.call (shallow_c _ (by omega)) Fp.en52 rfl rfl rfl rfl rfl ?_
      intro _
      refine LX.pure (Y.assign rfl) rfl rfl rfl ?_
      refine LX.sub (l' := [(13, _)]) ⟨rfl, trivial⟩ ?_
      refine LX.next (PX.thenN (CX.seq (CX.region ?_)))
      refine LX.pure (Y.move rfl) rfl rfl rfl ?_
      first
        | refine LX.pure (Y.neNil Fp.un28 rfl rfl) rfl rfl rfl ?_
        | refine LX.pure (Y.neNilNil Fp.un28 rfl) rfl rfl rfl ?_
      refine LX.sub (l' := [(13, _), (52, _)]) ⟨rfl, rfl, trivial⟩ ?_
      refine LX.next (PX.thenN ?_)
      refine CX.cond rfl (fun hb5 => ?_) (fun hb5 => ?_)
      · try simp at hb5
        first | done | (exfalso; omega) | (exfalso; simp_all; done) | (exfalso; simp_all; omega)
      · try simp at hb5
        refine CX.skip (PX.thenN (CX.seq (CX.region ?_)))
        refine LX.pure (Y.assign rfl) rfl rfl rfl ?_
        refine LX.pure (Y.assign rfl) rfl rfl rfl ?_
        refine LX.sub (l' := [(8, _), (9, _)]) ⟨rfl, rfl, trivial⟩ ?_
        refine LX.next (PX.thenN (CX.ret ?_))
        refine PX.ret2 (by simp) Tryz.results28 rfl rfl ?_
        exact fun w hw => ⟨L - i, by rw [← hlex, List.drop_of_length_le (by rw [kk_len]; omega), List.drop_of_length_le (by rw [kk_len]; omega)]; rfl, hw⟩
end Go.Proofs.YtljaoofbklkglaaGreatDoor
