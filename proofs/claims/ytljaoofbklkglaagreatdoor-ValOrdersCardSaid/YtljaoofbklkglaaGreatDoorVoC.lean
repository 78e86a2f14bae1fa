/-
  Proved here: lists held against each other; numbers made.
-/
import Derived.Test.YtljaoofbklkglaaGreatDoorVoB
namespace Go.Proofs.YtljaoofbklkglaaGreatDoor
open Go.SX Go.RowKit Go.Vo
namespace Fr
theorem en20 : Enters Tryz.prog 20 := Enters.of Tryz.func20 (by kernel_rfl) (by kernel_rfl)
theorem en27 : Enters Tryz.prog 27 := Enters.of Tryz.func27 (by kernel_rfl) (by kernel_rfl)
theorem en28 : Enters Tryz.prog 28 := Enters.of Tryz.func28 (by kernel_rfl) (by kernel_rfl)
theorem fo74_1 : FieldOff Tryz.prog 74 1 0 := fun b o w => by kernel_rfl
theorem ni58 : NoIface Tryz.prog 58 := fun w v => by kernel_rfl
theorem ni62 : NoIface Tryz.prog 62 := fun w v => by kernel_rfl
theorem one42 : One Tryz.prog 42 := fun w => by kernel_rfl
theorem un2 : Tryz.prog.underlying 2 = some (.int .i64) := by kernel_rfl
theorem un44 : Tryz.prog.underlying 44 = some (.pointer 74) := by kernel_rfl
theorem un59 : Tryz.prog.underlying 59 = some (.int .u64) := by kernel_rfl
theorem zv37 : ∀ w, (zeroValue 37).run Tryz.prog w = .ok (.agg #[.bool false, .slice none 0 0]) w := fun w => by kernel_rfl
theorem zv44 : ∀ w, (zeroValue 44).run Tryz.prog w = .ok (.pointer none) w := fun w => by kernel_rfl
theorem el35 : Elem Tryz.prog 35 60 1 4 := Elem.of Fo.un35 (z := .int .u32 0) (by kernel_rfl) rfl
theorem nif44 : NotIface Tryz.prog 44 := NotIface.of un44 (fun ms h => by cases h)
end Fr
theorem lessL_c {w0 : World} {base : Nat} {fr : List It} (bk : Nat) {L : Int} (hL : 200 ≤ L ∧ L ≤ 5000) {t : Bool} {xs ys : List Int} {x y : Value} (hx : LsV w0 base t xs x) (hy : LsV w0 base t ys y) (l1 : xs.length ≤ 12) (l2 : ys.length ≤ 12) : FnC Tryz.prog 16 #[.pointer (some ⟨bk, 0, none⟩), x, y, .int .i64 0] (WA w0 base (blk bk [.int .i64 L] 48 :: fr)) (fun _ : Int => .tuple #[.bool (lexLt (kk t xs) (kk t ys)), .nilIface]) (fun L2 => WA w0 base (blk bk [.int .i64 L2] 48 :: fr)) := by
  obtain ⟨p1, g1, c1, rfl, hq1, hc1, h1⟩ := hx
  obtain ⟨p2, g2, c2, rfl, hq2, hc2, h2⟩ := hy
  refine FnC.of_body (fn := Tryz.f16) [(0, _), (1, _), (2, _), (3, _)] Tryz.func16 rfl Tryz.ntmps16 rfl ⟨rfl, rfl, rfl, rfl, trivial⟩ ?_
  refine CX.seq (CX.region ?_)
  refine LX.pure (Y.assign rfl) rfl rfl rfl ?_
  refine LX.pure (Y.assign rfl) rfl rfl rfl ?_
  refine LX.sub (l' := [(0, _), (1, _), (2, _), (3, _), (8, _), (9, _)]) ⟨rfl, rfl, rfl, rfl, rfl, rfl, trivial⟩ ?_
  refine LX.next (PX.thenN (CX.seq (CX.seq (CX.region ?_))))
  refine LX.pure (Y.move rfl) rfl rfl rfl ?_
  refine LX.pure (Y.move rfl) rfl rfl rfl ?_
  refine LX.call (look_c bk (dd := 0) (by omega) (L := L) (by omega)) Fp.en25 rfl rfl rfl rfl rfl ?_
  intro _
  refine LX.pure (Y.assign rfl) rfl rfl rfl ?_
  refine LX.sub (l' := [(0, _), (1, _), (2, _), (3, _), (8, _), (9, _), (10, _)]) ⟨rfl, rfl, rfl, rfl, rfl, rfl, rfl, trivial⟩ ?_
  refine LX.next (PX.thenN (CX.seq (CX.region ?_)))
  refine LX.pure (Y.move rfl) rfl rfl rfl ?_
  first
    | refine LX.pure (Y.neNil Fp.un28 rfl rfl) rfl rfl rfl ?_
    | refine LX.pure (Y.neNilNil Fp.un28 rfl) rfl rfl rfl ?_
  refine LX.sub (l' := [(0, _), (1, _), (2, _), (3, _), (8, _), (9, _), (10, _), (20, _)]) ⟨rfl, rfl, rfl, rfl, rfl, rfl, rfl, rfl, trivial⟩ ?_
  refine LX.next (PX.thenN ?_)
  refine CX.cond rfl (fun hb1 => ?_) (fun hb1 => ?_)
  · try simp at hb1
    first | done | (exfalso; omega) | (exfalso; simp_all; done) | (exfalso; simp_all; omega)
  · try simp at hb1
    refine CX.skip (PX.thenN (CX.seq (CX.seq (CX.region ?_))))
    refine LX.pure (Y.move rfl) rfl rfl rfl ?_
    refine LX.invC (kindL_c _) rfl (fun _ => by kernel_rfl) rfl rfl rfl rfl ?_
    intro _
    refine LX.pure (Y.move rfl) rfl rfl rfl ?_
    refine LX.invC (kindL_c _) rfl (fun _ => by kernel_rfl) rfl rfl rfl rfl ?_
    intro _
    first
      | refine LX.pure (Y.neN rfl rfl) rfl rfl rfl ?_
      | refine LX.pure (Y.neI rfl rfl) rfl rfl rfl ?_
    refine LX.sub (l' := [(0, _), (1, _), (2, _), (3, _), (8, _), (9, _), (26, _)]) ⟨rfl, rfl, rfl, rfl, rfl, rfl, rfl, trivial⟩ ?_
    refine LX.next (PX.thenN ?_)
    refine CX.cond rfl (fun hb2 => ?_) (fun hb2 => ?_)
    · try simp at hb2
      first | done | (exfalso; omega) | (exfalso; simp_all; done) | (exfalso; simp_all; omega)
    · try simp at hb2
      refine CX.skip (PX.thenN (CX.seq (CX.seq (CX.region ?_))))
      refine LX.pure (Y.move rfl) rfl rfl rfl ?_
      refine LX.sub (l' := [(0, _), (2, _), (3, _), (8, _), (9, _), (28, _)]) ⟨rfl, rfl, rfl, rfl, rfl, rfl, trivial⟩ ?_
      refine LX.next (PX.thenN (CX.block (CX.seq (CX.region ?_))))
      first
        | refine LX.pure (Y.assertYes Fp.nif77 rfl) rfl rfl rfl ?_
        | refine LX.pure (Y.assertNo Fp.nif77 rfl (by decide) Fp.zv77) rfl rfl rfl ?_
      refine LX.pure (Y.extract rfl rfl) rfl rfl rfl ?_
      refine LX.pure (Y.extract rfl rfl) rfl rfl rfl ?_
      refine LX.sub (l' := [(0, _), (2, _), (3, _), (8, _), (9, _), (28, _), (30, _), (31, _)]) ⟨rfl, rfl, rfl, rfl, rfl, rfl, rfl, rfl, trivial⟩ ?_
      refine LX.next (PX.thenN ?_)
      refine CX.cond rfl (fun hb3 => ?_) (fun hb3 => ?_)
      · try simp at hb3
        first | done | (exfalso; omega) | (exfalso; simp_all; done) | (exfalso; simp_all; omega)
      · try simp at hb3
        refine CX.seq (CX.region ?_)
        first
          | refine LX.pure (Y.assertYes Fp.nif58 rfl) rfl rfl rfl ?_
          | refine LX.pure (Y.assertNo Fp.nif58 rfl (by decide) Fp.zv58) rfl rfl rfl ?_
        refine LX.pure (Y.extract rfl rfl) rfl rfl rfl ?_
        refine LX.pure (Y.extract rfl rfl) rfl rfl rfl ?_
        refine LX.sub (l' := [(0, _), (2, _), (3, _), (8, _), (9, _), (28, _), (39, _), (40, _)]) ⟨rfl, rfl, rfl, rfl, rfl, rfl, rfl, rfl, trivial⟩ ?_
        refine LX.next (PX.thenN ?_)
        refine CX.cond rfl (fun hb4 => ?_) (fun hb4 => ?_)
        · try simp at hb4
          first | done | (exfalso; omega) | (exfalso; simp_all; done) | (exfalso; simp_all; omega)
        · try simp at hb4
          refine CX.seq (CX.region ?_)
          first
            | refine LX.pure (Y.assertYes Fp.nif62 rfl) rfl rfl rfl ?_
            | refine LX.pure (Y.assertNo Fp.nif62 rfl (by decide) Fp.zv62) rfl rfl rfl ?_
          refine LX.pure (Y.extract rfl rfl) rfl rfl rfl ?_
          refine LX.pure (Y.extract rfl rfl) rfl rfl rfl ?_
          refine LX.sub (l' := [(0, _), (2, _), (3, _), (8, _), (9, _), (28, _), (49, _), (50, _)]) ⟨rfl, rfl, rfl, rfl, rfl, rfl, rfl, rfl, trivial⟩ ?_
          refine LX.next (PX.thenN ?_)
          refine CX.cond rfl (fun hb5 => ?_) (fun hb5 => ?_)
          · try simp at hb5
            first | done | (exfalso; omega) | (exfalso; simp_all; done) | (exfalso; simp_all; omega)
          · try simp at hb5
            refine CX.seq (CX.region ?_)
            first
              | refine LX.pure (Y.assertYes Fr.nif44 rfl) rfl rfl rfl ?_
              | refine LX.pure (Y.assertNo Fr.nif44 rfl (by decide) Fr.zv44) rfl rfl rfl ?_
            refine LX.pure (Y.extract rfl rfl) rfl rfl rfl ?_
            refine LX.pure (Y.extract rfl rfl) rfl rfl rfl ?_
            refine LX.sub (l' := [(0, _), (2, _), (3, _), (8, _), (9, _), (28, _), (56, _), (57, _)]) ⟨rfl, rfl, rfl, rfl, rfl, rfl, rfl, rfl, trivial⟩ ?_
            refine LX.next (PX.thenN ?_)
            refine CX.cond rfl (fun hb6 => ?_) (fun hb6 => ?_)
            · try simp at hb6
              refine CX.seq (CX.region ?_)
              refine LX.pure (Y.assign rfl) rfl rfl rfl ?_
              refine LX.sub (l' := [(0, _), (2, _), (3, _), (8, _), (9, _), (14, _)]) ⟨rfl, rfl, rfl, rfl, rfl, rfl, trivial⟩ ?_
              refine LX.next (PX.thenN (CX.seq ?_))
              refine CX.regionM [(0, .anywhere), (1, .anywhere), (2, .anywhere), (3, .anywhere), (4, .held), (5, .anywhere), (6, .anywhere), (7, .anywhere), (8, .anywhere), (9, .held), (10, .anywhere), (11, .alone), (12, .anywhere), (13, .anywhere), (14, .anywhere), (15, .anywhere)] rfl (by kernel_rfl) ?_
              refine MX.lift0 (i := 0) rfl (Y.move rfl) rfl rfl rfl ?_
              refine MX.lift0 (i := 1) rfl (Y.move rfl) rfl rfl rfl ?_
              refine MX.lift0 (i := 2) rfl (Y.nilCheck rfl) rfl rfl rfl ?_
              first
                | refine MX.lift0 (i := 3) rfl (Y.fieldAddr0 Fr.fo74_1 rfl) rfl rfl rfl ?_
                | refine MX.lift0 (i := 3) rfl (Y.fieldAddr Fr.fo74_1 rfl) rfl rfl rfl ?_
              refine MX.lift1 (i := 4) (pend' := []) rfl (fun w hw => by first | exact hw | exact hw.1 | exact hw.drop (List.sublist_cons_self _ _) | exact hw.drop ((List.sublist_cons_self _ _).cons _)) (Y.ldO Fr.one42 rfl hc1 hq1) rfl rfl rfl (by kernel_rfl) ?_
              refine MX.lift0 (i := 5) rfl (Y.move rfl) rfl rfl rfl ?_
              refine MX.lift0 (i := 6) rfl (Y.assert1 Fr.nif44 rfl) rfl rfl rfl ?_
              refine MX.lift0 (i := 7) rfl (Y.nilCheck rfl) rfl rfl rfl ?_
              first
                | refine MX.lift0 (i := 8) rfl (Y.fieldAddr0 Fr.fo74_1 rfl) rfl rfl rfl ?_
                | refine MX.lift0 (i := 8) rfl (Y.fieldAddr Fr.fo74_1 rfl) rfl rfl rfl ?_
              refine MX.lift1 (i := 9) (pend' := [4]) rfl (fun w hw => by first | exact hw | exact hw.1 | exact hw.drop (List.sublist_cons_self _ _) | exact hw.drop ((List.sublist_cons_self _ _).cons _)) (Y.ldO Fr.one42 rfl hc2 hq2) rfl rfl rfl (by kernel_rfl) ?_
              refine MX.lift0 (i := 10) rfl (Y.move rfl) rfl rfl rfl ?_
              refine MX.force (i := 11) rfl ?_
              refine LX.call (first_c bk (L := L - 1) (by omega) c1 c2 h1 h2 l1 l2) Fr.en27 rfl rfl rfl rfl rfl ?_
              intro L2
              refine LX.nextM [] (by kernel_rfl) (fun h => absurd rfl h) ?_
              refine MX.lift0 (i := 12) rfl (Y.extract rfl rfl) rfl rfl rfl ?_
              refine MX.lift0 (i := 13) rfl (Y.extract rfl rfl) rfl rfl rfl ?_
              refine MX.lift0 (i := 14) rfl (Y.assign rfl) rfl rfl rfl ?_
              refine MX.lift0 (i := 15) rfl (Y.assign rfl) rfl rfl rfl ?_
              refine MX.sub (l' := [(8, _), (9, _)]) ⟨rfl, rfl, trivial⟩ ?_
              refine MX.done (PX.thenN (CX.ret (PX.blockR (PX.thenR ?_))))
              refine PX.ret2 (by simp) Tryz.results16 rfl rfl ?_
              exact fun w hw => ⟨L2, rfl, hw⟩
            · try simp at hb6
              first | done | (exfalso; omega) | (exfalso; simp_all; done) | (exfalso; simp_all; omega)
theorem equalL_c {w0 : World} {base : Nat} {fr : List It} (bk : Nat) {L : Int} (hL : 200 ≤ L ∧ L ≤ 5000) {t : Bool} {xs ys : List Int} {x y : Value} (hx : LsV w0 base t xs x) (hy : LsV w0 base t ys y) (l1 : xs.length ≤ 12) (l2 : ys.length ≤ 12) : FnC Tryz.prog 17 #[.pointer (some ⟨bk, 0, none⟩), x, y, .int .i64 0] (WA w0 base (blk bk [.int .i64 L] 48 :: fr)) (fun _ : Int => .tuple #[.bool (decide (kk t xs = kk t ys)), .nilIface]) (fun L2 => WA w0 base (blk bk [.int .i64 L2] 48 :: fr)) := by
  obtain ⟨p1, g1, c1, rfl, hq1, hc1, h1⟩ := hx
  obtain ⟨p2, g2, c2, rfl, hq2, hc2, h2⟩ := hy
  refine FnC.of_body (fn := Tryz.f17) [(0, _), (1, _), (2, _), (3, _)] Tryz.func17 rfl Tryz.ntmps17 rfl ⟨rfl, rfl, rfl, rfl, trivial⟩ ?_
  refine CX.seq (CX.region ?_)
  refine LX.pure (Y.assign rfl) rfl rfl rfl ?_
  refine LX.pure (Y.assign rfl) rfl rfl rfl ?_
  refine LX.sub (l' := [(0, _), (1, _), (2, _), (3, _), (8, _), (9, _)]) ⟨rfl, rfl, rfl, rfl, rfl, rfl, trivial⟩ ?_
  refine LX.next (PX.thenN (CX.seq (CX.seq (CX.region ?_))))
  refine LX.pure (Y.move rfl) rfl rfl rfl ?_
  refine LX.pure (Y.move rfl) rfl rfl rfl ?_
  refine LX.call (look_c bk (dd := 0) (by omega) (L := L) (by omega)) Fp.en25 rfl rfl rfl rfl rfl ?_
  intro _
  refine LX.pure (Y.assign rfl) rfl rfl rfl ?_
  refine LX.sub (l' := [(0, _), (1, _), (2, _), (3, _), (8, _), (9, _), (10, _)]) ⟨rfl, rfl, rfl, rfl, rfl, rfl, rfl, trivial⟩ ?_
  refine LX.next (PX.thenN (CX.seq (CX.region ?_)))
  refine LX.pure (Y.move rfl) rfl rfl rfl ?_
  first
    | refine LX.pure (Y.neNil Fp.un28 rfl rfl) rfl rfl rfl ?_
    | refine LX.pure (Y.neNilNil Fp.un28 rfl) rfl rfl rfl ?_
  refine LX.sub (l' := [(0, _), (1, _), (2, _), (3, _), (8, _), (9, _), (10, _), (25, _)]) ⟨rfl, rfl, rfl, rfl, rfl, rfl, rfl, rfl, trivial⟩ ?_
  refine LX.next (PX.thenN ?_)
  refine CX.cond rfl (fun hb1 => ?_) (fun hb1 => ?_)
  · try simp at hb1
    first | done | (exfalso; omega) | (exfalso; simp_all; done) | (exfalso; simp_all; omega)
  · try simp at hb1
    refine CX.skip (PX.thenN (CX.seq (CX.seq (CX.region ?_))))
    refine LX.pure (Y.move rfl) rfl rfl rfl ?_
    refine LX.invC (kindL_c _) rfl (fun _ => by kernel_rfl) rfl rfl rfl rfl ?_
    intro _
    refine LX.pure (Y.move rfl) rfl rfl rfl ?_
    refine LX.invC (kindL_c _) rfl (fun _ => by kernel_rfl) rfl rfl rfl rfl ?_
    intro _
    first
      | refine LX.pure (Y.neN rfl rfl) rfl rfl rfl ?_
      | refine LX.pure (Y.neI rfl rfl) rfl rfl rfl ?_
    refine LX.sub (l' := [(0, _), (1, _), (2, _), (3, _), (8, _), (9, _), (31, _)]) ⟨rfl, rfl, rfl, rfl, rfl, rfl, rfl, trivial⟩ ?_
    refine LX.next (PX.thenN ?_)
    refine CX.cond rfl (fun hb2 => ?_) (fun hb2 => ?_)
    · try simp at hb2
      first | done | (exfalso; omega) | (exfalso; simp_all; done) | (exfalso; simp_all; omega)
    · try simp at hb2
      refine CX.skip (PX.thenN (CX.seq (CX.seq (CX.region ?_))))
      refine LX.pure (Y.move rfl) rfl rfl rfl ?_
      refine LX.sub (l' := [(0, _), (1, _), (2, _), (3, _), (8, _), (9, _), (32, _)]) ⟨rfl, rfl, rfl, rfl, rfl, rfl, rfl, trivial⟩ ?_
      refine LX.next (PX.thenN (CX.block (CX.seq (CX.region ?_))))
      first
        | refine LX.pure (Y.assertYes Fp.nif84 rfl) rfl rfl rfl ?_
        | refine LX.pure (Y.assertNo Fp.nif84 rfl (by decide) Fp.zv84) rfl rfl rfl ?_
      refine LX.pure (Y.extract rfl rfl) rfl rfl rfl ?_
      refine LX.pure (Y.extract rfl rfl) rfl rfl rfl ?_
      refine LX.sub (l' := [(0, _), (1, _), (2, _), (3, _), (8, _), (9, _), (32, _), (34, _), (35, _)]) ⟨rfl, rfl, rfl, rfl, rfl, rfl, rfl, rfl, rfl, trivial⟩ ?_
      refine LX.next (PX.thenN ?_)
      refine CX.cond rfl (fun hb3 => ?_) (fun hb3 => ?_)
      · try simp at hb3
        first | done | (exfalso; omega) | (exfalso; simp_all; done) | (exfalso; simp_all; omega)
      · try simp at hb3
        refine CX.seq (CX.region ?_)
        first
          | refine LX.pure (Y.assertYes Fp.nif77 rfl) rfl rfl rfl ?_
          | refine LX.pure (Y.assertNo Fp.nif77 rfl (by decide) Fp.zv77) rfl rfl rfl ?_
        refine LX.pure (Y.extract rfl rfl) rfl rfl rfl ?_
        refine LX.pure (Y.extract rfl rfl) rfl rfl rfl ?_
        refine LX.sub (l' := [(0, _), (1, _), (2, _), (3, _), (8, _), (9, _), (32, _), (37, _), (38, _)]) ⟨rfl, rfl, rfl, rfl, rfl, rfl, rfl, rfl, rfl, trivial⟩ ?_
        refine LX.next (PX.thenN ?_)
        refine CX.cond rfl (fun hb4 => ?_) (fun hb4 => ?_)
        · try simp at hb4
          first | done | (exfalso; omega) | (exfalso; simp_all; done) | (exfalso; simp_all; omega)
        · try simp at hb4
          refine CX.seq (CX.region ?_)
          first
            | refine LX.pure (Y.assertYes Fp.nif58 rfl) rfl rfl rfl ?_
            | refine LX.pure (Y.assertNo Fp.nif58 rfl (by decide) Fp.zv58) rfl rfl rfl ?_
          refine LX.pure (Y.extract rfl rfl) rfl rfl rfl ?_
          refine LX.pure (Y.extract rfl rfl) rfl rfl rfl ?_
          refine LX.sub (l' := [(0, _), (1, _), (2, _), (3, _), (8, _), (9, _), (32, _), (44, _), (45, _)]) ⟨rfl, rfl, rfl, rfl, rfl, rfl, rfl, rfl, rfl, trivial⟩ ?_
          refine LX.next (PX.thenN ?_)
          refine CX.cond rfl (fun hb5 => ?_) (fun hb5 => ?_)
          · try simp at hb5
            first | done | (exfalso; omega) | (exfalso; simp_all; done) | (exfalso; simp_all; omega)
          · try simp at hb5
            refine CX.seq (CX.region ?_)
            first
              | refine LX.pure (Y.assertYes Fp.nif62 rfl) rfl rfl rfl ?_
              | refine LX.pure (Y.assertNo Fp.nif62 rfl (by decide) Fp.zv62) rfl rfl rfl ?_
            refine LX.pure (Y.extract rfl rfl) rfl rfl rfl ?_
            refine LX.pure (Y.extract rfl rfl) rfl rfl rfl ?_
            refine LX.sub (l' := [(0, _), (1, _), (2, _), (3, _), (8, _), (9, _), (32, _), (54, _), (55, _)]) ⟨rfl, rfl, rfl, rfl, rfl, rfl, rfl, rfl, rfl, trivial⟩ ?_
            refine LX.next (PX.thenN ?_)
            refine CX.cond rfl (fun hb6 => ?_) (fun hb6 => ?_)
            · try simp at hb6
              first | done | (exfalso; omega) | (exfalso; simp_all; done) | (exfalso; simp_all; omega)
            · try simp at hb6
              refine CX.seq (CX.region ?_)
              first
                | refine LX.pure (Y.assertYes Fr.nif44 rfl) rfl rfl rfl ?_
                | refine LX.pure (Y.assertNo Fr.nif44 rfl (by decide) Fr.zv44) rfl rfl rfl ?_
              refine LX.pure (Y.extract rfl rfl) rfl rfl rfl ?_
              refine LX.pure (Y.extract rfl rfl) rfl rfl rfl ?_
              refine LX.sub (l' := [(0, _), (1, _), (2, _), (3, _), (8, _), (9, _), (32, _), (61, _), (62, _)]) ⟨rfl, rfl, rfl, rfl, rfl, rfl, rfl, rfl, rfl, trivial⟩ ?_
              refine LX.next (PX.thenN ?_)
              refine CX.cond rfl (fun hb7 => ?_) (fun hb7 => ?_)
              · try simp at hb7
                refine CX.seq (CX.region ?_)
                refine LX.pure (Y.assign rfl) rfl rfl rfl ?_
                refine LX.sub (l' := [(0, _), (1, _), (2, _), (3, _), (8, _), (9, _), (15, _)]) ⟨rfl, rfl, rfl, rfl, rfl, rfl, rfl, trivial⟩ ?_
                refine LX.next (PX.thenN (CX.seq ?_))
                refine CX.regionM [(0, .anywhere), (1, .anywhere), (2, .anywhere), (3, .anywhere), (4, .held), (5, .anywhere), (6, .anywhere), (7, .anywhere), (8, .anywhere), (9, .held), (10, .anywhere), (11, .alone), (12, .anywhere), (13, .anywhere), (14, .anywhere), (15, .anywhere)] rfl (by kernel_rfl) ?_
                refine MX.lift0 (i := 0) rfl (Y.move rfl) rfl rfl rfl ?_
                refine MX.lift0 (i := 1) rfl (Y.move rfl) rfl rfl rfl ?_
                refine MX.lift0 (i := 2) rfl (Y.nilCheck rfl) rfl rfl rfl ?_
                first
                  | refine MX.lift0 (i := 3) rfl (Y.fieldAddr0 Fr.fo74_1 rfl) rfl rfl rfl ?_
                  | refine MX.lift0 (i := 3) rfl (Y.fieldAddr Fr.fo74_1 rfl) rfl rfl rfl ?_
                refine MX.lift1 (i := 4) (pend' := []) rfl (fun w hw => by first | exact hw | exact hw.1 | exact hw.drop (List.sublist_cons_self _ _) | exact hw.drop ((List.sublist_cons_self _ _).cons _)) (Y.ldO Fr.one42 rfl hc1 hq1) rfl rfl rfl (by kernel_rfl) ?_
                refine MX.lift0 (i := 5) rfl (Y.move rfl) rfl rfl rfl ?_
                refine MX.lift0 (i := 6) rfl (Y.assert1 Fr.nif44 rfl) rfl rfl rfl ?_
                refine MX.lift0 (i := 7) rfl (Y.nilCheck rfl) rfl rfl rfl ?_
                first
                  | refine MX.lift0 (i := 8) rfl (Y.fieldAddr0 Fr.fo74_1 rfl) rfl rfl rfl ?_
                  | refine MX.lift0 (i := 8) rfl (Y.fieldAddr Fr.fo74_1 rfl) rfl rfl rfl ?_
                refine MX.lift1 (i := 9) (pend' := [4]) rfl (fun w hw => by first | exact hw | exact hw.1 | exact hw.drop (List.sublist_cons_self _ _) | exact hw.drop ((List.sublist_cons_self _ _).cons _)) (Y.ldO Fr.one42 rfl hc2 hq2) rfl rfl rfl (by kernel_rfl) ?_
                refine MX.lift0 (i := 10) rfl (Y.move rfl) rfl rfl rfl ?_
                refine MX.force (i := 11) rfl ?_
                refine LX.call (all_c bk (L := L - 1) (by omega) c1 c2 h1 h2 l1 l2) Fr.en28 rfl rfl rfl rfl rfl ?_
                intro L2
                refine LX.nextM [] (by kernel_rfl) (fun h => absurd rfl h) ?_
                refine MX.lift0 (i := 12) rfl (Y.extract rfl rfl) rfl rfl rfl ?_
                refine MX.lift0 (i := 13) rfl (Y.extract rfl rfl) rfl rfl rfl ?_
                refine MX.lift0 (i := 14) rfl (Y.assign rfl) rfl rfl rfl ?_
                refine MX.lift0 (i := 15) rfl (Y.assign rfl) rfl rfl rfl ?_
                refine MX.sub (l' := [(1, _), (2, _), (8, _), (9, _)]) ⟨rfl, rfl, rfl, rfl, trivial⟩ ?_
                refine MX.done (PX.thenN (CX.ret (PX.blockR (PX.thenR ?_))))
                refine PX.ret2 (by simp) Tryz.results17 rfl rfl ?_
                exact fun w hw => ⟨L2, rfl, hw⟩
              · try simp at hb7
                first | done | (exfalso; omega) | (exfalso; simp_all; done) | (exfalso; simp_all; omega)
theorem Less_c {w0 : World} {base : Nat} {fr : List It} {t : Bool} {xs ys : List Int} {x y : Value} (hx : LsV w0 base t xs x) (hy : LsV w0 base t ys y) (l1 : xs.length ≤ 12) (l2 : ys.length ≤ 12) : FnC Tryz.prog 6 #[x, y] (WA w0 base fr) (fun _ : Unit => .tuple #[.bool (lexLt (kk t xs) (kk t ys)), .nilIface]) (fun _ => WA w0 base fr) := by
  refine FnC.of_body (fn := Tryz.f6) [(0, _), (1, _)] Tryz.func6 rfl Tryz.ntmps6 rfl ⟨rfl, rfl, trivial⟩ ?_
  refine CX.seq (CX.region ?_)
  refine LX.pure (Y.assign rfl) rfl rfl rfl ?_
  refine LX.pure (Y.assign rfl) rfl rfl rfl ?_
  refine LX.sub (l' := [(0, _), (1, _), (4, _), (5, _)]) ⟨rfl, rfl, rfl, rfl, trivial⟩ ?_
  refine LX.next (PX.thenN (CX.seq (CX.region ?_)))
  refine LX.pure (Y.build (v := .agg #[.int .i64 4096]) rfl (fun _ => by kernel_rfl)) rfl rfl rfl ?_
  refine LX.box rfl rfl rfl rfl rfl ?_
  intro bx3
  refine LX.pure (Y.assign rfl) rfl rfl rfl ?_
  refine LX.sub (l' := [(0, _), (1, _), (4, _), (5, _), (6, _)]) ⟨rfl, rfl, rfl, rfl, rfl, trivial⟩ ?_
  refine LX.next (PX.thenN (CX.seq (CX.region ?_)))
  refine LX.pure (Y.move rfl) rfl rfl rfl ?_
  refine LX.pure (Y.move rfl) rfl rfl rfl ?_
  refine LX.pure (Y.move rfl) rfl rfl rfl ?_
  refine LX.call (lessL_c bx3 (L := 4096) (by omega) hx hy l1 l2) Fp.en16 rfl rfl rfl rfl rfl ?_
  intro L2
  refine LX.pure (Y.extract rfl rfl) rfl rfl rfl ?_
  refine LX.pure (Y.extract rfl rfl) rfl rfl rfl ?_
  refine LX.pure (Y.assign rfl) rfl rfl rfl ?_
  refine LX.pure (Y.assign rfl) rfl rfl rfl ?_
  refine LX.sub (l' := [(4, _), (5, _)]) ⟨rfl, rfl, trivial⟩ ?_
  refine LX.next (PX.thenN (CX.ret ?_))
  refine PX.ret2 (by simp) Tryz.results6 rfl rfl ?_
  exact fun w hw => ⟨(), rfl, hw.drop (List.sublist_cons_self _ _)⟩
theorem Equal_c {w0 : World} {base : Nat} {fr : List It} {t : Bool} {xs ys : List Int} {x y : Value} (hx : LsV w0 base t xs x) (hy : LsV w0 base t ys y) (l1 : xs.length ≤ 12) (l2 : ys.length ≤ 12) : FnC Tryz.prog 7 #[x, y] (WA w0 base fr) (fun _ : Unit => .tuple #[.bool (decide (kk t xs = kk t ys)), .nilIface]) (fun _ => WA w0 base fr) := by
  refine FnC.of_body (fn := Tryz.f7) [(0, _), (1, _)] Tryz.func7 rfl Tryz.ntmps7 rfl ⟨rfl, rfl, trivial⟩ ?_
  refine CX.seq (CX.region ?_)
  refine LX.pure (Y.assign rfl) rfl rfl rfl ?_
  refine LX.pure (Y.assign rfl) rfl rfl rfl ?_
  refine LX.sub (l' := [(0, _), (1, _), (4, _), (5, _)]) ⟨rfl, rfl, rfl, rfl, trivial⟩ ?_
  refine LX.next (PX.thenN (CX.seq (CX.region ?_)))
  refine LX.pure (Y.build (v := .agg #[.int .i64 4096]) rfl (fun _ => by kernel_rfl)) rfl rfl rfl ?_
  refine LX.box rfl rfl rfl rfl rfl ?_
  intro bx3
  refine LX.pure (Y.assign rfl) rfl rfl rfl ?_
  refine LX.sub (l' := [(0, _), (1, _), (4, _), (5, _), (6, _)]) ⟨rfl, rfl, rfl, rfl, rfl, trivial⟩ ?_
  refine LX.next (PX.thenN (CX.seq (CX.region ?_)))
  refine LX.pure (Y.move rfl) rfl rfl rfl ?_
  refine LX.pure (Y.move rfl) rfl rfl rfl ?_
  refine LX.pure (Y.move rfl) rfl rfl rfl ?_
  refine LX.call (equalL_c bx3 (L := 4096) (by omega) hx hy l1 l2) Fp.en17 rfl rfl rfl rfl rfl ?_
  intro L2
  refine LX.pure (Y.extract rfl rfl) rfl rfl rfl ?_
  refine LX.pure (Y.extract rfl rfl) rfl rfl rfl ?_
  refine LX.pure (Y.assign rfl) rfl rfl rfl ?_
  refine LX.pure (Y.assign rfl) rfl rfl rfl ?_
  refine LX.sub (l' := [(4, _), (5, _)]) ⟨rfl, rfl, trivial⟩ ?_
  refine LX.next (PX.thenN (CX.ret ?_))
  refine PX.ret2 (by simp) Tryz.results7 rfl rfl ?_
  exact fun w hw => ⟨(), rfl, hw.drop (List.sublist_cons_self _ _)⟩
theorem made_c {w0 : World} {base : Nat} {fr : List It} (ng : Bool) (g : Option Nat) (c n : Nat) (l : List Nat) (hn : l.length = n) (h3 : n ≤ 3) (ht : 0 < n → l.getD (n - 1) 0 ≠ 0) : FnC Tryz.prog 20 #[.bool ng, rv g n c] (WA w0 base (.row g c n 60 1 (dv l) :: fr)) (fun _ : Unit => .agg #[.bool (ng && decide (0 < n)), rv g n c]) (fun _ => WA w0 base (.row g c n 60 1 (dv l) :: fr)) := by
  refine FnC.of_body (fn := Tryz.f20) [(0, _), (1, _)] Tryz.func20 rfl Tryz.ntmps20 rfl ⟨rfl, rfl, trivial⟩ ?_
  refine CX.seq (CX.region ?_)
  refine LX.alloc rfl Fr.zv37 rfl rfl rfl ?_
  intro bx0
  refine LX.sub (l' := [(0, _), (1, _), (4, _)]) ⟨rfl, rfl, rfl, trivial⟩ ?_
  refine LX.next (PX.thenN (CX.seq (CX.block ?_)))
  refine CX.loop (fun _ : Unit => [(0, .bool ng), (1, rv g n c), (4, .pointer (some ⟨bx0, 0, none⟩))]) (fun (_ : Unit) w => WA w0 base (blk bx0 (Value.agg #[.bool false, .slice none 0 0]).cells.toList 37 :: .row g c n 60 1 (dv l) :: fr) w) (fun _ => 0) () ⟨rfl, rfl, rfl, trivial⟩ (fun w hw => hw) ?_
  intro _
  refine CX.seq (CX.seq (CX.region ?_))
  refine LX.pure (Y.move rfl) rfl rfl rfl ?_
  refine LX.pure (Y.lenSl rfl Fo.un35 rfl) rfl rfl rfl ?_
  first
    | refine LX.pure (Y.gtN rfl rfl) rfl rfl rfl ?_
    | refine LX.pure (Y.gtI rfl rfl) rfl rfl rfl ?_
  refine LX.pure (Y.move rfl) rfl rfl rfl ?_
  refine LX.sub (l' := [(0, _), (1, _), (4, _), (8, _)]) ⟨rfl, rfl, rfl, rfl, trivial⟩ ?_
  apply LX.joinAnd 8 16 8 rfl
  · intro hb1
    have hb1p := hb1
    try simp at hb1p
    refine LX.gT rfl rfl rfl hb1 (Y.move rfl) rfl rfl ?_
    refine LX.gT rfl rfl rfl hb1 (Y.move rfl) rfl rfl ?_
    refine LX.gT rfl rfl rfl hb1 (Y.lenSl rfl Fo.un35 rfl) rfl rfl ?_
    refine LX.gT rfl rfl rfl hb1 (Y.subN (a := n) (b := 1) rfl rfl (by omega) (by omega)) rfl rfl ?_
    refine LX.gT rfl rfl rfl hb1 (Y.idxR1 1 Fo.un35 Fo.sz60 rfl rfl rfl (by omega)) rfl rfl ?_
    refine LX.gT rfl rfl rfl hb1 (Y.ldR 1 Fo.one60 rfl rfl (dv_at (l := l) (i := n - 1) (by omega))) rfl rfl ?_
    first
      | refine LX.gT rfl rfl rfl hb1 (Y.eqN rfl rfl) rfl rfl ?_
      | refine LX.gT rfl rfl rfl hb1 (Y.eqI rfl rfl) rfl rfl ?_
    refine LX.pure (Y.pickT rfl hb1 rfl) rfl rfl rfl ?_
    exact LX.left ⟨rfl, rfl, rfl, rfl, rfl, trivial⟩
  · intro hb1
    have hb1p := hb1
    try simp at hb1p
    refine LX.gF rfl rfl rfl hb1 rfl rfl ?_
    refine LX.gF rfl rfl rfl hb1 rfl rfl ?_
    refine LX.gF rfl rfl rfl hb1 rfl rfl ?_
    refine LX.gF rfl rfl rfl hb1 rfl rfl ?_
    refine LX.gF rfl rfl rfl hb1 rfl rfl ?_
    refine LX.gF rfl rfl rfl hb1 rfl rfl ?_
    refine LX.gF rfl rfl rfl hb1 rfl rfl ?_
    refine LX.pure (Y.pickF rfl hb1 rfl) rfl rfl rfl ?_
    exact LX.left ⟨rfl, rfl, rfl, rfl, rfl, trivial⟩
  refine LX.sub (l' := [(0, _), (1, _), (4, _), (16, _)]) ⟨rfl, rfl, rfl, rfl, trivial⟩ ?_
  refine LX.next (PX.thenN ?_)
  refine CX.cond rfl (fun hb2 => ?_) (fun hb2 => ?_)
  · try simp at hb2
    first | done | (exfalso; simp_all; done) | (exfalso; simp_all; omega)
  · try simp at hb2
    refine CX.exit (PX.thenE (PX.thenE (PX.blockE (PX.thenN (CX.seq (CX.region ?_))))))
    refine LX.pure (Y.move rfl) rfl rfl rfl ?_
    refine LX.pure (Y.move rfl) rfl rfl rfl ?_
    refine LX.sub (l' := [(1, _), (4, _), (23, _)]) ⟨rfl, rfl, rfl, trivial⟩ ?_
    apply LX.joinAnd 4 27 23 rfl
    · intro hb3
      have hb3p := hb3
      try simp at hb3p
      refine LX.gT rfl rfl rfl hb3 (Y.move rfl) rfl rfl ?_
      refine LX.gT rfl rfl rfl hb3 (Y.lenSl rfl Fo.un35 rfl) rfl rfl ?_
      first
        | refine LX.gT rfl rfl rfl hb3 (Y.gtN rfl rfl) rfl rfl ?_
        | refine LX.gT rfl rfl rfl hb3 (Y.gtI rfl rfl) rfl rfl ?_
      refine LX.pure (Y.pickT rfl hb3 rfl) rfl rfl rfl ?_
      exact LX.left ⟨rfl, rfl, rfl, rfl, trivial⟩
    · intro hb3
      have hb3p := hb3
      try simp at hb3p
      refine LX.gF rfl rfl rfl hb3 rfl rfl ?_
      refine LX.gF rfl rfl rfl hb3 rfl rfl ?_
      refine LX.gF rfl rfl rfl hb3 rfl rfl ?_
      refine LX.pure (Y.pickF rfl hb3 rfl) rfl rfl rfl ?_
      exact LX.left ⟨rfl, rfl, rfl, rfl, trivial⟩
    refine LX.pure (Y.move rfl) rfl rfl rfl ?_
    refine LX.pure (Y.build (v := .agg #[.bool (ng && decide (0 < n)), rv g n c]) rfl (fun _ => by kernel_rfl)) rfl rfl rfl ?_
    first
      | refine LX.storeA 0 Fp.ag37 rfl rfl rfl rfl rfl rfl rfl rfl rfl ?_
      | refine LX.storeA 1 Fp.ag37 rfl rfl rfl rfl rfl rfl rfl rfl rfl ?_
      | refine LX.storeA 2 Fp.ag37 rfl rfl rfl rfl rfl rfl rfl rfl rfl ?_
    refine LX.sub (l' := [(4, _)]) ⟨rfl, trivial⟩ ?_
    refine LX.next (PX.thenN (CX.ret ?_))
    first
      | refine PX.retA (i := 0) (by simp) Tryz.results20 Fp.ag37 rfl rfl rfl ?_
      | refine PX.retA (i := 1) (by simp) Tryz.results20 Fp.ag37 rfl rfl rfl ?_
      | refine PX.retA (i := 2) (by simp) Tryz.results20 Fp.ag37 rfl rfl rfl ?_
    exact fun w hw => ⟨(), by first | rfl | (simp_all; done) | (cases ng <;> simp_all; done), hw.drop (List.sublist_cons_self _ _)⟩
theorem number_c {w0 : World} {base : Nat} {fr : List It} (z : Int) : FnC Tryz.prog 14 #[.int .i64 z, .int .i64 9] (WA w0 base fr) (fun _ : Unit => .int .i64 (((nm9 z).toNat : Nat) : Int)) (fun _ => WA w0 base fr) := by
  have h9 := tmod9 z
  have h8 := nm9_in z
  refine FnC.of_body (fn := Tryz.f14) [(0, _), (1, _)] Tryz.func14 rfl Tryz.ntmps14 rfl ⟨rfl, rfl, trivial⟩ ?_
  refine CX.seq (CX.region ?_)
  refine LX.pure (Y.assign rfl) rfl rfl rfl ?_
  refine LX.sub (l' := [(0, _), (1, _), (4, _)]) ⟨rfl, rfl, rfl, trivial⟩ ?_
  refine LX.next (PX.thenN (CX.seq (CX.region ?_)))
  refine LX.pure (Y.move rfl) rfl rfl rfl ?_
  refine LX.pure (Y.move rfl) rfl rfl rfl ?_
  refine LX.pure (Y.rem rfl rfl (by decide)) rfl rfl rfl ?_
  refine LX.pure (Y.move rfl) rfl rfl rfl ?_
  refine LX.pure (Y.add (a := z.tmod 9) (b := 9) rfl rfl (by omega)) rfl rfl rfl ?_
  refine LX.pure (Y.move rfl) rfl rfl rfl ?_
  refine LX.pure (Y.rem (a := z.tmod 9 + 9) rfl rfl (by decide)) rfl rfl rfl ?_
  refine LX.pure (Y.assign rfl) rfl rfl rfl ?_
  refine LX.sub (l' := [(4, _)]) ⟨rfl, trivial⟩ ?_
  refine LX.next (PX.thenN (CX.ret ?_))
  refine PX.ret1 (by simp) Tryz.results14 rfl ?_
  exact fun w hw => ⟨(), by rw [show (((nm9 z).toNat : Nat) : Int) = nm9 z by omega]; rfl, hw⟩
theorem int_c {w0 : World} {base : Nat} {fr : List It} (z : Int) (g : Option Nat) (c : Nat) : FnC Tryz.prog 9 #[numV z g c] (WA w0 base fr) (fun _ : Unit => .iface 58 (numV z g c)) (fun _ => WA w0 base fr) := by
  refine FnC.of_body (fn := Tryz.f9) [(0, _)] Tryz.func9 rfl Tryz.ntmps9 rfl ⟨rfl, trivial⟩ ?_
  refine CX.seq (CX.region ?_)
  refine LX.box rfl rfl rfl rfl rfl ?_
  intro bx0
  refine LX.pure (Y.assign rfl) rfl rfl rfl ?_
  refine LX.sub (l' := [(1, _), (2, _)]) ⟨rfl, rfl, trivial⟩ ?_
  refine LX.next (PX.thenN (CX.seq (CX.region ?_)))
  refine LX.pure (Y.ldAggB (vs := [.bool (decide (z < 0)), rv g (digs z.natAbs).length c]) 0 Fp.ag37 rfl rfl rfl rfl) rfl rfl rfl ?_
  refine LX.pure (Y.build (v := numV z g c) rfl (fun _ => by kernel_rfl)) rfl rfl rfl ?_
  refine LX.pure (Y.mkI Fr.ni58 rfl) rfl rfl rfl ?_
  refine LX.pure (Y.assign rfl) rfl rfl rfl ?_
  refine LX.sub (l' := [(2, _)]) ⟨rfl, trivial⟩ ?_
  refine LX.next (PX.thenN (CX.ret ?_))
  refine PX.ret1 (by simp) Tryz.results9 rfl ?_
  exact fun w hw => ⟨(), rfl, hw.drop (List.sublist_cons_self _ _)⟩
theorem str_c {w0 : World} {base : Nat} {fr : List It} (a : List UInt8) : FnC Tryz.prog 11 #[str a] (WA w0 base fr) (fun _ : Unit => .iface 62 (str a)) (fun _ => WA w0 base fr) := by
  refine FnC.of_body (fn := Tryz.f11) [(0, _)] Tryz.func11 rfl Tryz.ntmps11 rfl ⟨rfl, trivial⟩ ?_
  refine CX.seq (CX.region ?_)
  refine LX.pure (Y.assign rfl) rfl rfl rfl ?_
  refine LX.sub (l' := [(0, _), (2, _)]) ⟨rfl, rfl, trivial⟩ ?_
  refine LX.next (PX.thenN (CX.seq (CX.region ?_)))
  refine LX.pure (Y.move rfl) rfl rfl rfl ?_
  refine LX.pure (Y.mkI Fr.ni62 rfl) rfl rfl rfl ?_
  refine LX.pure (Y.assign rfl) rfl rfl rfl ?_
  refine LX.sub (l' := [(2, _)]) ⟨rfl, trivial⟩ ?_
  refine LX.next (PX.thenN (CX.ret ?_))
  refine PX.ret1 (by simp) Tryz.results11 rfl ?_
  exact fun w hw => ⟨(), rfl, hw⟩
theorem of_c {w0 : World} {base : Nat} {fr : List It} {x : Int} (hx : -9223372036854775808 ≤ x ∧ x ≤ 9223372036854775807) : FnC Tryz.prog 10 #[.int .i64 x] (WA w0 base fr) (fun r : Option Nat × Nat => numV x r.1 r.2) (fun r => WA w0 base (.row r.1 r.2 (digs x.natAbs).length 60 1 (dv (digs x.natAbs)) :: fr)) := by
  refine FnC.of_body (fn := Tryz.f10) [(0, _)] Tryz.func10 rfl Tryz.ntmps10 rfl ⟨rfl, trivial⟩ ?_
  refine CX.seq (CX.region ?_)
  refine LX.alloc rfl Fr.zv37 rfl rfl rfl ?_
  intro bx0
  refine LX.sub (l' := [(0, _), (2, _)]) ⟨rfl, rfl, trivial⟩ ?_
  refine LX.next (PX.thenN (CX.seq (CX.region ?_)))
  refine LX.pure (Y.move rfl) rfl rfl rfl ?_
  refine LX.pure (Y.convW rfl Fr.un2 Fr.un59) rfl rfl rfl ?_
  refine LX.pure (Y.assign rfl) rfl rfl rfl ?_
  refine LX.sub (l' := [(0, _), (2, _), (3, _)]) ⟨rfl, rfl, rfl, trivial⟩ ?_
  refine LX.next (PX.thenN ?_)
  refine CX.seqM (τ := Unit) (fun _ : Unit => [(0, .int .i64 x), (2, .pointer (some ⟨bx0, 0, none⟩)), (3, .int .u64 ((x.natAbs : Nat) : Int))]) (fun (_ : Unit) w => WA w0 base (blk bx0 (Value.agg #[.bool false, .slice none 0 0]).cells.toList 37 :: fr) w) ?_ ?_
  ·
    refine CX.seq (CX.region ?_)
    refine LX.pure (Y.move rfl) rfl rfl rfl ?_
    first
      | refine LX.pure (Y.ltN rfl rfl) rfl rfl rfl ?_
      | refine LX.pure (Y.ltI rfl rfl) rfl rfl rfl ?_
    refine LX.sub (l' := [(0, _), (2, _), (3, _), (8, _)]) ⟨rfl, rfl, rfl, rfl, trivial⟩ ?_
    refine LX.next (PX.thenN ?_)
    refine CX.cond rfl (fun hb1 => ?_) (fun hb1 => ?_)
    · try simp at hb1
      refine CX.region ?_
      refine LX.pure (Y.move rfl) rfl rfl rfl ?_
      refine LX.pure (Y.neg rfl) rfl rfl rfl ?_
      refine LX.pure (Y.assign rfl) rfl rfl rfl ?_
      refine LX.sub (l' := [(0, _), (2, _), (3, _)]) ⟨rfl, rfl, rfl, trivial⟩ ?_
      refine LX.next ?_
      exact PX.seam () ⟨rfl, rfl, congrArg (fun z => some (Value.int .u64 z)) (abs_neg (by omega) hx.1), trivial⟩ (fun w hw => hw)
    · try simp at hb1
      refine CX.skip ?_
      exact PX.seam () ⟨rfl, rfl, congrArg (fun z => some (Value.int .u64 z)) (abs_pos (by omega) hx.2), trivial⟩ (fun w hw => hw)
  intro _
  refine CX.seq (CX.region ?_)
  refine LX.pure (Y.assign rfl) rfl rfl rfl ?_
  refine LX.sub (l' := [(0, _), (2, _), (3, _), (4, _)]) ⟨rfl, rfl, rfl, rfl, trivial⟩ ?_
  refine LX.next (PX.thenN (CX.seq (CX.block ?_)))
  refine CX.loop (fun s : Nat × List Nat × Option Nat × Nat => [(0, .int .i64 x), (2, .pointer (some ⟨bx0, 0, none⟩)), (3, .int .u64 ((s.1 : Nat) : Int)), (4, rv s.2.2.1 s.2.1.length s.2.2.2)]) (fun (s : Nat × List Nat × Option Nat × Nat) w => (digs x.natAbs = s.2.1 ++ digs s.1 ∧ s.1 < 18446744073709551616) ∧ WA w0 base (.row s.2.2.1 s.2.2.2 s.2.1.length 60 1 (dv s.2.1) :: blk bx0 (Value.agg #[.bool false, .slice none 0 0]).cells.toList 37 :: fr) w) (fun s => s.1) (x.natAbs, [], none, 0) ⟨rfl, rfl, rfl, rfl, trivial⟩ (fun w hw => ⟨⟨rfl, by show x.natAbs < _; omega⟩, hw.nilRow 60 1⟩) ?_
  rintro ⟨u, l, g, cap⟩
  refine CX.have fun ⟨hdu, hu64⟩ => ?_
  try dsimp only at hdu hu64 ⊢
  have hl3 : l.length ≤ 3 := by have := digs_len (u := x.natAbs) (by omega); rw [hdu, List.length_append] at this; omega
  refine CX.seq (CX.seq (CX.region ?_))
  refine LX.pure (Y.move rfl) rfl rfl rfl ?_
  first
    | refine LX.pure (Y.gtN rfl rfl) rfl rfl rfl ?_
    | refine LX.pure (Y.gtI rfl rfl) rfl rfl rfl ?_
  refine LX.sub (l' := [(0, _), (2, _), (3, _), (4, _), (12, _)]) ⟨rfl, rfl, rfl, rfl, rfl, trivial⟩ ?_
  refine LX.next (PX.thenN ?_)
  refine CX.cond rfl (fun hb2 => ?_) (fun hb2 => ?_)
  · try simp at hb2
    refine CX.skip (PX.thenN (CX.seq (CX.block (CX.region ?_))))
    refine LX.pure (Y.move rfl) rfl rfl rfl ?_
    refine LX.pure (Y.move rfl) rfl rfl rfl ?_
    refine LX.pure (Y.remK (a := u) (b := 1000000000) rfl rfl (by decide)) rfl rfl rfl ?_
    refine LX.pure (Y.convN rfl Fr.un59 Fo.un60 (wrap_u32 (by omega))) rfl rfl rfl ?_
    refine LX.buildSlice (e := 60) (size := 1) rfl rfl (fun _ => by kernel_rfl) rfl (by decide) rfl rfl rfl ?_
    intro gt16
    first
      | refine LX.appendT 0 Fr.el35 rfl rfl rfl rfl rfl rfl rfl (by first | omega | (dsimp only; omega)) (by first | omega | (dsimp only; omega)) rfl rfl rfl ?_
      | refine LX.appendT 1 Fr.el35 rfl rfl rfl rfl rfl rfl rfl (by first | omega | (dsimp only; omega)) (by first | omega | (dsimp only; omega)) rfl rfl rfl ?_
      | refine LX.appendT 2 Fr.el35 rfl rfl rfl rfl rfl rfl rfl (by first | omega | (dsimp only; omega)) (by first | omega | (dsimp only; omega)) rfl rfl rfl ?_
    intro g' cap'
    refine LX.pure (Y.assign rfl) rfl rfl rfl ?_
    refine LX.sub (l' := [(0, _), (2, _), (3, _), (4, _)]) ⟨rfl, rfl, rfl, rfl, trivial⟩ ?_
    refine LX.next (PX.blockN (PX.thenN (CX.region ?_)))
    refine LX.pure (Y.move rfl) rfl rfl rfl ?_
    refine LX.pure (Y.quoK (a := u) (b := 1000000000) rfl rfl (by decide) (wrap_u64 (by omega))) rfl rfl rfl ?_
    refine LX.pure (Y.assign rfl) rfl rfl rfl ?_
    refine LX.sub (l' := [(0, _), (2, _), (3, _), (4, _)]) ⟨rfl, rfl, rfl, rfl, trivial⟩ ?_
    refine LX.next ?_
    exact PX.again (L := (fun s : Nat × List Nat × Option Nat × Nat => [(0, .int .i64 x), (2, .pointer (some ⟨bx0, 0, none⟩)), (3, .int .u64 ((s.1 : Nat) : Int)), (4, rv s.2.2.1 s.2.1.length s.2.2.2)])) (WW := (fun (s : Nat × List Nat × Option Nat × Nat) w => (digs x.natAbs = s.2.1 ++ digs s.1 ∧ s.1 < 18446744073709551616) ∧ WA w0 base (.row s.2.2.1 s.2.2.2 s.2.1.length 60 1 (dv s.2.1) :: blk bx0 (Value.agg #[.bool false, .slice none 0 0]).cells.toList 37 :: fr) w)) (μ := fun s => s.1) (i := (u, l, g, cap)) (u / 1000000000, l ++ [u % 1000000000], g', cap') (by show u / 1000000000 < u; exact Nat.div_lt_self (by omega) (by decide)) ⟨rfl, rfl, rfl, by show _ = some (rv g' (l ++ [_]).length cap'); rw [List.length_append]; rfl, trivial⟩ (fun w hw => ⟨⟨by show _ = (l ++ [_]) ++ digs _; rw [hdu, digs_pos (by omega), List.append_assoc]; rfl, by show u / 1000000000 < _; omega⟩, by simpa [dv, flat, Value.cells] using hw⟩)
  · try simp at hb2
    have hu0 : u = 0 := by omega
    subst hu0
    rw [digs_0, List.append_nil] at hdu
    subst hdu
    have hng : (decide (x < 0) && decide (0 < (digs x.natAbs).length)) = decide (x < 0) := by
      by_cases h : x < 0
      · rw [decide_eq_true (List.length_pos_iff.2 (digs_ne (by omega))), Bool.and_true]
      · rw [decide_eq_false h, Bool.false_and]
    refine CX.exit (PX.thenE (PX.thenE (PX.blockE (PX.thenN (CX.seq (CX.region ?_))))))
    refine LX.pure (Y.move rfl) rfl rfl rfl ?_
    first
      | refine LX.pure (Y.ltN rfl rfl) rfl rfl rfl ?_
      | refine LX.pure (Y.ltI rfl rfl) rfl rfl rfl ?_
    refine LX.pure (Y.move rfl) rfl rfl rfl ?_
    refine LX.call (made_c (decide (x < 0)) g cap _ (digs x.natAbs) rfl hl3 (digs_top _)) Fr.en20 rfl rfl rfl rfl rfl ?_
    intro _
    first
      | refine LX.storeA 0 Fp.ag37 rfl rfl rfl rfl rfl rfl rfl rfl rfl ?_
      | refine LX.storeA 1 Fp.ag37 rfl rfl rfl rfl rfl rfl rfl rfl rfl ?_
      | refine LX.storeA 2 Fp.ag37 rfl rfl rfl rfl rfl rfl rfl rfl rfl ?_
    refine LX.sub (l' := [(2, _)]) ⟨rfl, trivial⟩ ?_
    refine LX.next (PX.thenN (CX.ret ?_))
    first
      | refine PX.retA (i := 0) (by simp) Tryz.results10 Fp.ag37 rfl rfl rfl ?_
      | refine PX.retA (i := 1) (by simp) Tryz.results10 Fp.ag37 rfl rfl rfl ?_
      | refine PX.retA (i := 2) (by simp) Tryz.results10 Fp.ag37 rfl rfl rfl ?_
    exact fun w hw => ⟨(g, cap), by rw [hng]; rfl, hw.drop (((List.Sublist.refl fr).cons _).cons_cons _)⟩
end Go.Proofs.YtljaoofbklkglaaGreatDoor
