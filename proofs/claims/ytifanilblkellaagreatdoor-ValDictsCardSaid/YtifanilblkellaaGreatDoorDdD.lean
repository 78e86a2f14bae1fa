/-
  Proved here: numbers written down.
-/
import Derived.Test.YtifanilblkellaaGreatDoorDdC
import Derived.Test.YtifanilblkellaaGreatDoorDdT
namespace Go.Proofs.YtifanilblkellaaGreatDoor
open Go.SX Go.RowKit Go.Vo Go.Ss Go.Proofs.YtifanilblkellaaGreatDoor.Env Go.Proofs.YtifanilblkellaaGreatDoor.Bsf
namespace Dt
theorem en41 : Enters Tryz.prog 41 := Enters.of Tryz.func41 (by kernel_rfl) (by kernel_rfl)
theorem one5 : One Tryz.prog 5 := fun w => by kernel_rfl
theorem sz5 : SizeIs Tryz.prog 5 1 := fun w => by kernel_rfl
theorem un5 : Tryz.prog.underlying 5 = some (.int .u8) := by kernel_rfl
theorem un94 : Tryz.prog.underlying 94 = some (.slice 5) := by kernel_rfl
theorem el94 : Elem Tryz.prog 94 5 1 1 := Elem.of un94 (z := .int .u8 0) (by kernel_rfl) rfl
end Dt
theorem rev_c {w0 : World} {base : Nat} {fr : List It} {g : Option Nat} {c : Nat} {bs : List UInt8} (h1 : 1 ≤ bs.length) (h9 : bs.length ≤ 9) : FnC Tryz.prog 41 #[rv g bs.length c] (WA w0 base (.row g c (bs).length 5 1 ((bs).map b8) :: fr)) (fun _ : Unit => .tuple #[]) (fun _ => WA w0 base (.row g c bs.length 5 1 ((turned bs).map b8) :: fr)) := by
  refine FnC.of_body (fn := Tryz.f41) [(0, _)] Tryz.func41 rfl Tryz.ntmps41 rfl ⟨rfl, trivial⟩ ?_
  refine CX.seq ?_
  refine CX.region ?_
  refine LX.pure (Y.move rfl) rfl rfl rfl ?_
  refine LX.pure (Y.lenSl rfl Dt.un94 rfl) rfl rfl rfl ?_
  refine LX.pure (Y.subN (a := bs.length) (b := 1) rfl rfl (by omega) (by omega)) rfl rfl rfl ?_
  refine LX.pure (Y.assign rfl) rfl rfl rfl ?_
  refine LX.pure (Y.assign rfl) rfl rfl rfl ?_
  refine LX.sub (l' := [(0, _), (2, _), (3, _)]) ⟨rfl, rfl, rfl, trivial⟩ ?_
  refine LX.next ?_
  refine PX.thenN ?_
  refine CX.block ?_
  refine CX.loop (fun i : Nat => [(0, rv g bs.length c), (2, .int .i64 (i : Int)), (3, .int .i64 ((bs.length - 1 - i : Nat) : Int))]) (fun (i : Nat) w => 2 * i ≤ bs.length ∧ WA w0 base (.row g c bs.length 5 1 ((swp bs.length i bs).map b8) :: fr) w) (fun i => bs.length - i) 0 ⟨rfl, rfl, rfl, trivial⟩ (fun w hw => ⟨Nat.zero_le _, hw⟩) ?_
  intro i
  refine CX.have fun hi0 => ?_
  try dsimp only at hi0 ⊢
  refine CX.seq ?_
  refine CX.seq ?_
  refine CX.region ?_
  refine LX.pure (Y.move rfl) rfl rfl rfl ?_
  refine LX.pure (Y.move rfl) rfl rfl rfl ?_
  first
    | refine LX.pure (Y.ltN rfl rfl) rfl rfl rfl ?_
    | refine LX.pure (Y.ltI rfl rfl) rfl rfl rfl ?_
  refine LX.sub (l' := [(0, _), (2, _), (3, _), (9, _)]) ⟨rfl, rfl, rfl, rfl, trivial⟩ ?_
  refine LX.next ?_
  refine PX.thenN ?_
  refine CX.cond rfl (fun hb1 => ?_) (fun hb1 => ?_)
  · try simp at hb1
    refine CX.skip ?_
    refine PX.thenN ?_
    refine CX.seq ?_
    refine CX.block ?_
    refine CX.regionM [(0, .anywhere), (1, .anywhere), (2, .anywhere), (3, .anywhere), (4, .anywhere), (5, .anywhere), (6, .held), (7, .held), (8, .anywhere), (9, .anywhere), (10, .held), (11, .held), (12, .held), (13, .alone), (14, .alone), (15, .alone)] rfl (by kernel_rfl) ?_
    refine MX.lift0 (i := 0) rfl (Y.move rfl) rfl rfl rfl ?_
    refine MX.lift0 (i := 1) rfl (Y.move rfl) rfl rfl rfl ?_
    refine MX.lift0 (i := 2) rfl (Y.move rfl) rfl rfl rfl ?_
    refine MX.lift0 (i := 3) rfl (Y.move rfl) rfl rfl rfl ?_
    refine MX.lift0 (i := 4) rfl (Y.move rfl) rfl rfl rfl ?_
    refine MX.lift0 (i := 5) rfl (Y.move rfl) rfl rfl rfl ?_
    refine MX.lift1 (i := 6) (pend' := []) rfl (fun w hw => by first | exact hw | exact hw.1 | exact hw.drop (List.sublist_cons_self _ _) | exact hw.drop ((List.sublist_cons_self _ _).cons _)) (Y.idxR1 0 Dt.un94 Dt.sz5 rfl rfl rfl (by omega)) rfl rfl rfl (by kernel_rfl) ?_
    refine MX.lift1 (i := 7) (pend' := []) rfl (fun w hw => by first | exact hw | exact hw.1 | exact hw.drop (List.sublist_cons_self _ _) | exact hw.drop ((List.sublist_cons_self _ _).cons _)) (Y.ldR 0 (v := b8 ((swp bs.length i bs).getD (bs.length - 1 - i) 0)) Dt.one5 rfl rfl (b8_at (by rw [swp_len]; omega))) rfl rfl rfl (by kernel_rfl) ?_
    refine MX.lift0 (i := 8) rfl (Y.move rfl) rfl rfl rfl ?_
    refine MX.lift0 (i := 9) rfl (Y.move rfl) rfl rfl rfl ?_
    refine MX.lift1 (i := 10) (pend' := [7]) rfl (fun w hw => by first | exact hw | exact hw.1 | exact hw.drop (List.sublist_cons_self _ _) | exact hw.drop ((List.sublist_cons_self _ _).cons _)) (Y.idxR1 0 Dt.un94 Dt.sz5 rfl rfl rfl (by omega)) rfl rfl rfl (by kernel_rfl) ?_
    refine MX.lift1 (i := 11) (pend' := [7]) rfl (fun w hw => by first | exact hw | exact hw.1 | exact hw.drop (List.sublist_cons_self _ _) | exact hw.drop ((List.sublist_cons_self _ _).cons _)) (Y.ldR 0 (v := b8 ((swp bs.length i bs).getD i 0)) Dt.one5 rfl rfl (b8_at (by rw [swp_len]; omega))) rfl rfl rfl (by kernel_rfl) ?_
    refine MX.lift1 (i := 12) (pend' := []) rfl (fun w hw => by first | exact hw | exact hw.1 | exact hw.drop (List.sublist_cons_self _ _) | exact hw.drop ((List.sublist_cons_self _ _).cons _)) (Y.idxR1 0 Dt.un94 Dt.sz5 rfl rfl rfl (by omega)) rfl rfl rfl (by kernel_rfl) ?_
    refine MX.force (i := 13) rfl ?_
    first
      | refine LX.storeR 0 (off := i) Dt.sz5 rfl rfl rfl rfl rfl (by rw [List.length_map, swp_len]; omega) rfl rfl ?_
    refine LX.nextM [] (by kernel_rfl) (fun h => absurd rfl h) ?_
    refine MX.force (i := 14) rfl ?_
    refine LX.pure (Y.idxR1 0 Dt.un94 Dt.sz5 rfl rfl rfl (by omega)) rfl rfl rfl ?_
    refine LX.nextM [] (by kernel_rfl) (fun h => absurd rfl h) ?_
    refine MX.force (i := 15) rfl ?_
    first
      | refine LX.storeR 0 (off := bs.length - 1 - i) Dt.sz5 rfl rfl rfl rfl rfl (by rw [List.length_set, List.length_map, swp_len]; omega) rfl rfl ?_
    refine LX.nextM [] (by kernel_rfl) (fun h => absurd rfl h) ?_
    refine MX.sub (l' := [(0, _), (2, _), (3, _)]) ⟨rfl, rfl, rfl, trivial⟩ ?_
    refine MX.done ?_
    refine PX.blockN ?_
    refine PX.thenN ?_
    refine CX.region ?_
    refine LX.pure (Y.move rfl) rfl rfl rfl ?_
    first
      | refine LX.pure (Y.addN rfl rfl (by first | omega | (simp only []; omega) | (simp; done) | (simp; omega))) rfl rfl rfl ?_
      | refine LX.pure (Y.add rfl rfl (by first | omega | (simp only []; omega) | (simp; done) | (simp; omega))) rfl rfl rfl ?_
    refine LX.pure (Y.move rfl) rfl rfl rfl ?_
    refine LX.pure (Y.subN (a := bs.length - 1 - i) (b := 1) rfl rfl (by omega) (by omega)) rfl rfl rfl ?_
    refine LX.pure (Y.assign rfl) rfl rfl rfl ?_
    refine LX.pure (Y.assign rfl) rfl rfl rfl ?_
    refine LX.sub (l' := [(0, _), (2, _), (3, _)]) ⟨rfl, rfl, rfl, trivial⟩ ?_
    refine LX.next ?_
    exact PX.again (L := (fun i : Nat => [(0, rv g bs.length c), (2, .int .i64 (i : Int)), (3, .int .i64 ((bs.length - 1 - i : Nat) : Int))])) (WW := (fun (i : Nat) w => 2 * i ≤ bs.length ∧ WA w0 base (.row g c bs.length 5 1 ((swp bs.length i bs).map b8) :: fr) w)) (μ := fun i => bs.length - i) (i := i) (i + 1) (by show bs.length - (i + 1) < bs.length - i; omega) ⟨rfl, rfl, by dsimp only; rw [show bs.length - 1 - (i + 1) = bs.length - 1 - i - 1 by omega]; rfl, trivial⟩ (fun w hw => ⟨by show 2 * (i + 1) ≤ bs.length; omega, by simpa [swp, List.map_set] using hw⟩)
  · try simp at hb1
    have hie : i = bs.length / 2 := by omega
    subst hie
    refine CX.exit ?_
    refine PX.thenE ?_
    refine PX.thenE ?_
    refine PX.blockE ?_
    refine PX.ret0 (by simp) Tryz.results41 ?_
    exact fun w hw => ⟨(), rfl, hw⟩
theorem text0_c {w0 : World} {base : Nat} {fr : List It} {ng : Bool} {g : Option Nat} {c : Nat} : FnC Tryz.prog 17 #[.agg #[.bool ng, rv g 0 c]] (WA w0 base fr) (fun _ : Unit => str [48]) (fun _ => WA w0 base fr) := by
  refine FnC.of_body (fn := Tryz.f17) [(0, _)] Tryz.func17 rfl Tryz.ntmps17 rfl ⟨rfl, trivial⟩ ?_
  refine CX.seq ?_
  refine CX.region ?_
  refine LX.box rfl rfl rfl rfl rfl ?_
  intro bx0
  refine LX.pure (Y.assign rfl) rfl rfl rfl ?_
  refine LX.sub (l' := [(1, _), (2, _)]) ⟨rfl, rfl, trivial⟩ ?_
  refine LX.next ?_
  refine PX.thenN ?_
  refine CX.seq ?_
  refine CX.seq ?_
  refine CX.region ?_
  first
    | refine LX.pure (Y.fieldAddr0 Fo.fo36_1 rfl) rfl rfl rfl ?_
    | refine LX.pure (Y.fieldAddr Fo.fo36_1 rfl) rfl rfl rfl ?_
  first
    | refine LX.pure (Y.ldB 0 Fo.one34 rfl rfl rfl) rfl rfl rfl ?_
    | refine LX.pure (Y.ldB 1 Fo.one34 rfl rfl rfl) rfl rfl rfl ?_
    | refine LX.pure (Y.ldB 2 Fo.one34 rfl rfl rfl) rfl rfl rfl ?_
  refine LX.pure (Y.lenSl rfl Fo.un34 rfl) rfl rfl rfl ?_
  first
    | refine LX.pure (Y.eqN rfl rfl) rfl rfl rfl ?_
    | refine LX.pure (Y.eqI rfl rfl) rfl rfl rfl ?_
  refine LX.sub (l' := [(1, _), (2, _), (10, _)]) ⟨rfl, rfl, rfl, trivial⟩ ?_
  refine LX.next ?_
  refine PX.thenN ?_
  refine CX.cond rfl (fun hb1 => ?_) (fun hb1 => ?_)
  · try simp at hb1
    refine CX.seq ?_
    refine CX.region ?_
    refine LX.pure (Y.assign rfl) rfl rfl rfl ?_
    refine LX.sub (l' := [(1, _), (2, _)]) ⟨rfl, rfl, trivial⟩ ?_
    refine LX.next ?_
    refine PX.thenN ?_
    refine CX.ret ?_
    refine PX.thenR ?_
    refine PX.ret1 (by simp) Tryz.results17 rfl ?_
    exact fun w hw => ⟨(), rfl, hw.drop (List.sublist_cons_self _ _)⟩
  · try simp at hb1
    first | done | (exfalso; omega) | (exfalso; simp_all; done) | (exfalso; simp_all; omega)
theorem text_true {w0 : World} {base : Nat} {fr : List It} {b c u : Nat} (hu : 0 < u ∧ u < 1000) (hq : b < base) (hc : w0.cell? ⟨b, 0, none⟩ = some (.int .u32 (u : Int))) : FnC Tryz.prog 17 #[.agg #[.bool true, rv (some b) 1 c]] (WA w0 base fr) (fun _ : Unit => str (txtN true u)) (fun _ => WA w0 base fr) := by
  refine FnC.of_body (fn := Tryz.f17) [(0, _)] Tryz.func17 rfl Tryz.ntmps17 rfl ⟨rfl, trivial⟩ ?_
  refine CX.seq ?_
  refine CX.region ?_
  refine LX.box rfl rfl rfl rfl rfl ?_
  intro bx0
  refine LX.pure (Y.assign rfl) rfl rfl rfl ?_
  refine LX.sub (l' := [(1, _), (2, _)]) ⟨rfl, rfl, trivial⟩ ?_
  refine LX.next ?_
  refine PX.thenN ?_
  refine CX.seq ?_
  refine CX.seq ?_
  refine CX.region ?_
  first
    | refine LX.pure (Y.fieldAddr0 Fo.fo36_1 rfl) rfl rfl rfl ?_
    | refine LX.pure (Y.fieldAddr Fo.fo36_1 rfl) rfl rfl rfl ?_
  first
    | refine LX.pure (Y.ldB 0 Fo.one34 rfl rfl rfl) rfl rfl rfl ?_
    | refine LX.pure (Y.ldB 1 Fo.one34 rfl rfl rfl) rfl rfl rfl ?_
    | refine LX.pure (Y.ldB 2 Fo.one34 rfl rfl rfl) rfl rfl rfl ?_
    | refine LX.pure (Y.ldB 3 Fo.one34 rfl rfl rfl) rfl rfl rfl ?_
  refine LX.pure (Y.lenSl rfl Fo.un34 rfl) rfl rfl rfl ?_
  first
    | refine LX.pure (Y.eqN rfl rfl) rfl rfl rfl ?_
    | refine LX.pure (Y.eqI rfl rfl) rfl rfl rfl ?_
  refine LX.sub (l' := [(1, _), (2, _), (10, _)]) ⟨rfl, rfl, rfl, trivial⟩ ?_
  refine LX.next ?_
  refine PX.thenN ?_
  refine CX.cond rfl (fun hb1 => ?_) (fun hb1 => ?_)
  · try simp at hb1
    first | done | (exfalso; omega) | (exfalso; simp_all; done) | (exfalso; simp_all; omega)
  · try simp at hb1
    refine CX.skip ?_
    refine PX.thenN ?_
    refine CX.seq ?_
    refine CX.region ?_
    refine LX.pure (Y.assign rfl) rfl rfl rfl ?_
    refine LX.sub (l' := [(1, _), (2, _), (3, _)]) ⟨rfl, rfl, rfl, trivial⟩ ?_
    refine LX.next ?_
    refine PX.thenN ?_
    refine CX.seq ?_
    refine CX.seq ?_
    refine CX.region ?_
    first
      | refine LX.pure (Y.fieldAddr0 Fo.fo36_1 rfl) rfl rfl rfl ?_
      | refine LX.pure (Y.fieldAddr Fo.fo36_1 rfl) rfl rfl rfl ?_
    first
      | refine LX.pure (Y.ldB 0 Fo.one34 rfl rfl rfl) rfl rfl rfl ?_
      | refine LX.pure (Y.ldB 1 Fo.one34 rfl rfl rfl) rfl rfl rfl ?_
      | refine LX.pure (Y.ldB 2 Fo.one34 rfl rfl rfl) rfl rfl rfl ?_
      | refine LX.pure (Y.ldB 3 Fo.one34 rfl rfl rfl) rfl rfl rfl ?_
    refine LX.pure (Y.lenSl rfl Fo.un34 rfl) rfl rfl rfl ?_
    refine LX.pure (Y.move rfl) rfl rfl rfl ?_
    refine LX.sub (l' := [(1, _), (2, _), (3, _), (12, _), (13, _), (14, _)]) ⟨rfl, rfl, rfl, rfl, rfl, rfl, trivial⟩ ?_
    refine LX.next ?_
    refine PX.thenN ?_
    refine CX.block ?_
    have hl9 : (dg u).length + 1 = (dg u ++ [45]).length := by simp
    refine CX.loop (fun s : Nat × Option Nat × Nat × List UInt8 => [(1, .pointer (some ⟨bx0, 0, none⟩)), (3, rv s.2.1 s.2.2.2.length s.2.2.1), (12, rv (some b) 1 c), (13, .int .i64 1), (14, .int .i64 (s.1 : Int))]) (fun (s : Nat × Option Nat × Nat × List UInt8) w => (s.1 ≤ 1 ∧ (s.1 = 0 → s.2.2.2 = []) ∧ (s.1 = 1 → s.2.2.2 = dg u)) ∧ WA w0 base (.row s.2.1 s.2.2.1 (s.2.2.2).length 5 1 ((s.2.2.2).map b8) :: blk bx0 [.bool true, rv (some b) 1 c] 36 :: fr) w) (fun s => 1 - s.1) (0, none, 0, []) ⟨rfl, rfl, rfl, rfl, rfl, trivial⟩ (fun w hw => ⟨⟨Nat.zero_le _, fun _ => rfl, fun h => by cases h⟩, hw.nilRow 5 1⟩) ?_
    rintro ⟨i, g, cg, bs⟩
    refine CX.have fun ⟨hi0, hb0, hb1⟩ => ?_
    try dsimp only at hi0 hb0 hb1 ⊢
    refine CX.seq ?_
    refine CX.region ?_
    first
      | refine LX.pure (Y.ltN rfl rfl) rfl rfl rfl ?_
      | refine LX.pure (Y.ltI rfl rfl) rfl rfl rfl ?_
    refine LX.sub (l' := [(1, _), (3, _), (12, _), (13, _), (14, _), (15, _)]) ⟨rfl, rfl, rfl, rfl, rfl, rfl, trivial⟩ ?_
    refine LX.next ?_
    refine PX.thenN ?_
    refine CX.seq ?_
    refine CX.cond rfl (fun hb2 => ?_) (fun hb2 => ?_)
    · try simp at hb2
      obtain rfl : i = 0 := by omega
      obtain rfl := hb0 rfl
      refine CX.skip ?_
      refine PX.thenN ?_
      refine CX.seq ?_
      refine CX.block ?_
      refine CX.seq ?_
      refine CX.region ?_
      refine LX.pure (Y.move rfl) rfl rfl rfl ?_
      refine LX.pure (Y.idx1 Fo.un34 Fo.sz84 rfl rfl (by omega)) rfl rfl rfl ?_
      refine LX.pure (Y.ldO Fo.one84 rfl hc hq) rfl rfl rfl ?_
      refine LX.pure (Y.assign rfl) rfl rfl rfl ?_
      refine LX.pure (Y.assign rfl) rfl rfl rfl ?_
      refine LX.sub (l' := [(1, _), (3, _), (4, _), (5, _), (12, _), (13, _), (14, _)]) ⟨rfl, rfl, rfl, rfl, rfl, rfl, rfl, trivial⟩ ?_
      refine LX.next ?_
      refine PX.thenN ?_
      refine CX.seq ?_
      refine CX.region ?_
      refine LX.pure (Y.assign rfl) rfl rfl rfl ?_
      refine LX.sub (l' := [(1, _), (3, _), (4, _), (5, _), (6, _), (12, _), (13, _), (14, _)]) ⟨rfl, rfl, rfl, rfl, rfl, rfl, rfl, rfl, trivial⟩ ?_
      refine LX.next ?_
      refine PX.thenN ?_
      refine CX.block ?_
      refine CX.loop (fun s : Nat × Option Nat × Nat × List UInt8 => [(1, .pointer (some ⟨bx0, 0, none⟩)), (3, rv s.2.1 s.2.2.2.length s.2.2.1), (4, .int .i64 ((0 : Nat) : Int)), (5, .int .u32 (s.1 : Int)), (6, .int .i64 (s.2.2.2.length : Int)), (12, rv (some b) 1 c), (13, .int .i64 1), (14, .int .i64 ((0 : Nat) : Int))]) (fun (s : Nat × Option Nat × Nat × List UInt8) w => (s.1 < 1000 ∧ s.2.2.2 ++ dg s.1 = dg u) ∧ WA w0 base (.row s.2.1 s.2.2.1 (s.2.2.2).length 5 1 ((s.2.2.2).map b8) :: blk bx0 [.bool true, rv (some b) 1 c] 36 :: fr) w) (fun s => s.1) (u, g, cg, []) ⟨rfl, rfl, rfl, rfl, rfl, rfl, rfl, rfl, trivial⟩ (fun w hw => ⟨⟨hu.2, rfl⟩, hw⟩) ?_
      rintro ⟨v, g2, c2, pre⟩
      refine CX.have fun ⟨hv, hpre⟩ => ?_
      try dsimp only at hv hpre ⊢
      have hpl : pre.length ≤ 3 := by
        have h1 := dg_len hu.2
        rw [← hpre, List.length_append] at h1
        omega
      refine CX.seq ?_
      refine CX.seq ?_
      refine CX.region ?_
      refine LX.pure (Y.move rfl) rfl rfl rfl ?_
      first
        | refine LX.pure (Y.ltN rfl rfl) rfl rfl rfl ?_
        | refine LX.pure (Y.ltI rfl rfl) rfl rfl rfl ?_
      refine LX.pure (Y.move rfl) rfl rfl rfl ?_
      refine LX.sub (l' := [(1, _), (3, _), (4, _), (5, _), (6, _), (12, _), (13, _), (14, _), (21, _)]) ⟨rfl, rfl, rfl, rfl, rfl, rfl, rfl, rfl, rfl, trivial⟩ ?_
      apply LX.joinAnd 11 32 21 rfl
      · intro hb3
        have hb3p := hb3
        try simp at hb3p
        refine LX.gT rfl rfl rfl hb3 (Y.move rfl) rfl rfl ?_
        first
          | refine LX.gT rfl rfl rfl hb3 (Y.fieldAddr0 Fo.fo36_1 rfl) rfl rfl ?_
          | refine LX.gT rfl rfl rfl hb3 (Y.fieldAddr Fo.fo36_1 rfl) rfl rfl ?_
        first
          | refine LX.gT rfl rfl rfl hb3 (Y.ldB 0 Fo.one34 rfl rfl rfl) rfl rfl ?_
          | refine LX.gT rfl rfl rfl hb3 (Y.ldB 1 Fo.one34 rfl rfl rfl) rfl rfl ?_
          | refine LX.gT rfl rfl rfl hb3 (Y.ldB 2 Fo.one34 rfl rfl rfl) rfl rfl ?_
          | refine LX.gT rfl rfl rfl hb3 (Y.ldB 3 Fo.one34 rfl rfl rfl) rfl rfl ?_
        refine LX.gT rfl rfl rfl hb3 (Y.lenSl rfl Fo.un34 rfl) rfl rfl ?_
        refine LX.gT rfl rfl rfl hb3 (Y.subN (a := 1) (b := 1) rfl rfl (by omega) (by omega)) rfl rfl ?_
        first
          | refine LX.gT rfl rfl rfl hb3 (Y.ltN rfl rfl) rfl rfl ?_
          | refine LX.gT rfl rfl rfl hb3 (Y.ltI rfl rfl) rfl rfl ?_
        refine LX.gT rfl rfl rfl hb3 (Y.move rfl) rfl rfl ?_
        refine LX.sub (l' := [(1, _), (3, _), (4, _), (5, _), (6, _), (12, _), (13, _), (14, _), (21, _), (28, _)]) ⟨rfl, rfl, rfl, rfl, rfl, rfl, rfl, rfl, rfl, rfl, trivial⟩ ?_
        apply LX.joinOr 3 31 28 rfl
        · intro hb4
          first | done | (exfalso; simp_all; done) | cases hb4
        · intro hb4
          have hb4p := hb4
          try simp at hb4p
          refine LX.gT rfl rfl rfl hb4 (Y.move rfl) rfl rfl ?_
          first
            | refine LX.gT rfl rfl rfl hb4 (Y.gtN rfl rfl) rfl rfl ?_
            | refine LX.gT rfl rfl rfl hb4 (Y.gtI rfl rfl) rfl rfl ?_
          refine LX.gT rfl rfl rfl hb3 (Y.pickF rfl hb4 rfl) rfl rfl ?_
          exact LX.left ⟨rfl, rfl, rfl, rfl, rfl, rfl, rfl, rfl, rfl, rfl, rfl, trivial⟩
        refine LX.pure (Y.pickT rfl hb3 rfl) rfl rfl rfl ?_
        exact LX.left ⟨rfl, rfl, rfl, rfl, rfl, rfl, rfl, rfl, rfl, rfl, trivial⟩
      · intro hb3
        have hb3p := hb3
        try simp at hb3p
        refine LX.gF rfl rfl rfl hb3 rfl rfl ?_
        refine LX.gF rfl rfl rfl hb3 rfl rfl ?_
        refine LX.gF rfl rfl rfl hb3 rfl rfl ?_
        refine LX.gF rfl rfl rfl hb3 rfl rfl ?_
        refine LX.gF rfl rfl rfl hb3 rfl rfl ?_
        refine LX.gF rfl rfl rfl hb3 rfl rfl ?_
        refine LX.gF rfl rfl rfl hb3 rfl rfl ?_
        refine LX.gU rfl rfl rfl rfl rfl ?_
        refine LX.gU rfl rfl rfl rfl rfl ?_
        refine LX.gF rfl rfl rfl hb3 rfl rfl ?_
        refine LX.pure (Y.pickF rfl hb3 rfl) rfl rfl rfl ?_
        exact LX.left ⟨rfl, rfl, rfl, rfl, rfl, rfl, rfl, rfl, rfl, rfl, trivial⟩
      refine LX.sub (l' := [(1, _), (3, _), (4, _), (5, _), (6, _), (12, _), (13, _), (14, _), (32, _)]) ⟨rfl, rfl, rfl, rfl, rfl, rfl, rfl, rfl, rfl, trivial⟩ ?_
      refine LX.next ?_
      refine PX.thenN ?_
      refine CX.cond rfl (fun hb5 => ?_) (fun hb5 => ?_)
      · try simp at hb5
        have hv0 : 0 < v := by first | omega | (simp at hb3; omega) | (simp_all; omega)
        refine CX.skip ?_
        refine PX.thenN ?_
        refine CX.seq ?_
        refine CX.block ?_
        refine CX.seq ?_
        refine CX.region ?_
        refine LX.pure (Y.move rfl) rfl rfl rfl ?_
        refine LX.pure (Y.move rfl) rfl rfl rfl ?_
        refine LX.pure (Y.remK (a := v) (b := 10) rfl rfl (by decide)) rfl rfl rfl ?_
        refine LX.pure (Y.addK (a := 48) (b := v % 10) rfl rfl (wrap_u32 (by omega))) rfl rfl rfl ?_
        refine LX.pure (Y.convN rfl Fo.un84 Dt.un5 (wrap_u8 (by omega))) rfl rfl rfl ?_
        refine LX.buildSlice (e := 5) (size := 1) rfl rfl (fun _ => by kernel_rfl) rfl (by decide) rfl rfl rfl ?_
        intro gt38
        first
          | refine LX.appendT 0 Dt.el94 rfl rfl rfl rfl rfl rfl rfl (by first | omega | (dsimp only; omega)) (by first | omega | (dsimp only; omega)) rfl rfl rfl ?_
          | refine LX.appendT 1 Dt.el94 rfl rfl rfl rfl rfl rfl rfl (by first | omega | (dsimp only; omega)) (by first | omega | (dsimp only; omega)) rfl rfl rfl ?_
          | refine LX.appendT 2 Dt.el94 rfl rfl rfl rfl rfl rfl rfl (by first | omega | (dsimp only; omega)) (by first | omega | (dsimp only; omega)) rfl rfl rfl ?_
          | refine LX.appendT 3 Dt.el94 rfl rfl rfl rfl rfl rfl rfl (by first | omega | (dsimp only; omega)) (by first | omega | (dsimp only; omega)) rfl rfl rfl ?_
        intro g' cap'
        refine LX.pure (Y.assign rfl) rfl rfl rfl ?_
        refine LX.sub (l' := [(1, _), (3, _), (4, _), (5, _), (6, _), (12, _), (13, _), (14, _)]) ⟨rfl, rfl, rfl, rfl, rfl, rfl, rfl, rfl, trivial⟩ ?_
        refine LX.next ?_
        refine PX.thenN ?_
        refine CX.region ?_
        refine LX.pure (Y.move rfl) rfl rfl rfl ?_
        refine LX.pure (Y.quoK (a := v) (b := 10) rfl rfl (by decide) (wrap_u32 (by omega))) rfl rfl rfl ?_
        refine LX.pure (Y.assign rfl) rfl rfl rfl ?_
        refine LX.sub (l' := [(1, _), (3, _), (4, _), (5, _), (6, _), (12, _), (13, _), (14, _)]) ⟨rfl, rfl, rfl, rfl, rfl, rfl, rfl, rfl, trivial⟩ ?_
        refine LX.next ?_
        refine PX.blockN ?_
        refine PX.thenN ?_
        refine CX.region ?_
        refine LX.pure (Y.move rfl) rfl rfl rfl ?_
        first
          | refine LX.pure (Y.addN rfl rfl (by first | omega | (simp only []; omega) | (simp; done) | (simp; omega))) rfl rfl rfl ?_
          | refine LX.pure (Y.add rfl rfl (by first | omega | (simp only []; omega) | (simp; done) | (simp; omega))) rfl rfl rfl ?_
        refine LX.pure (Y.assign rfl) rfl rfl rfl ?_
        refine LX.sub (l' := [(1, _), (3, _), (4, _), (5, _), (6, _), (12, _), (13, _), (14, _)]) ⟨rfl, rfl, rfl, rfl, rfl, rfl, rfl, rfl, trivial⟩ ?_
        refine LX.next ?_
        exact PX.again (L := (fun s : Nat × Option Nat × Nat × List UInt8 => [(1, .pointer (some ⟨bx0, 0, none⟩)), (3, rv s.2.1 s.2.2.2.length s.2.2.1), (4, .int .i64 ((0 : Nat) : Int)), (5, .int .u32 (s.1 : Int)), (6, .int .i64 (s.2.2.2.length : Int)), (12, rv (some b) 1 c), (13, .int .i64 1), (14, .int .i64 ((0 : Nat) : Int))])) (WW := (fun (s : Nat × Option Nat × Nat × List UInt8) w => (s.1 < 1000 ∧ s.2.2.2 ++ dg s.1 = dg u) ∧ WA w0 base (.row s.2.1 s.2.2.1 (s.2.2.2).length 5 1 ((s.2.2.2).map b8) :: blk bx0 [.bool true, rv (some b) 1 c] 36 :: fr) w)) (μ := fun s => s.1) (i := (v, g2, c2, pre)) (v / 10, g', cap', pre ++ [(48 + v % 10).toUInt8]) (by show v / 10 < v; omega) ⟨rfl, by dsimp only; rw [List.length_append]; rfl, rfl, rfl, by dsimp only; rw [List.length_append]; rfl, rfl, rfl, rfl, trivial⟩ (fun w hw => ⟨⟨by show v / 10 < 1000; omega, by dsimp only; rw [List.append_assoc, ← hpre, dg_pos hv0]; rfl⟩, by dsimp only; rw [List.length_append, List.map_append, show ([(48 + v % 10).toUInt8] : List UInt8).map b8 = [.int .u8 ((48 + v % 10 : Nat) : Int)] by rw [b8_nat (by omega)]; rfl]; exact hw⟩)
      · try simp at hb5
        have hv0 : v = 0 := by first | omega | (simp at hb3; omega) | (simp_all; omega)
        subst hv0
        rw [dg_0, List.append_nil] at hpre
        refine CX.exit ?_
        refine PX.thenE ?_
        refine PX.thenE ?_
        refine PX.blockE ?_
        refine PX.blockN ?_
        refine PX.thenN ?_
        refine CX.region ?_
        first
          | refine LX.pure (Y.addN rfl rfl (by first | omega | (simp only []; omega) | (simp; done) | (simp; omega))) rfl rfl rfl ?_
          | refine LX.pure (Y.add rfl rfl (by first | omega | (simp only []; omega) | (simp; done) | (simp; omega))) rfl rfl rfl ?_
        refine LX.pure (Y.move rfl) rfl rfl rfl ?_
        refine LX.sub (l' := [(1, _), (3, _), (12, _), (13, _), (14, _)]) ⟨rfl, rfl, rfl, rfl, rfl, trivial⟩ ?_
        refine LX.next ?_
        exact PX.again (L := (fun s : Nat × Option Nat × Nat × List UInt8 => [(1, .pointer (some ⟨bx0, 0, none⟩)), (3, rv s.2.1 s.2.2.2.length s.2.2.1), (12, rv (some b) 1 c), (13, .int .i64 1), (14, .int .i64 (s.1 : Int))])) (WW := (fun (s : Nat × Option Nat × Nat × List UInt8) w => (s.1 ≤ 1 ∧ (s.1 = 0 → s.2.2.2 = []) ∧ (s.1 = 1 → s.2.2.2 = dg u)) ∧ WA w0 base (.row s.2.1 s.2.2.1 (s.2.2.2).length 5 1 ((s.2.2.2).map b8) :: blk bx0 [.bool true, rv (some b) 1 c] 36 :: fr) w)) (μ := fun s => 1 - s.1) (i := (0, g, cg, [])) (1, g2, c2, pre) (by show 1 - 1 < 1 - 0; omega) ⟨rfl, rfl, rfl, rfl, rfl, trivial⟩ (fun w hw => ⟨⟨by show 1 ≤ 1; omega, (fun h => by cases h), fun _ => hpre⟩, hw⟩)
    · try simp at hb2
      obtain rfl : i = 1 := by omega
      obtain rfl := hb1 rfl
      have hd1 := dg_some hu.1
      have hd3 := dg_len hu.2
      refine CX.exit ?_
      refine PX.thenE ?_
      refine PX.thenE ?_
      refine PX.blockE ?_
      refine PX.thenN ?_
      refine CX.seq ?_
      refine CX.seq ?_
      refine CX.region ?_
      first
        | refine LX.pure (Y.fieldAddr0 Fo.fo36_0 rfl) rfl rfl rfl ?_
        | refine LX.pure (Y.fieldAddr Fo.fo36_0 rfl) rfl rfl rfl ?_
      first
        | refine LX.pure (Y.ldB 0 Fo.one4 rfl rfl rfl) rfl rfl rfl ?_
        | refine LX.pure (Y.ldB 1 Fo.one4 rfl rfl rfl) rfl rfl rfl ?_
        | refine LX.pure (Y.ldB 2 Fo.one4 rfl rfl rfl) rfl rfl rfl ?_
        | refine LX.pure (Y.ldB 3 Fo.one4 rfl rfl rfl) rfl rfl rfl ?_
      refine LX.sub (l' := [(3, _), (46, _)]) ⟨rfl, rfl, trivial⟩ ?_
      refine LX.next ?_
      refine PX.thenN ?_
      refine CX.cond rfl (fun hb6 => ?_) (fun hb6 => ?_)
      · try simp at hb6
        refine CX.region ?_
        refine LX.pure (Y.move rfl) rfl rfl rfl ?_
        refine LX.buildSlice (e := 5) (size := 1) rfl rfl (fun _ => by kernel_rfl) rfl (by decide) rfl rfl rfl ?_
        intro gt52
        refine LX.appendT 0 Dt.el94 rfl rfl rfl rfl rfl rfl rfl (by omega) (by omega) rfl rfl rfl ?_
        intro g9 c9
        rw [hl9]
        refine LX.world (W' := WA w0 base (.row g9 c9 (dg u ++ [45]).length 5 1 ((dg u ++ [45]).map b8) :: blk bx0 [.bool true, rv (some b) 1 c] 36 :: fr)) (fun w hw => by rw [List.map_append]; exact hw) ?_
        refine LX.pure (Y.assign rfl) rfl rfl rfl ?_
        refine LX.sub (l' := [(3, _)]) ⟨rfl, trivial⟩ ?_
        refine LX.next ?_
        refine PX.thenN ?_
        refine CX.seq ?_
        refine CX.region ?_
        refine LX.pure (Y.move rfl) rfl rfl rfl ?_
        refine LX.call (rev_c (by first | omega | (simp; omega)) (by first | omega | (simp; omega))) Dt.en41 rfl rfl rfl rfl rfl ?_
        intro _
        refine LX.sub (l' := [(3, _)]) ⟨rfl, trivial⟩ ?_
        refine LX.next ?_
        refine PX.thenN ?_
        refine CX.seq ?_
        refine CX.region ?_
        refine LX.pure (Y.move rfl) rfl rfl rfl ?_
        first
          | refine LX.pure (Y.str 0 rfl rfl Dt.un94 Dt.un5 Dq.un9) rfl rfl rfl ?_
          | refine LX.pure (Y.str 1 rfl rfl Dt.un94 Dt.un5 Dq.un9) rfl rfl rfl ?_
          | refine LX.pure (Y.str 2 rfl rfl Dt.un94 Dt.un5 Dq.un9) rfl rfl rfl ?_
          | refine LX.pure (Y.str 3 rfl rfl Dt.un94 Dt.un5 Dq.un9) rfl rfl rfl ?_
        refine LX.pure (Y.assign rfl) rfl rfl rfl ?_
        refine LX.sub (l' := [(2, _)]) ⟨rfl, trivial⟩ ?_
        refine LX.next ?_
        refine PX.thenN ?_
        refine CX.ret ?_
        refine PX.ret1 (by simp) Tryz.results17 rfl ?_
        exact fun w hw => ⟨(), by unfold txtN; simp, hw.drop ((List.sublist_cons_self _ _).cons _)⟩
      · try simp at hb6
        first | done | (exfalso; omega) | (exfalso; simp_all; done) | (exfalso; simp_all; omega)
theorem text_false {w0 : World} {base : Nat} {fr : List It} {b c u : Nat} (hu : 0 < u ∧ u < 1000) (hq : b < base) (hc : w0.cell? ⟨b, 0, none⟩ = some (.int .u32 (u : Int))) : FnC Tryz.prog 17 #[.agg #[.bool false, rv (some b) 1 c]] (WA w0 base fr) (fun _ : Unit => str (txtN false u)) (fun _ => WA w0 base fr) := by
  refine FnC.of_body (fn := Tryz.f17) [(0, _)] Tryz.func17 rfl Tryz.ntmps17 rfl ⟨rfl, trivial⟩ ?_
  refine CX.seq ?_
  refine CX.region ?_
  refine LX.box rfl rfl rfl rfl rfl ?_
  intro bx0
  refine LX.pure (Y.assign rfl) rfl rfl rfl ?_
  refine LX.sub (l' := [(1, _), (2, _)]) ⟨rfl, rfl, trivial⟩ ?_
  refine LX.next ?_
  refine PX.thenN ?_
  refine CX.seq ?_
  refine CX.seq ?_
  refine CX.region ?_
  first
    | refine LX.pure (Y.fieldAddr0 Fo.fo36_1 rfl) rfl rfl rfl ?_
    | refine LX.pure (Y.fieldAddr Fo.fo36_1 rfl) rfl rfl rfl ?_
  first
    | refine LX.pure (Y.ldB 0 Fo.one34 rfl rfl rfl) rfl rfl rfl ?_
    | refine LX.pure (Y.ldB 1 Fo.one34 rfl rfl rfl) rfl rfl rfl ?_
    | refine LX.pure (Y.ldB 2 Fo.one34 rfl rfl rfl) rfl rfl rfl ?_
    | refine LX.pure (Y.ldB 3 Fo.one34 rfl rfl rfl) rfl rfl rfl ?_
  refine LX.pure (Y.lenSl rfl Fo.un34 rfl) rfl rfl rfl ?_
  first
    | refine LX.pure (Y.eqN rfl rfl) rfl rfl rfl ?_
    | refine LX.pure (Y.eqI rfl rfl) rfl rfl rfl ?_
  refine LX.sub (l' := [(1, _), (2, _), (10, _)]) ⟨rfl, rfl, rfl, trivial⟩ ?_
  refine LX.next ?_
  refine PX.thenN ?_
  refine CX.cond rfl (fun hb1 => ?_) (fun hb1 => ?_)
  · try simp at hb1
    first | done | (exfalso; omega) | (exfalso; simp_all; done) | (exfalso; simp_all; omega)
  · try simp at hb1
    refine CX.skip ?_
    refine PX.thenN ?_
    refine CX.seq ?_
    refine CX.region ?_
    refine LX.pure (Y.assign rfl) rfl rfl rfl ?_
    refine LX.sub (l' := [(1, _), (2, _), (3, _)]) ⟨rfl, rfl, rfl, trivial⟩ ?_
    refine LX.next ?_
    refine PX.thenN ?_
    refine CX.seq ?_
    refine CX.seq ?_
    refine CX.region ?_
    first
      | refine LX.pure (Y.fieldAddr0 Fo.fo36_1 rfl) rfl rfl rfl ?_
      | refine LX.pure (Y.fieldAddr Fo.fo36_1 rfl) rfl rfl rfl ?_
    first
      | refine LX.pure (Y.ldB 0 Fo.one34 rfl rfl rfl) rfl rfl rfl ?_
      | refine LX.pure (Y.ldB 1 Fo.one34 rfl rfl rfl) rfl rfl rfl ?_
      | refine LX.pure (Y.ldB 2 Fo.one34 rfl rfl rfl) rfl rfl rfl ?_
      | refine LX.pure (Y.ldB 3 Fo.one34 rfl rfl rfl) rfl rfl rfl ?_
    refine LX.pure (Y.lenSl rfl Fo.un34 rfl) rfl rfl rfl ?_
    refine LX.pure (Y.move rfl) rfl rfl rfl ?_
    refine LX.sub (l' := [(1, _), (2, _), (3, _), (12, _), (13, _), (14, _)]) ⟨rfl, rfl, rfl, rfl, rfl, rfl, trivial⟩ ?_
    refine LX.next ?_
    refine PX.thenN ?_
    refine CX.block ?_
    have hl9 : (dg u).length + 1 = (dg u ++ [45]).length := by simp
    refine CX.loop (fun s : Nat × Option Nat × Nat × List UInt8 => [(1, .pointer (some ⟨bx0, 0, none⟩)), (3, rv s.2.1 s.2.2.2.length s.2.2.1), (12, rv (some b) 1 c), (13, .int .i64 1), (14, .int .i64 (s.1 : Int))]) (fun (s : Nat × Option Nat × Nat × List UInt8) w => (s.1 ≤ 1 ∧ (s.1 = 0 → s.2.2.2 = []) ∧ (s.1 = 1 → s.2.2.2 = dg u)) ∧ WA w0 base (.row s.2.1 s.2.2.1 (s.2.2.2).length 5 1 ((s.2.2.2).map b8) :: blk bx0 [.bool false, rv (some b) 1 c] 36 :: fr) w) (fun s => 1 - s.1) (0, none, 0, []) ⟨rfl, rfl, rfl, rfl, rfl, trivial⟩ (fun w hw => ⟨⟨Nat.zero_le _, fun _ => rfl, fun h => by cases h⟩, hw.nilRow 5 1⟩) ?_
    rintro ⟨i, g, cg, bs⟩
    refine CX.have fun ⟨hi0, hb0, hb1⟩ => ?_
    try dsimp only at hi0 hb0 hb1 ⊢
    refine CX.seq ?_
    refine CX.region ?_
    first
      | refine LX.pure (Y.ltN rfl rfl) rfl rfl rfl ?_
      | refine LX.pure (Y.ltI rfl rfl) rfl rfl rfl ?_
    refine LX.sub (l' := [(1, _), (3, _), (12, _), (13, _), (14, _), (15, _)]) ⟨rfl, rfl, rfl, rfl, rfl, rfl, trivial⟩ ?_
    refine LX.next ?_
    refine PX.thenN ?_
    refine CX.seq ?_
    refine CX.cond rfl (fun hb2 => ?_) (fun hb2 => ?_)
    · try simp at hb2
      obtain rfl : i = 0 := by omega
      obtain rfl := hb0 rfl
      refine CX.skip ?_
      refine PX.thenN ?_
      refine CX.seq ?_
      refine CX.block ?_
      refine CX.seq ?_
      refine CX.region ?_
      refine LX.pure (Y.move rfl) rfl rfl rfl ?_
      refine LX.pure (Y.idx1 Fo.un34 Fo.sz84 rfl rfl (by omega)) rfl rfl rfl ?_
      refine LX.pure (Y.ldO Fo.one84 rfl hc hq) rfl rfl rfl ?_
      refine LX.pure (Y.assign rfl) rfl rfl rfl ?_
      refine LX.pure (Y.assign rfl) rfl rfl rfl ?_
      refine LX.sub (l' := [(1, _), (3, _), (4, _), (5, _), (12, _), (13, _), (14, _)]) ⟨rfl, rfl, rfl, rfl, rfl, rfl, rfl, trivial⟩ ?_
      refine LX.next ?_
      refine PX.thenN ?_
      refine CX.seq ?_
      refine CX.region ?_
      refine LX.pure (Y.assign rfl) rfl rfl rfl ?_
      refine LX.sub (l' := [(1, _), (3, _), (4, _), (5, _), (6, _), (12, _), (13, _), (14, _)]) ⟨rfl, rfl, rfl, rfl, rfl, rfl, rfl, rfl, trivial⟩ ?_
      refine LX.next ?_
      refine PX.thenN ?_
      refine CX.block ?_
      refine CX.loop (fun s : Nat × Option Nat × Nat × List UInt8 => [(1, .pointer (some ⟨bx0, 0, none⟩)), (3, rv s.2.1 s.2.2.2.length s.2.2.1), (4, .int .i64 ((0 : Nat) : Int)), (5, .int .u32 (s.1 : Int)), (6, .int .i64 (s.2.2.2.length : Int)), (12, rv (some b) 1 c), (13, .int .i64 1), (14, .int .i64 ((0 : Nat) : Int))]) (fun (s : Nat × Option Nat × Nat × List UInt8) w => (s.1 < 1000 ∧ s.2.2.2 ++ dg s.1 = dg u) ∧ WA w0 base (.row s.2.1 s.2.2.1 (s.2.2.2).length 5 1 ((s.2.2.2).map b8) :: blk bx0 [.bool false, rv (some b) 1 c] 36 :: fr) w) (fun s => s.1) (u, g, cg, []) ⟨rfl, rfl, rfl, rfl, rfl, rfl, rfl, rfl, trivial⟩ (fun w hw => ⟨⟨hu.2, rfl⟩, hw⟩) ?_
      rintro ⟨v, g2, c2, pre⟩
      refine CX.have fun ⟨hv, hpre⟩ => ?_
      try dsimp only at hv hpre ⊢
      have hpl : pre.length ≤ 3 := by
        have h1 := dg_len hu.2
        rw [← hpre, List.length_append] at h1
        omega
      refine CX.seq ?_
      refine CX.seq ?_
      refine CX.region ?_
      refine LX.pure (Y.move rfl) rfl rfl rfl ?_
      first
        | refine LX.pure (Y.ltN rfl rfl) rfl rfl rfl ?_
        | refine LX.pure (Y.ltI rfl rfl) rfl rfl rfl ?_
      refine LX.pure (Y.move rfl) rfl rfl rfl ?_
      refine LX.sub (l' := [(1, _), (3, _), (4, _), (5, _), (6, _), (12, _), (13, _), (14, _), (21, _)]) ⟨rfl, rfl, rfl, rfl, rfl, rfl, rfl, rfl, rfl, trivial⟩ ?_
      apply LX.joinAnd 11 32 21 rfl
      · intro hb3
        have hb3p := hb3
        try simp at hb3p
        refine LX.gT rfl rfl rfl hb3 (Y.move rfl) rfl rfl ?_
        first
          | refine LX.gT rfl rfl rfl hb3 (Y.fieldAddr0 Fo.fo36_1 rfl) rfl rfl ?_
          | refine LX.gT rfl rfl rfl hb3 (Y.fieldAddr Fo.fo36_1 rfl) rfl rfl ?_
        first
          | refine LX.gT rfl rfl rfl hb3 (Y.ldB 0 Fo.one34 rfl rfl rfl) rfl rfl ?_
          | refine LX.gT rfl rfl rfl hb3 (Y.ldB 1 Fo.one34 rfl rfl rfl) rfl rfl ?_
          | refine LX.gT rfl rfl rfl hb3 (Y.ldB 2 Fo.one34 rfl rfl rfl) rfl rfl ?_
          | refine LX.gT rfl rfl rfl hb3 (Y.ldB 3 Fo.one34 rfl rfl rfl) rfl rfl ?_
        refine LX.gT rfl rfl rfl hb3 (Y.lenSl rfl Fo.un34 rfl) rfl rfl ?_
        refine LX.gT rfl rfl rfl hb3 (Y.subN (a := 1) (b := 1) rfl rfl (by omega) (by omega)) rfl rfl ?_
        first
          | refine LX.gT rfl rfl rfl hb3 (Y.ltN rfl rfl) rfl rfl ?_
          | refine LX.gT rfl rfl rfl hb3 (Y.ltI rfl rfl) rfl rfl ?_
        refine LX.gT rfl rfl rfl hb3 (Y.move rfl) rfl rfl ?_
        refine LX.sub (l' := [(1, _), (3, _), (4, _), (5, _), (6, _), (12, _), (13, _), (14, _), (21, _), (28, _)]) ⟨rfl, rfl, rfl, rfl, rfl, rfl, rfl, rfl, rfl, rfl, trivial⟩ ?_
        apply LX.joinOr 3 31 28 rfl
        · intro hb4
          first | done | (exfalso; simp_all; done) | cases hb4
        · intro hb4
          have hb4p := hb4
          try simp at hb4p
          refine LX.gT rfl rfl rfl hb4 (Y.move rfl) rfl rfl ?_
          first
            | refine LX.gT rfl rfl rfl hb4 (Y.gtN rfl rfl) rfl rfl ?_
            | refine LX.gT rfl rfl rfl hb4 (Y.gtI rfl rfl) rfl rfl ?_
          refine LX.gT rfl rfl rfl hb3 (Y.pickF rfl hb4 rfl) rfl rfl ?_
          exact LX.left ⟨rfl, rfl, rfl, rfl, rfl, rfl, rfl, rfl, rfl, rfl, rfl, trivial⟩
        refine LX.pure (Y.pickT rfl hb3 rfl) rfl rfl rfl ?_
        exact LX.left ⟨rfl, rfl, rfl, rfl, rfl, rfl, rfl, rfl, rfl, rfl, trivial⟩
      · intro hb3
        have hb3p := hb3
        try simp at hb3p
        refine LX.gF rfl rfl rfl hb3 rfl rfl ?_
        refine LX.gF rfl rfl rfl hb3 rfl rfl ?_
        refine LX.gF rfl rfl rfl hb3 rfl rfl ?_
        refine LX.gF rfl rfl rfl hb3 rfl rfl ?_
        refine LX.gF rfl rfl rfl hb3 rfl rfl ?_
        refine LX.gF rfl rfl rfl hb3 rfl rfl ?_
        refine LX.gF rfl rfl rfl hb3 rfl rfl ?_
        refine LX.gU rfl rfl rfl rfl rfl ?_
        refine LX.gU rfl rfl rfl rfl rfl ?_
        refine LX.gF rfl rfl rfl hb3 rfl rfl ?_
        refine LX.pure (Y.pickF rfl hb3 rfl) rfl rfl rfl ?_
        exact LX.left ⟨rfl, rfl, rfl, rfl, rfl, rfl, rfl, rfl, rfl, rfl, trivial⟩
      refine LX.sub (l' := [(1, _), (3, _), (4, _), (5, _), (6, _), (12, _), (13, _), (14, _), (32, _)]) ⟨rfl, rfl, rfl, rfl, rfl, rfl, rfl, rfl, rfl, trivial⟩ ?_
      refine LX.next ?_
      refine PX.thenN ?_
      refine CX.cond rfl (fun hb5 => ?_) (fun hb5 => ?_)
      · try simp at hb5
        have hv0 : 0 < v := by first | omega | (simp at hb3; omega) | (simp_all; omega)
        refine CX.skip ?_
        refine PX.thenN ?_
        refine CX.seq ?_
        refine CX.block ?_
        refine CX.seq ?_
        refine CX.region ?_
        refine LX.pure (Y.move rfl) rfl rfl rfl ?_
        refine LX.pure (Y.move rfl) rfl rfl rfl ?_
        refine LX.pure (Y.remK (a := v) (b := 10) rfl rfl (by decide)) rfl rfl rfl ?_
        refine LX.pure (Y.addK (a := 48) (b := v % 10) rfl rfl (wrap_u32 (by omega))) rfl rfl rfl ?_
        refine LX.pure (Y.convN rfl Fo.un84 Dt.un5 (wrap_u8 (by omega))) rfl rfl rfl ?_
        refine LX.buildSlice (e := 5) (size := 1) rfl rfl (fun _ => by kernel_rfl) rfl (by decide) rfl rfl rfl ?_
        intro gt38
        first
          | refine LX.appendT 0 Dt.el94 rfl rfl rfl rfl rfl rfl rfl (by first | omega | (dsimp only; omega)) (by first | omega | (dsimp only; omega)) rfl rfl rfl ?_
          | refine LX.appendT 1 Dt.el94 rfl rfl rfl rfl rfl rfl rfl (by first | omega | (dsimp only; omega)) (by first | omega | (dsimp only; omega)) rfl rfl rfl ?_
          | refine LX.appendT 2 Dt.el94 rfl rfl rfl rfl rfl rfl rfl (by first | omega | (dsimp only; omega)) (by first | omega | (dsimp only; omega)) rfl rfl rfl ?_
          | refine LX.appendT 3 Dt.el94 rfl rfl rfl rfl rfl rfl rfl (by first | omega | (dsimp only; omega)) (by first | omega | (dsimp only; omega)) rfl rfl rfl ?_
        intro g' cap'
        refine LX.pure (Y.assign rfl) rfl rfl rfl ?_
        refine LX.sub (l' := [(1, _), (3, _), (4, _), (5, _), (6, _), (12, _), (13, _), (14, _)]) ⟨rfl, rfl, rfl, rfl, rfl, rfl, rfl, rfl, trivial⟩ ?_
        refine LX.next ?_
        refine PX.thenN ?_
        refine CX.region ?_
        refine LX.pure (Y.move rfl) rfl rfl rfl ?_
        refine LX.pure (Y.quoK (a := v) (b := 10) rfl rfl (by decide) (wrap_u32 (by omega))) rfl rfl rfl ?_
        refine LX.pure (Y.assign rfl) rfl rfl rfl ?_
        refine LX.sub (l' := [(1, _), (3, _), (4, _), (5, _), (6, _), (12, _), (13, _), (14, _)]) ⟨rfl, rfl, rfl, rfl, rfl, rfl, rfl, rfl, trivial⟩ ?_
        refine LX.next ?_
        refine PX.blockN ?_
        refine PX.thenN ?_
        refine CX.region ?_
        refine LX.pure (Y.move rfl) rfl rfl rfl ?_
        first
          | refine LX.pure (Y.addN rfl rfl (by first | omega | (simp only []; omega) | (simp; done) | (simp; omega))) rfl rfl rfl ?_
          | refine LX.pure (Y.add rfl rfl (by first | omega | (simp only []; omega) | (simp; done) | (simp; omega))) rfl rfl rfl ?_
        refine LX.pure (Y.assign rfl) rfl rfl rfl ?_
        refine LX.sub (l' := [(1, _), (3, _), (4, _), (5, _), (6, _), (12, _), (13, _), (14, _)]) ⟨rfl, rfl, rfl, rfl, rfl, rfl, rfl, rfl, trivial⟩ ?_
        refine LX.next ?_
        exact PX.again (L := (fun s : Nat × Option Nat × Nat × List UInt8 => [(1, .pointer (some ⟨bx0, 0, none⟩)), (3, rv s.2.1 s.2.2.2.length s.2.2.1), (4, .int .i64 ((0 : Nat) : Int)), (5, .int .u32 (s.1 : Int)), (6, .int .i64 (s.2.2.2.length : Int)), (12, rv (some b) 1 c), (13, .int .i64 1), (14, .int .i64 ((0 : Nat) : Int))])) (WW := (fun (s : Nat × Option Nat × Nat × List UInt8) w => (s.1 < 1000 ∧ s.2.2.2 ++ dg s.1 = dg u) ∧ WA w0 base (.row s.2.1 s.2.2.1 (s.2.2.2).length 5 1 ((s.2.2.2).map b8) :: blk bx0 [.bool false, rv (some b) 1 c] 36 :: fr) w)) (μ := fun s => s.1) (i := (v, g2, c2, pre)) (v / 10, g', cap', pre ++ [(48 + v % 10).toUInt8]) (by show v / 10 < v; omega) ⟨rfl, by dsimp only; rw [List.length_append]; rfl, rfl, rfl, by dsimp only; rw [List.length_append]; rfl, rfl, rfl, rfl, trivial⟩ (fun w hw => ⟨⟨by show v / 10 < 1000; omega, by dsimp only; rw [List.append_assoc, ← hpre, dg_pos hv0]; rfl⟩, by dsimp only; rw [List.length_append, List.map_append, show ([(48 + v % 10).toUInt8] : List UInt8).map b8 = [.int .u8 ((48 + v % 10 : Nat) : Int)] by rw [b8_nat (by omega)]; rfl]; exact hw⟩)
      · try simp at hb5
        have hv0 : v = 0 := by first | omega | (simp at hb3; omega) | (simp_all; omega)
        subst hv0
        rw [dg_0, List.append_nil] at hpre
        refine CX.exit ?_
        refine PX.thenE ?_
        refine PX.thenE ?_
        refine PX.blockE ?_
        refine PX.blockN ?_
        refine PX.thenN ?_
        refine CX.region ?_
        first
          | refine LX.pure (Y.addN rfl rfl (by first | omega | (simp only []; omega) | (simp; done) | (simp; omega))) rfl rfl rfl ?_
          | refine LX.pure (Y.add rfl rfl (by first | omega | (simp only []; omega) | (simp; done) | (simp; omega))) rfl rfl rfl ?_
        refine LX.pure (Y.move rfl) rfl rfl rfl ?_
        refine LX.sub (l' := [(1, _), (3, _), (12, _), (13, _), (14, _)]) ⟨rfl, rfl, rfl, rfl, rfl, trivial⟩ ?_
        refine LX.next ?_
        exact PX.again (L := (fun s : Nat × Option Nat × Nat × List UInt8 => [(1, .pointer (some ⟨bx0, 0, none⟩)), (3, rv s.2.1 s.2.2.2.length s.2.2.1), (12, rv (some b) 1 c), (13, .int .i64 1), (14, .int .i64 (s.1 : Int))])) (WW := (fun (s : Nat × Option Nat × Nat × List UInt8) w => (s.1 ≤ 1 ∧ (s.1 = 0 → s.2.2.2 = []) ∧ (s.1 = 1 → s.2.2.2 = dg u)) ∧ WA w0 base (.row s.2.1 s.2.2.1 (s.2.2.2).length 5 1 ((s.2.2.2).map b8) :: blk bx0 [.bool false, rv (some b) 1 c] 36 :: fr) w)) (μ := fun s => 1 - s.1) (i := (0, g, cg, [])) (1, g2, c2, pre) (by show 1 - 1 < 1 - 0; omega) ⟨rfl, rfl, rfl, rfl, rfl, trivial⟩ (fun w hw => ⟨⟨by show 1 ≤ 1; omega, (fun h => by cases h), fun _ => hpre⟩, hw⟩)
    · try simp at hb2
      obtain rfl : i = 1 := by omega
      obtain rfl := hb1 rfl
      have hd1 := dg_some hu.1
      have hd3 := dg_len hu.2
      refine CX.exit ?_
      refine PX.thenE ?_
      refine PX.thenE ?_
      refine PX.blockE ?_
      refine PX.thenN ?_
      refine CX.seq ?_
      refine CX.seq ?_
      refine CX.region ?_
      first
        | refine LX.pure (Y.fieldAddr0 Fo.fo36_0 rfl) rfl rfl rfl ?_
        | refine LX.pure (Y.fieldAddr Fo.fo36_0 rfl) rfl rfl rfl ?_
      first
        | refine LX.pure (Y.ldB 0 Fo.one4 rfl rfl rfl) rfl rfl rfl ?_
        | refine LX.pure (Y.ldB 1 Fo.one4 rfl rfl rfl) rfl rfl rfl ?_
        | refine LX.pure (Y.ldB 2 Fo.one4 rfl rfl rfl) rfl rfl rfl ?_
        | refine LX.pure (Y.ldB 3 Fo.one4 rfl rfl rfl) rfl rfl rfl ?_
      refine LX.sub (l' := [(3, _), (46, _)]) ⟨rfl, rfl, trivial⟩ ?_
      refine LX.next ?_
      refine PX.thenN ?_
      refine CX.cond rfl (fun hb6 => ?_) (fun hb6 => ?_)
      · try simp at hb6
        first | done | (exfalso; omega) | (exfalso; simp_all; done) | (exfalso; simp_all; omega)
      · try simp at hb6
        refine CX.skip ?_
        refine PX.thenN ?_
        refine CX.seq ?_
        refine CX.region ?_
        refine LX.pure (Y.move rfl) rfl rfl rfl ?_
        refine LX.call (rev_c (by first | omega | (simp; omega)) (by first | omega | (simp; omega))) Dt.en41 rfl rfl rfl rfl rfl ?_
        intro _
        refine LX.sub (l' := [(3, _)]) ⟨rfl, trivial⟩ ?_
        refine LX.next ?_
        refine PX.thenN ?_
        refine CX.seq ?_
        refine CX.region ?_
        refine LX.pure (Y.move rfl) rfl rfl rfl ?_
        first
          | refine LX.pure (Y.str 0 rfl rfl Dt.un94 Dt.un5 Dq.un9) rfl rfl rfl ?_
          | refine LX.pure (Y.str 1 rfl rfl Dt.un94 Dt.un5 Dq.un9) rfl rfl rfl ?_
          | refine LX.pure (Y.str 2 rfl rfl Dt.un94 Dt.un5 Dq.un9) rfl rfl rfl ?_
          | refine LX.pure (Y.str 3 rfl rfl Dt.un94 Dt.un5 Dq.un9) rfl rfl rfl ?_
        refine LX.pure (Y.assign rfl) rfl rfl rfl ?_
        refine LX.sub (l' := [(2, _)]) ⟨rfl, trivial⟩ ?_
        refine LX.next ?_
        refine PX.thenN ?_
        refine CX.ret ?_
        refine PX.ret1 (by simp) Tryz.results17 rfl ?_
        exact fun w hw => ⟨(), by unfold txtN; simp, hw.drop ((List.sublist_cons_self _ _).cons _)⟩
end Go.Proofs.YtifanilblkellaaGreatDoor
