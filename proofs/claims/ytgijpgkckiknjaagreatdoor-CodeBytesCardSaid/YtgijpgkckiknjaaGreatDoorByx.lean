/-
  Proved here: the document's programs are written.
-/
import Derived.Test.YtgijpgkckiknjaaGreatDoorByw
import Derived.Test.YtgijpgkckiknjaaGreatDoorByW
import Derived.Test.YtgijpgkckiknjaaGreatDoorByR
namespace Go.Proofs.YtgijpgkckiknjaaGreatDoor
open Go.SX Go.RowKit Go.Ck Go.Lex Go.By
namespace Hb
theorem ag65 : AggT Tryz.prog 65 4 := AggT.of (by kernel_rfl) (by kernel_rfl)
theorem en89 : Enters Tryz.prog 89 := Enters.of Tryz.func89 (by kernel_rfl) (by kernel_rfl)
theorem fa124_0 : FieldOffA Tryz.prog 124 0 0 := fun a w => by kernel_rfl
theorem fa124_1 : FieldOffA Tryz.prog 124 1 1 := fun a w => by kernel_rfl
theorem fa124_2 : FieldOffA Tryz.prog 124 2 2 := fun a w => by kernel_rfl
theorem fa124_3 : FieldOffA Tryz.prog 124 3 3 := fun a w => by kernel_rfl
theorem fa124_4 : FieldOffA Tryz.prog 124 4 4 := fun a w => by kernel_rfl
theorem fa57_1 : FieldOffA Tryz.prog 57 1 1 := fun a w => by kernel_rfl
theorem fa57_2 : FieldOffA Tryz.prog 57 2 2 := fun a w => by kernel_rfl
theorem fa57_3 : FieldOffA Tryz.prog 57 3 3 := fun a w => by kernel_rfl
theorem fa65_0 : FieldOffA Tryz.prog 65 0 0 := fun a w => by kernel_rfl
theorem fa65_1 : FieldOffA Tryz.prog 65 1 1 := fun a w => by kernel_rfl
theorem fa65_2 : FieldOffA Tryz.prog 65 2 2 := fun a w => by kernel_rfl
theorem fa65_3 : FieldOffA Tryz.prog 65 3 3 := fun a w => by kernel_rfl
theorem fo124_0 : FieldOff Tryz.prog 124 0 0 := fun b o w => by kernel_rfl
theorem fo124_1 : FieldOff Tryz.prog 124 1 1 := fun b o w => by kernel_rfl
theorem fo124_2 : FieldOff Tryz.prog 124 2 2 := fun b o w => by kernel_rfl
theorem fo124_3 : FieldOff Tryz.prog 124 3 3 := fun b o w => by kernel_rfl
theorem fo124_4 : FieldOff Tryz.prog 124 4 4 := fun b o w => by kernel_rfl
theorem fo57_1 : FieldOff Tryz.prog 57 1 1 := fun b o w => by kernel_rfl
theorem fo57_2 : FieldOff Tryz.prog 57 2 2 := fun b o w => by kernel_rfl
theorem fo57_3 : FieldOff Tryz.prog 57 3 3 := fun b o w => by kernel_rfl
theorem fo65_0 : FieldOff Tryz.prog 65 0 0 := fun b o w => by kernel_rfl
theorem fo65_1 : FieldOff Tryz.prog 65 1 1 := fun b o w => by kernel_rfl
theorem fo65_2 : FieldOff Tryz.prog 65 2 2 := fun b o w => by kernel_rfl
theorem fo65_3 : FieldOff Tryz.prog 65 3 3 := fun b o w => by kernel_rfl
theorem sz124 : SizeIs Tryz.prog 124 6 := fun w => by kernel_rfl
theorem sz65 : SizeIs Tryz.prog 65 4 := fun w => by kernel_rfl
theorem zv65 : ∀ w, (zeroValue 65).run Tryz.prog w = .ok (.agg #[.int .i64 0, .int .i64 0, .int .i64 0, .int .i64 0]) w := fun w => by kernel_rfl
end Hb
open Go.Tr (ndA)
theorem gBytes_c {w0 : World} {base : Nat} {fr : List It} {X : Cx} {p : Pg} (hX : CkAt (Lies w0 base) X p ⟨[], 0, 0, 0, [], []⟩) (hm : midB p) (hlen : (pgB p).length ≤ 100000000) : FnC Tryz.prog 33 #[.agg (X.pcs p).toArray] (WA w0 base fr) (fun q : Option Nat × Nat => rv q.1 (pgB p).length q.2) (fun q => WA w0 base (.row q.1 q.2 (pgB p).length 5 1 ((pgB p).map b8) :: fr)) := by
  obtain ⟨⟨hf1, ⟨hc1, hc2⟩, ⟨hg1, hg2⟩, hn1, hn2⟩, _⟩ := id hm
  have hpl := pg_len p
  have hpg : pgB p = ((((head ++ (num p.consts.length ++ p.consts.flatMap cB)) ++ txts p.globals) ++ txts p.names) ++ num p.funcs.length) ++ p.funcs.flatMap fnB := by unfold pgB; simp only [List.append_assoc]
  refine FnC.of_body (fn := Tryz.f33) [(0, _)] Tryz.func33 rfl Tryz.ntmps33 rfl ⟨rfl, trivial⟩ ?_
  refine CX.seq ?_
  refine CX.region ?_
  refine LX.box rfl rfl rfl rfl rfl ?_
  intro bx1
  refine LX.pure (Y.assign rfl) rfl rfl rfl ?_
  refine LX.sub (l' := [(1, _), (2, _)]) ⟨rfl, rfl, trivial⟩ ?_
  refine LX.next ?_
  refine PX.thenN ?_
  refine CX.seq ?_
  refine CX.region ?_
  refine LX.make0 (c := 64) Ha.el79 rfl rfl rfl (by decide) (by decide) rfl rfl rfl ?_
  intro gm
  obtain ⟨inf8, hi1, hi2, hi3, hi4⟩ := Gc.inf8
  refine LX.appendS 0 (s := [83, 77, 49]) Ha.un79 Fj.un9 hi1 hi2 hi3 hi4 rfl rfl rfl rfl rfl (by decide) rfl rfl rfl ?_
  intro g' cap'
  refine LX.world (W' := WA w0 base (.row ((g', cap') : Option Nat × Nat).1 ((g', cap') : Option Nat × Nat).2 head.length 5 1 (head.map b8) :: blk bx1 (X.pcs p) 57 :: fr)) (fun w hw => hw) ?_
  refine LX.pure (Y.assign rfl) rfl rfl rfl ?_
  refine LX.sub (l' := [(1, _), (2, _), (3, _)]) ⟨rfl, rfl, rfl, trivial⟩ ?_
  refine LX.next ?_
  refine PX.thenN ?_
  refine CX.seq ?_
  refine CX.region ?_
  refine LX.pure (Y.move rfl) rfl rfl rfl ?_
  refine LX.pure (Y.fieldAddr0 Hb.fo57_1 rfl) rfl rfl rfl ?_
  refine LX.pure (Y.ldB 1 Fja.one22 rfl rfl rfl) rfl rfl rfl ?_
  refine LX.pure (Y.lenSl rfl Fj.un22 rfl) rfl rfl rfl ?_
  refine LX.call (gNum_c (bs := head) (n := (p.consts.length : Int)) (len_inI hc1) (by decide) (g', cap')) Ha.en87 rfl rfl rfl rfl rfl ?_
  intro q
  rw [← (show (head ++ (num p.consts.length ++ (p.consts.take 0).flatMap cB)) = head ++ num p.consts.length by simp)]
  refine LX.pure (Y.assign rfl) rfl rfl rfl ?_
  refine LX.sub (l' := [(1, _), (2, _), (3, _)]) ⟨rfl, rfl, rfl, trivial⟩ ?_
  refine LX.next ?_
  refine PX.thenN ?_
  refine CX.seq ?_
  refine CX.seq ?_
  refine CX.region ?_
  refine LX.pure (Y.assign rfl) rfl rfl rfl ?_
  refine LX.sub (l' := [(1, _), (2, _), (3, _), (4, _)]) ⟨rfl, rfl, rfl, rfl, trivial⟩ ?_
  refine LX.next ?_
  refine PX.thenN ?_
  refine CX.block ?_
  refine CX.loop (fun s : Nat × Option Nat × Nat => [(1, .pointer (some ⟨bx1, 0, none⟩)), (3, rv s.2.1 (head ++ (num p.consts.length ++ (p.consts.take s.1).flatMap cB)).length s.2.2), (4, .int .i64 (s.1 : Int))]) (fun (s : Nat × Option Nat × Nat) w => s.1 ≤ p.consts.length ∧ WA w0 base (.row s.2.1 s.2.2 (head ++ (num p.consts.length ++ (p.consts.take s.1).flatMap cB)).length 5 1 ((head ++ (num p.consts.length ++ (p.consts.take s.1).flatMap cB)).map b8) :: blk bx1 (X.pcs p) 57 :: fr) w) (fun s => p.consts.length - s.1) (0, q) ⟨rfl, rfl, rfl, trivial⟩ (fun w hw => ⟨Nat.zero_le _, hw⟩) ?_
  rintro ⟨j, q⟩
  refine CX.have fun hj0 => ?_
  replace hj0 : j ≤ p.consts.length := hj0
  try dsimp only
  refine CX.seq ?_
  refine CX.seq ?_
  refine CX.region ?_
  refine LX.pure (Y.move rfl) rfl rfl rfl ?_
  refine LX.pure (Y.fieldAddr0 Hb.fo57_1 rfl) rfl rfl rfl ?_
  refine LX.pure (Y.ldB 1 Fja.one22 rfl rfl rfl) rfl rfl rfl ?_
  refine LX.pure (Y.lenSl rfl Fj.un22 rfl) rfl rfl rfl ?_
  refine LX.pure (Y.ltN rfl rfl) rfl rfl rfl ?_
  refine LX.sub (l' := [(1, _), (3, _), (4, _), (20, _)]) ⟨rfl, rfl, rfl, rfl, trivial⟩ ?_
  refine LX.next ?_
  refine PX.thenN ?_
  refine CX.cond rfl (fun hb1 => ?_) (fun hb1 => ?_)
  · try simp at hb1
    have hj : j < p.consts.length := by omega
    obtain ⟨x, hx⟩ : ∃ x, p.consts[j]? = some x := ⟨_, List.getElem?_eq_getElem hj⟩
    obtain ⟨a, cs, hav, hcl, hL, vk, rfl, hks, hin⟩ := hX.hC j x hx
    obtain ⟨ak2, ck2, rfl, ⟨hkn2, hkc2⟩, hka2⟩ := hks.sl
    have hxs := (hc2 x (List.mem_of_getElem? hx)).2
    have hlj := flat_at_le (f := cB) hx
    have hcl2 := cB_len x
    refine CX.skip ?_
    refine PX.thenN ?_
    refine CX.seq ?_
    refine CX.block ?_
    refine CX.regionS (WA w0 base (blk bx1 (X.pcs p) 57 :: fr)) [(0, .anywhere), (1, .anywhere), (2, .held), (3, .anywhere), (4, .held), (5, .held), (6, .held), (8, .anywhere), (9, .held), (10, .anywhere), (11, .held), (12, .held), (13, .held), (7, .alone), (14, .alone), (15, .anywhere)] rfl (by kernel_rfl) ?_
    refine MX.lift0 (i := 0) rfl (Y.move rfl) rfl rfl rfl ?_
    refine MX.lift0 (i := 1) rfl (Y.fieldAddr0 Hb.fo57_1 rfl) rfl rfl rfl ?_
    refine MX.lift1 (i := 2) (pend' := []) rfl (fun w hw => hw.drop (List.sublist_cons_self _ _)) (Y.ldB 0 Fja.one22 rfl rfl rfl) rfl rfl rfl (by kernel_rfl) ?_
    refine MX.lift0 (i := 3) rfl (Y.move rfl) rfl rfl rfl ?_
    refine MX.lift1 (i := 4) (pend' := []) rfl (fun w hw => hw.drop (List.sublist_cons_self _ _)) (Y.idxZ Fj.un22 Fj.sz44 rfl rfl hav (j := j) rfl hj) rfl rfl rfl (by kernel_rfl) ?_
    refine MX.lift1 (i := 5) (pend' := []) rfl (fun w hw => hw.drop (List.sublist_cons_self _ _)) (Y.fieldA Fjc.fa44_0 rfl) rfl rfl rfl (by kernel_rfl) ?_
    refine MX.lift1 (i := 6) (pend' := []) rfl (fun w hw => hw.drop (List.sublist_cons_self _ _)) (Y.ldFO (v := .int .i64 x.op) Fjb.one3 rfl hL rfl) rfl rfl rfl (by kernel_rfl) ?_
    refine MX.lift0 (i := 8) rfl (Y.fieldAddr0 Hb.fo57_1 rfl) rfl rfl rfl ?_
    refine MX.lift1 (i := 9) (pend' := [6]) rfl (fun w hw => hw.drop (List.sublist_cons_self _ _)) (Y.ldB 0 Fja.one22 rfl rfl rfl) rfl rfl rfl (by kernel_rfl) ?_
    refine MX.lift0 (i := 10) rfl (Y.move rfl) rfl rfl rfl ?_
    refine MX.lift1 (i := 11) (pend' := [6]) rfl (fun w hw => hw.drop (List.sublist_cons_self _ _)) (Y.idxZ Fj.un22 Fj.sz44 rfl rfl hav (j := j) rfl hj) rfl rfl rfl (by kernel_rfl) ?_
    refine MX.lift1 (i := 12) (pend' := [6]) rfl (fun w hw => hw.drop (List.sublist_cons_self _ _)) (Y.fieldA Fj.fa44_3 rfl) rfl rfl rfl (by kernel_rfl) ?_
    refine MX.lift1 (i := 13) (pend' := [6]) rfl (fun w hw => hw.drop (List.sublist_cons_self _ _)) (Y.ldFO (v := str x.s) Fj.one9 rfl hL rfl) rfl rfl rfl (by kernel_rfl) ?_
    refine MX.force (i := 7) rfl ?_
    refine LX.call (gNum_c (n := x.op) hin.1 (by simp only [List.length_append, head3]; omega) q) Ha.en87 rfl rfl rfl rfl rfl ?_
    intro q
    refine LX.nextM [13] (by kernel_rfl) (fun _ => (fun w hw => hw.drop (List.sublist_cons_self _ _))) ?_
    refine MX.force (i := 14) rfl ?_
    refine LX.call (gText_c (s := x.s) (by simp only [List.length_append, head3]; omega) hxs q) Ha.en88 rfl rfl rfl rfl rfl ?_
    intro q2
    rw [show ((head ++ (num p.consts.length ++ (p.consts.take j).flatMap cB)) ++ num x.op) ++ txt x.s = (head ++ (num p.consts.length ++ (p.consts.take (j + 1)).flatMap cB)) by rw [flat_next hx]; unfold cB; simp only [List.append_assoc]]
    refine LX.nextM [] (by kernel_rfl) (fun h => absurd rfl h) ?_
    refine MX.lift0 (i := 15) rfl (Y.assign rfl) rfl rfl rfl ?_
    refine MX.sub (l' := [(1, _), (3, _), (4, _)]) ⟨rfl, rfl, rfl, trivial⟩ ?_
    refine MX.done ?_
    refine PX.blockN ?_
    refine PX.thenN ?_
    refine CX.region ?_
    refine LX.pure (Y.move rfl) rfl rfl rfl ?_
    refine LX.pure (Y.addN rfl rfl (by (simp only []; omega))) rfl rfl rfl ?_
    refine LX.pure (Y.assign rfl) rfl rfl rfl ?_
    refine LX.sub (l' := [(1, _), (3, _), (4, _)]) ⟨rfl, rfl, rfl, trivial⟩ ?_
    refine LX.next ?_
    exact PX.again (L := (fun s : Nat × Option Nat × Nat => [(1, .pointer (some ⟨bx1, 0, none⟩)), (3, rv s.2.1 (head ++ (num p.consts.length ++ (p.consts.take s.1).flatMap cB)).length s.2.2), (4, .int .i64 (s.1 : Int))])) (WW := (fun (s : Nat × Option Nat × Nat) w => s.1 ≤ p.consts.length ∧ WA w0 base (.row s.2.1 s.2.2 (head ++ (num p.consts.length ++ (p.consts.take s.1).flatMap cB)).length 5 1 ((head ++ (num p.consts.length ++ (p.consts.take s.1).flatMap cB)).map b8) :: blk bx1 (X.pcs p) 57 :: fr) w)) (μ := fun s => p.consts.length - s.1) (i := (j, q)) (j + 1, q2) (by show p.consts.length - (j + 1) < p.consts.length - j; omega) ⟨rfl, rfl, rfl, trivial⟩ (fun w hw => ⟨by show j + 1 ≤ p.consts.length; omega, hw⟩)
  · try simp at hb1
    have hje : j = p.consts.length := by omega
    subst hje
    rw [List.take_length]
    refine CX.exit ?_
    refine PX.thenE ?_
    refine PX.thenE ?_
    refine PX.blockE ?_
    refine PX.thenN ?_
    refine CX.seq ?_
    refine CX.regionS (WA w0 base (blk bx1 (X.pcs p) 57 :: fr)) [(0, .anywhere), (1, .anywhere), (2, .held), (4, .anywhere), (5, .held), (3, .alone), (6, .alone), (7, .anywhere)] rfl (by kernel_rfl) ?_
    refine MX.lift0 (i := 0) rfl (Y.move rfl) rfl rfl rfl ?_
    refine MX.lift0 (i := 1) rfl (Y.fieldAddr0 Hb.fo57_2 rfl) rfl rfl rfl ?_
    refine MX.lift1 (i := 2) (pend' := []) rfl (fun w hw => hw.drop (List.sublist_cons_self _ _)) (Y.ldB 0 Fja.one26 rfl rfl rfl) rfl rfl rfl (by kernel_rfl) ?_
    refine MX.lift0 (i := 4) rfl (Y.fieldAddr0 Hb.fo57_3 rfl) rfl rfl rfl ?_
    refine MX.lift1 (i := 5) (pend' := [2]) rfl (fun w hw => hw.drop (List.sublist_cons_self _ _)) (Y.ldB 0 Fja.one26 rfl rfl rfl) rfl rfl rfl (by kernel_rfl) ?_
    refine MX.force (i := 3) rfl ?_
    refine LX.call (gTexts_c X.cg hg1 hX.hG hg2 (by simp only [List.length_append, head3]; omega) q) Hb.en89 rfl rfl rfl rfl rfl ?_
    intro q
    refine LX.nextM [5] (by kernel_rfl) (fun _ => (fun w hw => hw.drop (List.sublist_cons_self _ _))) ?_
    refine MX.force (i := 6) rfl ?_
    refine LX.call (gTexts_c X.cn hn1 hX.hN hn2 (by simp only [List.length_append, head3]; omega) q) Hb.en89 rfl rfl rfl rfl rfl ?_
    intro q
    refine LX.nextM [] (by kernel_rfl) (fun h => absurd rfl h) ?_
    refine MX.lift0 (i := 7) rfl (Y.assign rfl) rfl rfl rfl ?_
    refine MX.sub (l' := [(1, _), (3, _)]) ⟨rfl, rfl, trivial⟩ ?_
    refine MX.done ?_
    refine PX.thenN ?_
    refine CX.seq ?_
    refine CX.region ?_
    refine LX.pure (Y.move rfl) rfl rfl rfl ?_
    refine LX.pure (Y.fieldAddr0 Fjf.fo57_0 rfl) rfl rfl rfl ?_
    refine LX.pure (Y.ldB 1 Fjf.one55 rfl rfl rfl) rfl rfl rfl ?_
    refine LX.pure (Y.lenSl rfl Fjf.un55 rfl) rfl rfl rfl ?_
    refine LX.call (gNum_c (n := (p.funcs.length : Int)) (len_inI hf1) (by simp only [List.length_append, head3]; omega) q) Ha.en87 rfl rfl rfl rfl rfl ?_
    intro q
    rw [← (show (((((head ++ (num p.consts.length ++ p.consts.flatMap cB)) ++ txts p.globals) ++ txts p.names) ++ num p.funcs.length) ++ (p.funcs.take 0).flatMap fnB) = ((((head ++ (num p.consts.length ++ p.consts.flatMap cB)) ++ txts p.globals) ++ txts p.names) ++ num p.funcs.length) by simp)]
    refine LX.pure (Y.assign rfl) rfl rfl rfl ?_
    refine LX.sub (l' := [(1, _), (3, _)]) ⟨rfl, rfl, trivial⟩ ?_
    refine LX.next ?_
    refine PX.thenN ?_
    refine CX.seq ?_
    refine CX.seq ?_
    refine CX.region ?_
    refine LX.pure (Y.assign rfl) rfl rfl rfl ?_
    refine LX.sub (l' := [(1, _), (3, _), (5, _)]) ⟨rfl, rfl, rfl, trivial⟩ ?_
    refine LX.next ?_
    refine PX.thenN ?_
    refine CX.block ?_
    refine CX.loop (fun s : Nat × Option Nat × Nat => [(1, .pointer (some ⟨bx1, 0, none⟩)), (3, rv s.2.1 (((((head ++ (num p.consts.length ++ p.consts.flatMap cB)) ++ txts p.globals) ++ txts p.names) ++ num p.funcs.length) ++ (p.funcs.take s.1).flatMap fnB).length s.2.2), (5, .int .i64 (s.1 : Int))]) (fun (s : Nat × Option Nat × Nat) w => s.1 ≤ p.funcs.length ∧ WA w0 base (.row s.2.1 s.2.2 (((((head ++ (num p.consts.length ++ p.consts.flatMap cB)) ++ txts p.globals) ++ txts p.names) ++ num p.funcs.length) ++ (p.funcs.take s.1).flatMap fnB).length 5 1 ((((((head ++ (num p.consts.length ++ p.consts.flatMap cB)) ++ txts p.globals) ++ txts p.names) ++ num p.funcs.length) ++ (p.funcs.take s.1).flatMap fnB).map b8) :: blk bx1 (X.pcs p) 57 :: fr) w) (fun s => p.funcs.length - s.1) (0, q) ⟨rfl, rfl, rfl, trivial⟩ (fun w hw => ⟨Nat.zero_le _, hw⟩) ?_
    rintro ⟨j, q⟩
    refine CX.have fun hj0 => ?_
    replace hj0 : j ≤ p.funcs.length := hj0
    try dsimp only
    refine CX.seq ?_
    refine CX.seq ?_
    refine CX.region ?_
    refine LX.pure (Y.move rfl) rfl rfl rfl ?_
    refine LX.pure (Y.fieldAddr0 Fjf.fo57_0 rfl) rfl rfl rfl ?_
    refine LX.pure (Y.ldB 1 Fjf.one55 rfl rfl rfl) rfl rfl rfl ?_
    refine LX.pure (Y.lenSl rfl Fjf.un55 rfl) rfl rfl rfl ?_
    refine LX.pure (Y.ltN rfl rfl) rfl rfl rfl ?_
    refine LX.sub (l' := [(1, _), (3, _), (5, _), (54, _)]) ⟨rfl, rfl, rfl, rfl, trivial⟩ ?_
    refine LX.next ?_
    refine PX.thenN ?_
    refine CX.cond rfl (fun hb2 => ?_) (fun hb2 => ?_)
    · try simp at hb2
      have hj : j < p.funcs.length := by omega
      obtain ⟨g, hg⟩ : ∃ g, p.funcs[j]? = some g := ⟨_, List.getElem?_eq_getElem hj⟩
      obtain ⟨a, cs, hav, hcl, hL, vn2, vc2, rfl, hnm, hcd, hi1, hi2, hi3⟩ := hX.hF j g hg
      obtain ⟨an2, cn2, rfl, ⟨hn1, hn2⟩, hna⟩ := hnm.sl
      obtain ⟨ad2, cd2, rfl, ⟨hd1, hd2⟩, hda⟩ := hcd.sl
      obtain ⟨hgc, hgn, hgm⟩ := hm.2 g (List.mem_of_getElem? hg)
      have hlj := flat_at_le (f := fnB) hg
      have hcl2 := fn_len g
      obtain ⟨q0, hq0⟩ : ∃ z, z = q := ⟨_, rfl⟩
      refine CX.skip ?_
      refine PX.thenN ?_
      refine CX.seq ?_
      refine CX.block ?_
      refine CX.seq ?_
      refine CX.region ?_
      refine LX.pure (Y.fieldAddr0 Fjf.fo57_0 rfl) rfl rfl rfl ?_
      refine LX.pure (Y.ldB 1 Fjf.one55 rfl rfl rfl) rfl rfl rfl ?_
      refine LX.pure (Y.move rfl) rfl rfl rfl ?_
      refine LX.pure (Y.idxZ Fjf.un55 Hb.sz124 rfl rfl hav (j := j) rfl hj) rfl rfl rfl ?_
      refine LX.pure (Y.ldAO (cs := [str g.name, .int .i64 g.params, .int .i64 g.given, .int .i64 g.slots, .slice an2 g.names.length cn2, .slice ad2 g.code.length cd2]) Fjf.ag124 rfl hL rfl) rfl rfl rfl ?_
      refine LX.alloc rfl Fjf.zv124 rfl rfl rfl ?_
      intro b6
      refine LX.storeA 0 Fjf.ag124 rfl rfl rfl rfl rfl rfl rfl rfl rfl ?_
      refine LX.world (W' := WA w0 base (.row q.1 q.2 (((((head ++ (num p.consts.length ++ p.consts.flatMap cB)) ++ txts p.globals) ++ txts p.names) ++ num p.funcs.length) ++ (p.funcs.take j).flatMap fnB).length 5 1 ((((((head ++ (num p.consts.length ++ p.consts.flatMap cB)) ++ txts p.globals) ++ txts p.names) ++ num p.funcs.length) ++ (p.funcs.take j).flatMap fnB).map b8) :: blk b6 [str g.name, .int .i64 g.params, .int .i64 g.given, .int .i64 g.slots, .slice an2 g.names.length cn2, .slice ad2 g.code.length cd2] 124 :: blk bx1 (X.pcs p) 57 :: fr)) (fun w hw => (show WA w0 base (blk b6 [str g.name, .int .i64 g.params, .int .i64 g.given, .int .i64 g.slots, .slice an2 g.names.length cn2, .slice ad2 g.code.length cd2] 124 :: .row q.1 q.2 (((((head ++ (num p.consts.length ++ p.consts.flatMap cB)) ++ txts p.globals) ++ txts p.names) ++ num p.funcs.length) ++ (p.funcs.take j).flatMap fnB).length 5 1 ((((((head ++ (num p.consts.length ++ p.consts.flatMap cB)) ++ txts p.globals) ++ txts p.names) ++ num p.funcs.length) ++ (p.funcs.take j).flatMap fnB).map b8) :: blk bx1 (X.pcs p) 57 :: fr) w from hw).perm (by (refine perm_cnt fun x => ?_; simp only [cnt_append, cnt_cons, cnt_nil]; omega))) ?_
      refine LX.sub (l' := [(1, _), (3, _), (5, _), (6, _)]) ⟨rfl, rfl, rfl, rfl, trivial⟩ ?_
      refine LX.next ?_
      refine PX.thenN ?_
      refine CX.seq ?_
      refine CX.regionS (WA w0 base (blk b6 [str g.name, .int .i64 g.params, .int .i64 g.given, .int .i64 g.slots, .slice an2 g.names.length cn2, .slice ad2 g.code.length cd2] 124 :: blk bx1 (X.pcs p) 57 :: fr)) [(0, .anywhere), (1, .anywhere), (2, .held), (4, .anywhere), (5, .held), (7, .anywhere), (8, .held), (10, .anywhere), (11, .held), (3, .alone), (6, .alone), (9, .alone), (12, .alone), (13, .anywhere)] rfl (by kernel_rfl) ?_
      refine MX.lift0 (i := 0) rfl (Y.move rfl) rfl rfl rfl ?_
      refine MX.lift0 (i := 1) rfl (Y.fieldAddr0 Hb.fo124_0 rfl) rfl rfl rfl ?_
      refine MX.lift1 (i := 2) (pend' := []) rfl (fun w hw => hw.drop (List.sublist_cons_self _ _)) (Y.ldB 0 Fj.one9 rfl rfl rfl) rfl rfl rfl (by kernel_rfl) ?_
      refine MX.lift0 (i := 4) rfl (Y.fieldAddr0 Hb.fo124_1 rfl) rfl rfl rfl ?_
      refine MX.lift1 (i := 5) (pend' := [2]) rfl (fun w hw => hw.drop (List.sublist_cons_self _ _)) (Y.ldB 0 Fjb.one3 rfl rfl rfl) rfl rfl rfl (by kernel_rfl) ?_
      refine MX.lift0 (i := 7) rfl (Y.fieldAddr0 Hb.fo124_2 rfl) rfl rfl rfl ?_
      refine MX.lift1 (i := 8) (pend' := [5, 2]) rfl (fun w hw => hw.drop (List.sublist_cons_self _ _)) (Y.ldB 0 Fjb.one3 rfl rfl rfl) rfl rfl rfl (by kernel_rfl) ?_
      refine MX.lift0 (i := 10) rfl (Y.fieldAddr0 Hb.fo124_3 rfl) rfl rfl rfl ?_
      refine MX.lift1 (i := 11) (pend' := [8, 5, 2]) rfl (fun w hw => hw.drop (List.sublist_cons_self _ _)) (Y.ldB 0 Fjb.one3 rfl rfl rfl) rfl rfl rfl (by kernel_rfl) ?_
      refine MX.force (i := 3) rfl ?_
      refine LX.call (gText_c (s := g.name) (by simp only [List.length_append, head3]; omega) hgn q) Ha.en88 rfl rfl rfl rfl rfl ?_
      intro q
      refine LX.nextM [11, 8, 5] (by kernel_rfl) (fun _ => (fun w hw => hw.drop (List.sublist_cons_self _ _))) ?_
      refine MX.force (i := 6) rfl ?_
      refine LX.call (gNum_c (n := g.params) hi1 (by simp only [List.length_append, head3]; omega) q) Ha.en87 rfl rfl rfl rfl rfl ?_
      intro q
      refine LX.nextM [11, 8] (by kernel_rfl) (fun _ => (fun w hw => hw.drop (List.sublist_cons_self _ _))) ?_
      refine MX.force (i := 9) rfl ?_
      refine LX.call (gNum_c (n := g.given) hi2 (by simp only [List.length_append, head3]; omega) q) Ha.en87 rfl rfl rfl rfl rfl ?_
      intro q
      refine LX.nextM [11] (by kernel_rfl) (fun _ => (fun w hw => hw.drop (List.sublist_cons_self _ _))) ?_
      refine MX.force (i := 12) rfl ?_
      refine LX.call (gNum_c (n := g.slots) hi3 (by simp only [List.length_append, head3]; omega) q) Ha.en87 rfl rfl rfl rfl rfl ?_
      intro q
      refine LX.nextM [] (by kernel_rfl) (fun h => absurd rfl h) ?_
      refine MX.lift0 (i := 13) rfl (Y.assign rfl) rfl rfl rfl ?_
      refine MX.sub (l' := [(1, _), (3, _), (5, _), (6, _)]) ⟨rfl, rfl, rfl, rfl, trivial⟩ ?_
      refine MX.done ?_
      refine PX.thenN ?_
      refine CX.seq ?_
      refine CX.regionS (WA w0 base (blk b6 [str g.name, .int .i64 g.params, .int .i64 g.given, .int .i64 g.slots, .slice an2 g.names.length cn2, .slice ad2 g.code.length cd2] 124 :: blk bx1 (X.pcs p) 57 :: fr)) [(0, .anywhere), (1, .anywhere), (2, .held), (4, .anywhere), (5, .held), (6, .held), (3, .alone), (7, .alone), (8, .anywhere)] rfl (by kernel_rfl) ?_
      refine MX.lift0 (i := 0) rfl (Y.move rfl) rfl rfl rfl ?_
      refine MX.lift0 (i := 1) rfl (Y.fieldAddr0 Hb.fo124_4 rfl) rfl rfl rfl ?_
      refine MX.lift1 (i := 2) (pend' := []) rfl (fun w hw => hw.drop (List.sublist_cons_self _ _)) (Y.ldB 0 Fja.one26 rfl rfl rfl) rfl rfl rfl (by kernel_rfl) ?_
      refine MX.lift0 (i := 4) rfl (Y.fieldAddr0 Fjf.fo124_5 rfl) rfl rfl rfl ?_
      refine MX.lift1 (i := 5) (pend' := [2]) rfl (fun w hw => hw.drop (List.sublist_cons_self _ _)) (Y.ldB 0 Fjf.one122 rfl rfl rfl) rfl rfl rfl (by kernel_rfl) ?_
      refine MX.lift1 (i := 6) (pend' := [2]) rfl (fun w hw => hw.drop (List.sublist_cons_self _ _)) (Y.lenSl rfl Fjf.un122 rfl) rfl rfl rfl (by kernel_rfl) ?_
      refine MX.force (i := 3) rfl ?_
      refine LX.call (gTexts_c cn2 hgm.1 hna hgm.2 (by simp only [List.length_append, head3]; omega) q) Hb.en89 rfl rfl rfl rfl rfl ?_
      intro q
      refine LX.nextM [6] (by kernel_rfl) (fun _ => (fun w hw => hw.drop (List.sublist_cons_self _ _))) ?_
      refine MX.force (i := 7) rfl ?_
      refine LX.call (gNum_c (n := (g.code.length : Int)) (len_inI hgc) (by simp only [List.length_append, head3]; omega) q) Ha.en87 rfl rfl rfl rfl rfl ?_
      intro q
      rw [← (show ((((((((((((head ++ (num p.consts.length ++ p.consts.flatMap cB)) ++ txts p.globals) ++ txts p.names) ++ num p.funcs.length) ++ (p.funcs.take j).flatMap fnB) ++ txt g.name) ++ num g.params) ++ num g.given) ++ num g.slots) ++ txts g.names) ++ num g.code.length) ++ (g.code.take 0).flatMap insB) = (((((((((((head ++ (num p.consts.length ++ p.consts.flatMap cB)) ++ txts p.globals) ++ txts p.names) ++ num p.funcs.length) ++ (p.funcs.take j).flatMap fnB) ++ txt g.name) ++ num g.params) ++ num g.given) ++ num g.slots) ++ txts g.names) ++ num g.code.length) by simp)]
      refine LX.nextM [] (by kernel_rfl) (fun h => absurd rfl h) ?_
      refine MX.lift0 (i := 8) rfl (Y.assign rfl) rfl rfl rfl ?_
      refine MX.sub (l' := [(1, _), (3, _), (5, _), (6, _)]) ⟨rfl, rfl, rfl, rfl, trivial⟩ ?_
      refine MX.done ?_
      refine PX.thenN ?_
      refine CX.seq ?_
      refine CX.region ?_
      refine LX.pure (Y.assign rfl) rfl rfl rfl ?_
      refine LX.sub (l' := [(1, _), (3, _), (5, _), (6, _), (7, _)]) ⟨rfl, rfl, rfl, rfl, rfl, trivial⟩ ?_
      refine LX.next ?_
      refine PX.thenN ?_
      refine CX.block ?_
      refine CX.loop (fun s : Nat × Option Nat × Nat => [(1, .pointer (some ⟨bx1, 0, none⟩)), (3, rv s.2.1 ((((((((((((head ++ (num p.consts.length ++ p.consts.flatMap cB)) ++ txts p.globals) ++ txts p.names) ++ num p.funcs.length) ++ (p.funcs.take j).flatMap fnB) ++ txt g.name) ++ num g.params) ++ num g.given) ++ num g.slots) ++ txts g.names) ++ num g.code.length) ++ (g.code.take s.1).flatMap insB).length s.2.2), (5, .int .i64 (j : Int)), (6, .pointer (some ⟨b6, 0, none⟩)), (7, .int .i64 (s.1 : Int))]) (fun (s : Nat × Option Nat × Nat) w => s.1 ≤ g.code.length ∧ WA w0 base (.row s.2.1 s.2.2 ((((((((((((head ++ (num p.consts.length ++ p.consts.flatMap cB)) ++ txts p.globals) ++ txts p.names) ++ num p.funcs.length) ++ (p.funcs.take j).flatMap fnB) ++ txt g.name) ++ num g.params) ++ num g.given) ++ num g.slots) ++ txts g.names) ++ num g.code.length) ++ (g.code.take s.1).flatMap insB).length 5 1 (((((((((((((head ++ (num p.consts.length ++ p.consts.flatMap cB)) ++ txts p.globals) ++ txts p.names) ++ num p.funcs.length) ++ (p.funcs.take j).flatMap fnB) ++ txt g.name) ++ num g.params) ++ num g.given) ++ num g.slots) ++ txts g.names) ++ num g.code.length) ++ (g.code.take s.1).flatMap insB).map b8) :: blk b6 [str g.name, .int .i64 g.params, .int .i64 g.given, .int .i64 g.slots, .slice an2 g.names.length cn2, .slice ad2 g.code.length cd2] 124 :: blk bx1 (X.pcs p) 57 :: fr) w) (fun s => g.code.length - s.1) (0, q) ⟨rfl, rfl, rfl, rfl, rfl, trivial⟩ (fun w hw => ⟨Nat.zero_le _, hw⟩) ?_
      rintro ⟨k, q⟩
      refine CX.have fun hk0 => ?_
      replace hk0 : k ≤ g.code.length := hk0
      try dsimp only
      refine CX.seq ?_
      refine CX.seq ?_
      refine CX.region ?_
      refine LX.pure (Y.move rfl) rfl rfl rfl ?_
      refine LX.pure (Y.fieldAddr0 Fjf.fo124_5 rfl) rfl rfl rfl ?_
      refine LX.pure (Y.ldB 1 Fjf.one122 rfl rfl rfl) rfl rfl rfl ?_
      refine LX.pure (Y.lenSl rfl Fjf.un122 rfl) rfl rfl rfl ?_
      refine LX.pure (Y.ltN rfl rfl) rfl rfl rfl ?_
      refine LX.sub (l' := [(1, _), (3, _), (5, _), (6, _), (7, _), (87, _)]) ⟨rfl, rfl, rfl, rfl, rfl, rfl, trivial⟩ ?_
      refine LX.next ?_
      refine PX.thenN ?_
      refine CX.cond rfl (fun hb3 => ?_) (fun hb3 => ?_)
      · try simp at hb3
        have hk : k < g.code.length := by omega
        obtain ⟨i, hi⟩ : ∃ i, g.code[k]? = some i := ⟨_, List.getElem?_eq_getElem hk⟩
        obtain ⟨aI, csI, havI, hclI, hLI, rfl, hin1, hin2, hin3, hin4⟩ := hda k i hi
        have hlk := flat_at_le (f := insB) hi
        have hil := ins_len i
        obtain ⟨q1, hq1⟩ : ∃ z, z = q := ⟨_, rfl⟩
        refine CX.skip ?_
        refine PX.thenN ?_
        refine CX.seq ?_
        refine CX.block ?_
        refine CX.seq ?_
        refine CX.region ?_
        refine LX.pure (Y.fieldAddr0 Fjf.fo124_5 rfl) rfl rfl rfl ?_
        refine LX.pure (Y.ldB 1 Fjf.one122 rfl rfl rfl) rfl rfl rfl ?_
        refine LX.pure (Y.move rfl) rfl rfl rfl ?_
        refine LX.pure (Y.idxZ Fjf.un122 Hb.sz65 rfl rfl havI (j := k) rfl hk) rfl rfl rfl ?_
        refine LX.pure (Y.ldAO (cs := insCs i) Hb.ag65 rfl hLI rfl) rfl rfl rfl ?_
        refine LX.alloc rfl Hb.zv65 rfl rfl rfl ?_
        intro b8x
        refine LX.storeA 0 Hb.ag65 rfl rfl rfl rfl rfl rfl rfl rfl rfl ?_
        refine LX.world (W' := WA w0 base (.row q.1 q.2 ((((((((((((head ++ (num p.consts.length ++ p.consts.flatMap cB)) ++ txts p.globals) ++ txts p.names) ++ num p.funcs.length) ++ (p.funcs.take j).flatMap fnB) ++ txt g.name) ++ num g.params) ++ num g.given) ++ num g.slots) ++ txts g.names) ++ num g.code.length) ++ (g.code.take k).flatMap insB).length 5 1 (((((((((((((head ++ (num p.consts.length ++ p.consts.flatMap cB)) ++ txts p.globals) ++ txts p.names) ++ num p.funcs.length) ++ (p.funcs.take j).flatMap fnB) ++ txt g.name) ++ num g.params) ++ num g.given) ++ num g.slots) ++ txts g.names) ++ num g.code.length) ++ (g.code.take k).flatMap insB).map b8) :: blk b8x (insCs i) 65 :: blk b6 [str g.name, .int .i64 g.params, .int .i64 g.given, .int .i64 g.slots, .slice an2 g.names.length cn2, .slice ad2 g.code.length cd2] 124 :: blk bx1 (X.pcs p) 57 :: fr)) (fun w hw => (show WA w0 base (blk b8x (insCs i) 65 :: .row q.1 q.2 ((((((((((((head ++ (num p.consts.length ++ p.consts.flatMap cB)) ++ txts p.globals) ++ txts p.names) ++ num p.funcs.length) ++ (p.funcs.take j).flatMap fnB) ++ txt g.name) ++ num g.params) ++ num g.given) ++ num g.slots) ++ txts g.names) ++ num g.code.length) ++ (g.code.take k).flatMap insB).length 5 1 (((((((((((((head ++ (num p.consts.length ++ p.consts.flatMap cB)) ++ txts p.globals) ++ txts p.names) ++ num p.funcs.length) ++ (p.funcs.take j).flatMap fnB) ++ txt g.name) ++ num g.params) ++ num g.given) ++ num g.slots) ++ txts g.names) ++ num g.code.length) ++ (g.code.take k).flatMap insB).map b8) :: blk b6 [str g.name, .int .i64 g.params, .int .i64 g.given, .int .i64 g.slots, .slice an2 g.names.length cn2, .slice ad2 g.code.length cd2] 124 :: blk bx1 (X.pcs p) 57 :: fr) w from hw).perm (by (refine perm_cnt fun x => ?_; simp only [cnt_append, cnt_cons, cnt_nil]; omega))) ?_
        refine LX.sub (l' := [(1, _), (3, _), (5, _), (6, _), (7, _), (8, _)]) ⟨rfl, rfl, rfl, rfl, rfl, rfl, trivial⟩ ?_
        refine LX.next ?_
        refine PX.thenN ?_
        refine CX.regionS (WA w0 base (blk b8x (insCs i) 65 :: blk b6 [str g.name, .int .i64 g.params, .int .i64 g.given, .int .i64 g.slots, .slice an2 g.names.length cn2, .slice ad2 g.code.length cd2] 124 :: blk bx1 (X.pcs p) 57 :: fr)) [(0, .anywhere), (1, .anywhere), (2, .held), (4, .anywhere), (5, .held), (7, .anywhere), (8, .held), (10, .anywhere), (11, .held), (3, .alone), (6, .alone), (9, .alone), (12, .alone), (13, .anywhere)] rfl (by kernel_rfl) ?_
        refine MX.lift0 (i := 0) rfl (Y.move rfl) rfl rfl rfl ?_
        refine MX.lift0 (i := 1) rfl (Y.fieldAddr0 Hb.fo65_0 rfl) rfl rfl rfl ?_
        refine MX.lift1 (i := 2) (pend' := []) rfl (fun w hw => hw.drop (List.sublist_cons_self _ _)) (Y.ldB 0 Fjb.one3 rfl rfl rfl) rfl rfl rfl (by kernel_rfl) ?_
        refine MX.lift0 (i := 4) rfl (Y.fieldAddr0 Hb.fo65_1 rfl) rfl rfl rfl ?_
        refine MX.lift1 (i := 5) (pend' := [2]) rfl (fun w hw => hw.drop (List.sublist_cons_self _ _)) (Y.ldB 0 Fjb.one3 rfl rfl rfl) rfl rfl rfl (by kernel_rfl) ?_
        refine MX.lift0 (i := 7) rfl (Y.fieldAddr0 Hb.fo65_2 rfl) rfl rfl rfl ?_
        refine MX.lift1 (i := 8) (pend' := [5, 2]) rfl (fun w hw => hw.drop (List.sublist_cons_self _ _)) (Y.ldB 0 Fjb.one3 rfl rfl rfl) rfl rfl rfl (by kernel_rfl) ?_
        refine MX.lift0 (i := 10) rfl (Y.fieldAddr0 Hb.fo65_3 rfl) rfl rfl rfl ?_
        refine MX.lift1 (i := 11) (pend' := [8, 5, 2]) rfl (fun w hw => hw.drop (List.sublist_cons_self _ _)) (Y.ldB 0 Fjb.one3 rfl rfl rfl) rfl rfl rfl (by kernel_rfl) ?_
        refine MX.force (i := 3) rfl ?_
        refine LX.call (gNum_c (n := i.op) hin1 (by simp only [List.length_append, head3]; omega) q) Ha.en87 rfl rfl rfl rfl rfl ?_
        intro q
        refine LX.nextM [11, 8, 5] (by kernel_rfl) (fun _ => (fun w hw => hw.drop (List.sublist_cons_self _ _))) ?_
        refine MX.force (i := 6) rfl ?_
        refine LX.call (gNum_c (n := i.a) hin2 (by simp only [List.length_append, head3]; omega) q) Ha.en87 rfl rfl rfl rfl rfl ?_
        intro q
        refine LX.nextM [11, 8] (by kernel_rfl) (fun _ => (fun w hw => hw.drop (List.sublist_cons_self _ _))) ?_
        refine MX.force (i := 9) rfl ?_
        refine LX.call (gNum_c (n := i.b) hin3 (by simp only [List.length_append, head3]; omega) q) Ha.en87 rfl rfl rfl rfl rfl ?_
        intro q
        refine LX.nextM [11] (by kernel_rfl) (fun _ => (fun w hw => hw.drop (List.sublist_cons_self _ _))) ?_
        refine MX.force (i := 12) rfl ?_
        refine LX.call (gNum_c (n := i.pos) hin4 (by simp only [List.length_append, head3]; omega) q) Ha.en87 rfl rfl rfl rfl rfl ?_
        intro q
        rw [show (((((((((((((((head ++ (num p.consts.length ++ p.consts.flatMap cB)) ++ txts p.globals) ++ txts p.names) ++ num p.funcs.length) ++ (p.funcs.take j).flatMap fnB) ++ txt g.name) ++ num g.params) ++ num g.given) ++ num g.slots) ++ txts g.names) ++ num g.code.length) ++ (g.code.take k).flatMap insB) ++ num i.op) ++ num i.a) ++ num i.b) ++ num i.pos = ((((((((((((head ++ (num p.consts.length ++ p.consts.flatMap cB)) ++ txts p.globals) ++ txts p.names) ++ num p.funcs.length) ++ (p.funcs.take j).flatMap fnB) ++ txt g.name) ++ num g.params) ++ num g.given) ++ num g.slots) ++ txts g.names) ++ num g.code.length) ++ (g.code.take (k + 1)).flatMap insB) by rw [flat_next hi]; unfold insB; simp only [List.append_assoc]]
        refine LX.nextM [] (by kernel_rfl) (fun h => absurd rfl h) ?_
        refine MX.lift0 (i := 13) rfl (Y.assign rfl) rfl rfl rfl ?_
        refine MX.sub (l' := [(1, _), (3, _), (5, _), (6, _), (7, _)]) ⟨rfl, rfl, rfl, rfl, rfl, trivial⟩ ?_
        refine MX.done ?_
        refine PX.blockN ?_
        refine PX.thenN ?_
        refine CX.region ?_
        refine LX.pure (Y.move rfl) rfl rfl rfl ?_
        refine LX.pure (Y.addN rfl rfl (by (simp only []; omega))) rfl rfl rfl ?_
        refine LX.pure (Y.assign rfl) rfl rfl rfl ?_
        refine LX.sub (l' := [(1, _), (3, _), (5, _), (6, _), (7, _)]) ⟨rfl, rfl, rfl, rfl, rfl, trivial⟩ ?_
        refine LX.next ?_
        exact PX.again (L := (fun s : Nat × Option Nat × Nat => [(1, .pointer (some ⟨bx1, 0, none⟩)), (3, rv s.2.1 ((((((((((((head ++ (num p.consts.length ++ p.consts.flatMap cB)) ++ txts p.globals) ++ txts p.names) ++ num p.funcs.length) ++ (p.funcs.take j).flatMap fnB) ++ txt g.name) ++ num g.params) ++ num g.given) ++ num g.slots) ++ txts g.names) ++ num g.code.length) ++ (g.code.take s.1).flatMap insB).length s.2.2), (5, .int .i64 (j : Int)), (6, .pointer (some ⟨b6, 0, none⟩)), (7, .int .i64 (s.1 : Int))])) (WW := (fun (s : Nat × Option Nat × Nat) w => s.1 ≤ g.code.length ∧ WA w0 base (.row s.2.1 s.2.2 ((((((((((((head ++ (num p.consts.length ++ p.consts.flatMap cB)) ++ txts p.globals) ++ txts p.names) ++ num p.funcs.length) ++ (p.funcs.take j).flatMap fnB) ++ txt g.name) ++ num g.params) ++ num g.given) ++ num g.slots) ++ txts g.names) ++ num g.code.length) ++ (g.code.take s.1).flatMap insB).length 5 1 (((((((((((((head ++ (num p.consts.length ++ p.consts.flatMap cB)) ++ txts p.globals) ++ txts p.names) ++ num p.funcs.length) ++ (p.funcs.take j).flatMap fnB) ++ txt g.name) ++ num g.params) ++ num g.given) ++ num g.slots) ++ txts g.names) ++ num g.code.length) ++ (g.code.take s.1).flatMap insB).map b8) :: blk b6 [str g.name, .int .i64 g.params, .int .i64 g.given, .int .i64 g.slots, .slice an2 g.names.length cn2, .slice ad2 g.code.length cd2] 124 :: blk bx1 (X.pcs p) 57 :: fr) w)) (μ := fun s => g.code.length - s.1) (i := (k, q1)) (k + 1, q) (by show g.code.length - (k + 1) < g.code.length - k; omega) ⟨rfl, rfl, rfl, rfl, rfl, trivial⟩ (fun w hw => ⟨by show k + 1 ≤ g.code.length; omega, hw.drop (.cons_cons _ (List.sublist_cons_self _ _))⟩)
      · try simp at hb3
        have hke : k = g.code.length := by omega
        subst hke
        rw [List.take_length]
        rw [show (((((((((((head ++ (num p.consts.length ++ p.consts.flatMap cB)) ++ txts p.globals) ++ txts p.names) ++ num p.funcs.length) ++ (p.funcs.take j).flatMap fnB) ++ txt g.name) ++ num g.params) ++ num g.given) ++ num g.slots) ++ txts g.names) ++ num g.code.length) ++ g.code.flatMap insB = (((((head ++ (num p.consts.length ++ p.consts.flatMap cB)) ++ txts p.globals) ++ txts p.names) ++ num p.funcs.length) ++ (p.funcs.take (j + 1)).flatMap fnB) by rw [flat_next hg]; unfold fnB; simp only [List.append_assoc]]
        refine CX.exit ?_
        refine PX.thenE ?_
        refine PX.thenE ?_
        refine PX.blockE ?_
        refine PX.blockN ?_
        refine PX.thenN ?_
        refine CX.region ?_
        refine LX.pure (Y.move rfl) rfl rfl rfl ?_
        refine LX.pure (Y.addN rfl rfl (by (simp only []; omega))) rfl rfl rfl ?_
        refine LX.pure (Y.assign rfl) rfl rfl rfl ?_
        refine LX.sub (l' := [(1, _), (3, _), (5, _)]) ⟨rfl, rfl, rfl, trivial⟩ ?_
        refine LX.next ?_
        exact PX.again (L := (fun s : Nat × Option Nat × Nat => [(1, .pointer (some ⟨bx1, 0, none⟩)), (3, rv s.2.1 (((((head ++ (num p.consts.length ++ p.consts.flatMap cB)) ++ txts p.globals) ++ txts p.names) ++ num p.funcs.length) ++ (p.funcs.take s.1).flatMap fnB).length s.2.2), (5, .int .i64 (s.1 : Int))])) (WW := (fun (s : Nat × Option Nat × Nat) w => s.1 ≤ p.funcs.length ∧ WA w0 base (.row s.2.1 s.2.2 (((((head ++ (num p.consts.length ++ p.consts.flatMap cB)) ++ txts p.globals) ++ txts p.names) ++ num p.funcs.length) ++ (p.funcs.take s.1).flatMap fnB).length 5 1 ((((((head ++ (num p.consts.length ++ p.consts.flatMap cB)) ++ txts p.globals) ++ txts p.names) ++ num p.funcs.length) ++ (p.funcs.take s.1).flatMap fnB).map b8) :: blk bx1 (X.pcs p) 57 :: fr) w)) (μ := fun s => p.funcs.length - s.1) (i := (j, q0)) (j + 1, q) (by show p.funcs.length - (j + 1) < p.funcs.length - j; omega) ⟨rfl, rfl, rfl, trivial⟩ (fun w hw => ⟨by show j + 1 ≤ p.funcs.length; omega, hw.drop (.cons_cons _ (List.sublist_cons_self _ _))⟩)
    · try simp at hb2
      have hje : j = p.funcs.length := by omega
      subst hje
      rw [List.take_length]
      refine CX.exit ?_
      refine PX.thenE ?_
      refine PX.thenE ?_
      refine PX.blockE ?_
      refine PX.thenN ?_
      refine CX.seq ?_
      refine CX.region ?_
      refine LX.pure (Y.move rfl) rfl rfl rfl ?_
      refine LX.pure (Y.assign rfl) rfl rfl rfl ?_
      refine LX.sub (l' := [(2, _)]) ⟨rfl, trivial⟩ ?_
      refine LX.next ?_
      refine PX.thenN ?_
      refine CX.ret ?_
      refine PX.ret1 (by simp) Tryz.results33 rfl ?_
      exact fun w hw => ⟨q, by rw [hpg], by rw [hpg]; exact hw.drop (.cons_cons _ (List.sublist_cons_self _ _))⟩
end Go.Proofs.YtgijpgkckiknjaaGreatDoor
