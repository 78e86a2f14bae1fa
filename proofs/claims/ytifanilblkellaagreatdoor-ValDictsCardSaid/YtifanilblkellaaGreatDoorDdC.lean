/-
  Proved here: a key taken out of a Dict.
-/
import Derived.Test.YtifanilblkellaaGreatDoorDdB
namespace Go.Proofs.YtifanilblkellaaGreatDoor
open Go.SX Go.RowKit Go.Vo Go.Ss Go.Proofs.YtifanilblkellaaGreatDoor.Env Go.Proofs.YtifanilblkellaaGreatDoor.Bsf
namespace Ds
theorem en38 : Enters Tryz.prog 38 := Enters.of Tryz.func38 (by kernel_rfl) (by kernel_rfl)
theorem en39 : Enters Tryz.prog 39 := Enters.of Tryz.func39 (by kernel_rfl) (by kernel_rfl)
end Ds
theorem ptrs_one (es : List En) : (es.map ptrE).all (·.oneCell') = true := List.all_eq_true.2 fun v hv => by
  obtain ⟨x, _, rfl⟩ := List.mem_map.1 hv
  rfl
theorem del_yes {w0 : World} {base : Nat} {fr : List It} {aE : Nat → Addr} (hS : EnvS w0 base aE) {d bm ce ck : Nat} {ge : Option Nat} {es : List En} {bs : List Nat} (hD : Dk es bs ck) {k : Nat} (hk : k < 12) {kv : Value} (hK : ∀ w, WA w0 base (DI d ge ce bm false es bs ck fr) w → KW k kv w) {i : Nat} {e : En} (hi : es[i]? = some e) (he : e.k = k) : FnC Tryz.prog 13 #[.pointer (some ⟨d, 0, none⟩), kv] (WA w0 base (DI d ge ce bm false es bs ck fr)) (fun _ : Option Nat × Nat => .tuple #[e.vv, .bool true, .nilIface]) (fun q => WA w0 base (DI d q.1 q.2 bm false (es.eraseIdx i) (bs.eraseIdx i) ck fr)) := by
  have hkey : (keysE es)[i]? = some (keyT k) := by rw [← he]; exact keysE_at hi
  have hlt := (List.getElem?_eq_some_iff.1 hi).1
  refine FnC.of_body (fn := Tryz.f13) [(0, _), (1, _)] Tryz.func13 rfl Tryz.ntmps13 rfl ⟨rfl, rfl, trivial⟩ ?_
  refine CX.seq ?_
  refine CX.region ?_
  refine LX.pure (Y.assign rfl) rfl rfl rfl ?_
  refine LX.pure (Y.assign rfl) rfl rfl rfl ?_
  refine LX.pure (Y.assign rfl) rfl rfl rfl ?_
  refine LX.sub (l' := [(0, _), (1, _), (4, _), (5, _), (6, _)]) ⟨rfl, rfl, rfl, rfl, rfl, trivial⟩ ?_
  refine LX.next ?_
  refine PX.thenN ?_
  refine CX.seq ?_
  refine CX.region ?_
  refine LX.pure (Y.move rfl) rfl rfl rfl ?_
  refine LX.callQ (key_q (fun w hw => push hS hw) hk hK) Dq.en36 rfl rfl rfl rfl rfl ?_
  refine LX.pure (Y.move rfl) rfl rfl rfl ?_
  refine LX.pure (Y.extract rfl rfl) rfl rfl rfl ?_
  refine LX.pure (Y.extract rfl rfl) rfl rfl rfl ?_
  refine LX.pure (Y.assign rfl) rfl rfl rfl ?_
  refine LX.pure (Y.assign rfl) rfl rfl rfl ?_
  refine LX.sub (l' := [(0, _), (4, _), (5, _), (6, _), (7, _), (8, _)]) ⟨rfl, rfl, rfl, rfl, rfl, rfl, trivial⟩ ?_
  refine LX.next ?_
  refine PX.thenN ?_
  refine CX.seq ?_
  refine CX.seq ?_
  refine CX.region ?_
  refine LX.pure (Y.move rfl) rfl rfl rfl ?_
  first
    | refine LX.pure (Y.neNil Fo.un40 rfl rfl) rfl rfl rfl ?_
    | refine LX.pure (Y.neNilNil Fo.un40 rfl) rfl rfl rfl ?_
  refine LX.sub (l' := [(0, _), (4, _), (5, _), (6, _), (7, _), (8, _), (17, _)]) ⟨rfl, rfl, rfl, rfl, rfl, rfl, rfl, trivial⟩ ?_
  refine LX.next ?_
  refine PX.thenN ?_
  refine CX.cond rfl (fun hb1 => ?_) (fun hb1 => ?_)
  · try simp at hb1
    first | done | (exfalso; omega) | (exfalso; simp_all; done) | (exfalso; simp_all; omega)
  · try simp at hb1
    refine CX.skip ?_
    refine PX.thenN ?_
    refine CX.seq ?_
    refine CX.seq ?_
    refine CX.region ?_
    refine LX.pure (Y.move rfl) rfl rfl rfl ?_
    refine LX.call (loose_c) Dq.en37 rfl rfl rfl rfl rfl ?_
    intro _
    refine LX.pure (Y.not rfl) rfl rfl rfl ?_
    refine LX.sub (l' := [(0, _), (4, _), (5, _), (6, _), (7, _), (21, _)]) ⟨rfl, rfl, rfl, rfl, rfl, rfl, trivial⟩ ?_
    refine LX.next ?_
    refine PX.thenN ?_
    refine CX.cond rfl (fun hb2 => ?_) (fun hb2 => ?_)
    · try simp at hb2
      first | done | (exfalso; omega) | (exfalso; simp_all; done) | (exfalso; simp_all; omega)
    · try simp at hb2
      refine CX.skip ?_
      refine PX.thenN ?_
      refine CX.seq ?_
      refine CX.region ?_
      refine LX.pure (Y.move rfl) rfl rfl rfl ?_
      refine LX.pure (Y.nilCheck rfl) rfl rfl rfl ?_
      first
        | refine LX.pure (Y.fieldAddr0 Dq.fo76_2 rfl) rfl rfl rfl ?_
        | refine LX.pure (Y.fieldAddr Dq.fo76_2 rfl) rfl rfl rfl ?_
      first
        | refine LX.pure (Y.ldB 0 Dq.one71 rfl rfl rfl) rfl rfl rfl ?_
        | refine LX.pure (Y.ldB 1 Dq.one71 rfl rfl rfl) rfl rfl rfl ?_
        | refine LX.pure (Y.ldB 2 Dq.one71 rfl rfl rfl) rfl rfl rfl ?_
        | refine LX.pure (Y.ldB 3 Dq.one71 rfl rfl rfl) rfl rfl rfl ?_
        | refine LX.pure (Y.ldB 4 Dq.one71 rfl rfl rfl) rfl rfl rfl ?_
      refine LX.pure (Y.move rfl) rfl rfl rfl ?_
      refine LX.pure (Y.lookS 2 (zv := .pointer none) Dq.un71 Dq.un9 (by kernel_rfl) rfl rfl rfl (by simp [keysE_len]) (by rw [keysE_len]; exact hD.bl) hD.keys hkey (ptrs_at hi)) rfl rfl rfl ?_
      refine LX.pure (Y.assign rfl) rfl rfl rfl ?_
      refine LX.sub (l' := [(0, _), (4, _), (5, _), (6, _), (7, _), (9, _)]) ⟨rfl, rfl, rfl, rfl, rfl, rfl, trivial⟩ ?_
      refine LX.next ?_
      refine PX.thenN ?_
      refine CX.seq ?_
      refine CX.seq ?_
      refine CX.region ?_
      refine LX.pure (Y.move rfl) rfl rfl rfl ?_
      refine LX.pure (Y.eqP Dq.un89 rfl) rfl rfl rfl ?_
      refine LX.sub (l' := [(0, _), (4, _), (5, _), (6, _), (7, _), (9, _), (30, _)]) ⟨rfl, rfl, rfl, rfl, rfl, rfl, rfl, trivial⟩ ?_
      refine LX.next ?_
      refine PX.thenN ?_
      refine CX.cond rfl (fun hb3 => ?_) (fun hb3 => ?_)
      · try simp at hb3
        first | done | (exfalso; omega) | (exfalso; simp_all; done) | (exfalso; simp_all; omega)
      · try simp at hb3
        refine CX.skip ?_
        refine PX.thenN ?_
        refine CX.seq ?_
        refine CX.region ?_
        refine LX.pure (Y.move rfl) rfl rfl rfl ?_
        refine LX.pure (Y.nilCheck rfl) rfl rfl rfl ?_
        first
          | refine LX.pure (Y.fieldAddr0 Dq.fo76_2 rfl) rfl rfl rfl ?_
          | refine LX.pure (Y.fieldAddr Dq.fo76_2 rfl) rfl rfl rfl ?_
        first
          | refine LX.pure (Y.ldB 0 Dq.one71 rfl rfl rfl) rfl rfl rfl ?_
          | refine LX.pure (Y.ldB 1 Dq.one71 rfl rfl rfl) rfl rfl rfl ?_
          | refine LX.pure (Y.ldB 2 Dq.one71 rfl rfl rfl) rfl rfl rfl ?_
          | refine LX.pure (Y.ldB 3 Dq.one71 rfl rfl rfl) rfl rfl rfl ?_
          | refine LX.pure (Y.ldB 4 Dq.one71 rfl rfl rfl) rfl rfl rfl ?_
        refine LX.pure (Y.move rfl) rfl rfl rfl ?_
        refine LX.mapDel 2 Dq.un71 Dq.un9 rfl rfl rfl rfl rfl (by simp [keysE_len]) (by rw [keysE_len]; exact hD.bl) hD.keys hkey rfl rfl ?_
        refine LX.sub (l' := [(0, _), (4, _), (5, _), (6, _), (9, _)]) ⟨rfl, rfl, rfl, rfl, rfl, trivial⟩ ?_
        refine LX.next ?_
        refine PX.thenN ?_
        refine CX.seq ?_
        refine CX.region ?_
        refine LX.pure (Y.move rfl) rfl rfl rfl ?_
        refine LX.pure (Y.nilCheck rfl) rfl rfl rfl ?_
        first
          | refine LX.pure (Y.fieldAddr0 Dq.fo76_1 rfl) rfl rfl rfl ?_
          | refine LX.pure (Y.fieldAddr Dq.fo76_1 rfl) rfl rfl rfl ?_
        first
          | refine LX.pure (Y.ldB 0 Dq.one74 rfl rfl rfl) rfl rfl rfl ?_
          | refine LX.pure (Y.ldB 1 Dq.one74 rfl rfl rfl) rfl rfl rfl ?_
          | refine LX.pure (Y.ldB 2 Dq.one74 rfl rfl rfl) rfl rfl rfl ?_
          | refine LX.pure (Y.ldB 3 Dq.one74 rfl rfl rfl) rfl rfl rfl ?_
          | refine LX.pure (Y.ldB 4 Dq.one74 rfl rfl rfl) rfl rfl rfl ?_
        refine LX.pure (Y.move rfl) rfl rfl rfl ?_
        refine LX.world (W' := fun w => (∀ j f, j < i → es[j]? = some f → f.eb ≠ e.eb) ∧ WA w0 base (blk d [rv ge es.length ce, .map (some bm), .bool false, .int .i64 0] 76 :: .row ge ce es.length 89 1 (es.map ptrE) :: mapI bm ((keysE es).eraseIdx i) ((es.map ptrE).eraseIdx i) (bs.eraseIdx i) ck :: (es.map entI ++ fr)) w) (fun w hw => ⟨fun j f hj hf => ents_ne hw hj hf hi, hw⟩) ?_
        refine LX.have fun hdis => ?_
        have h12 := hD.few
        refine LX.call (index_c hi hdis hD.few) Ds.en38 rfl rfl rfl rfl rfl ?_
        intro _
        refine LX.pure (Y.assign rfl) rfl rfl rfl ?_
        refine LX.sub (l' := [(0, _), (4, _), (5, _), (6, _), (9, _), (10, _)]) ⟨rfl, rfl, rfl, rfl, rfl, rfl, trivial⟩ ?_
        refine LX.next ?_
        refine PX.thenN ?_
        refine CX.seq ?_
        refine CX.regionM [(0, .anywhere), (1, .anywhere), (2, .anywhere), (3, .anywhere), (4, .held), (5, .anywhere), (6, .held), (7, .anywhere), (8, .anywhere), (9, .anywhere), (10, .held), (11, .anywhere), (12, .anywhere), (13, .held), (14, .alone), (15, .alone), (16, .anywhere), (17, .anywhere), (18, .alone)] rfl (by kernel_rfl) ?_
        refine MX.lift0 (i := 0) rfl (Y.move rfl) rfl rfl rfl ?_
        refine MX.lift0 (i := 1) rfl (Y.move rfl) rfl rfl rfl ?_
        refine MX.lift0 (i := 2) rfl (Y.nilCheck rfl) rfl rfl rfl ?_
        first
          | refine MX.lift0 (i := 3) rfl (Y.fieldAddr0 Dq.fo76_1 rfl) rfl rfl rfl ?_
          | refine MX.lift0 (i := 3) rfl (Y.fieldAddr Dq.fo76_1 rfl) rfl rfl rfl ?_
        first
          | refine MX.lift1 (i := 4) (pend' := []) rfl (fun w hw => by first | exact hw | exact hw.1 | exact hw.drop (List.sublist_cons_self _ _) | exact hw.drop ((List.sublist_cons_self _ _).cons _)) (Y.ldB 0 Dq.one74 rfl rfl rfl) rfl rfl rfl (by kernel_rfl) ?_
          | refine MX.lift1 (i := 4) (pend' := []) rfl (fun w hw => by first | exact hw | exact hw.1 | exact hw.drop (List.sublist_cons_self _ _) | exact hw.drop ((List.sublist_cons_self _ _).cons _)) (Y.ldB 1 Dq.one74 rfl rfl rfl) rfl rfl rfl (by kernel_rfl) ?_
          | refine MX.lift1 (i := 4) (pend' := []) rfl (fun w hw => by first | exact hw | exact hw.1 | exact hw.drop (List.sublist_cons_self _ _) | exact hw.drop ((List.sublist_cons_self _ _).cons _)) (Y.ldB 2 Dq.one74 rfl rfl rfl) rfl rfl rfl (by kernel_rfl) ?_
          | refine MX.lift1 (i := 4) (pend' := []) rfl (fun w hw => by first | exact hw | exact hw.1 | exact hw.drop (List.sublist_cons_self _ _) | exact hw.drop ((List.sublist_cons_self _ _).cons _)) (Y.ldB 3 Dq.one74 rfl rfl rfl) rfl rfl rfl (by kernel_rfl) ?_
          | refine MX.lift1 (i := 4) (pend' := []) rfl (fun w hw => by first | exact hw | exact hw.1 | exact hw.drop (List.sublist_cons_self _ _) | exact hw.drop ((List.sublist_cons_self _ _).cons _)) (Y.ldB 4 Dq.one74 rfl rfl rfl) rfl rfl rfl (by kernel_rfl) ?_
        refine MX.lift0 (i := 5) rfl (Y.move rfl) rfl rfl rfl ?_
        first
          | refine MX.lift1 (i := 6) (pend' := []) rfl (fun w hw => by first | exact hw | exact hw.1 | exact hw.drop (List.sublist_cons_self _ _) | exact hw.drop ((List.sublist_cons_self _ _).cons _)) (Y.cutR 0 Dq.un74 Dr.sz89 rfl rfl rfl (by first | omega | (simp only []; omega) | (simp; done) | (simp; omega))) rfl rfl rfl (by kernel_rfl) ?_
          | refine MX.lift1 (i := 6) (pend' := []) rfl (fun w hw => by first | exact hw | exact hw.1 | exact hw.drop (List.sublist_cons_self _ _) | exact hw.drop ((List.sublist_cons_self _ _).cons _)) (Y.cutR 1 Dq.un74 Dr.sz89 rfl rfl rfl (by first | omega | (simp only []; omega) | (simp; done) | (simp; omega))) rfl rfl rfl (by kernel_rfl) ?_
          | refine MX.lift1 (i := 6) (pend' := []) rfl (fun w hw => by first | exact hw | exact hw.1 | exact hw.drop (List.sublist_cons_self _ _) | exact hw.drop ((List.sublist_cons_self _ _).cons _)) (Y.cutR 2 Dq.un74 Dr.sz89 rfl rfl rfl (by first | omega | (simp only []; omega) | (simp; done) | (simp; omega))) rfl rfl rfl (by kernel_rfl) ?_
          | refine MX.lift1 (i := 6) (pend' := []) rfl (fun w hw => by first | exact hw | exact hw.1 | exact hw.drop (List.sublist_cons_self _ _) | exact hw.drop ((List.sublist_cons_self _ _).cons _)) (Y.cutR 3 Dq.un74 Dr.sz89 rfl rfl rfl (by first | omega | (simp only []; omega) | (simp; done) | (simp; omega))) rfl rfl rfl (by kernel_rfl) ?_
          | refine MX.lift1 (i := 6) (pend' := []) rfl (fun w hw => by first | exact hw | exact hw.1 | exact hw.drop (List.sublist_cons_self _ _) | exact hw.drop ((List.sublist_cons_self _ _).cons _)) (Y.cutR 4 Dq.un74 Dr.sz89 rfl rfl rfl (by first | omega | (simp only []; omega) | (simp; done) | (simp; omega))) rfl rfl rfl (by kernel_rfl) ?_
          | refine MX.lift1 (i := 6) (pend' := []) rfl (fun w hw => by first | exact hw | exact hw.1 | exact hw.drop (List.sublist_cons_self _ _) | exact hw.drop ((List.sublist_cons_self _ _).cons _)) (Y.cutHi Dq.un74 Dr.sz89 rfl rfl (by first | omega | (simp only []; omega) | (simp; done) | (simp; omega))) rfl rfl rfl (by kernel_rfl) ?_
        refine MX.lift0 (i := 7) rfl (Y.move rfl) rfl rfl rfl ?_
        refine MX.lift0 (i := 8) rfl (Y.nilCheck rfl) rfl rfl rfl ?_
        first
          | refine MX.lift0 (i := 9) rfl (Y.fieldAddr0 Dq.fo76_1 rfl) rfl rfl rfl ?_
          | refine MX.lift0 (i := 9) rfl (Y.fieldAddr Dq.fo76_1 rfl) rfl rfl rfl ?_
        first
          | refine MX.lift1 (i := 10) (pend' := [6]) rfl (fun w hw => by first | exact hw | exact hw.1 | exact hw.drop (List.sublist_cons_self _ _) | exact hw.drop ((List.sublist_cons_self _ _).cons _)) (Y.ldB 0 Dq.one74 rfl rfl rfl) rfl rfl rfl (by kernel_rfl) ?_
          | refine MX.lift1 (i := 10) (pend' := [6]) rfl (fun w hw => by first | exact hw | exact hw.1 | exact hw.drop (List.sublist_cons_self _ _) | exact hw.drop ((List.sublist_cons_self _ _).cons _)) (Y.ldB 1 Dq.one74 rfl rfl rfl) rfl rfl rfl (by kernel_rfl) ?_
          | refine MX.lift1 (i := 10) (pend' := [6]) rfl (fun w hw => by first | exact hw | exact hw.1 | exact hw.drop (List.sublist_cons_self _ _) | exact hw.drop ((List.sublist_cons_self _ _).cons _)) (Y.ldB 2 Dq.one74 rfl rfl rfl) rfl rfl rfl (by kernel_rfl) ?_
          | refine MX.lift1 (i := 10) (pend' := [6]) rfl (fun w hw => by first | exact hw | exact hw.1 | exact hw.drop (List.sublist_cons_self _ _) | exact hw.drop ((List.sublist_cons_self _ _).cons _)) (Y.ldB 3 Dq.one74 rfl rfl rfl) rfl rfl rfl (by kernel_rfl) ?_
          | refine MX.lift1 (i := 10) (pend' := [6]) rfl (fun w hw => by first | exact hw | exact hw.1 | exact hw.drop (List.sublist_cons_self _ _) | exact hw.drop ((List.sublist_cons_self _ _).cons _)) (Y.ldB 4 Dq.one74 rfl rfl rfl) rfl rfl rfl (by kernel_rfl) ?_
        refine MX.lift0 (i := 11) rfl (Y.move rfl) rfl rfl rfl ?_
        first
          | refine MX.lift0 (i := 12) rfl (Y.addN rfl rfl (by first | omega | (simp only []; omega) | (simp; done) | (simp; omega))) rfl rfl rfl ?_
          | refine MX.lift0 (i := 12) rfl (Y.add rfl rfl (by first | omega | (simp only []; omega) | (simp; done) | (simp; omega))) rfl rfl rfl ?_
        refine MX.lift1 (i := 13) (pend' := [6]) rfl (fun w hw => by first | exact hw | exact hw.1 | exact hw.drop (List.sublist_cons_self _ _) | exact hw.drop ((List.sublist_cons_self _ _).cons _)) (Y.cutLo Dq.un74 Dr.sz89 rfl rfl (by first | omega | (simp only []; omega) | (simp; done) | (simp; omega))) rfl rfl rfl (by kernel_rfl) ?_
        refine MX.force (i := 14) rfl ?_
        refine LX.buildSlice (e := 74) (size := 1) rfl rfl (fun _ => by kernel_rfl) rfl (by decide) rfl rfl rfl ?_
        intro gt51
        refine LX.nextM [] (by kernel_rfl) (fun h => absurd rfl h) ?_
        refine MX.force (i := 15) rfl ?_
        refine LX.call (concat_c (ge := ge) (ce := ce) (n := es.length) (i := i) (ps := es.map ptrE) (by simp) (ptrs_one es) hlt hD.few) Ds.en39 rfl rfl rfl rfl rfl ?_
        rintro ⟨g9, c9⟩
        refine LX.nextM [] (by kernel_rfl) (fun h => absurd rfl h) ?_
        refine MX.lift0 (i := 16) rfl (Y.nilCheck rfl) rfl rfl rfl ?_
        first
          | refine MX.lift0 (i := 17) rfl (Y.fieldAddr0 Dq.fo76_1 rfl) rfl rfl rfl ?_
          | refine MX.lift0 (i := 17) rfl (Y.fieldAddr Dq.fo76_1 rfl) rfl rfl rfl ?_
        refine MX.force (i := 18) rfl ?_
        first
          | refine LX.storeB 0 Dq.sz74 rfl rfl rfl rfl rfl rfl rfl rfl ?_
          | refine LX.storeB 1 Dq.sz74 rfl rfl rfl rfl rfl rfl rfl rfl ?_
          | refine LX.storeB 2 Dq.sz74 rfl rfl rfl rfl rfl rfl rfl rfl ?_
          | refine LX.storeB 3 Dq.sz74 rfl rfl rfl rfl rfl rfl rfl rfl ?_
          | refine LX.storeB 4 Dq.sz74 rfl rfl rfl rfl rfl rfl rfl rfl ?_
        refine LX.nextM [] (by kernel_rfl) (fun h => absurd rfl h) ?_
        refine MX.sub (l' := [(4, _), (5, _), (6, _), (9, _)]) ⟨rfl, rfl, rfl, rfl, trivial⟩ ?_
        refine MX.done ?_
        refine PX.thenN ?_
        refine CX.seq ?_
        refine CX.region ?_
        refine LX.pure (Y.move rfl) rfl rfl rfl ?_
        refine LX.pure (Y.nilCheck rfl) rfl rfl rfl ?_
        first
          | refine LX.pure (Y.fieldAddr0 Dq.fo91_2 rfl) rfl rfl rfl ?_
          | refine LX.pure (Y.fieldAddr Dq.fo91_2 rfl) rfl rfl rfl ?_
        refine LX.pure (Y.ldB (i + 5) Dq.one31 rfl (ent_at (a := blk 0 [] 0) (b := blk 0 [] 0) (c := blk 0 [] 0) hi) rfl) rfl rfl rfl ?_
        refine LX.pure (Y.assign rfl) rfl rfl rfl ?_
        refine LX.pure (Y.assign rfl) rfl rfl rfl ?_
        refine LX.pure (Y.assign rfl) rfl rfl rfl ?_
        refine LX.sub (l' := [(4, _), (5, _), (6, _)]) ⟨rfl, rfl, rfl, trivial⟩ ?_
        refine LX.next ?_
        refine PX.thenN ?_
        refine CX.ret ?_
        refine PX.ret3 (by simp) Tryz.results13 rfl rfl rfl ?_
        exact fun w hw => ⟨(g9, c9), rfl, DI_del hlt rfl rfl ((hw.drop (List.Sublist.cons_cons _ (List.Sublist.cons _ (List.Sublist.cons_cons _ (List.Sublist.cons _ (List.Sublist.refl _)))))).perm (.swap _ _ _))⟩
end Go.Proofs.YtifanilblkellaaGreatDoor
