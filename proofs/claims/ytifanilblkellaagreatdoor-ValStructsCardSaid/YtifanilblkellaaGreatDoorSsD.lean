/-
  Proved here: Structs made of names and values.
-/
import Derived.Test.YtifanilblkellaaGreatDoorSsC
namespace Go.Proofs.YtifanilblkellaaGreatDoor
open Go.SX Go.RowKit Go.Vo Go.Ss Go.Proofs.YtifanilblkellaaGreatDoor.Env
namespace Fr
theorem en48 : Enters Tryz.prog 48 := Enters.of Tryz.func48 (by kernel_rfl) (by kernel_rfl)
theorem en49 : Enters Tryz.prog 49 := Enters.of Tryz.func49 (by kernel_rfl) (by kernel_rfl)
theorem ni109 : NoIface Tryz.prog 109 := fun w v => by kernel_rfl
theorem sz49 : SizeIs Tryz.prog 49 1 := fun w => by kernel_rfl
theorem el49 : Elem Tryz.prog 49 31 1 16 := Elem.of Fp.un49 (z := .nilIface) (by kernel_rfl) rfl
end Fr
theorem struct_c {w0 : World} {base : Nat} {fr : List It} {aE : Nat → Addr} (hS : EnvS w0 base aE) {av lv : Option Addr} {ns : List T} {us : List Value} {cn cl : Nat} (hN : Sl w0 base av (ns.map str)) (hL : Sl w0 base lv us) (hul : us.length = ns.length) (h12 : ns.length ≤ 12) (hone : ∀ u ∈ us, ∃ t x, u = .iface t x) (hlen : ∀ s ∈ ns, s.length ≤ 30) (hnn : ns.Nodup) : FnC Tryz.prog 26 #[.slice av ns.length cn, .slice lv ns.length cl] (WA w0 base fr) (fun q : Nat × (Option Nat × Nat) × (Option Nat × Nat) => .tuple #[.iface 109 (.pointer (some ⟨q.1, 0, none⟩)), .nilIface]) (fun q w => (ns.length = 0 → q.2.1 = (none, 0) ∧ q.2.2 = (none, 0)) ∧ WA w0 base (blk q.1 [rv q.2.1.1 ns.length q.2.1.2, rv q.2.2.1 ns.length q.2.2.2] 115 :: .row q.2.1.1 q.2.1.2 ns.length 9 1 ((srt ns).map str) :: .row q.2.2.1 q.2.2.2 ns.length 31 1 (vals .nilIface ns us) :: fr) w) := by
  refine FnC.of_body (fn := Tryz.f26) [(0, _), (1, _)] Tryz.func26 rfl Tryz.ntmps26 rfl ⟨rfl, rfl, trivial⟩ ?_
  refine CX.seq ?_
  refine CX.region ?_
  refine LX.pure (Y.assign rfl) rfl rfl rfl ?_
  refine LX.pure (Y.assign rfl) rfl rfl rfl ?_
  refine LX.sub (l' := [(0, _), (1, _), (4, _), (5, _)]) ⟨rfl, rfl, rfl, rfl, trivial⟩ ?_
  refine LX.next ?_
  refine PX.thenN ?_
  refine CX.seq ?_
  refine CX.seq ?_
  refine CX.region ?_
  refine LX.pure (Y.move rfl) rfl rfl rfl ?_
  refine LX.pure (Y.lenSl rfl Fp.un58 rfl) rfl rfl rfl ?_
  refine LX.pure (Y.move rfl) rfl rfl rfl ?_
  refine LX.pure (Y.lenSl rfl Fp.un49 rfl) rfl rfl rfl ?_
  first
    | refine LX.pure (Y.neN rfl rfl) rfl rfl rfl ?_
    | refine LX.pure (Y.neI rfl rfl) rfl rfl rfl ?_
  refine LX.sub (l' := [(0, _), (1, _), (4, _), (5, _), (16, _)]) ⟨rfl, rfl, rfl, rfl, rfl, trivial⟩ ?_
  refine LX.next ?_
  refine PX.thenN ?_
  refine CX.cond rfl (fun hb1 => ?_) (fun hb1 => ?_)
  · try simp at hb1
    first | done | (exfalso; omega) | (exfalso; simp_all; done) | (exfalso; simp_all; omega)
  · try simp at hb1
    refine CX.skip ?_
    refine PX.thenN ?_
    refine CX.seq ?_
    refine CX.region ?_
    refine LX.makeMap rfl rfl rfl rfl ?_
    intro bm
    refine LX.pure (Y.assign rfl) rfl rfl rfl ?_
    refine LX.sub (l' := [(0, _), (1, _), (4, _), (5, _), (6, _)]) ⟨rfl, rfl, rfl, rfl, rfl, trivial⟩ ?_
    refine LX.next ?_
    refine PX.thenN ?_
    refine CX.seq ?_
    refine CX.seq ?_
    refine CX.region ?_
    refine LX.pure (Y.move rfl) rfl rfl rfl ?_
    refine LX.pure (Y.lenSl rfl Fp.un58 rfl) rfl rfl rfl ?_
    refine LX.pure (Y.move rfl) rfl rfl rfl ?_
    refine LX.sub (l' := [(0, _), (1, _), (4, _), (5, _), (6, _), (19, _), (20, _), (21, _)]) ⟨rfl, rfl, rfl, rfl, rfl, rfl, rfl, rfl, trivial⟩ ?_
    refine LX.next ?_
    refine PX.thenN ?_
    refine CX.block ?_
    refine CX.loop (fun s : Nat × List T × List Value × List Nat × Nat => [(0, .slice av ns.length cn), (1, .slice lv ns.length cl), (6, .map (some bm)), (19, .slice av ns.length cn), (20, .int .i64 (ns.length : Int)), (21, .int .i64 (s.1 : Int))]) (fun (s : Nat × List T × List Value × List Nat × Nat) w => (Put ns us s.1 s.2.1 s.2.2.1 ∧ s.2.2.2.1.length = s.2.1.length ∧ s.2.2.2.1.Nodup ∧ ∀ q ∈ s.2.2.2.1, q < s.2.2.2.2) ∧ WA w0 base (mapI bm s.2.1 s.2.2.1 s.2.2.2.1 s.2.2.2.2 :: fr) w) (fun s => ns.length - s.1) (0, [], [], [], 0) ⟨rfl, rfl, rfl, rfl, rfl, rfl, trivial⟩ (fun w hw => ⟨⟨Put.start ns us, rfl, List.Pairwise.nil, fun q hq => by cases hq⟩, hw⟩) ?_
    rintro ⟨i, ks, xs, bs, ck⟩
    refine CX.have fun ⟨hput, hbl, hbn, hbk⟩ => ?_
    try dsimp only at hput hbl hbn hbk ⊢
    have hi0 := hput.le
    refine CX.seq ?_
    refine CX.region ?_
    first
      | refine LX.pure (Y.ltN rfl rfl) rfl rfl rfl ?_
      | refine LX.pure (Y.ltI rfl rfl) rfl rfl rfl ?_
    refine LX.sub (l' := [(0, _), (1, _), (6, _), (19, _), (20, _), (21, _), (22, _)]) ⟨rfl, rfl, rfl, rfl, rfl, rfl, rfl, trivial⟩ ?_
    refine LX.next ?_
    refine PX.thenN ?_
    refine CX.seq ?_
    refine CX.cond rfl (fun hb2 => ?_) (fun hb2 => ?_)
    · try simp at hb2
      have hi1 : i < ns.length := by omega
      have hs9 : ns[i]? = some (ns.getD i []) := by rw [List.getD_eq_getElem?_getD, List.getElem?_eq_getElem hi1]; rfl
      obtain ⟨u2, hu2⟩ : ∃ u, us[i]? = some u := ⟨_, List.getElem?_eq_getElem (by omega)⟩
      obtain ⟨a1, ha1, hq1, hc1⟩ := hN.at_ i _ (str_at (i := i) (by omega))
      obtain ⟨a2, ha2, hq2, hc2⟩ := hL.at_ i _ hu2
      refine CX.skip ?_
      refine PX.thenN ?_
      refine CX.seq ?_
      refine CX.block ?_
      refine CX.seq ?_
      refine CX.region ?_
      refine LX.pure (Y.move rfl) rfl rfl rfl ?_
      refine LX.pure (Y.idxS Fp.un58 Fp.sz9 rfl rfl (by omega) ha1) rfl rfl rfl ?_
      refine LX.pure (Y.ldO Fp.one9 rfl hc1 hq1) rfl rfl rfl ?_
      refine LX.pure (Y.assign rfl) rfl rfl rfl ?_
      refine LX.pure (Y.assign rfl) rfl rfl rfl ?_
      refine LX.sub (l' := [(0, _), (1, _), (6, _), (7, _), (8, _), (19, _), (20, _), (21, _)]) ⟨rfl, rfl, rfl, rfl, rfl, rfl, rfl, rfl, trivial⟩ ?_
      refine LX.next ?_
      refine PX.thenN ?_
      refine CX.region ?_
      refine LX.pure (Y.move rfl) rfl rfl rfl ?_
      refine LX.pure (Y.move rfl) rfl rfl rfl ?_
      refine LX.pure (Y.move rfl) rfl rfl rfl ?_
      refine LX.pure (Y.move rfl) rfl rfl rfl ?_
      refine LX.pure (Y.idxS Fp.un49 Fp.sz31 rfl rfl (by omega) ha2) rfl rfl rfl ?_
      refine LX.pure (Y.ldO Fp.one31 rfl hc2 hq2) rfl rfl rfl ?_
      refine LX.mapPut 0 Fq.un108 Fq.un9 rfl rfl rfl rfl rfl hput.len hbl ⟨hbn, hbk⟩ rfl rfl ?_
      intro ks' us' bs' ck' hk' hl1' hl2' hb'
      refine LX.sub (l' := [(0, _), (1, _), (6, _), (19, _), (20, _), (21, _)]) ⟨rfl, rfl, rfl, rfl, rfl, rfl, trivial⟩ ?_
      refine LX.next ?_
      refine PX.blockN ?_
      refine PX.thenN ?_
      refine CX.region ?_
      first
        | refine LX.pure (Y.addN rfl rfl (by first | omega | (simp only []; omega) | (simp; done) | (simp; omega))) rfl rfl rfl ?_
        | refine LX.pure (Y.add rfl rfl (by first | omega | (simp only []; omega) | (simp; done) | (simp; omega))) rfl rfl rfl ?_
      refine LX.pure (Y.move rfl) rfl rfl rfl ?_
      refine LX.sub (l' := [(0, _), (1, _), (6, _), (19, _), (20, _), (21, _)]) ⟨rfl, rfl, rfl, rfl, rfl, rfl, trivial⟩ ?_
      refine LX.next ?_
      exact PX.again (L := (fun s : Nat × List T × List Value × List Nat × Nat => [(0, .slice av ns.length cn), (1, .slice lv ns.length cl), (6, .map (some bm)), (19, .slice av ns.length cn), (20, .int .i64 (ns.length : Int)), (21, .int .i64 (s.1 : Int))])) (WW := (fun (s : Nat × List T × List Value × List Nat × Nat) w => (Put ns us s.1 s.2.1 s.2.2.1 ∧ s.2.2.2.1.length = s.2.1.length ∧ s.2.2.2.1.Nodup ∧ ∀ q ∈ s.2.2.2.1, q < s.2.2.2.2) ∧ WA w0 base (mapI bm s.2.1 s.2.2.1 s.2.2.2.1 s.2.2.2.2 :: fr) w)) (μ := fun s => ns.length - s.1) (i := (i, ks, xs, bs, ck)) (i + 1, ks', us', bs', ck') (by show ns.length - (i + 1) < ns.length - i; omega) ⟨rfl, rfl, rfl, rfl, rfl, rfl, trivial⟩ (fun w hw => ⟨⟨hput.step hs9 hu2 hk' hl1', hl2', hb'⟩, hw⟩)
    · try simp at hb2
      have hie : i = ns.length := by omega
      subst hie
      refine CX.exit ?_
      refine PX.thenE ?_
      refine PX.thenE ?_
      refine PX.blockE ?_
      refine PX.thenN ?_
      refine CX.seq ?_
      refine CX.seq ?_
      refine CX.region ?_
      refine LX.pure (Y.move rfl) rfl rfl rfl ?_
      refine LX.pure (Y.lenMap 0 rfl Fq.un108 rfl rfl hput.len hbl) rfl rfl rfl ?_
      refine LX.pure (Y.move rfl) rfl rfl rfl ?_
      refine LX.pure (Y.lenSl rfl Fp.un58 rfl) rfl rfl rfl ?_
      first
        | refine LX.pure (Y.neN rfl rfl) rfl rfl rfl ?_
        | refine LX.pure (Y.neI rfl rfl) rfl rfl rfl ?_
      refine LX.sub (l' := [(6, _), (37, _)]) ⟨rfl, rfl, trivial⟩ ?_
      refine LX.next ?_
      refine PX.thenN ?_
      refine CX.cond rfl (fun hb3 => ?_) (fun hb3 => ?_)
      · try simp at hb3
        exact absurd hnn (hput.dup (by have := hput.few; omega))
      · try simp at hb3
        have e1 : ns = ks := by have := (hput.all (by omega)).1; rw [List.take_length] at this; exact this.symm
        have e2 : us = xs := by have := (hput.all (by omega)).2; rw [← hul, List.take_length] at this; exact this.symm
        subst e1
        subst e2
        have hSl : (srt ns).length = ns.length := srt_len.2 hnn
        refine CX.skip ?_
        refine PX.thenN ?_
        refine CX.seq ?_
        refine CX.region ?_
        refine LX.pure (Y.move rfl) rfl rfl rfl ?_
        refine LX.call (keys_c bm) Fr.en49 rfl rfl rfl rfl rfl ?_
        intro bq
        refine LX.call (sorted_c hput.len hbl hnn h12 hlen ⟨hbn, hbk⟩) Fr.en48 rfl rfl rfl rfl rfl ?_
        rintro ⟨g1, c1⟩
        refine LX.have fun hg0 => ?_
        dsimp only at hg0 ⊢
        refine LX.pure (Y.build (v := .agg #[rv g1 ns.length c1, .slice none 0 0]) rfl (fun _ => by kernel_rfl)) rfl rfl rfl ?_
        refine LX.box rfl rfl rfl rfl rfl ?_
        intro bx36
        refine LX.pure (Y.assign rfl) rfl rfl rfl ?_
        refine LX.sub (l' := [(6, _), (9, _)]) ⟨rfl, rfl, trivial⟩ ?_
        refine LX.next ?_
        refine PX.thenN ?_
        refine CX.seq ?_
        refine CX.seq ?_
        refine CX.region ?_
        refine LX.pure (Y.move rfl) rfl rfl rfl ?_
        refine LX.pure (Y.nilCheck rfl) rfl rfl rfl ?_
        first
          | refine LX.pure (Y.fieldAddr0 Fp.fo115_1 rfl) rfl rfl rfl ?_
          | refine LX.pure (Y.fieldAddr Fp.fo115_1 rfl) rfl rfl rfl ?_
        first
          | refine LX.pure (Y.ldB 0 Fp.one58 rfl rfl rfl) rfl rfl rfl ?_
          | refine LX.pure (Y.ldB 1 Fp.one58 rfl rfl rfl) rfl rfl rfl ?_
          | refine LX.pure (Y.ldB 2 Fp.one58 rfl rfl rfl) rfl rfl rfl ?_
          | refine LX.pure (Y.ldB 3 Fp.one58 rfl rfl rfl) rfl rfl rfl ?_
        refine LX.pure (Y.lenSl rfl Fp.un58 rfl) rfl rfl rfl ?_
        refine LX.pure (Y.move rfl) rfl rfl rfl ?_
        refine LX.sub (l' := [(6, _), (9, _), (47, _), (48, _), (49, _)]) ⟨rfl, rfl, rfl, rfl, rfl, trivial⟩ ?_
        refine LX.next ?_
        refine PX.thenN ?_
        refine CX.block ?_
        refine CX.loop (fun s : Nat × (Option Nat × Nat) => [(6, .map (some bm)), (9, .pointer (some ⟨bx36, 0, none⟩)), (47, rv g1 ns.length c1), (48, .int .i64 (ns.length : Int)), (49, .int .i64 (s.1 : Int))]) (fun (s : Nat × (Option Nat × Nat)) w => (s.1 ≤ ns.length ∧ (s.1 = 0 → s.2 = (none, 0))) ∧ WA w0 base (.row s.2.1 s.2.2 s.1 31 1 ((vals .nilIface ns us).take s.1) :: blk bx36 [rv g1 ns.length c1, rv s.2.1 s.1 s.2.2] 115 :: .row g1 c1 ns.length 9 1 ((srt ns).map str) :: blk bq [.map (some bm)] 108 :: mapI bm ns us bs ck :: fr) w) (fun s => ns.length - s.1) (0, none, 0) ⟨rfl, rfl, rfl, rfl, rfl, trivial⟩ (fun w hw => ⟨⟨Nat.zero_le _, fun _ => rfl⟩, hw.nilRow 31 1⟩) ?_
        rintro ⟨k, g2, c2⟩
        refine CX.have fun ⟨hk0, hv0⟩ => ?_
        try dsimp only at hk0 hv0 ⊢
        refine CX.seq ?_
        refine CX.region ?_
        first
          | refine LX.pure (Y.ltN rfl rfl) rfl rfl rfl ?_
          | refine LX.pure (Y.ltI rfl rfl) rfl rfl rfl ?_
        refine LX.sub (l' := [(6, _), (9, _), (47, _), (48, _), (49, _), (50, _)]) ⟨rfl, rfl, rfl, rfl, rfl, rfl, trivial⟩ ?_
        refine LX.next ?_
        refine PX.thenN ?_
        refine CX.seq ?_
        refine CX.cond rfl (fun hb4 => ?_) (fun hb4 => ?_)
        · try simp at hb4
          have hk1 : k < (srt ns).length := by omega
          obtain ⟨j, hj⟩ := mem_at (mem_srt.1 (List.getElem_mem hk1))
          have hjl := (List.getElem?_eq_some_iff.1 hj).1
          obtain ⟨u2, hu2⟩ : ∃ u, us[j]? = some u := ⟨_, List.getElem?_eq_getElem (by omega)⟩
          have hkS : (srt ns).getD k [] = (srt ns)[k] := by rw [List.getD_eq_getElem?_getD, List.getElem?_eq_getElem hk1]; rfl
          have hjS : ns[j]? = some ((srt ns).getD k []) := by rw [hkS]; exact hj
          have hvk : (vals .nilIface ns us)[k]? = some u2 := by unfold vals; rw [List.getElem?_map, List.getElem?_eq_getElem hk1]; exact congrArg some (pick_at hnn hj hu2)
          obtain ⟨t9, x9, rfl⟩ := hone u2 (List.mem_of_getElem? hu2)
          refine CX.skip ?_
          refine PX.thenN ?_
          refine CX.seq ?_
          refine CX.block ?_
          refine CX.seq ?_
          refine CX.region ?_
          refine LX.pure (Y.idxR1 2 Fp.un58 Fp.sz9 rfl rfl rfl (by omega)) rfl rfl rfl ?_
          refine LX.pure (Y.ldR 2 (v := str ((srt ns).getD k [])) Fp.one9 rfl rfl (str_at (by omega))) rfl rfl rfl ?_
          refine LX.pure (Y.assign rfl) rfl rfl rfl ?_
          refine LX.sub (l' := [(6, _), (9, _), (11, _), (47, _), (48, _), (49, _)]) ⟨rfl, rfl, rfl, rfl, rfl, rfl, trivial⟩ ?_
          refine LX.next ?_
          refine PX.thenN ?_
          refine CX.regionM [(0, .anywhere), (1, .anywhere), (2, .anywhere), (3, .anywhere), (4, .held), (5, .anywhere), (6, .anywhere), (7, .held), (8, .alone), (9, .alone), (10, .anywhere), (11, .anywhere), (12, .alone)] rfl (by kernel_rfl) ?_
          refine MX.lift0 (i := 0) rfl (Y.move rfl) rfl rfl rfl ?_
          refine MX.lift0 (i := 1) rfl (Y.move rfl) rfl rfl rfl ?_
          refine MX.lift0 (i := 2) rfl (Y.nilCheck rfl) rfl rfl rfl ?_
          first
            | refine MX.lift0 (i := 3) rfl (Y.fieldAddr0 Fp.fo115_2 rfl) rfl rfl rfl ?_
            | refine MX.lift0 (i := 3) rfl (Y.fieldAddr Fp.fo115_2 rfl) rfl rfl rfl ?_
          first
            | refine MX.lift1 (i := 4) (pend' := []) rfl (fun w hw => by first | exact hw | exact hw.1 | exact hw.drop (List.sublist_cons_self _ _) | exact hw.drop ((List.sublist_cons_self _ _).cons _)) (Y.ldB 0 Fp.one49 rfl rfl rfl) rfl rfl rfl (by kernel_rfl) ?_
            | refine MX.lift1 (i := 4) (pend' := []) rfl (fun w hw => by first | exact hw | exact hw.1 | exact hw.drop (List.sublist_cons_self _ _) | exact hw.drop ((List.sublist_cons_self _ _).cons _)) (Y.ldB 1 Fp.one49 rfl rfl rfl) rfl rfl rfl (by kernel_rfl) ?_
            | refine MX.lift1 (i := 4) (pend' := []) rfl (fun w hw => by first | exact hw | exact hw.1 | exact hw.drop (List.sublist_cons_self _ _) | exact hw.drop ((List.sublist_cons_self _ _).cons _)) (Y.ldB 2 Fp.one49 rfl rfl rfl) rfl rfl rfl (by kernel_rfl) ?_
            | refine MX.lift1 (i := 4) (pend' := []) rfl (fun w hw => by first | exact hw | exact hw.1 | exact hw.drop (List.sublist_cons_self _ _) | exact hw.drop ((List.sublist_cons_self _ _).cons _)) (Y.ldB 3 Fp.one49 rfl rfl rfl) rfl rfl rfl (by kernel_rfl) ?_
          refine MX.lift0 (i := 5) rfl (Y.move rfl) rfl rfl rfl ?_
          refine MX.lift0 (i := 6) rfl (Y.move rfl) rfl rfl rfl ?_
          refine MX.lift1 (i := 7) (pend' := [4]) rfl (fun w hw => by first | exact hw | exact hw.1 | exact hw.drop (List.sublist_cons_self _ _) | exact hw.drop ((List.sublist_cons_self _ _).cons _)) (Y.lookS 4 (zv := .nilIface) Fq.un108 Fq.un9 (by kernel_rfl) rfl rfl rfl hput.len hbl hnn hjS hu2) rfl rfl rfl (by kernel_rfl) ?_
          refine MX.force (i := 8) rfl ?_
          refine LX.buildSlice (e := 31) (size := 1) rfl rfl (fun _ => by kernel_rfl) rfl (by decide) rfl rfl rfl ?_
          intro gt56
          refine LX.nextM [4] (by kernel_rfl) (fun _ => (fun w hw => by first | exact hw | exact hw.1 | exact hw.drop (List.sublist_cons_self _ _) | exact hw.drop ((List.sublist_cons_self _ _).cons _))) ?_
          refine MX.force (i := 9) rfl ?_
          first
            | refine LX.appendT 0 Fr.el49 rfl rfl rfl rfl rfl rfl rfl (by first | omega | (dsimp only; omega)) (by first | omega | (dsimp only; omega)) rfl rfl rfl ?_
            | refine LX.appendT 1 Fr.el49 rfl rfl rfl rfl rfl rfl rfl (by first | omega | (dsimp only; omega)) (by first | omega | (dsimp only; omega)) rfl rfl rfl ?_
            | refine LX.appendT 2 Fr.el49 rfl rfl rfl rfl rfl rfl rfl (by first | omega | (dsimp only; omega)) (by first | omega | (dsimp only; omega)) rfl rfl rfl ?_
            | refine LX.appendT 3 Fr.el49 rfl rfl rfl rfl rfl rfl rfl (by first | omega | (dsimp only; omega)) (by first | omega | (dsimp only; omega)) rfl rfl rfl ?_
          intro g' cap'
          refine LX.nextM [] (by kernel_rfl) (fun h => absurd rfl h) ?_
          refine MX.lift0 (i := 10) rfl (Y.nilCheck rfl) rfl rfl rfl ?_
          first
            | refine MX.lift0 (i := 11) rfl (Y.fieldAddr0 Fp.fo115_2 rfl) rfl rfl rfl ?_
            | refine MX.lift0 (i := 11) rfl (Y.fieldAddr Fp.fo115_2 rfl) rfl rfl rfl ?_
          refine MX.force (i := 12) rfl ?_
          first
            | refine LX.storeB 0 Fr.sz49 rfl rfl rfl rfl rfl rfl rfl rfl ?_
            | refine LX.storeB 1 Fr.sz49 rfl rfl rfl rfl rfl rfl rfl rfl ?_
            | refine LX.storeB 2 Fr.sz49 rfl rfl rfl rfl rfl rfl rfl rfl ?_
            | refine LX.storeB 3 Fr.sz49 rfl rfl rfl rfl rfl rfl rfl rfl ?_
          refine LX.nextM [] (by kernel_rfl) (fun h => absurd rfl h) ?_
          refine MX.sub (l' := [(6, _), (9, _), (47, _), (48, _), (49, _)]) ⟨rfl, rfl, rfl, rfl, rfl, trivial⟩ ?_
          refine MX.done ?_
          refine PX.blockN ?_
          refine PX.thenN ?_
          refine CX.region ?_
          first
            | refine LX.pure (Y.addN rfl rfl (by first | omega | (simp only []; omega) | (simp; done) | (simp; omega))) rfl rfl rfl ?_
            | refine LX.pure (Y.add rfl rfl (by first | omega | (simp only []; omega) | (simp; done) | (simp; omega))) rfl rfl rfl ?_
          refine LX.pure (Y.move rfl) rfl rfl rfl ?_
          refine LX.sub (l' := [(6, _), (9, _), (47, _), (48, _), (49, _)]) ⟨rfl, rfl, rfl, rfl, rfl, trivial⟩ ?_
          refine LX.next ?_
          exact PX.again (L := (fun s : Nat × (Option Nat × Nat) => [(6, .map (some bm)), (9, .pointer (some ⟨bx36, 0, none⟩)), (47, rv g1 ns.length c1), (48, .int .i64 (ns.length : Int)), (49, .int .i64 (s.1 : Int))])) (WW := (fun (s : Nat × (Option Nat × Nat)) w => (s.1 ≤ ns.length ∧ (s.1 = 0 → s.2 = (none, 0))) ∧ WA w0 base (.row s.2.1 s.2.2 s.1 31 1 ((vals .nilIface ns us).take s.1) :: blk bx36 [rv g1 ns.length c1, rv s.2.1 s.1 s.2.2] 115 :: .row g1 c1 ns.length 9 1 ((srt ns).map str) :: blk bq [.map (some bm)] 108 :: mapI bm ns us bs ck :: fr) w)) (μ := fun s => ns.length - s.1) (i := (k, g2, c2)) (k + 1, g', cap') (by show ns.length - (k + 1) < ns.length - k; omega) ⟨rfl, rfl, rfl, rfl, rfl, trivial⟩ (fun w hw => ⟨⟨by show k + 1 ≤ ns.length; omega, fun h => absurd h (by show k + 1 ≠ 0; omega)⟩, by rw [List.take_add_one, hvk]; simpa [flat, Value.cells] using hw⟩)
        · try simp at hb4
          have hke : k = ns.length := by omega
          subst hke
          refine CX.exit ?_
          refine PX.thenE ?_
          refine PX.thenE ?_
          refine PX.blockE ?_
          refine PX.thenN ?_
          refine CX.seq ?_
          refine CX.region ?_
          refine LX.pure (Y.move rfl) rfl rfl rfl ?_
          refine LX.pure (Y.mkI Fr.ni109 rfl) rfl rfl rfl ?_
          refine LX.pure (Y.assign rfl) rfl rfl rfl ?_
          refine LX.pure (Y.assign rfl) rfl rfl rfl ?_
          refine LX.sub (l' := [(4, _), (5, _)]) ⟨rfl, rfl, trivial⟩ ?_
          refine LX.next ?_
          refine PX.thenN ?_
          refine CX.ret ?_
          refine PX.ret2 (by simp) Tryz.results26 rfl rfl ?_
          exact fun w hw => ⟨(bx36, (g1, c1), (g2, c2)), rfl, fun h0 => ⟨hg0 h0, hv0 h0⟩, by
            rw [List.take_of_length_le (by rw [vals_len]; omega)] at hw
            exact (hw.drop (((List.Sublist.refl fr).cons _).cons _ |>.cons_cons _ |>.cons_cons _ |>.cons_cons _)).perm ((List.Perm.swap _ _ _).trans (List.Perm.cons _ (List.Perm.swap _ _ _)) |>.symm)⟩
end Go.Proofs.YtifanilblkellaaGreatDoor
