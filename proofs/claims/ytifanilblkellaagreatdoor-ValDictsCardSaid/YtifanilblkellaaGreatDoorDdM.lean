/-
  Proved here: the law.
-/
import Derived.Test.YtifanilblkellaaGreatDoorDdL
import Derived.Test.YtifanilblkellaaGreatDoorFsE
namespace Go.Proofs.YtifanilblkellaaGreatDoor
open Go.SX Go.RowKit Go.Vo Go.Ss Go.Proofs.YtifanilblkellaaGreatDoor.Env Go.Proofs.YtifanilblkellaaGreatDoor.Bsf Go.EX Go.EB
namespace Dz
theorem en10 : Enters Tryz.prog 10 := Enters.of Tryz.func10 (by kernel_rfl) (by kernel_rfl)
theorem en11 : Enters Tryz.prog 11 := Enters.of Tryz.func11 (by kernel_rfl) (by kernel_rfl)
theorem en12 : Enters Tryz.prog 12 := Enters.of Tryz.func12 (by kernel_rfl) (by kernel_rfl)
theorem en13 : Enters Tryz.prog 13 := Enters.of Tryz.func13 (by kernel_rfl) (by kernel_rfl)
theorem en14 : Enters Tryz.prog 14 := Enters.of Tryz.func14 (by kernel_rfl) (by kernel_rfl)
theorem en15 : Enters Tryz.prog 15 := Enters.of Tryz.func15 (by kernel_rfl) (by kernel_rfl)
theorem en16 : Enters Tryz.prog 16 := Enters.of Tryz.func16 (by kernel_rfl) (by kernel_rfl)
theorem en17 : Enters Tryz.prog 17 := Enters.of Tryz.func17 (by kernel_rfl) (by kernel_rfl)
theorem en18 : Enters Tryz.prog 18 := Enters.of Tryz.func18 (by kernel_rfl) (by kernel_rfl)
theorem en19 : Enters Tryz.prog 19 := Enters.of Tryz.func19 (by kernel_rfl) (by kernel_rfl)
theorem en20 : Enters Tryz.prog 20 := Enters.of Tryz.func20 (by kernel_rfl) (by kernel_rfl)
theorem en21 : Enters Tryz.prog 21 := Enters.of Tryz.func21 (by kernel_rfl) (by kernel_rfl)
theorem en22 : Enters Tryz.prog 22 := Enters.of Tryz.func22 (by kernel_rfl) (by kernel_rfl)
theorem en23 : Enters Tryz.prog 23 := Enters.of Tryz.func23 (by kernel_rfl) (by kernel_rfl)
theorem en24 : Enters Tryz.prog 24 := Enters.of Tryz.func24 (by kernel_rfl) (by kernel_rfl)
theorem en5 : Enters Tryz.prog 5 := Enters.of Tryz.func5 (by kernel_rfl) (by kernel_rfl)
theorem en6 : Enters Tryz.prog 6 := Enters.of Tryz.func6 (by kernel_rfl) (by kernel_rfl)
theorem en7 : Enters Tryz.prog 7 := Enters.of Tryz.func7 (by kernel_rfl) (by kernel_rfl)
theorem en8 : Enters Tryz.prog 8 := Enters.of Tryz.func8 (by kernel_rfl) (by kernel_rfl)
theorem en9 : Enters Tryz.prog 9 := Enters.of Tryz.func9 (by kernel_rfl) (by kernel_rfl)
theorem fa29_0 : FieldOffA Tryz.prog 29 0 0 := fun a w => by kernel_rfl
theorem fa29_1 : FieldOffA Tryz.prog 29 1 1 := fun a w => by kernel_rfl
theorem fa29_2 : FieldOffA Tryz.prog 29 2 2 := fun a w => by kernel_rfl
theorem fo29_0 : FieldOff Tryz.prog 29 0 0 := fun b o w => by kernel_rfl
theorem fo29_1 : FieldOff Tryz.prog 29 1 1 := fun b o w => by kernel_rfl
theorem fo29_2 : FieldOff Tryz.prog 29 2 2 := fun b o w => by kernel_rfl
theorem ni24 : NoIface Tryz.prog 24 := fun w v => by kernel_rfl
theorem sz29 : SizeIs Tryz.prog 29 3 := fun w => by kernel_rfl
theorem un22 : Tryz.prog.underlying 22 = some (.slice 29) := by kernel_rfl
end Dz
theorem tm (z : Int) : (z.tmod 1000).natAbs < 1000 := by
  rw [Int.natAbs_tmod]
  exact Nat.mod_lt _ (by decide)
theorem dec_len (k : Nat) : (dec k).length ≤ 2 := by
  unfold dec
  split <;> simp
theorem kI_snoc (es : List En) (e : En) : kI (es ++ [e]) = kI es ++ [.int .i64 (e.k : Int)] := by unfold kI; rw [List.map_append]; rfl
theorem vI_snoc (es : List En) (e : En) : vI (es ++ [e]) = vI es ++ [.int .i64 e.v] := by unfold vI; rw [List.map_append]; rfl
theorem kI_set {es : List En} {i : Nat} {e : En} {v : Int} {vv : Value} (h : es[i]? = some e) : kI (es.set i ⟨e.k, v, e.eb, e.kv, vv⟩) = kI es := set_map _ h rfl
theorem vI_set {es : List En} {i : Nat} {e : En} : vI (es.set i e) = (vI es).set i (.int .i64 e.v) := by unfold vI; rw [List.map_set]
theorem kI_del (es : List En) (i : Nat) : kI (es.eraseIdx i) = (kI es).eraseIdx i := (erase_map _ _ _).symm
theorem vI_del (es : List En) (i : Nat) : vI (es.eraseIdx i) = (vI es).eraseIdx i := (erase_map _ _ _).symm
theorem in_ds {A B C D E x : It} {es : List En} {ds fr : List It} (h : x ∈ ds) : x ∈ A :: B :: C :: D :: E :: (es.map entI ++ (ds ++ fr)) :=
  List.mem_cons_of_mem _ (List.mem_cons_of_mem _ (List.mem_cons_of_mem _ (List.mem_cons_of_mem _ (List.mem_cons_of_mem _ (List.mem_append_right _ (List.mem_append_left _ h))))))
theorem ent_more {es : List En} {ds : List It} {a : It} (h : ∀ e ∈ es, KI e.k e.kv ds ∧ VI e.v e.vv ds) : ∀ e ∈ es, KI e.k e.kv (a :: ds) ∧ VI e.v e.vv (a :: ds) := fun e he => ⟨(h e he).1.mono (fun _ h => List.mem_cons_of_mem _ h), (h e he).2.mono (fun _ h => List.mem_cons_of_mem _ h)⟩
theorem dict_c {w0 : World} {base : Nat} {fr : List It} {aE : Nat → Addr} (hS : EnvS w0 base aE) {av : Option Addr} {l : List (Int × Int × Int)} {cn : Nat} (hL : DoAt w0 base av l) (z : Int) : FnC Tryz.prog 3 #[.slice av l.length cn, .int .i64 z] (WA w0 base fr) (fun _ : Unit => .bool true) (fun _ => WA w0 base fr) := by
  refine FnC.of_body (fn := Tryz.f3) [(0, _), (1, _)] Tryz.func3 rfl Tryz.ntmps3 rfl ⟨rfl, rfl, trivial⟩ ?_
  refine CX.seq ?_
  refine CX.region ?_
  refine LX.pure (Y.assign rfl) rfl rfl rfl ?_
  refine LX.sub (l' := [(0, _), (4, _)]) ⟨rfl, rfl, trivial⟩ ?_
  refine LX.next ?_
  refine PX.thenN ?_
  refine CX.seq ?_
  refine CX.region ?_
  refine LX.callQ (Bsf.first_q hS _) Dz.en5 rfl rfl rfl rfl rfl ?_
  refine LX.pure (Y.assign rfl) rfl rfl rfl ?_
  refine LX.sub (l' := [(0, _), (4, _), (5, _)]) ⟨rfl, rfl, rfl, trivial⟩ ?_
  refine LX.next ?_
  refine PX.thenN ?_
  refine CX.seq ?_
  refine CX.seq ?_
  refine CX.region ?_
  refine LX.pure (Y.move rfl) rfl rfl rfl ?_
  refine LX.pure (Y.not rfl) rfl rfl rfl ?_
  refine LX.sub (l' := [(0, _), (4, _), (5, _), (28, _)]) ⟨rfl, rfl, rfl, rfl, trivial⟩ ?_
  refine LX.next ?_
  refine PX.thenN ?_
  refine CX.cond rfl (fun hb1 => ?_) (fun hb1 => ?_)
  · try simp at hb1
    first | done | (exfalso; omega) | (exfalso; simp_all; done) | (exfalso; simp_all; omega)
  · try simp at hb1
    refine CX.skip ?_
    refine PX.thenN ?_
    refine CX.seq ?_
    refine CX.seq ?_
    refine CX.region ?_
    refine LX.pure (Y.move rfl) rfl rfl rfl ?_
    refine LX.pure (Y.lenSl rfl Dz.un22 rfl) rfl rfl rfl ?_
    first
      | refine LX.pure (Y.gtN rfl rfl) rfl rfl rfl ?_
      | refine LX.pure (Y.gtI rfl rfl) rfl rfl rfl ?_
    refine LX.pure (Y.move rfl) rfl rfl rfl ?_
    refine LX.sub (l' := [(0, _), (4, _), (5, _), (32, _)]) ⟨rfl, rfl, rfl, rfl, trivial⟩ ?_
    apply LX.joinOr 3 35 32 rfl
    · intro hb2
      have hb2p := hb2
      try simp at hb2p
      refine LX.gF rfl rfl rfl hb2 rfl rfl ?_
      refine LX.gF rfl rfl rfl hb2 rfl rfl ?_
      refine LX.pure (Y.pickT rfl hb2 rfl) rfl rfl rfl ?_
      exact LX.left ⟨rfl, rfl, rfl, rfl, rfl, trivial⟩
    · intro hb2
      have hb2p := hb2
      try simp at hb2p
      refine LX.gT rfl rfl rfl hb2 (Y.move rfl) rfl rfl ?_
      refine LX.gT rfl rfl rfl hb2 (Y.not rfl) rfl rfl ?_
      refine LX.pure (Y.pickF rfl hb2 rfl) rfl rfl rfl ?_
      exact LX.left ⟨rfl, rfl, rfl, rfl, rfl, trivial⟩
    refine LX.sub (l' := [(0, _), (4, _), (5, _), (35, _)]) ⟨rfl, rfl, rfl, rfl, trivial⟩ ?_
    refine LX.next ?_
    refine PX.thenN ?_
    refine CX.cond rfl (fun hb3 => ?_) (fun hb3 => ?_)
    · try simp at hb3
      refine CX.seq ?_
      refine CX.region ?_
      refine LX.pure (Y.move rfl) rfl rfl rfl ?_
      refine LX.pure (Y.assign rfl) rfl rfl rfl ?_
      refine LX.sub (l' := [(0, _), (4, _)]) ⟨rfl, rfl, trivial⟩ ?_
      refine LX.next ?_
      refine PX.thenN ?_
      refine CX.ret ?_
      refine PX.thenR ?_
      refine PX.ret1 (by simp) Tryz.results3 rfl ?_
      exact fun w hw => ⟨(), rfl, hw⟩
    · try simp at hb3
      have h60 : l.length ≤ 60 := by first | omega | (simp_all; omega)
      refine CX.skip ?_
      refine PX.thenN ?_
      refine CX.seq ?_
      refine CX.region ?_
      refine LX.call (newD_c) Dz.en6 rfl rfl rfl rfl rfl ?_
      rintro ⟨d, bm⟩
      refine LX.pure (Y.assign rfl) rfl rfl rfl ?_
      refine LX.sub (l' := [(0, _), (4, _), (6, _)]) ⟨rfl, rfl, rfl, trivial⟩ ?_
      refine LX.next ?_
      refine PX.thenN ?_
      refine CX.seq ?_
      refine CX.seq ?_
      refine CX.region ?_
      refine LX.pure (Y.move rfl) rfl rfl rfl ?_
      refine LX.pure (Y.eqPtrNil Dv.un24 rfl) rfl rfl rfl ?_
      refine LX.sub (l' := [(0, _), (4, _), (6, _), (39, _)]) ⟨rfl, rfl, rfl, rfl, trivial⟩ ?_
      refine LX.next ?_
      refine PX.thenN ?_
      refine CX.cond rfl (fun hb4 => ?_) (fun hb4 => ?_)
      · try simp at hb4
        first | done | (exfalso; omega) | (exfalso; simp_all; done) | (exfalso; simp_all; omega)
      · try simp at hb4
        refine CX.skip ?_
        refine PX.thenN ?_
        refine CX.seq ?_
        refine CX.region ?_
        refine LX.pure (Y.assign rfl) rfl rfl rfl ?_
        refine LX.pure (Y.assign rfl) rfl rfl rfl ?_
        refine LX.sub (l' := [(0, _), (4, _), (6, _), (7, _), (8, _)]) ⟨rfl, rfl, rfl, rfl, rfl, trivial⟩ ?_
        refine LX.next ?_
        refine PX.thenN ?_
        refine CX.seq ?_
        refine CX.seq ?_
        refine CX.region ?_
        refine LX.pure (Y.assign rfl) rfl rfl rfl ?_
        refine LX.sub (l' := [(0, _), (4, _), (6, _), (7, _), (8, _), (9, _)]) ⟨rfl, rfl, rfl, rfl, rfl, rfl, trivial⟩ ?_
        refine LX.next ?_
        refine PX.thenN ?_
        refine CX.block ?_
        refine CX.loop (fun s : MSt => [(0, .slice av l.length cn), (6, .pointer (some ⟨d, 0, none⟩)), (7, rv s.gk s.es.length s.kc), (8, rv s.gv s.es.length s.vc), (9, .int .i64 (s.i : Int))]) (fun (s : MSt) w => (s.i ≤ l.length ∧ MOk s) ∧ WA w0 base (.row s.gk s.kc (s.es.length) 3 1 (kI s.es) :: .row s.gv s.vc (s.es.length) 3 1 (vI s.es) :: DI d s.ge s.ce bm false s.es s.bs s.ck (s.ds ++ fr)) w) (fun s => l.length - s.i) ⟨0, [], none, 0, [], 0, none, 0, none, 0, []⟩ ⟨rfl, rfl, rfl, rfl, rfl, trivial⟩ (fun w hw => ⟨⟨Nat.zero_le _, ⟨⟨List.Pairwise.nil, (fun e he => by cases he), rfl, List.Pairwise.nil, (fun q hq => by cases hq)⟩, (fun e he => by cases he)⟩⟩, (hw.nilRow 3 1).nilRow 3 1⟩) ?_
        rintro ⟨i, es, ge, ce, bs, ck, gk, kc, gv, vc, ds⟩
        refine CX.have fun ⟨hi0, hok⟩ => ?_
        try dsimp only at hi0 ⊢
        obtain ⟨hD, hent⟩ := hok
        dsimp only at hD hent
        have h12 := hD.few
        refine CX.seq ?_
        refine CX.seq ?_
        refine CX.region ?_
        refine LX.pure (Y.move rfl) rfl rfl rfl ?_
        refine LX.pure (Y.move rfl) rfl rfl rfl ?_
        refine LX.pure (Y.lenSl rfl Dz.un22 rfl) rfl rfl rfl ?_
        first
          | refine LX.pure (Y.ltN rfl rfl) rfl rfl rfl ?_
          | refine LX.pure (Y.ltI rfl rfl) rfl rfl rfl ?_
        refine LX.sub (l' := [(0, _), (6, _), (7, _), (8, _), (9, _), (43, _)]) ⟨rfl, rfl, rfl, rfl, rfl, rfl, trivial⟩ ?_
        refine LX.next ?_
        refine PX.thenN ?_
        refine CX.cond rfl (fun hb5 => ?_) (fun hb5 => ?_)
        · try simp at hb5
          obtain ⟨q9, hq9⟩ : ∃ q, l[i]? = some q := ⟨_, List.getElem?_eq_getElem (by omega)⟩
          obtain ⟨a9, ha9, ⟨hqa, hca⟩, ⟨hqb, hcb⟩, ⟨hqc, hcc⟩⟩ := hL.at_ i q9 hq9
          refine CX.skip ?_
          refine PX.thenN ?_
          refine CX.seq ?_
          refine CX.block ?_
          refine CX.seq ?_
          refine CX.region ?_
          refine LX.pure (Y.move rfl) rfl rfl rfl ?_
          refine LX.pure (Y.move rfl) rfl rfl rfl ?_
          refine LX.pure (Y.idxT Dz.un22 Dz.sz29 rfl rfl (by omega) ha9) rfl rfl rfl ?_
          first
            | refine LX.pure (Y.fieldAddr0 Dz.fo29_1 rfl) rfl rfl rfl ?_
            | refine LX.pure (Y.fieldAddr Dz.fo29_1 rfl) rfl rfl rfl ?_
            | refine LX.pure (Y.fieldA Dz.fa29_1 rfl) rfl rfl rfl ?_
          refine LX.pure (Y.ldO Fo.one3 rfl hcb hqb) rfl rfl rfl ?_
          refine LX.call (numb_c q9.2.1 (n := 12) ⟨by omega, by omega⟩) Dz.en7 rfl rfl rfl rfl rfl ?_
          intro m
          refine LX.have fun hmn => ?_
          try dsimp only at hmn ⊢
          refine LX.pure (Y.assign rfl) rfl rfl rfl ?_
          refine LX.sub (l' := [(0, _), (6, _), (7, _), (8, _), (9, _), (10, _)]) ⟨rfl, rfl, rfl, rfl, rfl, rfl, trivial⟩ ?_
          refine LX.next ?_
          refine PX.thenN ?_
          refine CX.seq ?_
          refine CX.region ?_
          refine LX.pure (Y.move rfl) rfl rfl rfl ?_
          refine LX.pure (Y.move rfl) rfl rfl rfl ?_
          refine LX.pure (Y.idxT Dz.un22 Dz.sz29 rfl rfl (by omega) ha9) rfl rfl rfl ?_
          first
            | refine LX.pure (Y.fieldAddr0 Dz.fo29_2 rfl) rfl rfl rfl ?_
            | refine LX.pure (Y.fieldAddr Dz.fo29_2 rfl) rfl rfl rfl ?_
            | refine LX.pure (Y.fieldA Dz.fa29_2 rfl) rfl rfl rfl ?_
          refine LX.pure (Y.ldO Fo.one3 rfl hcc hqc) rfl rfl rfl ?_
          refine LX.pure (Y.rem rfl rfl (by decide)) rfl rfl rfl ?_
          refine LX.pure (Y.assign rfl) rfl rfl rfl ?_
          refine LX.sub (l' := [(0, _), (6, _), (7, _), (8, _), (9, _), (10, _), (11, _)]) ⟨rfl, rfl, rfl, rfl, rfl, rfl, rfl, trivial⟩ ?_
          refine LX.next ?_
          refine PX.thenN ?_
          refine CX.seq ?_
          refine CX.region ?_
          refine LX.pure (Y.assign rfl) rfl rfl rfl ?_
          refine LX.sub (l' := [(0, _), (6, _), (7, _), (8, _), (9, _), (10, _), (11, _), (12, _)]) ⟨rfl, rfl, rfl, rfl, rfl, rfl, rfl, rfl, trivial⟩ ?_
          refine LX.next ?_
          refine PX.thenN ?_
          refine CX.seqM (τ := Option (Nat × En)) (fun q : Option (Nat × En) => [(0, .slice av l.length cn), (6, .pointer (some ⟨d, 0, none⟩)), (7, rv gk es.length kc), (8, rv gv es.length vc), (9, .int .i64 (i : Int)), (10, .int .i64 (m : Int)), (11, .int .i64 (q9.2.2.tmod 1000)), (12, .int .i64 (atQ q))]) (fun (q : Option (Nat × En)) w => AtOk es m q ∧ WA w0 base (.row gk kc (es.length) 3 1 (kI es) :: .row gv vc (es.length) 3 1 (vI es) :: DI d ge ce bm false es bs ck (ds ++ fr)) w) ?_ ?_
          ·
            refine CX.seq ?_
            refine CX.region ?_
            refine LX.pure (Y.assign rfl) rfl rfl rfl ?_
            refine LX.sub (l' := [(0, _), (6, _), (7, _), (8, _), (9, _), (10, _), (11, _), (12, _), (13, _)]) ⟨rfl, rfl, rfl, rfl, rfl, rfl, rfl, rfl, rfl, trivial⟩ ?_
            refine LX.next ?_
            refine PX.thenN ?_
            refine CX.block ?_
            refine CX.loop (fun s : Nat × Int => [(0, .slice av l.length cn), (6, .pointer (some ⟨d, 0, none⟩)), (7, rv gk es.length kc), (8, rv gv es.length vc), (9, .int .i64 (i : Int)), (10, .int .i64 (m : Int)), (11, .int .i64 (q9.2.2.tmod 1000)), (12, .int .i64 s.2), (13, .int .i64 (s.1 : Int))]) (fun (s : Nat × Int) w => (s.1 ≤ es.length ∧ ((s.2 = -1 ∧ ∀ i e, i < s.1 → es[i]? = some e → e.k ≠ m) ∨ ∃ (i : Nat) (e : En), s.2 = (i : Int) ∧ i < s.1 ∧ es[i]? = some e ∧ e.k = m)) ∧ WA w0 base (.row gk kc (es.length) 3 1 (kI es) :: .row gv vc (es.length) 3 1 (vI es) :: DI d ge ce bm false es bs ck (ds ++ fr)) w) (fun s => es.length - s.1) (0, -1) ⟨rfl, rfl, rfl, rfl, rfl, rfl, rfl, rfl, rfl, trivial⟩ (fun w hw => ⟨⟨Nat.zero_le _, .inl ⟨rfl, fun i e h => absurd h (Nat.not_lt_zero _)⟩⟩, hw⟩) ?_
            rintro ⟨j, at9⟩
            refine CX.have fun ⟨hj0, hat9⟩ => ?_
            try dsimp only at hj0 hat9 ⊢
            refine CX.seq ?_
            refine CX.seq ?_
            refine CX.region ?_
            refine LX.pure (Y.move rfl) rfl rfl rfl ?_
            refine LX.pure (Y.move rfl) rfl rfl rfl ?_
            refine LX.pure (Y.lenSl rfl Du.un26 rfl) rfl rfl rfl ?_
            first
              | refine LX.pure (Y.ltN rfl rfl) rfl rfl rfl ?_
              | refine LX.pure (Y.ltI rfl rfl) rfl rfl rfl ?_
            refine LX.sub (l' := [(0, _), (6, _), (7, _), (8, _), (9, _), (10, _), (11, _), (12, _), (13, _), (61, _)]) ⟨rfl, rfl, rfl, rfl, rfl, rfl, rfl, rfl, rfl, rfl, trivial⟩ ?_
            refine LX.next ?_
            refine PX.thenN ?_
            refine CX.cond rfl (fun hb6 => ?_) (fun hb6 => ?_)
            · try simp at hb6
              obtain ⟨e8, he8⟩ : ∃ e, es[j]? = some e := ⟨_, List.getElem?_eq_getElem (by omega)⟩
              refine CX.skip ?_
              refine PX.thenN ?_
              refine CX.seq ?_
              refine CX.block ?_
              refine CX.seq ?_
              refine CX.region ?_
              refine LX.pure (Y.move rfl) rfl rfl rfl ?_
              refine LX.pure (Y.move rfl) rfl rfl rfl ?_
              refine LX.pure (Y.idxR1 0 Du.un26 Fo.sz3 rfl rfl rfl (by omega)) rfl rfl rfl ?_
              refine LX.pure (Y.ldR 0 (v := .int .i64 (e8.k : Int)) Fo.one3 rfl rfl (kI_at he8)) rfl rfl rfl ?_
              refine LX.pure (Y.move rfl) rfl rfl rfl ?_
              first
                | refine LX.pure (Y.eqN rfl rfl) rfl rfl rfl ?_
                | refine LX.pure (Y.eqI rfl rfl) rfl rfl rfl ?_
              refine LX.sub (l' := [(0, _), (6, _), (7, _), (8, _), (9, _), (10, _), (11, _), (12, _), (13, _), (69, _)]) ⟨rfl, rfl, rfl, rfl, rfl, rfl, rfl, rfl, rfl, rfl, trivial⟩ ?_
              refine LX.next ?_
              refine PX.thenN ?_
              refine CX.cond rfl (fun hb7 => ?_) (fun hb7 => ?_)
              · try simp at hb7
                refine CX.region ?_
                refine LX.pure (Y.move rfl) rfl rfl rfl ?_
                refine LX.pure (Y.assign rfl) rfl rfl rfl ?_
                refine LX.sub (l' := [(0, _), (6, _), (7, _), (8, _), (9, _), (10, _), (11, _), (12, _), (13, _)]) ⟨rfl, rfl, rfl, rfl, rfl, rfl, rfl, rfl, rfl, trivial⟩ ?_
                refine LX.next ?_
                refine PX.blockN ?_
                refine PX.thenN ?_
                refine CX.region ?_
                refine LX.pure (Y.move rfl) rfl rfl rfl ?_
                first
                  | refine LX.pure (Y.addN rfl rfl (by first | omega | (simp only []; omega) | (simp; done) | (simp; omega))) rfl rfl rfl ?_
                  | refine LX.pure (Y.add rfl rfl (by first | omega | (simp only []; omega) | (simp; done) | (simp; omega))) rfl rfl rfl ?_
                refine LX.pure (Y.assign rfl) rfl rfl rfl ?_
                refine LX.sub (l' := [(0, _), (6, _), (7, _), (8, _), (9, _), (10, _), (11, _), (12, _), (13, _)]) ⟨rfl, rfl, rfl, rfl, rfl, rfl, rfl, rfl, rfl, trivial⟩ ?_
                refine LX.next ?_
                exact PX.again (L := (fun s : Nat × Int => [(0, .slice av l.length cn), (6, .pointer (some ⟨d, 0, none⟩)), (7, rv gk es.length kc), (8, rv gv es.length vc), (9, .int .i64 (i : Int)), (10, .int .i64 (m : Int)), (11, .int .i64 (q9.2.2.tmod 1000)), (12, .int .i64 s.2), (13, .int .i64 (s.1 : Int))])) (WW := (fun (s : Nat × Int) w => (s.1 ≤ es.length ∧ ((s.2 = -1 ∧ ∀ i e, i < s.1 → es[i]? = some e → e.k ≠ m) ∨ ∃ (i : Nat) (e : En), s.2 = (i : Int) ∧ i < s.1 ∧ es[i]? = some e ∧ e.k = m)) ∧ WA w0 base (.row gk kc (es.length) 3 1 (kI es) :: .row gv vc (es.length) 3 1 (vI es) :: DI d ge ce bm false es bs ck (ds ++ fr)) w)) (μ := fun s => es.length - s.1) (i := (j, at9)) (j + 1, (j : Int)) (by show es.length - (j + 1) < es.length - j; omega) ⟨rfl, rfl, rfl, rfl, rfl, rfl, rfl, rfl, rfl, trivial⟩ (fun w hw => ⟨⟨by show j + 1 ≤ es.length; omega, .inr ⟨j, e8, rfl, Nat.lt_succ_self _, he8, by first | assumption | omega⟩⟩, hw⟩)
              · try simp at hb7
                refine CX.skip ?_
                refine PX.blockN ?_
                refine PX.thenN ?_
                refine CX.region ?_
                refine LX.pure (Y.move rfl) rfl rfl rfl ?_
                first
                  | refine LX.pure (Y.addN rfl rfl (by first | omega | (simp only []; omega) | (simp; done) | (simp; omega))) rfl rfl rfl ?_
                  | refine LX.pure (Y.add rfl rfl (by first | omega | (simp only []; omega) | (simp; done) | (simp; omega))) rfl rfl rfl ?_
                refine LX.pure (Y.assign rfl) rfl rfl rfl ?_
                refine LX.sub (l' := [(0, _), (6, _), (7, _), (8, _), (9, _), (10, _), (11, _), (12, _), (13, _)]) ⟨rfl, rfl, rfl, rfl, rfl, rfl, rfl, rfl, rfl, trivial⟩ ?_
                refine LX.next ?_
                exact PX.again (L := (fun s : Nat × Int => [(0, .slice av l.length cn), (6, .pointer (some ⟨d, 0, none⟩)), (7, rv gk es.length kc), (8, rv gv es.length vc), (9, .int .i64 (i : Int)), (10, .int .i64 (m : Int)), (11, .int .i64 (q9.2.2.tmod 1000)), (12, .int .i64 s.2), (13, .int .i64 (s.1 : Int))])) (WW := (fun (s : Nat × Int) w => (s.1 ≤ es.length ∧ ((s.2 = -1 ∧ ∀ i e, i < s.1 → es[i]? = some e → e.k ≠ m) ∨ ∃ (i : Nat) (e : En), s.2 = (i : Int) ∧ i < s.1 ∧ es[i]? = some e ∧ e.k = m)) ∧ WA w0 base (.row gk kc (es.length) 3 1 (kI es) :: .row gv vc (es.length) 3 1 (vI es) :: DI d ge ce bm false es bs ck (ds ++ fr)) w)) (μ := fun s => es.length - s.1) (i := (j, at9)) (j + 1, at9) (by show es.length - (j + 1) < es.length - j; omega) ⟨rfl, rfl, rfl, rfl, rfl, rfl, rfl, rfl, rfl, trivial⟩ (fun w hw => ⟨⟨by show j + 1 ≤ es.length; omega, by
                  rcases hat9 with ⟨h1, h2⟩ | ⟨i2, e2, h1, h2, h3, h4⟩
                  · refine .inl ⟨h1, fun i e hi he => ?_⟩
                    rcases Nat.lt_or_ge i j with h | h
                    · exact h2 i e h he
                    · obtain rfl : i = j := by show i = j; have : i < j + 1 := hi; omega
                      rw [he8] at he
                      cases he
                      first | assumption | omega
                  · exact .inr ⟨i2, e2, h1, Nat.lt_succ_of_lt h2, h3, h4⟩⟩, hw⟩)
            · try simp at hb6
              have hje : j = es.length := by omega
              refine CX.exit ?_
              refine PX.thenE ?_
              refine PX.thenE ?_
              refine PX.blockE ?_
              rcases hat9 with ⟨rfl, h2⟩ | ⟨i2, e2, rfl, h2, h3, h4⟩
              · exact PX.seam (L := (fun q : Option (Nat × En) => [(0, .slice av l.length cn), (6, .pointer (some ⟨d, 0, none⟩)), (7, rv gk es.length kc), (8, rv gv es.length vc), (9, .int .i64 (i : Int)), (10, .int .i64 (m : Int)), (11, .int .i64 (q9.2.2.tmod 1000)), (12, .int .i64 (atQ q))])) (WW := (fun (q : Option (Nat × En)) w => AtOk es m q ∧ WA w0 base (.row gk kc (es.length) 3 1 (kI es) :: .row gv vc (es.length) 3 1 (vI es) :: DI d ge ce bm false es bs ck (ds ++ fr)) w)) none ⟨rfl, rfl, rfl, rfl, rfl, rfl, rfl, rfl, trivial⟩ (fun w hw => ⟨(fun hm => by
                obtain ⟨e, he, hk⟩ := List.mem_map.1 hm
                obtain ⟨i3, hi3⟩ := List.mem_iff_getElem?.1 he
                exact h2 i3 e (by have := (List.getElem?_eq_some_iff.1 hi3).1; omega) hi3 hk), hw⟩)
              · exact PX.seam (L := (fun q : Option (Nat × En) => [(0, .slice av l.length cn), (6, .pointer (some ⟨d, 0, none⟩)), (7, rv gk es.length kc), (8, rv gv es.length vc), (9, .int .i64 (i : Int)), (10, .int .i64 (m : Int)), (11, .int .i64 (q9.2.2.tmod 1000)), (12, .int .i64 (atQ q))])) (WW := (fun (q : Option (Nat × En)) w => AtOk es m q ∧ WA w0 base (.row gk kc (es.length) 3 1 (kI es) :: .row gv vc (es.length) 3 1 (vI es) :: DI d ge ce bm false es bs ck (ds ++ fr)) w)) (some (i2, e2)) ⟨rfl, rfl, rfl, rfl, rfl, rfl, rfl, rfl, trivial⟩ (fun w hw => ⟨⟨h3, h4⟩, hw⟩)
          ·
            intro q
            refine CX.have fun hat => ?_
            rcases q with _ | ⟨ia, ea⟩
            ·
              have hno : m ∉ es.map (·.k) := hat
              try dsimp only [atQ]
              refine CX.seq ?_
              refine CX.region ?_
              refine LX.pure (Y.move rfl) rfl rfl rfl ?_
              refine LX.call (of_n hS (i := m) (by omega)) Dz.en10 rfl rfl rfl rfl rfl ?_
              rintro ⟨ga, ca⟩
              refine LX.have fun hxa => ?_
              try dsimp only at hxa ⊢
              refine LX.call (int_c _ ga ca) Dz.en9 rfl rfl rfl rfl rfl ?_
              intro _
              refine LX.call (str_c [107]) Dz.en11 rfl rfl rfl rfl rfl ?_
              intro _
              refine LX.buildSlice (e := 31) (size := 1) rfl rfl (fun _ => by kernel_rfl) rfl (by decide) rfl rfl rfl ?_
              intro gt64
              refine LX.call (tup_c _ _ [.iface 82 (numV (m : Int) ga ca), .iface 86 (str [107])] rfl rfl) Dz.en8 rfl rfl rfl rfl rfl ?_
              rintro ⟨tb, gt9, ct9⟩
              refine LX.world (W' := fun w => (∃ b, gt9 = some b) ∧ WA w0 base (.row gk kc (es.length) 3 1 (kI es) :: .row gv vc (es.length) 3 1 (vI es) :: DI d ge ce bm false es bs ck ((blk tb [rv gt9 2 ct9] 80 :: .row gt9 ct9 2 31 1 [.iface 82 (numV (m : Int) ga ca), .iface 86 (str [107])] :: dZ (m : Int) ga ca :: ds) ++ fr)) w) (fun w hw => ⟨by
                obtain ⟨b, _, h, _⟩ := row_some (hw.get (i := 1) rfl) (by omega)
                exact ⟨b, h⟩, to_in (A := [_, _, _]) (M := [_, _, _, _, _] ++ es.map entI) (r := ds ++ fr) (hw.drop (List.Sublist.cons_cons _ (List.Sublist.cons_cons _ (List.Sublist.cons _ (List.Sublist.refl _)))))⟩) ?_
              refine LX.have fun ⟨gt, hgt⟩ => ?_
              subst hgt
              have hK9 : KI m (.iface 77 (.pointer (some ⟨tb, 0, none⟩))) (blk tb [rv (some gt) 2 ct9] 80 :: .row (some gt) ct9 2 31 1 [.iface 82 (numV (m : Int) ga ca), .iface 86 (str [107])] :: dZ (m : Int) ga ca :: ds) := ⟨tb, gt, ct9, ga, ca, rfl, List.mem_cons_self, List.mem_cons_of_mem _ List.mem_cons_self, List.mem_cons_of_mem _ (List.mem_cons_of_mem _ List.mem_cons_self), hxa⟩
              have hent9 : ∀ e ∈ es, KI e.k e.kv (blk tb [rv (some gt) 2 ct9] 80 :: .row (some gt) ct9 2 31 1 [.iface 82 (numV (m : Int) ga ca), .iface 86 (str [107])] :: dZ (m : Int) ga ca :: ds) ∧ VI e.v e.vv (blk tb [rv (some gt) 2 ct9] 80 :: .row (some gt) ct9 2 31 1 [.iface 82 (numV (m : Int) ga ca), .iface 86 (str [107])] :: dZ (m : Int) ga ca :: ds) := ent_more (ent_more (ent_more hent))
              refine LX.pure (Y.assign rfl) rfl rfl rfl ?_
              refine LX.sub (l' := [(0, _), (6, _), (7, _), (8, _), (9, _), (10, _), (11, _), (12, _), (14, _)]) ⟨rfl, rfl, rfl, rfl, rfl, rfl, rfl, rfl, rfl, trivial⟩ ?_
              refine LX.next ?_
              refine PX.thenN ?_
              refine CX.seq ?_
              refine CX.seq ?_
              refine CX.region ?_
              refine LX.pure (Y.move rfl) rfl rfl rfl ?_
              refine LX.pure (Y.move rfl) rfl rfl rfl ?_
              refine LX.pure (Y.idxT Dz.un22 Dz.sz29 rfl rfl (by omega) ha9) rfl rfl rfl ?_
              first
                | refine LX.pure (Y.fieldAddr0 Dz.fo29_0 rfl) rfl rfl rfl ?_
                | refine LX.pure (Y.fieldAddr Dz.fo29_0 rfl) rfl rfl rfl ?_
                | refine LX.pure (Y.fieldA Dz.fa29_0 rfl) rfl rfl rfl ?_
              refine LX.pure (Y.ldO Fo.one3 rfl hca hqa) rfl rfl rfl ?_
              refine LX.sub (l' := [(0, _), (6, _), (7, _), (8, _), (9, _), (10, _), (11, _), (12, _), (14, _), (81, _)]) ⟨rfl, rfl, rfl, rfl, rfl, rfl, rfl, rfl, rfl, rfl, trivial⟩ ?_
              refine LX.next ?_
              refine PX.thenN ?_
              refine CX.block ?_
              refine CX.seq ?_
              refine CX.region ?_
              first
                | refine LX.pure (Y.eqN rfl rfl) rfl rfl rfl ?_
                | refine LX.pure (Y.eqI rfl rfl) rfl rfl rfl ?_
              refine LX.pure (Y.assign rfl) rfl rfl rfl ?_
              refine LX.sub (l' := [(0, _), (6, _), (7, _), (8, _), (9, _), (10, _), (11, _), (12, _), (14, _), (81, _), (116, _)]) ⟨rfl, rfl, rfl, rfl, rfl, rfl, rfl, rfl, rfl, rfl, rfl, trivial⟩ ?_
              refine LX.next ?_
              refine PX.thenN ?_
              refine CX.cond rfl (fun hb8 => ?_) (fun hb8 => ?_)
              · try simp at hb8
                refine CX.seq ?_
                refine CX.seq ?_
                refine CX.region ?_
                refine LX.pure (Y.move rfl) rfl rfl rfl ?_
                refine LX.pure (Y.move rfl) rfl rfl rfl ?_
                refine LX.pure (Y.move rfl) rfl rfl rfl ?_
                refine LX.call (of_c (x := (q9.2.2.tmod 1000)) (by have := tm q9.2.2; omega)) Dz.en10 rfl rfl rfl rfl rfl ?_
                rintro ⟨gz, cz⟩
                refine LX.call (int_c _ gz cz) Dz.en9 rfl rfl rfl rfl rfl ?_
                intro _
                refine LX.world (W' := WA w0 base (.row gk kc (es.length) 3 1 (kI es) :: .row gv vc (es.length) 3 1 (vI es) :: DI d ge ce bm false es bs ck ((dZ (q9.2.2.tmod 1000) gz cz :: (blk tb [rv (some gt) 2 ct9] 80 :: .row (some gt) ct9 2 31 1 [.iface 82 (numV (m : Int) ga ca), .iface 86 (str [107])] :: dZ (m : Int) ga ca :: ds)) ++ fr))) (fun w hw => to_in (A := [_]) (M := [_, _, _, _, _] ++ es.map entI) (r := (blk tb [rv (some gt) 2 ct9] 80 :: .row (some gt) ct9 2 31 1 [.iface 82 (numV (m : Int) ga ca), .iface 86 (str [107])] :: dZ (m : Int) ga ca :: ds) ++ fr) hw) ?_
                refine LX.call (set_new2 (r := (dZ (q9.2.2.tmod 1000) gz cz :: (blk tb [rv (some gt) 2 ct9] 80 :: .row (some gt) ct9 2 31 1 [.iface 82 (numV (m : Int) ga ca), .iface 86 (str [107])] :: dZ (m : Int) ga ca :: ds)) ++ fr) (v := (q9.2.2.tmod 1000)) hS hD hmn (fun w hw => (hK9.mono (fun _ h => List.mem_cons_of_mem _ h)).kw hmn (fun it h => in_ds h) hw) hno rfl) Dz.en12 rfl rfl rfl rfl rfl ?_
                rintro ⟨eb, ⟨ge2, ce2⟩, bs2, ck2⟩
                refine LX.have fun hD2 => ?_
                try dsimp only at hD2 ⊢
                first
                  | refine LX.pure (Y.neNil Fo.un40 rfl rfl) rfl rfl rfl ?_
                  | refine LX.pure (Y.neNilNil Fo.un40 rfl) rfl rfl rfl ?_
                refine LX.sub (l' := [(0, _), (6, _), (7, _), (8, _), (9, _), (10, _), (11, _), (12, _), (124, _)]) ⟨rfl, rfl, rfl, rfl, rfl, rfl, rfl, rfl, rfl, trivial⟩ ?_
                refine LX.next ?_
                refine PX.thenN ?_
                refine CX.cond rfl (fun hb9 => ?_) (fun hb9 => ?_)
                · try simp at hb9
                  first | done | (exfalso; omega) | (exfalso; simp_all; done) | (exfalso; simp_all; omega)
                · try simp at hb9
                  refine CX.skip ?_
                  refine PX.thenN ?_
                  refine CX.seq ?_
                  refine CX.region ?_
                  refine LX.pure (Y.move rfl) rfl rfl rfl ?_
                  first
                    | refine LX.pure (Y.ltN rfl rfl) rfl rfl rfl ?_
                    | refine LX.pure (Y.ltI rfl rfl) rfl rfl rfl ?_
                  refine LX.sub (l' := [(0, _), (6, _), (7, _), (8, _), (9, _), (10, _), (11, _), (12, _), (126, _)]) ⟨rfl, rfl, rfl, rfl, rfl, rfl, rfl, rfl, rfl, trivial⟩ ?_
                  refine LX.next ?_
                  refine PX.thenN ?_
                  refine CX.cond rfl (fun hb10 => ?_) (fun hb10 => ?_)
                  · try simp at hb10
                    refine CX.seq ?_
                    refine CX.region ?_
                    refine LX.pure (Y.move rfl) rfl rfl rfl ?_
                    refine LX.pure (Y.move rfl) rfl rfl rfl ?_
                    refine LX.buildSlice (e := 3) (size := 1) rfl rfl (fun _ => by kernel_rfl) rfl (by decide) rfl rfl rfl ?_
                    intro gt85
                    refine LX.appendT 0 Du.el26 rfl rfl rfl rfl rfl rfl rfl (by omega) (by omega) rfl rfl rfl ?_
                    intro gk2 kc2
                    refine LX.pure (Y.assign rfl) rfl rfl rfl ?_
                    refine LX.sub (l' := [(0, _), (6, _), (7, _), (8, _), (9, _), (11, _)]) ⟨rfl, rfl, rfl, rfl, rfl, rfl, trivial⟩ ?_
                    refine LX.next ?_
                    refine PX.thenN ?_
                    refine CX.region ?_
                    refine LX.pure (Y.move rfl) rfl rfl rfl ?_
                    refine LX.pure (Y.move rfl) rfl rfl rfl ?_
                    refine LX.buildSlice (e := 3) (size := 1) rfl rfl (fun _ => by kernel_rfl) rfl (by decide) rfl rfl rfl ?_
                    intro gt90
                    refine LX.appendT 1 Du.el26 rfl rfl rfl rfl rfl rfl rfl (by omega) (by omega) rfl rfl rfl ?_
                    intro gv2 vc2
                    refine LX.world (W' := WA w0 base (.row gk2 kc2 (es.length + 1) 3 1 (kI es ++ [Value.int .i64 (m : Int)]) :: .row gv2 vc2 (es.length + 1) 3 1 (vI es ++ [Value.int .i64 (q9.2.2.tmod 1000)]) :: DI d ge2 ce2 bm false (es ++ [(⟨m, (q9.2.2.tmod 1000), eb, (.iface 77 (.pointer (some ⟨tb, 0, none⟩))), (.iface 82 (numV (q9.2.2.tmod 1000) gz cz))⟩ : En)]) bs2 ck2 ((dZ (q9.2.2.tmod 1000) gz cz :: (blk tb [rv (some gt) 2 ct9] 80 :: .row (some gt) ct9 2 31 1 [.iface 82 (numV (m : Int) ga ca), .iface 86 (str [107])] :: dZ (m : Int) ga ca :: ds)) ++ fr))) (fun w hw => hw) ?_
                    refine LX.pure (Y.assign rfl) rfl rfl rfl ?_
                    refine LX.sub (l' := [(0, _), (6, _), (7, _), (8, _), (9, _)]) ⟨rfl, rfl, rfl, rfl, rfl, trivial⟩ ?_
                    refine LX.next ?_
                    refine PX.blockN ?_
                    refine PX.thenN ?_
                    refine CX.seq ?_
                    refine CX.region ?_
                    refine LX.pure (Y.move rfl) rfl rfl rfl ?_
                    refine LX.call (len2) Dz.en18 rfl rfl rfl rfl rfl ?_
                    intro _
                    refine LX.pure (Y.move rfl) rfl rfl rfl ?_
                    refine LX.pure (Y.lenSl rfl Du.un26 rfl) rfl rfl rfl ?_
                    first
                      | refine LX.pure (Y.neN rfl rfl) rfl rfl rfl ?_
                      | refine LX.pure (Y.neI rfl rfl) rfl rfl rfl ?_
                    refine LX.sub (l' := [(0, _), (6, _), (7, _), (8, _), (9, _), (180, _)]) ⟨rfl, rfl, rfl, rfl, rfl, rfl, trivial⟩ ?_
                    refine LX.next ?_
                    refine PX.thenN ?_
                    refine CX.cond rfl (fun hb11 => ?_) (fun hb11 => ?_)
                    · try simp at hb11
                      first | done | (exfalso; omega) | (exfalso; simp_all; done) | (exfalso; simp_all; omega)
                    · try simp at hb11
                      refine CX.skip ?_
                      refine PX.blockN ?_
                      refine PX.thenN ?_
                      refine CX.region ?_
                      refine LX.pure (Y.move rfl) rfl rfl rfl ?_
                      first
                        | refine LX.pure (Y.addN rfl rfl (by first | omega | (simp only []; omega) | (simp; done) | (simp; omega))) rfl rfl rfl ?_
                        | refine LX.pure (Y.add rfl rfl (by first | omega | (simp only []; omega) | (simp; done) | (simp; omega))) rfl rfl rfl ?_
                      refine LX.pure (Y.assign rfl) rfl rfl rfl ?_
                      refine LX.sub (l' := [(0, _), (6, _), (7, _), (8, _), (9, _)]) ⟨rfl, rfl, rfl, rfl, rfl, trivial⟩ ?_
                      refine LX.next ?_
                      exact PX.again (L := (fun s : MSt => [(0, .slice av l.length cn), (6, .pointer (some ⟨d, 0, none⟩)), (7, rv s.gk s.es.length s.kc), (8, rv s.gv s.es.length s.vc), (9, .int .i64 (s.i : Int))])) (WW := (fun (s : MSt) w => (s.i ≤ l.length ∧ MOk s) ∧ WA w0 base (.row s.gk s.kc (s.es.length) 3 1 (kI s.es) :: .row s.gv s.vc (s.es.length) 3 1 (vI s.es) :: DI d s.ge s.ce bm false s.es s.bs s.ck (s.ds ++ fr)) w)) (μ := fun s => l.length - s.i) (i := ⟨i, es, ge, ce, bs, ck, gk, kc, gv, vc, ds⟩) ⟨i + 1, (es ++ [(⟨m, (q9.2.2.tmod 1000), eb, (.iface 77 (.pointer (some ⟨tb, 0, none⟩))), (.iface 82 (numV (q9.2.2.tmod 1000) gz cz))⟩ : En)]), ge2, ce2, bs2, ck2, gk2, kc2, gv2, vc2, (dZ (q9.2.2.tmod 1000) gz cz :: (blk tb [rv (some gt) 2 ct9] 80 :: .row (some gt) ct9 2 31 1 [.iface 82 (numV (m : Int) ga ca), .iface 86 (str [107])] :: dZ (m : Int) ga ca :: ds))⟩ (by show l.length - (i + 1) < l.length - i; omega) ⟨rfl, rfl, by dsimp only; rw [List.length_append]; rfl, by dsimp only; rw [List.length_append]; rfl, rfl, trivial⟩ (fun w hw => ⟨⟨by show i + 1 ≤ l.length; omega, ⟨hD2, fun e he => (List.mem_append.1 he).elim (ent_more hent9 e) (fun h => by rw [List.mem_singleton.1 h]; exact ⟨hK9.mono (fun _ h => List.mem_cons_of_mem _ h), ⟨gz, cz, rfl, tm _, List.mem_cons_self⟩⟩)⟩⟩, by dsimp only; rw [kI_snoc, vI_snoc, List.length_append]; exact hw⟩)
                  · try simp at hb10
                    first | done | (exfalso; omega) | (exfalso; simp_all; done) | (exfalso; simp_all; omega)
              · try simp at hb8
                refine CX.seq ?_
                refine CX.region ?_
                first
                  | refine LX.pure (Y.eqN rfl rfl) rfl rfl rfl ?_
                  | refine LX.pure (Y.eqI rfl rfl) rfl rfl rfl ?_
                refine LX.pure (Y.assign rfl) rfl rfl rfl ?_
                refine LX.sub (l' := [(0, _), (6, _), (7, _), (8, _), (9, _), (12, _), (14, _), (139, _)]) ⟨rfl, rfl, rfl, rfl, rfl, rfl, rfl, rfl, trivial⟩ ?_
                refine LX.next ?_
                refine PX.thenN ?_
                refine CX.cond rfl (fun hb12 => ?_) (fun hb12 => ?_)
                · try simp at hb12
                  refine CX.seq ?_
                  refine CX.region ?_
                  refine LX.pure (Y.move rfl) rfl rfl rfl ?_
                  refine LX.pure (Y.move rfl) rfl rfl rfl ?_
                  refine LX.call (del_no2 (r := (blk tb [rv (some gt) 2 ct9] 80 :: .row (some gt) ct9 2 31 1 [.iface 82 (numV (m : Int) ga ca), .iface 86 (str [107])] :: dZ (m : Int) ga ca :: ds) ++ fr) hS hD hmn (fun w hw => hK9.kw hmn (fun it h => in_ds h) hw) hno) Dz.en13 rfl rfl rfl rfl rfl ?_
                  intro _
                  refine LX.pure (Y.move rfl) rfl rfl rfl ?_
                  refine LX.pure (Y.extract rfl rfl) rfl rfl rfl ?_
                  refine LX.pure (Y.extract rfl rfl) rfl rfl rfl ?_
                  refine LX.pure (Y.extract rfl rfl) rfl rfl rfl ?_
                  refine LX.pure (Y.assign rfl) rfl rfl rfl ?_
                  refine LX.pure (Y.assign rfl) rfl rfl rfl ?_
                  refine LX.pure (Y.assign rfl) rfl rfl rfl ?_
                  refine LX.sub (l' := [(0, _), (6, _), (7, _), (8, _), (9, _), (12, _), (16, _), (17, _)]) ⟨rfl, rfl, rfl, rfl, rfl, rfl, rfl, rfl, trivial⟩ ?_
                  refine LX.next ?_
                  refine PX.thenN ?_
                  refine CX.seq ?_
                  refine CX.seq ?_
                  refine CX.region ?_
                  refine LX.pure (Y.move rfl) rfl rfl rfl ?_
                  first
                    | refine LX.pure (Y.neNil Fo.un40 rfl rfl) rfl rfl rfl ?_
                    | refine LX.pure (Y.neNilNil Fo.un40 rfl) rfl rfl rfl ?_
                  refine LX.pure (Y.move rfl) rfl rfl rfl ?_
                  refine LX.caseB (s := 150) rfl (fun hb13 => ?_) (fun hb13 => ?_)
                  ·
                    first | (exfalso; simp_all; done) | cases hb13
                  ·
                    have hb13p := hb13
                    try simp at hb13p
                    refine LX.gT rfl rfl rfl hb13 (Y.move rfl) rfl rfl ?_
                    refine LX.gT rfl rfl rfl hb13 (Y.move rfl) rfl rfl ?_
                    first
                      | refine LX.gT rfl rfl rfl hb13 (Y.geN rfl rfl) rfl rfl ?_
                      | refine LX.gT rfl rfl rfl hb13 (Y.geI rfl rfl) rfl rfl ?_
                    refine LX.gT rfl rfl rfl hb13 (Y.neB rfl rfl Fo.un4) rfl rfl ?_
                    refine LX.pure (Y.pickF rfl hb13 rfl) rfl rfl rfl ?_
                    refine LX.sub (l' := [(0, _), (6, _), (7, _), (8, _), (9, _), (12, _), (155, _)]) ⟨rfl, rfl, rfl, rfl, rfl, rfl, rfl, trivial⟩ ?_
                    refine LX.next ?_
                    refine PX.thenN ?_
                    refine CX.cond rfl (fun hb14 => ?_) (fun hb14 => ?_)
                    · try simp at hb14
                      first | done | (exfalso; omega) | (exfalso; simp_all; done) | (exfalso; simp_all; omega)
                    · try simp at hb14
                      refine CX.skip ?_
                      refine PX.thenN ?_
                      refine CX.seq ?_
                      refine CX.region ?_
                      refine LX.pure (Y.move rfl) rfl rfl rfl ?_
                      first
                        | refine LX.pure (Y.geN rfl rfl) rfl rfl rfl ?_
                        | refine LX.pure (Y.geI rfl rfl) rfl rfl rfl ?_
                      refine LX.sub (l' := [(0, _), (6, _), (7, _), (8, _), (9, _), (12, _), (157, _)]) ⟨rfl, rfl, rfl, rfl, rfl, rfl, rfl, trivial⟩ ?_
                      refine LX.next ?_
                      refine PX.thenN ?_
                      refine CX.cond rfl (fun hb15 => ?_) (fun hb15 => ?_)
                      · try simp at hb15
                        first | done | (exfalso; omega) | (exfalso; simp_all; done) | (exfalso; simp_all; omega)
                      · try simp at hb15
                        refine CX.skip ?_
                        refine PX.blockN ?_
                        refine PX.thenN ?_
                        refine CX.seq ?_
                        refine CX.region ?_
                        refine LX.pure (Y.move rfl) rfl rfl rfl ?_
                        refine LX.call (len2) Dz.en18 rfl rfl rfl rfl rfl ?_
                        intro _
                        refine LX.pure (Y.move rfl) rfl rfl rfl ?_
                        refine LX.pure (Y.lenSl rfl Du.un26 rfl) rfl rfl rfl ?_
                        first
                          | refine LX.pure (Y.neN rfl rfl) rfl rfl rfl ?_
                          | refine LX.pure (Y.neI rfl rfl) rfl rfl rfl ?_
                        refine LX.sub (l' := [(0, _), (6, _), (7, _), (8, _), (9, _), (180, _)]) ⟨rfl, rfl, rfl, rfl, rfl, rfl, trivial⟩ ?_
                        refine LX.next ?_
                        refine PX.thenN ?_
                        refine CX.cond rfl (fun hb16 => ?_) (fun hb16 => ?_)
                        · try simp at hb16
                          first | done | (exfalso; omega) | (exfalso; simp_all; done) | (exfalso; simp_all; omega)
                        · try simp at hb16
                          refine CX.skip ?_
                          refine PX.blockN ?_
                          refine PX.thenN ?_
                          refine CX.region ?_
                          refine LX.pure (Y.move rfl) rfl rfl rfl ?_
                          first
                            | refine LX.pure (Y.addN rfl rfl (by first | omega | (simp only []; omega) | (simp; done) | (simp; omega))) rfl rfl rfl ?_
                            | refine LX.pure (Y.add rfl rfl (by first | omega | (simp only []; omega) | (simp; done) | (simp; omega))) rfl rfl rfl ?_
                          refine LX.pure (Y.assign rfl) rfl rfl rfl ?_
                          refine LX.sub (l' := [(0, _), (6, _), (7, _), (8, _), (9, _)]) ⟨rfl, rfl, rfl, rfl, rfl, trivial⟩ ?_
                          refine LX.next ?_
                          exact PX.again (L := (fun s : MSt => [(0, .slice av l.length cn), (6, .pointer (some ⟨d, 0, none⟩)), (7, rv s.gk s.es.length s.kc), (8, rv s.gv s.es.length s.vc), (9, .int .i64 (s.i : Int))])) (WW := (fun (s : MSt) w => (s.i ≤ l.length ∧ MOk s) ∧ WA w0 base (.row s.gk s.kc (s.es.length) 3 1 (kI s.es) :: .row s.gv s.vc (s.es.length) 3 1 (vI s.es) :: DI d s.ge s.ce bm false s.es s.bs s.ck (s.ds ++ fr)) w)) (μ := fun s => l.length - s.i) (i := ⟨i, es, ge, ce, bs, ck, gk, kc, gv, vc, ds⟩) ⟨i + 1, es, ge, ce, bs, ck, gk, kc, gv, vc, (blk tb [rv (some gt) 2 ct9] 80 :: .row (some gt) ct9 2 31 1 [.iface 82 (numV (m : Int) ga ca), .iface 86 (str [107])] :: dZ (m : Int) ga ca :: ds)⟩ (by show l.length - (i + 1) < l.length - i; omega) ⟨rfl, rfl, rfl, rfl, rfl, trivial⟩ (fun w hw => ⟨⟨by show i + 1 ≤ l.length; omega, ⟨hD, hent9⟩⟩, hw⟩)
                · try simp at hb12
                  refine CX.seq ?_
                  refine CX.region ?_
                  refine LX.pure (Y.move rfl) rfl rfl rfl ?_
                  refine LX.pure (Y.move rfl) rfl rfl rfl ?_
                  refine LX.call (get_no2 (r := (blk tb [rv (some gt) 2 ct9] 80 :: .row (some gt) ct9 2 31 1 [.iface 82 (numV (m : Int) ga ca), .iface 86 (str [107])] :: dZ (m : Int) ga ca :: ds) ++ fr) hS hD hmn (fun w hw => hK9.kw hmn (fun it h => in_ds h) hw) hno) Dz.en15 rfl rfl rfl rfl rfl ?_
                  intro _
                  refine LX.pure (Y.move rfl) rfl rfl rfl ?_
                  refine LX.pure (Y.extract rfl rfl) rfl rfl rfl ?_
                  refine LX.pure (Y.extract rfl rfl) rfl rfl rfl ?_
                  refine LX.pure (Y.extract rfl rfl) rfl rfl rfl ?_
                  refine LX.pure (Y.assign rfl) rfl rfl rfl ?_
                  refine LX.pure (Y.assign rfl) rfl rfl rfl ?_
                  refine LX.pure (Y.assign rfl) rfl rfl rfl ?_
                  refine LX.sub (l' := [(0, _), (6, _), (7, _), (8, _), (9, _), (12, _), (18, _), (19, _), (20, _)]) ⟨rfl, rfl, rfl, rfl, rfl, rfl, rfl, rfl, rfl, trivial⟩ ?_
                  refine LX.next ?_
                  refine PX.thenN ?_
                  refine CX.seq ?_
                  refine CX.seq ?_
                  refine CX.region ?_
                  refine LX.pure (Y.move rfl) rfl rfl rfl ?_
                  first
                    | refine LX.pure (Y.neNil Fo.un40 rfl rfl) rfl rfl rfl ?_
                    | refine LX.pure (Y.neNilNil Fo.un40 rfl) rfl rfl rfl ?_
                  refine LX.pure (Y.move rfl) rfl rfl rfl ?_
                  refine LX.caseB (s := 91) rfl (fun hb17 => ?_) (fun hb17 => ?_)
                  ·
                    first | (exfalso; simp_all; done) | cases hb17
                  ·
                    have hb17p := hb17
                    try simp at hb17p
                    refine LX.gT rfl rfl rfl hb17 (Y.move rfl) rfl rfl ?_
                    refine LX.gT rfl rfl rfl hb17 (Y.move rfl) rfl rfl ?_
                    first
                      | refine LX.gT rfl rfl rfl hb17 (Y.geN rfl rfl) rfl rfl ?_
                      | refine LX.gT rfl rfl rfl hb17 (Y.geI rfl rfl) rfl rfl ?_
                    refine LX.gT rfl rfl rfl hb17 (Y.neB rfl rfl Fo.un4) rfl rfl ?_
                    refine LX.pure (Y.pickF rfl hb17 rfl) rfl rfl rfl ?_
                    refine LX.sub (l' := [(0, _), (6, _), (7, _), (8, _), (9, _), (12, _), (18, _), (19, _), (96, _)]) ⟨rfl, rfl, rfl, rfl, rfl, rfl, rfl, rfl, rfl, trivial⟩ ?_
                    refine LX.next ?_
                    refine PX.thenN ?_
                    refine CX.cond rfl (fun hb18 => ?_) (fun hb18 => ?_)
                    · try simp at hb18
                      first | done | (exfalso; omega) | (exfalso; simp_all; done) | (exfalso; simp_all; omega)
                    · try simp at hb18
                      refine CX.skip ?_
                      refine PX.thenN ?_
                      refine CX.seq ?_
                      refine CX.region ?_
                      refine LX.pure (Y.move rfl) rfl rfl rfl ?_
                      refine LX.sub (l' := [(0, _), (6, _), (7, _), (8, _), (9, _), (12, _), (18, _), (97, _)]) ⟨rfl, rfl, rfl, rfl, rfl, rfl, rfl, rfl, trivial⟩ ?_
                      refine LX.next ?_
                      refine PX.thenN ?_
                      refine CX.cond rfl (fun hb19 => ?_) (fun hb19 => ?_)
                      · try simp at hb19
                        first | done | (exfalso; omega) | (exfalso; simp_all; done) | (exfalso; simp_all; omega)
                      · try simp at hb19
                        refine CX.skip ?_
                        refine PX.blockN ?_
                        refine PX.thenN ?_
                        refine CX.seq ?_
                        refine CX.region ?_
                        refine LX.pure (Y.move rfl) rfl rfl rfl ?_
                        refine LX.call (len2) Dz.en18 rfl rfl rfl rfl rfl ?_
                        intro _
                        refine LX.pure (Y.move rfl) rfl rfl rfl ?_
                        refine LX.pure (Y.lenSl rfl Du.un26 rfl) rfl rfl rfl ?_
                        first
                          | refine LX.pure (Y.neN rfl rfl) rfl rfl rfl ?_
                          | refine LX.pure (Y.neI rfl rfl) rfl rfl rfl ?_
                        refine LX.sub (l' := [(0, _), (6, _), (7, _), (8, _), (9, _), (180, _)]) ⟨rfl, rfl, rfl, rfl, rfl, rfl, trivial⟩ ?_
                        refine LX.next ?_
                        refine PX.thenN ?_
                        refine CX.cond rfl (fun hb20 => ?_) (fun hb20 => ?_)
                        · try simp at hb20
                          first | done | (exfalso; omega) | (exfalso; simp_all; done) | (exfalso; simp_all; omega)
                        · try simp at hb20
                          refine CX.skip ?_
                          refine PX.blockN ?_
                          refine PX.thenN ?_
                          refine CX.region ?_
                          refine LX.pure (Y.move rfl) rfl rfl rfl ?_
                          first
                            | refine LX.pure (Y.addN rfl rfl (by first | omega | (simp only []; omega) | (simp; done) | (simp; omega))) rfl rfl rfl ?_
                            | refine LX.pure (Y.add rfl rfl (by first | omega | (simp only []; omega) | (simp; done) | (simp; omega))) rfl rfl rfl ?_
                          refine LX.pure (Y.assign rfl) rfl rfl rfl ?_
                          refine LX.sub (l' := [(0, _), (6, _), (7, _), (8, _), (9, _)]) ⟨rfl, rfl, rfl, rfl, rfl, trivial⟩ ?_
                          refine LX.next ?_
                          exact PX.again (L := (fun s : MSt => [(0, .slice av l.length cn), (6, .pointer (some ⟨d, 0, none⟩)), (7, rv s.gk s.es.length s.kc), (8, rv s.gv s.es.length s.vc), (9, .int .i64 (s.i : Int))])) (WW := (fun (s : MSt) w => (s.i ≤ l.length ∧ MOk s) ∧ WA w0 base (.row s.gk s.kc (s.es.length) 3 1 (kI s.es) :: .row s.gv s.vc (s.es.length) 3 1 (vI s.es) :: DI d s.ge s.ce bm false s.es s.bs s.ck (s.ds ++ fr)) w)) (μ := fun s => l.length - s.i) (i := ⟨i, es, ge, ce, bs, ck, gk, kc, gv, vc, ds⟩) ⟨i + 1, es, ge, ce, bs, ck, gk, kc, gv, vc, (blk tb [rv (some gt) 2 ct9] 80 :: .row (some gt) ct9 2 31 1 [.iface 82 (numV (m : Int) ga ca), .iface 86 (str [107])] :: dZ (m : Int) ga ca :: ds)⟩ (by show l.length - (i + 1) < l.length - i; omega) ⟨rfl, rfl, rfl, rfl, rfl, trivial⟩ (fun w hw => ⟨⟨by show i + 1 ≤ l.length; omega, ⟨hD, hent9⟩⟩, hw⟩)
            ·
              obtain ⟨hia, hka⟩ : es[ia]? = some ea ∧ ea.k = m := hat
              have hil := (List.getElem?_eq_some_iff.1 hia).1
              have hle := List.length_eraseIdx_of_lt hil
              try dsimp only [atQ]
              obtain ⟨hKe, hVe⟩ := hent ea (List.mem_of_getElem? hia)
              obtain ⟨ek, ev, eeb, ekv, evv⟩ := ea
              dsimp only at hKe hVe hka
              obtain ⟨gw, cw, rfl, hw9, hw8⟩ := hVe
              refine CX.seq ?_
              refine CX.region ?_
              refine LX.pure (Y.move rfl) rfl rfl rfl ?_
              refine LX.call (of_n hS (i := m) (by omega)) Dz.en10 rfl rfl rfl rfl rfl ?_
              rintro ⟨ga, ca⟩
              refine LX.have fun hxa => ?_
              try dsimp only at hxa ⊢
              refine LX.call (int_c _ ga ca) Dz.en9 rfl rfl rfl rfl rfl ?_
              intro _
              refine LX.call (str_c [107]) Dz.en11 rfl rfl rfl rfl rfl ?_
              intro _
              refine LX.buildSlice (e := 31) (size := 1) rfl rfl (fun _ => by kernel_rfl) rfl (by decide) rfl rfl rfl ?_
              intro gt162
              refine LX.call (tup_c _ _ [.iface 82 (numV (m : Int) ga ca), .iface 86 (str [107])] rfl rfl) Dz.en8 rfl rfl rfl rfl rfl ?_
              rintro ⟨tb, gt9, ct9⟩
              refine LX.world (W' := fun w => (∃ b, gt9 = some b) ∧ WA w0 base (.row gk kc (es.length) 3 1 (kI es) :: .row gv vc (es.length) 3 1 (vI es) :: DI d ge ce bm false es bs ck ((blk tb [rv gt9 2 ct9] 80 :: .row gt9 ct9 2 31 1 [.iface 82 (numV (m : Int) ga ca), .iface 86 (str [107])] :: dZ (m : Int) ga ca :: ds) ++ fr)) w) (fun w hw => ⟨by
                obtain ⟨b, _, h, _⟩ := row_some (hw.get (i := 1) rfl) (by omega)
                exact ⟨b, h⟩, to_in (A := [_, _, _]) (M := [_, _, _, _, _] ++ es.map entI) (r := ds ++ fr) (hw.drop (List.Sublist.cons_cons _ (List.Sublist.cons_cons _ (List.Sublist.cons _ (List.Sublist.refl _)))))⟩) ?_
              refine LX.have fun ⟨gt, hgt⟩ => ?_
              subst hgt
              have hK9 : KI m (.iface 77 (.pointer (some ⟨tb, 0, none⟩))) (blk tb [rv (some gt) 2 ct9] 80 :: .row (some gt) ct9 2 31 1 [.iface 82 (numV (m : Int) ga ca), .iface 86 (str [107])] :: dZ (m : Int) ga ca :: ds) := ⟨tb, gt, ct9, ga, ca, rfl, List.mem_cons_self, List.mem_cons_of_mem _ List.mem_cons_self, List.mem_cons_of_mem _ (List.mem_cons_of_mem _ List.mem_cons_self), hxa⟩
              have hent9 : ∀ e ∈ es, KI e.k e.kv (blk tb [rv (some gt) 2 ct9] 80 :: .row (some gt) ct9 2 31 1 [.iface 82 (numV (m : Int) ga ca), .iface 86 (str [107])] :: dZ (m : Int) ga ca :: ds) ∧ VI e.v e.vv (blk tb [rv (some gt) 2 ct9] 80 :: .row (some gt) ct9 2 31 1 [.iface 82 (numV (m : Int) ga ca), .iface 86 (str [107])] :: dZ (m : Int) ga ca :: ds) := ent_more (ent_more (ent_more hent))
              refine LX.pure (Y.assign rfl) rfl rfl rfl ?_
              refine LX.sub (l' := [(0, _), (6, _), (7, _), (8, _), (9, _), (10, _), (11, _), (12, _), (14, _)]) ⟨rfl, rfl, rfl, rfl, rfl, rfl, rfl, rfl, rfl, trivial⟩ ?_
              refine LX.next ?_
              refine PX.thenN ?_
              refine CX.seq ?_
              refine CX.seq ?_
              refine CX.region ?_
              refine LX.pure (Y.move rfl) rfl rfl rfl ?_
              refine LX.pure (Y.move rfl) rfl rfl rfl ?_
              refine LX.pure (Y.idxT Dz.un22 Dz.sz29 rfl rfl (by omega) ha9) rfl rfl rfl ?_
              first
                | refine LX.pure (Y.fieldAddr0 Dz.fo29_0 rfl) rfl rfl rfl ?_
                | refine LX.pure (Y.fieldAddr Dz.fo29_0 rfl) rfl rfl rfl ?_
                | refine LX.pure (Y.fieldA Dz.fa29_0 rfl) rfl rfl rfl ?_
              refine LX.pure (Y.ldO Fo.one3 rfl hca hqa) rfl rfl rfl ?_
              refine LX.sub (l' := [(0, _), (6, _), (7, _), (8, _), (9, _), (10, _), (11, _), (12, _), (14, _), (81, _)]) ⟨rfl, rfl, rfl, rfl, rfl, rfl, rfl, rfl, rfl, rfl, trivial⟩ ?_
              refine LX.next ?_
              refine PX.thenN ?_
              refine CX.block ?_
              refine CX.seq ?_
              refine CX.region ?_
              first
                | refine LX.pure (Y.eqN rfl rfl) rfl rfl rfl ?_
                | refine LX.pure (Y.eqI rfl rfl) rfl rfl rfl ?_
              refine LX.pure (Y.assign rfl) rfl rfl rfl ?_
              refine LX.sub (l' := [(0, _), (6, _), (7, _), (8, _), (9, _), (10, _), (11, _), (12, _), (14, _), (81, _), (116, _)]) ⟨rfl, rfl, rfl, rfl, rfl, rfl, rfl, rfl, rfl, rfl, rfl, trivial⟩ ?_
              refine LX.next ?_
              refine PX.thenN ?_
              refine CX.cond rfl (fun hb21 => ?_) (fun hb21 => ?_)
              · try simp at hb21
                refine CX.seq ?_
                refine CX.seq ?_
                refine CX.region ?_
                refine LX.pure (Y.move rfl) rfl rfl rfl ?_
                refine LX.pure (Y.move rfl) rfl rfl rfl ?_
                refine LX.pure (Y.move rfl) rfl rfl rfl ?_
                refine LX.call (of_c (x := (q9.2.2.tmod 1000)) (by have := tm q9.2.2; omega)) Dz.en10 rfl rfl rfl rfl rfl ?_
                rintro ⟨gz, cz⟩
                refine LX.call (int_c _ gz cz) Dz.en9 rfl rfl rfl rfl rfl ?_
                intro _
                refine LX.world (W' := WA w0 base (.row gk kc (es.length) 3 1 (kI es) :: .row gv vc (es.length) 3 1 (vI es) :: DI d ge ce bm false es bs ck ((dZ (q9.2.2.tmod 1000) gz cz :: (blk tb [rv (some gt) 2 ct9] 80 :: .row (some gt) ct9 2 31 1 [.iface 82 (numV (m : Int) ga ca), .iface 86 (str [107])] :: dZ (m : Int) ga ca :: ds)) ++ fr))) (fun w hw => to_in (A := [_]) (M := [_, _, _, _, _] ++ es.map entI) (r := (blk tb [rv (some gt) 2 ct9] 80 :: .row (some gt) ct9 2 31 1 [.iface 82 (numV (m : Int) ga ca), .iface 86 (str [107])] :: dZ (m : Int) ga ca :: ds) ++ fr) hw) ?_
                refine LX.call (set_old2 (r := (dZ (q9.2.2.tmod 1000) gz cz :: (blk tb [rv (some gt) 2 ct9] 80 :: .row (some gt) ct9 2 31 1 [.iface 82 (numV (m : Int) ga ca), .iface 86 (str [107])] :: dZ (m : Int) ga ca :: ds)) ++ fr) (v := (q9.2.2.tmod 1000)) hS hD hmn (fun w hw => (hK9.mono (fun _ h => List.mem_cons_of_mem _ h)).kw hmn (fun it h => in_ds h) hw) hia hka) Dz.en12 rfl rfl rfl rfl rfl ?_
                intro _
                first
                  | refine LX.pure (Y.neNil Fo.un40 rfl rfl) rfl rfl rfl ?_
                  | refine LX.pure (Y.neNilNil Fo.un40 rfl) rfl rfl rfl ?_
                refine LX.sub (l' := [(0, _), (6, _), (7, _), (8, _), (9, _), (10, _), (11, _), (12, _), (124, _)]) ⟨rfl, rfl, rfl, rfl, rfl, rfl, rfl, rfl, rfl, trivial⟩ ?_
                refine LX.next ?_
                refine PX.thenN ?_
                refine CX.cond rfl (fun hb22 => ?_) (fun hb22 => ?_)
                · try simp at hb22
                  first | done | (exfalso; omega) | (exfalso; simp_all; done) | (exfalso; simp_all; omega)
                · try simp at hb22
                  refine CX.skip ?_
                  refine PX.thenN ?_
                  refine CX.seq ?_
                  refine CX.region ?_
                  refine LX.pure (Y.move rfl) rfl rfl rfl ?_
                  first
                    | refine LX.pure (Y.ltN rfl rfl) rfl rfl rfl ?_
                    | refine LX.pure (Y.ltI rfl rfl) rfl rfl rfl ?_
                  refine LX.sub (l' := [(0, _), (6, _), (7, _), (8, _), (9, _), (10, _), (11, _), (12, _), (126, _)]) ⟨rfl, rfl, rfl, rfl, rfl, rfl, rfl, rfl, rfl, trivial⟩ ?_
                  refine LX.next ?_
                  refine PX.thenN ?_
                  refine CX.cond rfl (fun hb23 => ?_) (fun hb23 => ?_)
                  · try simp at hb23
                    first | done | (exfalso; omega) | (exfalso; simp_all; done) | (exfalso; simp_all; omega)
                  · try simp at hb23
                    refine CX.region ?_
                    refine LX.pure (Y.move rfl) rfl rfl rfl ?_
                    refine LX.pure (Y.move rfl) rfl rfl rfl ?_
                    refine LX.pure (Y.move rfl) rfl rfl rfl ?_
                    refine LX.pure (Y.idxR1 1 Du.un26 Fo.sz3 rfl rfl rfl (by omega)) rfl rfl rfl ?_
                    first
                      | refine LX.storeR 1 (off := ia) Fo.sz3 rfl rfl rfl rfl rfl (by rw [vI_len]; omega) rfl rfl ?_
                    refine LX.world (W' := WA w0 base (.row gk kc (es.length) 3 1 (kI es) :: .row gv vc (es.length) 3 1 ((vI es).set ia (.int .i64 (q9.2.2.tmod 1000))) :: DI d ge ce bm false (es.set ia (⟨ek, (q9.2.2.tmod 1000), eeb, ekv, (.iface 82 (numV (q9.2.2.tmod 1000) gz cz))⟩ : En)) bs ck ((dZ (q9.2.2.tmod 1000) gz cz :: (blk tb [rv (some gt) 2 ct9] 80 :: .row (some gt) ct9 2 31 1 [.iface 82 (numV (m : Int) ga ca), .iface 86 (str [107])] :: dZ (m : Int) ga ca :: ds)) ++ fr))) (fun w hw => hw) ?_
                    refine LX.sub (l' := [(0, _), (6, _), (7, _), (8, _), (9, _)]) ⟨rfl, rfl, rfl, rfl, rfl, trivial⟩ ?_
                    refine LX.next ?_
                    refine PX.blockN ?_
                    refine PX.thenN ?_
                    refine CX.seq ?_
                    refine CX.region ?_
                    refine LX.pure (Y.move rfl) rfl rfl rfl ?_
                    refine LX.call (len2) Dz.en18 rfl rfl rfl rfl rfl ?_
                    intro _
                    refine LX.pure (Y.move rfl) rfl rfl rfl ?_
                    refine LX.pure (Y.lenSl rfl Du.un26 rfl) rfl rfl rfl ?_
                    first
                      | refine LX.pure (Y.neN rfl rfl) rfl rfl rfl ?_
                      | refine LX.pure (Y.neI rfl rfl) rfl rfl rfl ?_
                    refine LX.sub (l' := [(0, _), (6, _), (7, _), (8, _), (9, _), (180, _)]) ⟨rfl, rfl, rfl, rfl, rfl, rfl, trivial⟩ ?_
                    refine LX.next ?_
                    refine PX.thenN ?_
                    refine CX.cond rfl (fun hb24 => ?_) (fun hb24 => ?_)
                    · try simp at hb24
                      first | done | (exfalso; omega) | (exfalso; simp_all; done) | (exfalso; simp_all; omega)
                    · try simp at hb24
                      refine CX.skip ?_
                      refine PX.blockN ?_
                      refine PX.thenN ?_
                      refine CX.region ?_
                      refine LX.pure (Y.move rfl) rfl rfl rfl ?_
                      first
                        | refine LX.pure (Y.addN rfl rfl (by first | omega | (simp only []; omega) | (simp; done) | (simp; omega))) rfl rfl rfl ?_
                        | refine LX.pure (Y.add rfl rfl (by first | omega | (simp only []; omega) | (simp; done) | (simp; omega))) rfl rfl rfl ?_
                      refine LX.pure (Y.assign rfl) rfl rfl rfl ?_
                      refine LX.sub (l' := [(0, _), (6, _), (7, _), (8, _), (9, _)]) ⟨rfl, rfl, rfl, rfl, rfl, trivial⟩ ?_
                      refine LX.next ?_
                      exact PX.again (L := (fun s : MSt => [(0, .slice av l.length cn), (6, .pointer (some ⟨d, 0, none⟩)), (7, rv s.gk s.es.length s.kc), (8, rv s.gv s.es.length s.vc), (9, .int .i64 (s.i : Int))])) (WW := (fun (s : MSt) w => (s.i ≤ l.length ∧ MOk s) ∧ WA w0 base (.row s.gk s.kc (s.es.length) 3 1 (kI s.es) :: .row s.gv s.vc (s.es.length) 3 1 (vI s.es) :: DI d s.ge s.ce bm false s.es s.bs s.ck (s.ds ++ fr)) w)) (μ := fun s => l.length - s.i) (i := ⟨i, es, ge, ce, bs, ck, gk, kc, gv, vc, ds⟩) ⟨i + 1, (es.set ia (⟨ek, (q9.2.2.tmod 1000), eeb, ekv, (.iface 82 (numV (q9.2.2.tmod 1000) gz cz))⟩ : En)), ge, ce, bs, ck, gk, kc, gv, vc, (dZ (q9.2.2.tmod 1000) gz cz :: (blk tb [rv (some gt) 2 ct9] 80 :: .row (some gt) ct9 2 31 1 [.iface 82 (numV (m : Int) ga ca), .iface 86 (str [107])] :: dZ (m : Int) ga ca :: ds))⟩ (by show l.length - (i + 1) < l.length - i; omega) ⟨rfl, rfl, by dsimp only; rw [List.length_set]; rfl, by dsimp only; rw [List.length_set]; rfl, rfl, trivial⟩ (fun w hw => ⟨⟨by show i + 1 ≤ l.length; omega, ⟨hD.set hia, fun e he => (List.mem_or_eq_of_mem_set he).elim (ent_more hent9 e) (fun h => by rw [h]; exact ⟨(ent_more hent9 _ (List.mem_of_getElem? hia)).1, ⟨gz, cz, rfl, tm _, List.mem_cons_self⟩⟩)⟩⟩, by dsimp only; rw [kI_set hia, vI_set, List.length_set]; exact hw⟩)
              · try simp at hb21
                refine CX.seq ?_
                refine CX.region ?_
                first
                  | refine LX.pure (Y.eqN rfl rfl) rfl rfl rfl ?_
                  | refine LX.pure (Y.eqI rfl rfl) rfl rfl rfl ?_
                refine LX.pure (Y.assign rfl) rfl rfl rfl ?_
                refine LX.sub (l' := [(0, _), (6, _), (7, _), (8, _), (9, _), (12, _), (14, _), (139, _)]) ⟨rfl, rfl, rfl, rfl, rfl, rfl, rfl, rfl, trivial⟩ ?_
                refine LX.next ?_
                refine PX.thenN ?_
                refine CX.cond rfl (fun hb25 => ?_) (fun hb25 => ?_)
                · try simp at hb25
                  refine CX.seq ?_
                  refine CX.region ?_
                  refine LX.pure (Y.move rfl) rfl rfl rfl ?_
                  refine LX.pure (Y.move rfl) rfl rfl rfl ?_
                  refine LX.call (del_yes2 (r := (blk tb [rv (some gt) 2 ct9] 80 :: .row (some gt) ct9 2 31 1 [.iface 82 (numV (m : Int) ga ca), .iface 86 (str [107])] :: dZ (m : Int) ga ca :: ds) ++ fr) hS hD hmn (fun w hw => hK9.kw hmn (fun it h => in_ds h) hw) hia hka) Dz.en13 rfl rfl rfl rfl rfl ?_
                  rintro ⟨ge2, ce2⟩
                  refine LX.pure (Y.move rfl) rfl rfl rfl ?_
                  refine LX.pure (Y.extract rfl rfl) rfl rfl rfl ?_
                  refine LX.pure (Y.extract rfl rfl) rfl rfl rfl ?_
                  refine LX.pure (Y.extract rfl rfl) rfl rfl rfl ?_
                  refine LX.pure (Y.assign rfl) rfl rfl rfl ?_
                  refine LX.pure (Y.assign rfl) rfl rfl rfl ?_
                  refine LX.pure (Y.assign rfl) rfl rfl rfl ?_
                  refine LX.sub (l' := [(0, _), (6, _), (7, _), (8, _), (9, _), (12, _), (16, _), (17, _)]) ⟨rfl, rfl, rfl, rfl, rfl, rfl, rfl, rfl, trivial⟩ ?_
                  refine LX.next ?_
                  refine PX.thenN ?_
                  refine CX.seq ?_
                  refine CX.seq ?_
                  refine CX.region ?_
                  refine LX.pure (Y.move rfl) rfl rfl rfl ?_
                  first
                    | refine LX.pure (Y.neNil Fo.un40 rfl rfl) rfl rfl rfl ?_
                    | refine LX.pure (Y.neNilNil Fo.un40 rfl) rfl rfl rfl ?_
                  refine LX.pure (Y.move rfl) rfl rfl rfl ?_
                  refine LX.caseB (s := 150) rfl (fun hb26 => ?_) (fun hb26 => ?_)
                  ·
                    first | (exfalso; simp_all; done) | cases hb26
                  ·
                    have hb26p := hb26
                    try simp at hb26p
                    refine LX.gT rfl rfl rfl hb26 (Y.move rfl) rfl rfl ?_
                    refine LX.gT rfl rfl rfl hb26 (Y.move rfl) rfl rfl ?_
                    first
                      | refine LX.gT rfl rfl rfl hb26 (Y.geN rfl rfl) rfl rfl ?_
                      | refine LX.gT rfl rfl rfl hb26 (Y.geI rfl rfl) rfl rfl ?_
                    refine LX.gT rfl rfl rfl hb26 (Y.neB rfl rfl Fo.un4) rfl rfl ?_
                    refine LX.pure (Y.pickF rfl hb26 rfl) rfl rfl rfl ?_
                    refine LX.sub (l' := [(0, _), (6, _), (7, _), (8, _), (9, _), (12, _), (155, _)]) ⟨rfl, rfl, rfl, rfl, rfl, rfl, rfl, trivial⟩ ?_
                    refine LX.next ?_
                    refine PX.thenN ?_
                    refine CX.cond rfl (fun hb27 => ?_) (fun hb27 => ?_)
                    · try simp at hb27
                      first | done | (exfalso; omega) | (exfalso; simp_all; done) | (exfalso; simp_all; omega)
                    · try simp at hb27
                      refine CX.skip ?_
                      refine PX.thenN ?_
                      refine CX.seq ?_
                      refine CX.region ?_
                      refine LX.pure (Y.move rfl) rfl rfl rfl ?_
                      first
                        | refine LX.pure (Y.geN rfl rfl) rfl rfl rfl ?_
                        | refine LX.pure (Y.geI rfl rfl) rfl rfl rfl ?_
                      refine LX.sub (l' := [(0, _), (6, _), (7, _), (8, _), (9, _), (12, _), (157, _)]) ⟨rfl, rfl, rfl, rfl, rfl, rfl, rfl, trivial⟩ ?_
                      refine LX.next ?_
                      refine PX.thenN ?_
                      refine CX.cond rfl (fun hb28 => ?_) (fun hb28 => ?_)
                      · try simp at hb28
                        refine CX.seq ?_
                        refine CX.regionM [(0, .anywhere), (1, .anywhere), (2, .held), (4, .anywhere), (5, .anywhere), (6, .anywhere), (7, .held), (3, .alone), (8, .alone), (9, .anywhere)] rfl (by kernel_rfl) ?_
                        refine MX.lift0 (i := 0) rfl (Y.move rfl) rfl rfl rfl ?_
                        refine MX.lift0 (i := 1) rfl (Y.move rfl) rfl rfl rfl ?_
                        first
                          | refine MX.lift1 (i := 2) (pend' := []) rfl (fun w hw => by first | exact hw | exact hw.1 | exact hw.drop (List.sublist_cons_self _ _) | exact hw.drop ((List.sublist_cons_self _ _).cons _)) (Y.cutR 0 Du.un26 Fo.sz3 rfl rfl rfl (by first | omega | (simp only []; omega) | (simp; done) | (simp; omega))) rfl rfl rfl (by kernel_rfl) ?_
                          | refine MX.lift1 (i := 2) (pend' := []) rfl (fun w hw => by first | exact hw | exact hw.1 | exact hw.drop (List.sublist_cons_self _ _) | exact hw.drop ((List.sublist_cons_self _ _).cons _)) (Y.cutR 1 Du.un26 Fo.sz3 rfl rfl rfl (by first | omega | (simp only []; omega) | (simp; done) | (simp; omega))) rfl rfl rfl (by kernel_rfl) ?_
                          | refine MX.lift1 (i := 2) (pend' := []) rfl (fun w hw => by first | exact hw | exact hw.1 | exact hw.drop (List.sublist_cons_self _ _) | exact hw.drop ((List.sublist_cons_self _ _).cons _)) (Y.cutR 2 Du.un26 Fo.sz3 rfl rfl rfl (by first | omega | (simp only []; omega) | (simp; done) | (simp; omega))) rfl rfl rfl (by kernel_rfl) ?_
                          | refine MX.lift1 (i := 2) (pend' := []) rfl (fun w hw => by first | exact hw | exact hw.1 | exact hw.drop (List.sublist_cons_self _ _) | exact hw.drop ((List.sublist_cons_self _ _).cons _)) (Y.cutHi Du.un26 Fo.sz3 rfl rfl (by first | omega | (simp only []; omega) | (simp; done) | (simp; omega))) rfl rfl rfl (by kernel_rfl) ?_
                        refine MX.lift0 (i := 4) rfl (Y.move rfl) rfl rfl rfl ?_
                        refine MX.lift0 (i := 5) rfl (Y.move rfl) rfl rfl rfl ?_
                        refine MX.lift0 (i := 6) rfl (Y.addN (a := ia) (b := 1) rfl rfl (by omega)) rfl rfl rfl ?_
                        refine MX.lift1 (i := 7) (pend' := [2]) rfl (fun w hw => by first | exact hw | exact hw.1 | exact hw.drop (List.sublist_cons_self _ _) | exact hw.drop ((List.sublist_cons_self _ _).cons _)) (Y.cutLo Du.un26 Fo.sz3 rfl rfl (by first | omega | (simp only []; omega) | (simp; done) | (simp; omega))) rfl rfl rfl (by kernel_rfl) ?_
                        refine MX.force (i := 3) rfl ?_
                        refine LX.call (ints_w (kI_take es ia) (fun w hw => Go.Ss.Sl.take (sl_row (g := gk) (c := kc) (n := es.length) (e := 3) (xs := kI es) hw (by simp)) ia) (by rw [List.length_take, kI_len]; omega) (by omega)) Dz.en14 rfl rfl rfl rfl rfl ?_
                        rintro ⟨g24, c24⟩
                        refine LX.nextM [7] (by kernel_rfl) (fun _ => (fun w hw => by first | exact hw | exact hw.1 | exact hw.drop (List.sublist_cons_self _ _) | exact hw.drop ((List.sublist_cons_self _ _).cons _))) ?_
                        refine MX.force (i := 8) rfl ?_
                        have hsum : ia + (es.length - (ia + 1)) = es.length - 1 := by omega
                        refine LX.appendPart 0 1 (lo := ia + 1) Du.el26 rfl rfl rfl rfl rfl rfl rfl (by omega) (by omega) (kI_one es) (by omega) (by omega) rfl rfl rfl ?_
                        intro g24b c24b
                        rw [hsum]
                        refine LX.world (W' := WA w0 base (.row g24b c24b (es.length - 1) 3 1 ((kI es).eraseIdx ia) :: .row gv vc (es.length) 3 1 (vI es) :: DI d ge2 ce2 bm false (es.eraseIdx ia) (bs.eraseIdx ia) ck ((blk tb [rv (some gt) 2 ct9] 80 :: .row (some gt) ct9 2 31 1 [.iface 82 (numV (m : Int) ga ca), .iface 86 (str [107])] :: dZ (m : Int) ga ca :: ds) ++ fr))) (fun w hw => by
                          rw [← erase_parts (kI_len es) hil]
                          exact hw.drop (List.Sublist.cons_cons _ (List.Sublist.cons _ (List.Sublist.refl _)))) ?_
                        refine LX.nextM [] (by kernel_rfl) (fun h => absurd rfl h) ?_
                        refine MX.lift0 (i := 9) rfl (Y.assign rfl) rfl rfl rfl ?_
                        refine MX.sub (l' := [(0, _), (6, _), (7, _), (8, _), (9, _), (12, _)]) ⟨rfl, rfl, rfl, rfl, rfl, rfl, trivial⟩ ?_
                        refine MX.done ?_
                        refine PX.thenN ?_
                        refine CX.regionM [(0, .anywhere), (1, .anywhere), (2, .held), (4, .anywhere), (5, .anywhere), (6, .anywhere), (7, .held), (3, .alone), (8, .alone), (9, .anywhere)] rfl (by kernel_rfl) ?_
                        refine MX.lift0 (i := 0) rfl (Y.move rfl) rfl rfl rfl ?_
                        refine MX.lift0 (i := 1) rfl (Y.move rfl) rfl rfl rfl ?_
                        first
                          | refine MX.lift1 (i := 2) (pend' := []) rfl (fun w hw => by first | exact hw | exact hw.1 | exact hw.drop (List.sublist_cons_self _ _) | exact hw.drop ((List.sublist_cons_self _ _).cons _)) (Y.cutR 0 Du.un26 Fo.sz3 rfl rfl rfl (by first | omega | (simp only []; omega) | (simp; done) | (simp; omega))) rfl rfl rfl (by kernel_rfl) ?_
                          | refine MX.lift1 (i := 2) (pend' := []) rfl (fun w hw => by first | exact hw | exact hw.1 | exact hw.drop (List.sublist_cons_self _ _) | exact hw.drop ((List.sublist_cons_self _ _).cons _)) (Y.cutR 1 Du.un26 Fo.sz3 rfl rfl rfl (by first | omega | (simp only []; omega) | (simp; done) | (simp; omega))) rfl rfl rfl (by kernel_rfl) ?_
                          | refine MX.lift1 (i := 2) (pend' := []) rfl (fun w hw => by first | exact hw | exact hw.1 | exact hw.drop (List.sublist_cons_self _ _) | exact hw.drop ((List.sublist_cons_self _ _).cons _)) (Y.cutR 2 Du.un26 Fo.sz3 rfl rfl rfl (by first | omega | (simp only []; omega) | (simp; done) | (simp; omega))) rfl rfl rfl (by kernel_rfl) ?_
                          | refine MX.lift1 (i := 2) (pend' := []) rfl (fun w hw => by first | exact hw | exact hw.1 | exact hw.drop (List.sublist_cons_self _ _) | exact hw.drop ((List.sublist_cons_self _ _).cons _)) (Y.cutHi Du.un26 Fo.sz3 rfl rfl (by first | omega | (simp only []; omega) | (simp; done) | (simp; omega))) rfl rfl rfl (by kernel_rfl) ?_
                        refine MX.lift0 (i := 4) rfl (Y.move rfl) rfl rfl rfl ?_
                        refine MX.lift0 (i := 5) rfl (Y.move rfl) rfl rfl rfl ?_
                        refine MX.lift0 (i := 6) rfl (Y.addN (a := ia) (b := 1) rfl rfl (by omega)) rfl rfl rfl ?_
                        refine MX.lift1 (i := 7) (pend' := [2]) rfl (fun w hw => by first | exact hw | exact hw.1 | exact hw.drop (List.sublist_cons_self _ _) | exact hw.drop ((List.sublist_cons_self _ _).cons _)) (Y.cutLo Du.un26 Fo.sz3 rfl rfl (by first | omega | (simp only []; omega) | (simp; done) | (simp; omega))) rfl rfl rfl (by kernel_rfl) ?_
                        refine MX.force (i := 3) rfl ?_
                        refine LX.call (ints_w (vI_take es ia) (fun w hw => Go.Ss.Sl.take (sl_row (g := gv) (c := vc) (n := es.length) (e := 3) (xs := vI es) hw (by simp)) ia) (by rw [List.length_take, vI_len]; omega) (by omega)) Dz.en14 rfl rfl rfl rfl rfl ?_
                        rintro ⟨g25, c25⟩
                        refine LX.nextM [7] (by kernel_rfl) (fun _ => (fun w hw => by first | exact hw | exact hw.1 | exact hw.drop (List.sublist_cons_self _ _) | exact hw.drop ((List.sublist_cons_self _ _).cons _))) ?_
                        refine MX.force (i := 8) rfl ?_
                        have hsum : ia + (es.length - (ia + 1)) = es.length - 1 := by omega
                        refine LX.appendPart 0 2 (lo := ia + 1) Du.el26 rfl rfl rfl rfl rfl rfl rfl (by omega) (by omega) (vI_one es) (by omega) (by omega) rfl rfl rfl ?_
                        intro g25b c25b
                        rw [hsum]
                        refine LX.world (W' := WA w0 base (.row g24b c24b (es.length - 1) 3 1 ((kI es).eraseIdx ia) :: .row g25b c25b (es.length - 1) 3 1 ((vI es).eraseIdx ia) :: DI d ge2 ce2 bm false (es.eraseIdx ia) (bs.eraseIdx ia) ck ((blk tb [rv (some gt) 2 ct9] 80 :: .row (some gt) ct9 2 31 1 [.iface 82 (numV (m : Int) ga ca), .iface 86 (str [107])] :: dZ (m : Int) ga ca :: ds) ++ fr))) (fun w hw => by
                          rw [← erase_parts (vI_len es) hil]
                          exact (hw.drop (List.Sublist.cons_cons _ (List.Sublist.cons_cons _ (List.Sublist.cons _ (List.Sublist.refl _))))).perm (.swap _ _ _)) ?_
                        refine LX.nextM [] (by kernel_rfl) (fun h => absurd rfl h) ?_
                        refine MX.lift0 (i := 9) rfl (Y.assign rfl) rfl rfl rfl ?_
                        refine MX.sub (l' := [(0, _), (6, _), (7, _), (8, _), (9, _)]) ⟨rfl, rfl, rfl, rfl, rfl, trivial⟩ ?_
                        refine MX.done ?_
                        refine PX.blockN ?_
                        refine PX.thenN ?_
                        refine CX.seq ?_
                        refine CX.region ?_
                        refine LX.pure (Y.move rfl) rfl rfl rfl ?_
                        refine LX.call (len2) Dz.en18 rfl rfl rfl rfl rfl ?_
                        intro _
                        refine LX.pure (Y.move rfl) rfl rfl rfl ?_
                        refine LX.pure (Y.lenSl rfl Du.un26 rfl) rfl rfl rfl ?_
                        first
                          | refine LX.pure (Y.neN rfl rfl) rfl rfl rfl ?_
                          | refine LX.pure (Y.neI rfl rfl) rfl rfl rfl ?_
                        refine LX.sub (l' := [(0, _), (6, _), (7, _), (8, _), (9, _), (180, _)]) ⟨rfl, rfl, rfl, rfl, rfl, rfl, trivial⟩ ?_
                        refine LX.next ?_
                        refine PX.thenN ?_
                        refine CX.cond rfl (fun hb29 => ?_) (fun hb29 => ?_)
                        · try simp at hb29
                          first | done | (exfalso; omega) | (exfalso; simp_all; done) | (exfalso; simp_all; omega)
                        · try simp at hb29
                          refine CX.skip ?_
                          refine PX.blockN ?_
                          refine PX.thenN ?_
                          refine CX.region ?_
                          refine LX.pure (Y.move rfl) rfl rfl rfl ?_
                          first
                            | refine LX.pure (Y.addN rfl rfl (by first | omega | (simp only []; omega) | (simp; done) | (simp; omega))) rfl rfl rfl ?_
                            | refine LX.pure (Y.add rfl rfl (by first | omega | (simp only []; omega) | (simp; done) | (simp; omega))) rfl rfl rfl ?_
                          refine LX.pure (Y.assign rfl) rfl rfl rfl ?_
                          refine LX.sub (l' := [(0, _), (6, _), (7, _), (8, _), (9, _)]) ⟨rfl, rfl, rfl, rfl, rfl, trivial⟩ ?_
                          refine LX.next ?_
                          exact PX.again (L := (fun s : MSt => [(0, .slice av l.length cn), (6, .pointer (some ⟨d, 0, none⟩)), (7, rv s.gk s.es.length s.kc), (8, rv s.gv s.es.length s.vc), (9, .int .i64 (s.i : Int))])) (WW := (fun (s : MSt) w => (s.i ≤ l.length ∧ MOk s) ∧ WA w0 base (.row s.gk s.kc (s.es.length) 3 1 (kI s.es) :: .row s.gv s.vc (s.es.length) 3 1 (vI s.es) :: DI d s.ge s.ce bm false s.es s.bs s.ck (s.ds ++ fr)) w)) (μ := fun s => l.length - s.i) (i := ⟨i, es, ge, ce, bs, ck, gk, kc, gv, vc, ds⟩) ⟨i + 1, (es.eraseIdx ia), ge2, ce2, bs.eraseIdx ia, ck, g24b, c24b, g25b, c25b, (blk tb [rv (some gt) 2 ct9] 80 :: .row (some gt) ct9 2 31 1 [.iface 82 (numV (m : Int) ga ca), .iface 86 (str [107])] :: dZ (m : Int) ga ca :: ds)⟩ (by show l.length - (i + 1) < l.length - i; omega) ⟨rfl, rfl, by dsimp only; rw [List.length_eraseIdx_of_lt hil]; rfl, by dsimp only; rw [List.length_eraseIdx_of_lt hil]; rfl, rfl, trivial⟩ (fun w hw => ⟨⟨by show i + 1 ≤ l.length; omega, ⟨hD.del hil, fun e he => hent9 e ((List.eraseIdx_sublist _ _).subset he)⟩⟩, by dsimp only; rw [kI_del, vI_del, List.length_eraseIdx_of_lt hil]; exact hw⟩)
                      · try simp at hb28
                        first | done | (exfalso; omega) | (exfalso; simp_all; done) | (exfalso; simp_all; omega)
                · try simp at hb25
                  refine CX.seq ?_
                  refine CX.region ?_
                  refine LX.pure (Y.move rfl) rfl rfl rfl ?_
                  refine LX.pure (Y.move rfl) rfl rfl rfl ?_
                  refine LX.call (get_yes2 (r := (blk tb [rv (some gt) 2 ct9] 80 :: .row (some gt) ct9 2 31 1 [.iface 82 (numV (m : Int) ga ca), .iface 86 (str [107])] :: dZ (m : Int) ga ca :: ds) ++ fr) hS hD hmn (fun w hw => hK9.kw hmn (fun it h => in_ds h) hw) hia hka) Dz.en15 rfl rfl rfl rfl rfl ?_
                  intro _
                  refine LX.pure (Y.move rfl) rfl rfl rfl ?_
                  refine LX.pure (Y.extract rfl rfl) rfl rfl rfl ?_
                  refine LX.pure (Y.extract rfl rfl) rfl rfl rfl ?_
                  refine LX.pure (Y.extract rfl rfl) rfl rfl rfl ?_
                  refine LX.pure (Y.assign rfl) rfl rfl rfl ?_
                  refine LX.pure (Y.assign rfl) rfl rfl rfl ?_
                  refine LX.pure (Y.assign rfl) rfl rfl rfl ?_
                  refine LX.sub (l' := [(0, _), (6, _), (7, _), (8, _), (9, _), (12, _), (18, _), (19, _), (20, _)]) ⟨rfl, rfl, rfl, rfl, rfl, rfl, rfl, rfl, rfl, trivial⟩ ?_
                  refine LX.next ?_
                  refine PX.thenN ?_
                  refine CX.seq ?_
                  refine CX.seq ?_
                  refine CX.region ?_
                  refine LX.pure (Y.move rfl) rfl rfl rfl ?_
                  first
                    | refine LX.pure (Y.neNil Fo.un40 rfl rfl) rfl rfl rfl ?_
                    | refine LX.pure (Y.neNilNil Fo.un40 rfl) rfl rfl rfl ?_
                  refine LX.pure (Y.move rfl) rfl rfl rfl ?_
                  refine LX.caseB (s := 91) rfl (fun hb30 => ?_) (fun hb30 => ?_)
                  ·
                    first | (exfalso; simp_all; done) | cases hb30
                  ·
                    have hb30p := hb30
                    try simp at hb30p
                    refine LX.gT rfl rfl rfl hb30 (Y.move rfl) rfl rfl ?_
                    refine LX.gT rfl rfl rfl hb30 (Y.move rfl) rfl rfl ?_
                    first
                      | refine LX.gT rfl rfl rfl hb30 (Y.geN rfl rfl) rfl rfl ?_
                      | refine LX.gT rfl rfl rfl hb30 (Y.geI rfl rfl) rfl rfl ?_
                    refine LX.gT rfl rfl rfl hb30 (Y.neB rfl rfl Fo.un4) rfl rfl ?_
                    refine LX.pure (Y.pickF rfl hb30 rfl) rfl rfl rfl ?_
                    refine LX.sub (l' := [(0, _), (6, _), (7, _), (8, _), (9, _), (12, _), (18, _), (19, _), (96, _)]) ⟨rfl, rfl, rfl, rfl, rfl, rfl, rfl, rfl, rfl, trivial⟩ ?_
                    refine LX.next ?_
                    refine PX.thenN ?_
                    refine CX.cond rfl (fun hb31 => ?_) (fun hb31 => ?_)
                    · try simp at hb31
                      first | done | (exfalso; omega) | (exfalso; simp_all; done) | (exfalso; simp_all; omega)
                    · try simp at hb31
                      refine CX.skip ?_
                      refine PX.thenN ?_
                      refine CX.seq ?_
                      refine CX.region ?_
                      refine LX.pure (Y.move rfl) rfl rfl rfl ?_
                      refine LX.sub (l' := [(0, _), (6, _), (7, _), (8, _), (9, _), (12, _), (18, _), (97, _)]) ⟨rfl, rfl, rfl, rfl, rfl, rfl, rfl, rfl, trivial⟩ ?_
                      refine LX.next ?_
                      refine PX.thenN ?_
                      refine CX.cond rfl (fun hb32 => ?_) (fun hb32 => ?_)
                      · try simp at hb32
                        refine CX.seq ?_
                        refine CX.region ?_
                        refine LX.pure (Y.move rfl) rfl rfl rfl ?_
                        refine LX.call (AsInt_c) Dz.en16 rfl rfl rfl rfl rfl ?_
                        intro _
                        refine LX.pure (Y.move rfl) rfl rfl rfl ?_
                        refine LX.pure (Y.extract rfl rfl) rfl rfl rfl ?_
                        refine LX.pure (Y.extract rfl rfl) rfl rfl rfl ?_
                        refine LX.alloc rfl Fo.zv36 rfl rfl rfl ?_
                        intro bx268
                        first
                          | refine LX.storeA 0 Fo.ag36 rfl rfl rfl rfl rfl rfl rfl rfl rfl ?_
                          | refine LX.storeA 1 Fo.ag36 rfl rfl rfl rfl rfl rfl rfl rfl rfl ?_
                          | refine LX.storeA 2 Fo.ag36 rfl rfl rfl rfl rfl rfl rfl rfl rfl ?_
                        refine LX.pure (Y.assign rfl) rfl rfl rfl ?_
                        refine LX.sub (l' := [(0, _), (6, _), (7, _), (8, _), (9, _), (12, _), (21, _), (22, _)]) ⟨rfl, rfl, rfl, rfl, rfl, rfl, rfl, rfl, trivial⟩ ?_
                        refine LX.next ?_
                        refine PX.thenN ?_
                        refine CX.seq ?_
                        refine CX.regionM [(0, .anywhere), (1, .anywhere), (2, .anywhere), (3, .held), (5, .anywhere), (6, .anywhere), (7, .held), (8, .held), (4, .alone), (9, .alone), (10, .alone), (11, .alone), (12, .anywhere)] rfl (by kernel_rfl) ?_
                        refine MX.lift0 (i := 0) rfl (Y.move rfl) rfl rfl rfl ?_
                        refine MX.lift0 (i := 1) rfl (Y.not rfl) rfl rfl rfl ?_
                        refine MX.lift0 (i := 2) rfl (Y.move rfl) rfl rfl rfl ?_
                        refine MX.caseB (s := 105) rfl (fun hb33 => ?_) (fun hb33 => ?_)
                        ·
                          have hb33p := hb33
                          try simp at hb33p
                        ·
                          have hb33p := hb33
                          try simp at hb33p
                          first
                            | refine MX.gT1 (i := 3) (pend' := []) rfl (fun w hw => by first | exact hw | exact hw.1 | exact hw.drop (List.sublist_cons_self _ _) | exact hw.drop ((List.sublist_cons_self _ _).cons _)) rfl rfl rfl hb33 (Y.ldAggB (vs := [.bool (decide (ev < 0)), rv gw (digs ev.natAbs).length cw]) 0 Fo.ag36 rfl rfl rfl rfl) rfl rfl (by kernel_rfl) ?_
                            | refine MX.gT1 (i := 3) (pend' := []) rfl (fun w hw => by first | exact hw | exact hw.1 | exact hw.drop (List.sublist_cons_self _ _) | exact hw.drop ((List.sublist_cons_self _ _).cons _)) rfl rfl rfl hb33 (Y.ldAggB (vs := [.bool (decide (ev < 0)), rv gw (digs ev.natAbs).length cw]) 1 Fo.ag36 rfl rfl rfl rfl) rfl rfl (by kernel_rfl) ?_
                          refine MX.gT0 (i := 5) rfl rfl rfl rfl hb33 (Y.move rfl) rfl rfl ?_
                          refine MX.gT0 (i := 6) rfl rfl rfl rfl hb33 (Y.move rfl) rfl rfl ?_
                          refine MX.gT1 (i := 7) (pend' := [3]) rfl (fun w hw => by first | exact hw | exact hw.1 | exact hw.drop (List.sublist_cons_self _ _) | exact hw.drop ((List.sublist_cons_self _ _).cons _)) rfl rfl rfl hb33 (Y.idxR1 2 Du.un26 Fo.sz3 rfl rfl rfl (by omega)) rfl rfl (by kernel_rfl) ?_
                          refine MX.gT1 (i := 8) (pend' := [3]) rfl (fun w hw => by first | exact hw | exact hw.1 | exact hw.drop (List.sublist_cons_self _ _) | exact hw.drop ((List.sublist_cons_self _ _).cons _)) rfl rfl rfl hb33 (Y.ldR 2 (v := .int .i64 ev) Fo.one3 rfl rfl (vI_at hia)) rfl rfl (by kernel_rfl) ?_
                          refine MX.force (i := 4) rfl ?_
                          refine LX.callQT rfl rfl rfl hb33 (textZ_q (z := ev) hw9 (fun w hw => dZ_num hw (List.mem_cons_of_mem _ (in_ds (List.mem_cons_of_mem _ (List.mem_cons_of_mem _ (List.mem_cons_of_mem _ hw8))))) hw9)) Dz.en17 rfl rfl rfl rfl ?_
                          refine LX.nextM [8] (by kernel_rfl) (fun _ => (fun w hw => by first | exact hw | exact hw.1 | exact hw.drop (List.sublist_cons_self _ _) | exact hw.drop ((List.sublist_cons_self _ _).cons _))) ?_
                          refine MX.force (i := 9) rfl ?_
                          refine LX.callT rfl rfl rfl hb33 (of_c (x := ev) (by omega)) Dz.en10 rfl rfl rfl rfl ?_
                          rintro ⟨gy, cy⟩
                          refine LX.nextM [] (by kernel_rfl) (fun h => absurd rfl h) ?_
                          refine MX.force (i := 10) rfl ?_
                          refine LX.callQT rfl rfl rfl hb33 (textZ_q (z := ev) hw9 (fun w hw => dZ_num hw List.mem_cons_self hw9)) Dz.en17 rfl rfl rfl rfl ?_
                          refine LX.nextM [] (by kernel_rfl) (fun h => absurd rfl h) ?_
                          refine MX.force (i := 11) rfl ?_
                          refine LX.gT rfl rfl rfl hb33 (Y.neS rfl rfl) rfl rfl ?_
                          refine LX.nextM [] (by kernel_rfl) (fun h => absurd rfl h) ?_
                          refine MX.lift0 (i := 12) rfl (Y.pickF rfl hb33 rfl) rfl rfl rfl ?_
                          refine MX.sub (l' := [(0, _), (6, _), (7, _), (8, _), (9, _), (115, _)]) ⟨rfl, rfl, rfl, rfl, rfl, rfl, trivial⟩ ?_
                          refine MX.done ?_
                          refine PX.thenN ?_
                          refine CX.cond rfl (fun hb34 => ?_) (fun hb34 => ?_)
                          · try simp at hb34
                            first | done | (exfalso; omega) | (exfalso; simp_all; done) | (exfalso; simp_all; omega)
                          · try simp at hb34
                            refine CX.skip ?_
                            refine PX.blockN ?_
                            refine PX.thenN ?_
                            refine CX.seq ?_
                            refine CX.region ?_
                            refine LX.pure (Y.move rfl) rfl rfl rfl ?_
                            refine LX.world (W' := WA w0 base (.row gk kc (es.length) 3 1 (kI es) :: .row gv vc (es.length) 3 1 (vI es) :: DI d ge ce bm false es bs ck ((blk tb [rv (some gt) 2 ct9] 80 :: .row (some gt) ct9 2 31 1 [.iface 82 (numV (m : Int) ga ca), .iface 86 (str [107])] :: dZ (m : Int) ga ca :: ds) ++ fr))) (fun w hw => hw.drop ((List.sublist_cons_self _ _).cons _)) ?_
                            refine LX.call len2 Dz.en18 rfl rfl rfl rfl rfl ?_
                            intro _
                            refine LX.pure (Y.move rfl) rfl rfl rfl ?_
                            refine LX.pure (Y.lenSl rfl Du.un26 rfl) rfl rfl rfl ?_
                            first
                              | refine LX.pure (Y.neN rfl rfl) rfl rfl rfl ?_
                              | refine LX.pure (Y.neI rfl rfl) rfl rfl rfl ?_
                            refine LX.sub (l' := [(0, _), (6, _), (7, _), (8, _), (9, _), (180, _)]) ⟨rfl, rfl, rfl, rfl, rfl, rfl, trivial⟩ ?_
                            refine LX.next ?_
                            refine PX.thenN ?_
                            refine CX.cond rfl (fun hb35 => ?_) (fun hb35 => ?_)
                            · try simp at hb35
                              first | done | (exfalso; omega) | (exfalso; simp_all; done) | (exfalso; simp_all; omega)
                            · try simp at hb35
                              refine CX.skip ?_
                              refine PX.blockN ?_
                              refine PX.thenN ?_
                              refine CX.region ?_
                              refine LX.pure (Y.move rfl) rfl rfl rfl ?_
                              first
                                | refine LX.pure (Y.addN rfl rfl (by first | omega | (simp only []; omega) | (simp; done) | (simp; omega))) rfl rfl rfl ?_
                                | refine LX.pure (Y.add rfl rfl (by first | omega | (simp only []; omega) | (simp; done) | (simp; omega))) rfl rfl rfl ?_
                              refine LX.pure (Y.assign rfl) rfl rfl rfl ?_
                              refine LX.sub (l' := [(0, _), (6, _), (7, _), (8, _), (9, _)]) ⟨rfl, rfl, rfl, rfl, rfl, trivial⟩ ?_
                              refine LX.next ?_
                              exact PX.again (L := (fun s : MSt => [(0, .slice av l.length cn), (6, .pointer (some ⟨d, 0, none⟩)), (7, rv s.gk s.es.length s.kc), (8, rv s.gv s.es.length s.vc), (9, .int .i64 (s.i : Int))])) (WW := (fun (s : MSt) w => (s.i ≤ l.length ∧ MOk s) ∧ WA w0 base (.row s.gk s.kc (s.es.length) 3 1 (kI s.es) :: .row s.gv s.vc (s.es.length) 3 1 (vI s.es) :: DI d s.ge s.ce bm false s.es s.bs s.ck (s.ds ++ fr)) w)) (μ := fun s => l.length - s.i) (i := ⟨i, es, ge, ce, bs, ck, gk, kc, gv, vc, ds⟩) ⟨i + 1, es, ge, ce, bs, ck, gk, kc, gv, vc, (blk tb [rv (some gt) 2 ct9] 80 :: .row (some gt) ct9 2 31 1 [.iface 82 (numV (m : Int) ga ca), .iface 86 (str [107])] :: dZ (m : Int) ga ca :: ds)⟩ (by show l.length - (i + 1) < l.length - i; omega) ⟨rfl, rfl, rfl, rfl, rfl, trivial⟩ (fun w hw => ⟨⟨by show i + 1 ≤ l.length; omega, ⟨hD, hent9⟩⟩, hw⟩)
                      · try simp at hb32
                        first | done | (exfalso; omega) | (exfalso; simp_all; done) | (exfalso; simp_all; omega)
        · try simp at hb5
          have hie : i = l.length := by omega
          refine CX.exit ?_
          refine PX.thenE ?_
          refine PX.thenE ?_
          refine PX.blockE ?_
          refine PX.thenN ?_
          refine CX.seq ?_
          refine CX.region ?_
          refine LX.pure (Y.move rfl) rfl rfl rfl ?_
          refine LX.pure (Y.mkI Dz.ni24 rfl) rfl rfl rfl ?_
          refine LX.call (items2 hD hent) Dz.en19 rfl rfl rfl rfl rfl ?_
          rintro ⟨gi, ci⟩
          refine LX.pure (Y.move rfl) rfl rfl rfl ?_
          refine LX.pure (Y.extract rfl rfl) rfl rfl rfl ?_
          refine LX.pure (Y.extract rfl rfl) rfl rfl rfl ?_
          refine LX.pure (Y.assign rfl) rfl rfl rfl ?_
          refine LX.pure (Y.assign rfl) rfl rfl rfl ?_
          refine LX.sub (l' := [(6, _), (7, _), (23, _), (24, _)]) ⟨rfl, rfl, rfl, rfl, trivial⟩ ?_
          refine LX.next ?_
          refine PX.thenN ?_
          refine CX.seq ?_
          refine CX.seq ?_
          refine CX.region ?_
          refine LX.pure (Y.move rfl) rfl rfl rfl ?_
          refine LX.pure (Y.not rfl) rfl rfl rfl ?_
          refine LX.pure (Y.move rfl) rfl rfl rfl ?_
          refine LX.caseB (s := 189) rfl (fun hb36 => ?_) (fun hb36 => ?_)
          ·
            first | (exfalso; simp_all; done) | cases hb36
          ·
            have hb36p := hb36
            try simp at hb36p
            refine LX.gT rfl rfl rfl hb36 (Y.move rfl) rfl rfl ?_
            refine LX.gT rfl rfl rfl hb36 (Y.lenSl rfl Du.un49 rfl) rfl rfl ?_
            refine LX.gT rfl rfl rfl hb36 (Y.move rfl) rfl rfl ?_
            refine LX.gT rfl rfl rfl hb36 (Y.lenSl rfl Du.un26 rfl) rfl rfl ?_
            first
              | refine LX.gT rfl rfl rfl hb36 (Y.neN rfl rfl) rfl rfl ?_
              | refine LX.gT rfl rfl rfl hb36 (Y.neI rfl rfl) rfl rfl ?_
            refine LX.pure (Y.pickF rfl hb36 rfl) rfl rfl rfl ?_
            refine LX.sub (l' := [(6, _), (7, _), (23, _), (195, _)]) ⟨rfl, rfl, rfl, rfl, trivial⟩ ?_
            refine LX.next ?_
            refine PX.thenN ?_
            refine CX.cond rfl (fun hb37 => ?_) (fun hb37 => ?_)
            · try simp at hb37
              first | done | (exfalso; omega) | (exfalso; simp_all; done) | (exfalso; simp_all; omega)
            · try simp at hb37
              refine CX.skip ?_
              refine PX.thenN ?_
              refine CX.seq ?_
              refine CX.seq ?_
              refine CX.region ?_
              refine LX.pure (Y.assign rfl) rfl rfl rfl ?_
              refine LX.sub (l' := [(6, _), (7, _), (23, _), (25, _)]) ⟨rfl, rfl, rfl, rfl, trivial⟩ ?_
              refine LX.next ?_
              refine PX.thenN ?_
              refine CX.block ?_
              refine CX.loop (fun j : Nat => [(6, .pointer (some ⟨d, 0, none⟩)), (7, rv gk es.length kc), (23, rv gi es.length ci), (25, .int .i64 (j : Int))]) (fun (j : Nat) w => j ≤ es.length ∧ WA w0 base (.row gi ci (es.length) 31 1 (es.map fun e => e.kv) :: .row gk kc (es.length) 3 1 (kI es) :: .row gv vc (es.length) 3 1 (vI es) :: DI d ge ce bm false es bs ck (ds ++ fr)) w) (fun j => es.length - j) 0 ⟨rfl, rfl, rfl, rfl, trivial⟩ (fun w hw => ⟨Nat.zero_le _, hw⟩) ?_
              intro j
              refine CX.have fun hj0 => ?_
              try dsimp only at hj0 ⊢
              refine CX.seq ?_
              refine CX.seq ?_
              refine CX.region ?_
              refine LX.pure (Y.move rfl) rfl rfl rfl ?_
              refine LX.pure (Y.move rfl) rfl rfl rfl ?_
              refine LX.pure (Y.lenSl rfl Du.un26 rfl) rfl rfl rfl ?_
              first
                | refine LX.pure (Y.ltN rfl rfl) rfl rfl rfl ?_
                | refine LX.pure (Y.ltI rfl rfl) rfl rfl rfl ?_
              refine LX.sub (l' := [(6, _), (7, _), (23, _), (25, _), (199, _)]) ⟨rfl, rfl, rfl, rfl, rfl, trivial⟩ ?_
              refine LX.next ?_
              refine PX.thenN ?_
              refine CX.cond rfl (fun hb38 => ?_) (fun hb38 => ?_)
              · try simp at hb38
                obtain ⟨e7, he7⟩ : ∃ e, es[j]? = some e := ⟨_, List.getElem?_eq_getElem (by omega)⟩
                have hm7 := List.mem_of_getElem? he7
                have hkv7 : (es.map fun e => e.kv)[j]? = some e7.kv := by rw [List.getElem?_map, he7]; rfl
                have hdl := dec_len e7.k
                refine CX.skip ?_
                refine PX.thenN ?_
                refine CX.seq ?_
                refine CX.block ?_
                refine CX.seq ?_
                refine CX.regionM [(0, .anywhere), (1, .anywhere), (2, .held), (3, .held), (5, .anywhere), (6, .anywhere), (7, .held), (8, .held), (4, .alone), (9, .alone), (10, .alone), (11, .anywhere), (12, .anywhere), (13, .anywhere)] rfl (by kernel_rfl) ?_
                refine MX.lift0 (i := 0) rfl (Y.move rfl) rfl rfl rfl ?_
                refine MX.lift0 (i := 1) rfl (Y.move rfl) rfl rfl rfl ?_
                refine MX.lift1 (i := 2) (pend' := []) rfl (fun w hw => by first | exact hw | exact hw.1 | exact hw.drop (List.sublist_cons_self _ _) | exact hw.drop ((List.sublist_cons_self _ _).cons _)) (Y.idxR1 0 Du.un49 Dq.sz31 rfl rfl rfl (by omega)) rfl rfl rfl (by kernel_rfl) ?_
                refine MX.lift1 (i := 3) (pend' := []) rfl (fun w hw => by first | exact hw | exact hw.1 | exact hw.drop (List.sublist_cons_self _ _) | exact hw.drop ((List.sublist_cons_self _ _).cons _)) (Y.ldR 0 (v := e7.kv) Dq.one31 rfl rfl hkv7) rfl rfl rfl (by kernel_rfl) ?_
                refine MX.lift0 (i := 5) rfl (Y.move rfl) rfl rfl rfl ?_
                refine MX.lift0 (i := 6) rfl (Y.move rfl) rfl rfl rfl ?_
                refine MX.lift1 (i := 7) (pend' := [3]) rfl (fun w hw => by first | exact hw | exact hw.1 | exact hw.drop (List.sublist_cons_self _ _) | exact hw.drop ((List.sublist_cons_self _ _).cons _)) (Y.idxR1 1 Du.un26 Fo.sz3 rfl rfl rfl (by omega)) rfl rfl rfl (by kernel_rfl) ?_
                refine MX.lift1 (i := 8) (pend' := [3]) rfl (fun w hw => by first | exact hw | exact hw.1 | exact hw.drop (List.sublist_cons_self _ _) | exact hw.drop ((List.sublist_cons_self _ _).cons _)) (Y.ldR 1 (v := .int .i64 (e7.k : Int)) Fo.one3 rfl rfl (kI_at he7)) rfl rfl rfl (by kernel_rfl) ?_
                refine MX.force (i := 4) rfl ?_
                refine LX.callQ (reprK_q (fun w hw => push hS hw) (hD.lt e7 hm7) (fun w hw => (hent e7 hm7).1.kw (hD.lt e7 hm7) (fun it h => List.mem_cons_of_mem _ (in_ds h)) hw)) Dz.en20 rfl rfl rfl rfl rfl ?_
                refine LX.nextM [8] (by kernel_rfl) (fun _ => (fun w hw => by first | exact hw | exact hw.1 | exact hw.drop (List.sublist_cons_self _ _) | exact hw.drop ((List.sublist_cons_self _ _).cons _))) ?_
                refine MX.force (i := 9) rfl ?_
                refine LX.call (of_n hS (i := e7.k) (hD.lt e7 hm7)) Dz.en10 rfl rfl rfl rfl rfl ?_
                rintro ⟨g35, c35⟩
                refine LX.have fun hx7 => ?_
                try dsimp only at hx7 ⊢
                refine LX.nextM [] (by kernel_rfl) (fun h => absurd rfl h) ?_
                refine MX.force (i := 10) rfl ?_
                refine LX.callQ (text_q (fun w hw => push hS hw) (i := e7.k) (hD.lt e7 hm7) (fun w hw => dZ_num hw List.mem_cons_self (by have := hD.lt e7 hm7; omega)) hx7) Dz.en17 rfl rfl rfl rfl rfl ?_
                refine LX.nextM [] (by kernel_rfl) (fun h => absurd rfl h) ?_
                first
                  | refine MX.lift0 (i := 11) rfl (Y.addS rfl rfl (by simp only [List.length_append, List.length_cons, List.length_nil]; omega)) rfl rfl rfl ?_
                  | refine MX.lift0 (i := 11) rfl (Y.addS rfl rfl (by first | omega | (simp only []; omega) | (simp; done) | (simp; omega))) rfl rfl rfl ?_
                first
                  | refine MX.lift0 (i := 12) rfl (Y.addS rfl rfl (by simp only [List.length_append, List.length_cons, List.length_nil]; omega)) rfl rfl rfl ?_
                  | refine MX.lift0 (i := 12) rfl (Y.addS rfl rfl (by first | omega | (simp only []; omega) | (simp; done) | (simp; omega))) rfl rfl rfl ?_
                refine MX.lift0 (i := 13) rfl (Y.neS rfl rfl) rfl rfl rfl ?_
                refine MX.sub (l' := [(6, _), (7, _), (23, _), (25, _), (215, _)]) ⟨rfl, rfl, rfl, rfl, rfl, trivial⟩ ?_
                refine MX.done ?_
                refine PX.thenN ?_
                refine CX.cond rfl (fun hb39 => ?_) (fun hb39 => ?_)
                · try simp at hb39
                  first | done | (exfalso; simp_all [reprT]; done)
                · try simp at hb39
                  refine CX.skip ?_
                  refine PX.blockN ?_
                  refine PX.thenN ?_
                  refine CX.region ?_
                  refine LX.pure (Y.move rfl) rfl rfl rfl ?_
                  first
                    | refine LX.pure (Y.addN rfl rfl (by first | omega | (simp only []; omega) | (simp; done) | (simp; omega))) rfl rfl rfl ?_
                    | refine LX.pure (Y.add rfl rfl (by first | omega | (simp only []; omega) | (simp; done) | (simp; omega))) rfl rfl rfl ?_
                  refine LX.pure (Y.assign rfl) rfl rfl rfl ?_
                  refine LX.sub (l' := [(6, _), (7, _), (23, _), (25, _)]) ⟨rfl, rfl, rfl, rfl, trivial⟩ ?_
                  refine LX.next ?_
                  exact PX.again (L := (fun j : Nat => [(6, .pointer (some ⟨d, 0, none⟩)), (7, rv gk es.length kc), (23, rv gi es.length ci), (25, .int .i64 (j : Int))])) (WW := (fun (j : Nat) w => j ≤ es.length ∧ WA w0 base (.row gi ci (es.length) 31 1 (es.map fun e => e.kv) :: .row gk kc (es.length) 3 1 (kI es) :: .row gv vc (es.length) 3 1 (vI es) :: DI d ge ce bm false es bs ck (ds ++ fr)) w)) (μ := fun j => es.length - j) (i := j) (j + 1) (by show es.length - (j + 1) < es.length - j; omega) ⟨rfl, rfl, rfl, rfl, trivial⟩ (fun w hw => ⟨by show j + 1 ≤ es.length; omega, hw.drop (List.sublist_cons_self _ _)⟩)
              · try simp at hb38
                have hje : j = es.length := by omega
                refine CX.exit ?_
                refine PX.thenE ?_
                refine PX.thenE ?_
                refine PX.blockE ?_
                refine PX.thenN ?_
                refine CX.seq ?_
                refine CX.region ?_
                refine LX.pure (Y.move rfl) rfl rfl rfl ?_
                refine LX.pure (Y.mkI Dz.ni24 rfl) rfl rfl rfl ?_
                refine LX.world (W' := WA w0 base (.row gk kc (es.length) 3 1 (kI es) :: .row gv vc (es.length) 3 1 (vI es) :: DI d ge ce bm false es bs ck (ds ++ fr))) (fun w hw => hw.drop (List.sublist_cons_self _ _)) ?_
                refine LX.call (freeze2 (r := ds ++ fr) hS hD hent (fun it h => List.mem_append_left _ h)) Dz.en21 rfl rfl rfl rfl rfl ?_
                intro _
                refine LX.sub (l' := [(6, _), (7, _)]) ⟨rfl, rfl, trivial⟩ ?_
                refine LX.next ?_
                refine PX.thenN ?_
                refine CX.seq ?_
                refine CX.region ?_
                refine LX.pure (Y.move rfl) rfl rfl rfl ?_
                refine LX.pure (Y.mkI Dz.ni24 rfl) rfl rfl rfl ?_
                refine LX.call (frozen2) Dz.en22 rfl rfl rfl rfl rfl ?_
                intro _
                refine LX.pure (Y.move rfl) rfl rfl rfl ?_
                refine LX.caseB (s := 222) rfl (fun hb40 => ?_) (fun hb40 => ?_)
                ·
                  have hb40p := hb40
                  try simp at hb40p
                  refine LX.gT rfl rfl rfl hb40 (Y.move rfl) rfl rfl ?_
                  refine LX.callT rfl rfl rfl hb40 (none_c) Dz.en24 rfl rfl rfl rfl ?_
                  intro _
                  refine LX.callT rfl rfl rfl hb40 (none_c) Dz.en24 rfl rfl rfl rfl ?_
                  intro _
                  refine LX.callT rfl rfl rfl hb40 (setf2 hS) Dz.en12 rfl rfl rfl rfl ?_
                  intro _
                  refine LX.callQT rfl rfl rfl hb40 (Isa.is_q (fun w hw => push hS hw) (i := 3) (by decide) (b := true) (by decide)) Dz.en23 rfl rfl rfl rfl ?_
                  refine LX.pure (Y.pickT rfl hb40 rfl) rfl rfl rfl ?_
                  refine LX.pure (Y.move rfl) rfl rfl rfl ?_
                  refine LX.caseB (s := 229) rfl (fun hb41 => ?_) (fun hb41 => ?_)
                  ·
                    have hb41p := hb41
                    try simp at hb41p
                    refine LX.gT rfl rfl rfl hb41 (Y.move rfl) rfl rfl ?_
                    refine LX.callT rfl rfl rfl hb41 (len2) Dz.en18 rfl rfl rfl rfl ?_
                    intro _
                    refine LX.gT rfl rfl rfl hb41 (Y.move rfl) rfl rfl ?_
                    refine LX.gT rfl rfl rfl hb41 (Y.lenSl rfl Du.un26 rfl) rfl rfl ?_
                    first
                      | refine LX.gT rfl rfl rfl hb41 (Y.eqN rfl rfl) rfl rfl ?_
                      | refine LX.gT rfl rfl rfl hb41 (Y.eqI rfl rfl) rfl rfl ?_
                    refine LX.pure (Y.pickT rfl hb41 rfl) rfl rfl rfl ?_
                    refine LX.pure (Y.assign rfl) rfl rfl rfl ?_
                    refine LX.sub (l' := [(4, _)]) ⟨rfl, trivial⟩ ?_
                    refine LX.next ?_
                    refine PX.thenN ?_
                    refine CX.ret ?_
                    refine PX.ret1 (by simp) Tryz.results3 rfl ?_
                    exact fun w hw => ⟨(), by simp, hw.drop (List.Sublist.cons _ (List.Sublist.cons _ (List.Sublist.cons _ (List.Sublist.cons _ (List.Sublist.cons _ ((List.sublist_append_right ds fr).trans (List.sublist_append_right _ _)))))))⟩
                  ·
                    first | (exfalso; simp_all; done) | cases hb41
                ·
                  first | (exfalso; simp_all; done) | cases hb40
end Go.Proofs.YtifanilblkellaaGreatDoor
