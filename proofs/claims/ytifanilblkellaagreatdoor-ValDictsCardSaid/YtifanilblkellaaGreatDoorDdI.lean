/-
  Proved here: a Dict frozen.
-/
import Derived.Test.YtifanilblkellaaGreatDoorDdH
namespace Go.Proofs.YtifanilblkellaaGreatDoor
open Go.SX Go.RowKit Go.Vo Go.Ss Go.Proofs.YtifanilblkellaaGreatDoor.Env Go.Proofs.YtifanilblkellaaGreatDoor.Bsf Go.EX Go.EB
namespace Dw
theorem cp24 : CmpT Tryz.prog 24 76 := CmpT.of (by kernel_rfl) (by kernel_rfl) (by kernel_rfl)
theorem en45 : Enters Tryz.prog 45 := Enters.of Tryz.func45 (by kernel_rfl) (by kernel_rfl)
theorem fo91_1 : FieldOff Tryz.prog 91 1 1 := fun b o w => by kernel_rfl
theorem sz4 : SizeIs Tryz.prog 4 1 := fun w => by kernel_rfl
end Dw
def LL (es : List En) : List Value := es.flatMap fun e => [e.kv, e.vv]
theorem LL_len : ∀ es : List En, (LL es).length = 2 * es.length
  | [] => rfl
  | e :: es => by
    have := LL_len es
    show (e.kv :: e.vv :: LL es).length = _
    simp only [List.length_cons]
    omega
theorem LL_take {es : List En} {j : Nat} {e : En} (h : es[j]? = some e) : LL (es.take (j + 1)) = LL (es.take j) ++ [e.kv, e.vv] := by
  unfold LL
  rw [List.take_add_one, h, List.flatMap_append]
  rfl
theorem LL_mem {es : List En} {x : Value} (h : x ∈ LL es) : ∃ e ∈ es, x = e.kv ∨ x = e.vv := by
  unfold LL at h
  obtain ⟨e, he, hx⟩ := List.mem_flatMap.1 h
  exact ⟨e, he, by simpa using hx⟩
theorem frA_c {w0 : World} {base : Nat} {r ds : List It} {aE : Nat → Addr} (hS : EnvS w0 base aE) {bq ck : Nat} {es : List En} {ks us : List Value} {bs : List Nat} (hent : ∀ e ∈ es, KI e.k e.kv ds ∧ VI e.v e.vv ds) (hds : ∀ it ∈ ds, it ∈ r) {x : Value} (hx : x ∈ LL es) (hm : MetOk Tryz.prog (WA w0 base r) ks us bs) :
    FnC Tryz.prog 44 #[x, .map (some bq)] (WA w0 base (metI bq ks us bs ck :: r)) (fun _ : List Value × List Value × List Nat × Nat => .tuple #[]) (fun q w => MetOk Tryz.prog (WA w0 base r) q.1 q.2.1 q.2.2.1 ∧ WA w0 base (metI bq q.1 q.2.1 q.2.2.1 q.2.2.2 :: r) w) := by
  obtain ⟨e, he, h⟩ := LL_mem hx
  obtain ⟨hK, hV⟩ := hent e he
  rcases h with rfl | rfl
  · obtain ⟨tb, gt, ct, g, c, e1, h1, h2, _, _⟩ := hK
    rw [e1]
    exact frK_c hS rfl rfl (hds _ h1) (hds _ h2) hm
  · obtain ⟨g, c, e1, _⟩ := hV
    rw [e1]
    exact fun w hw => (frW_q (fun w hw => push hS hw) rfl rfl rfl w hw).mono fun e w' ⟨he, hb⟩ => ⟨(ks, us, bs, ck), he, hm, Stab.st w w' hw hb⟩
theorem frD_c {w0 : World} {base : Nat} {r ds : List It} {aE : Nat → Addr} (hS : EnvS w0 base aE) {d bm ce ck : Nat} {ge : Option Nat} {es : List En} {bs : List Nat} (hD : Dk es bs ck) (hent : ∀ e ∈ es, KI e.k e.kv ds ∧ VI e.v e.vv ds) (hds : ∀ it ∈ ds, it ∈ r) {bq : Nat} : FnC Tryz.prog 44 #[.iface 24 (.pointer (some ⟨d, 0, none⟩)), .map (some bq)] (WA w0 base (metI bq [] [] [] 0 :: DI d ge ce bm false es bs ck r)) (fun _ : Unit => .tuple #[]) (fun _ => WA w0 base (DI d ge ce bm true es bs ck r)) := by
  have h12 := hD.few
  refine FnC.of_body (fn := Tryz.f44) [(0, _), (1, _)] Tryz.func44 rfl Tryz.ntmps44 rfl ⟨rfl, rfl, trivial⟩ ?_
  refine CX.seq ?_
  refine CX.region ?_
  refine LX.pure (Y.assign rfl) rfl rfl rfl ?_
  refine LX.sub (l' := [(0, _), (1, _), (4, _)]) ⟨rfl, rfl, rfl, trivial⟩ ?_
  refine LX.next ?_
  refine PX.thenN ?_
  refine CX.seq ?_
  refine CX.seq ?_
  refine CX.region ?_
  refine LX.pure (Y.move rfl) rfl rfl rfl ?_
  refine LX.sub (l' := [(0, _), (1, _), (4, _), (15, _)]) ⟨rfl, rfl, rfl, rfl, trivial⟩ ?_
  refine LX.next ?_
  refine PX.thenN ?_
  refine CX.block ?_
  refine CX.seq ?_
  refine CX.region ?_
  first
    | refine LX.pure (Y.assertYes Dv.nif131 rfl) rfl rfl rfl ?_
    | refine LX.pure (Y.assertNo Dv.nif131 rfl (by decide) Dv.zv131) rfl rfl rfl ?_
  refine LX.pure (Y.extract rfl rfl) rfl rfl rfl ?_
  refine LX.pure (Y.extract rfl rfl) rfl rfl rfl ?_
  refine LX.sub (l' := [(0, _), (1, _), (4, _), (15, _), (17, _), (18, _)]) ⟨rfl, rfl, rfl, rfl, rfl, rfl, trivial⟩ ?_
  refine LX.next ?_
  refine PX.thenN ?_
  refine CX.cond rfl (fun hb1 => ?_) (fun hb1 => ?_)
  · try simp at hb1
    first | done | (exfalso; omega) | (exfalso; simp_all; done) | (exfalso; simp_all; omega)
  · try simp at hb1
    refine CX.seq ?_
    refine CX.region ?_
    first
      | refine LX.pure (Y.assertYes Dv.nif24 rfl) rfl rfl rfl ?_
      | refine LX.pure (Y.assertNo Dv.nif24 rfl (by decide) Dv.zv24) rfl rfl rfl ?_
    refine LX.pure (Y.extract rfl rfl) rfl rfl rfl ?_
    refine LX.pure (Y.extract rfl rfl) rfl rfl rfl ?_
    refine LX.sub (l' := [(0, _), (1, _), (4, _), (15, _), (27, _), (28, _)]) ⟨rfl, rfl, rfl, rfl, rfl, rfl, trivial⟩ ?_
    refine LX.next ?_
    refine PX.thenN ?_
    refine CX.cond rfl (fun hb2 => ?_) (fun hb2 => ?_)
    · try simp at hb2
      refine CX.seq ?_
      refine CX.region ?_
      refine LX.pure (Y.assign rfl) rfl rfl rfl ?_
      refine LX.sub (l' := [(0, _), (1, _), (4, _), (6, _)]) ⟨rfl, rfl, rfl, rfl, trivial⟩ ?_
      refine LX.next ?_
      refine PX.thenN ?_
      refine CX.seq ?_
      refine CX.region ?_
      refine LX.pure (Y.move rfl) rfl rfl rfl ?_
      refine LX.pure (Y.nilCheck rfl) rfl rfl rfl ?_
      first
        | refine LX.pure (Y.fieldAddr0 Dq.fo76_3 rfl) rfl rfl rfl ?_
        | refine LX.pure (Y.fieldAddr Dq.fo76_3 rfl) rfl rfl rfl ?_
      first
        | refine LX.storeB 0 Dw.sz4 rfl rfl rfl rfl rfl rfl rfl rfl ?_
        | refine LX.storeB 1 Dw.sz4 rfl rfl rfl rfl rfl rfl rfl rfl ?_
        | refine LX.storeB 2 Dw.sz4 rfl rfl rfl rfl rfl rfl rfl rfl ?_
        | refine LX.storeB 3 Dw.sz4 rfl rfl rfl rfl rfl rfl rfl rfl ?_
        | refine LX.storeB 4 Dw.sz4 rfl rfl rfl rfl rfl rfl rfl rfl ?_
      refine LX.sub (l' := [(0, _), (1, _), (4, _), (6, _)]) ⟨rfl, rfl, rfl, rfl, trivial⟩ ?_
      refine LX.next ?_
      refine PX.thenN ?_
      refine CX.seq ?_
      refine CX.region ?_
      refine LX.pure (Y.move rfl) rfl rfl rfl ?_
      refine LX.pure (Y.nilCheck rfl) rfl rfl rfl ?_
      first
        | refine LX.pure (Y.fieldAddr0 Dq.fo76_1 rfl) rfl rfl rfl ?_
        | refine LX.pure (Y.fieldAddr Dq.fo76_1 rfl) rfl rfl rfl ?_
      first
        | refine LX.pure (Y.ldB 0 Dq.one74 rfl rfl rfl) rfl rfl rfl ?_
        | refine LX.pure (Y.ldB 1 Dq.one74 rfl rfl rfl) rfl rfl rfl ?_
        | refine LX.pure (Y.ldB 2 Dq.one74 rfl rfl rfl) rfl rfl rfl ?_
        | refine LX.pure (Y.ldB 3 Dq.one74 rfl rfl rfl) rfl rfl rfl ?_
        | refine LX.pure (Y.ldB 4 Dq.one74 rfl rfl rfl) rfl rfl rfl ?_
      refine LX.pure (Y.lenSl rfl Dq.un74 rfl) rfl rfl rfl ?_
      refine LX.pure (Y.move rfl) rfl rfl rfl ?_
      refine LX.sub (l' := [(0, _), (1, _), (4, _), (35, _), (36, _), (37, _)]) ⟨rfl, rfl, rfl, rfl, rfl, rfl, trivial⟩ ?_
      refine LX.next ?_
      refine PX.thenN ?_
      refine CX.block ?_
      refine CX.loop (fun s : Nat × Option Nat × Nat => [(0, .iface 24 (.pointer (some ⟨d, 0, none⟩))), (1, .map (some bq)), (4, rv s.2.1 (2 * s.1) s.2.2), (35, rv ge es.length ce), (36, .int .i64 (es.length : Int)), (37, .int .i64 (s.1 : Int))]) (fun (s : Nat × Option Nat × Nat) w => s.1 ≤ es.length ∧ WA w0 base (.row s.2.1 s.2.2 (2 * s.1) 31 1 (LL (es.take s.1)) :: metI bq [] [] [] 0 :: DI d ge ce bm true es bs ck r) w) (fun s => es.length - s.1) (0, none, 0) ⟨rfl, rfl, rfl, rfl, rfl, rfl, trivial⟩ (fun w hw => ⟨Nat.zero_le _, hw.nilRow 31 1⟩) ?_
      rintro ⟨j, g, c⟩
      refine CX.have fun hj0 => ?_
      try dsimp only at hj0 ⊢
      refine CX.seq ?_
      refine CX.region ?_
      first
        | refine LX.pure (Y.ltN rfl rfl) rfl rfl rfl ?_
        | refine LX.pure (Y.ltI rfl rfl) rfl rfl rfl ?_
      refine LX.sub (l' := [(0, _), (1, _), (4, _), (35, _), (36, _), (37, _), (38, _)]) ⟨rfl, rfl, rfl, rfl, rfl, rfl, rfl, trivial⟩ ?_
      refine LX.next ?_
      refine PX.thenN ?_
      refine CX.seq ?_
      refine CX.cond rfl (fun hb3 => ?_) (fun hb3 => ?_)
      · try simp at hb3
        obtain ⟨e, he⟩ : ∃ e, es[j]? = some e := ⟨_, List.getElem?_eq_getElem (by omega)⟩
        obtain ⟨hK, hV⟩ := hent e (List.mem_of_getElem? he)
        obtain ⟨ek, ev, eeb, ekv, evv⟩ := e
        dsimp only at hK hV
        obtain ⟨tb, gt, ct, ga, ca, rfl, _⟩ := hK
        obtain ⟨gb, cb, rfl, _⟩ := hV
        refine CX.skip ?_
        refine PX.thenN ?_
        refine CX.seq ?_
        refine CX.block ?_
        refine CX.seq ?_
        refine CX.region ?_
        refine LX.pure (Y.idxR1 3 Dq.un74 Dr.sz89 rfl rfl rfl (by omega)) rfl rfl rfl ?_
        refine LX.pure (Y.ldR 3 (v := .pointer (some ⟨eeb, 0, none⟩)) Dr.one89 rfl rfl (ptrs_at he)) rfl rfl rfl ?_
        refine LX.pure (Y.assign rfl) rfl rfl rfl ?_
        refine LX.sub (l' := [(0, _), (1, _), (4, _), (8, _), (35, _), (36, _), (37, _)]) ⟨rfl, rfl, rfl, rfl, rfl, rfl, rfl, trivial⟩ ?_
        refine LX.next ?_
        refine PX.thenN ?_
        refine CX.regionM [(0, .anywhere), (1, .anywhere), (2, .anywhere), (3, .anywhere), (4, .held), (5, .anywhere), (6, .anywhere), (7, .anywhere), (8, .held), (9, .alone), (10, .alone), (11, .anywhere)] rfl (by kernel_rfl) ?_
        refine MX.lift0 (i := 0) rfl (Y.move rfl) rfl rfl rfl ?_
        refine MX.lift0 (i := 1) rfl (Y.move rfl) rfl rfl rfl ?_
        refine MX.lift0 (i := 2) rfl (Y.nilCheck rfl) rfl rfl rfl ?_
        first
          | refine MX.lift0 (i := 3) rfl (Y.fieldAddr0 Dw.fo91_1 rfl) rfl rfl rfl ?_
          | refine MX.lift0 (i := 3) rfl (Y.fieldAddr Dw.fo91_1 rfl) rfl rfl rfl ?_
        refine MX.lift1 (i := 4) (pend' := []) rfl (fun w hw => by first | exact hw | exact hw.1 | exact hw.drop (List.sublist_cons_self _ _) | exact hw.drop ((List.sublist_cons_self _ _).cons _)) (Y.ldB (j + 5) Dq.one31 rfl (ent_at (a := blk 0 [] 0) (b := blk 0 [] 0) (c := blk 0 [] 0) he) rfl) rfl rfl rfl (by kernel_rfl) ?_
        refine MX.lift0 (i := 5) rfl (Y.move rfl) rfl rfl rfl ?_
        refine MX.lift0 (i := 6) rfl (Y.nilCheck rfl) rfl rfl rfl ?_
        first
          | refine MX.lift0 (i := 7) rfl (Y.fieldAddr0 Dq.fo91_2 rfl) rfl rfl rfl ?_
          | refine MX.lift0 (i := 7) rfl (Y.fieldAddr Dq.fo91_2 rfl) rfl rfl rfl ?_
        refine MX.lift1 (i := 8) (pend' := [4]) rfl (fun w hw => by first | exact hw | exact hw.1 | exact hw.drop (List.sublist_cons_self _ _) | exact hw.drop ((List.sublist_cons_self _ _).cons _)) (Y.ldB (j + 5) Dq.one31 rfl (ent_at (a := blk 0 [] 0) (b := blk 0 [] 0) (c := blk 0 [] 0) he) rfl) rfl rfl rfl (by kernel_rfl) ?_
        refine MX.force (i := 9) rfl ?_
        refine LX.buildSlice (e := 31) (size := 1) rfl rfl (fun _ => by kernel_rfl) rfl (by decide) rfl rfl rfl ?_
        intro gt32
        refine LX.nextM [] (by kernel_rfl) (fun h => absurd rfl h) ?_
        refine MX.force (i := 10) rfl ?_
        refine LX.appendT 0 Du.el49 rfl rfl rfl rfl rfl rfl rfl (by omega) (by omega) rfl rfl rfl ?_
        intro g2 c2
        refine LX.nextM [] (by kernel_rfl) (fun h => absurd rfl h) ?_
        refine MX.lift0 (i := 11) rfl (Y.assign rfl) rfl rfl rfl ?_
        refine MX.sub (l' := [(0, _), (1, _), (4, _), (35, _), (36, _), (37, _)]) ⟨rfl, rfl, rfl, rfl, rfl, rfl, trivial⟩ ?_
        refine MX.done ?_
        refine PX.blockN ?_
        refine PX.thenN ?_
        refine CX.region ?_
        first
          | refine LX.pure (Y.addN rfl rfl (by first | omega | (simp only []; omega) | (simp; done) | (simp; omega))) rfl rfl rfl ?_
          | refine LX.pure (Y.add rfl rfl (by first | omega | (simp only []; omega) | (simp; done) | (simp; omega))) rfl rfl rfl ?_
        refine LX.pure (Y.move rfl) rfl rfl rfl ?_
        refine LX.sub (l' := [(0, _), (1, _), (4, _), (35, _), (36, _), (37, _)]) ⟨rfl, rfl, rfl, rfl, rfl, rfl, trivial⟩ ?_
        refine LX.next ?_
        exact PX.again (L := (fun s : Nat × Option Nat × Nat => [(0, .iface 24 (.pointer (some ⟨d, 0, none⟩))), (1, .map (some bq)), (4, rv s.2.1 (2 * s.1) s.2.2), (35, rv ge es.length ce), (36, .int .i64 (es.length : Int)), (37, .int .i64 (s.1 : Int))])) (WW := (fun (s : Nat × Option Nat × Nat) w => s.1 ≤ es.length ∧ WA w0 base (.row s.2.1 s.2.2 (2 * s.1) 31 1 (LL (es.take s.1)) :: metI bq [] [] [] 0 :: DI d ge ce bm true es bs ck r) w)) (μ := fun s => es.length - s.1) (i := (j, g, c)) (j + 1, g2, c2) (by show es.length - (j + 1) < es.length - j; omega) ⟨rfl, rfl, rfl, rfl, rfl, rfl, trivial⟩ (fun w hw => ⟨by show j + 1 ≤ es.length; omega, by dsimp only; rw [LL_take he]; exact hw⟩)
      · try simp at hb3
        obtain rfl : j = es.length := by omega
        rw [List.take_length]
        have hkd : KeyIn Tryz.prog (WA w0 base (.row g c (2 * es.length) 31 1 (LL es) :: metI bq [] [] [] 0 :: DI d ge ce bm true es bs ck r)) (.iface 24 (.pointer (some ⟨d, 0, none⟩))) := ⟨_, _, d, rfl, Dw.cp24, fun w hw => ⟨_, _, (hw.get (i := 2) rfl).2⟩⟩
        have hkr : KeyIn Tryz.prog (WA w0 base (.row g c (2 * es.length) 31 1 (LL es) :: DI d ge ce bm true es bs ck r)) (.iface 24 (.pointer (some ⟨d, 0, none⟩))) := ⟨_, _, d, rfl, Dw.cp24, fun w hw => ⟨_, _, (hw.get (i := 1) rfl).2⟩⟩
        refine CX.exit ?_
        refine PX.thenE ?_
        refine PX.thenE ?_
        refine PX.blockE ?_
        refine PX.blockN ?_
        refine PX.thenN ?_
        refine CX.seq ?_
        refine CX.seq ?_
        refine CX.region ?_
        refine LX.pure (Y.move rfl) rfl rfl rfl ?_
        refine LX.pure (Y.move rfl) rfl rfl rfl ?_
        refine LX.pure (Y.lookIf 1 (q := false) Dv.un101 Dv.un31 (by kernel_rfl) rfl rfl rfl hkd (.inl ⟨(by rw [mkEs_nil1]; exact Fnd.nil), rfl⟩)) rfl rfl rfl ?_
        refine LX.sub (l' := [(0, _), (1, _), (4, _), (74, _)]) ⟨rfl, rfl, rfl, rfl, trivial⟩ ?_
        refine LX.next ?_
        refine PX.thenN ?_
        refine CX.cond rfl (fun hb4 => ?_) (fun hb4 => ?_)
        · try simp at hb4
          first | done | (exfalso; omega) | (exfalso; simp_all; done) | (exfalso; simp_all; omega)
        · try simp at hb4
          refine CX.skip ?_
          refine PX.thenN ?_
          refine CX.seq ?_
          refine CX.region ?_
          refine LX.pure (Y.move rfl) rfl rfl rfl ?_
          refine LX.pure (Y.move rfl) rfl rfl rfl ?_
          refine LX.metPut 1 Dv.un101 Dv.un31 rfl rfl rfl rfl rfl hkd ⟨(fun k h => by cases h), rfl, rfl, (fun u h => by cases h)⟩ (by rw [mkEs_nil1]; exact Fnd.nil) rfl rfl ?_
          refine LX.sub (l' := [(1, _), (4, _)]) ⟨rfl, rfl, trivial⟩ ?_
          refine LX.next ?_
          refine PX.thenN ?_
          refine CX.seq ?_
          refine CX.region ?_
          refine LX.pure (Y.move rfl) rfl rfl rfl ?_
          refine LX.pure (Y.lenSl rfl Du.un49 rfl) rfl rfl rfl ?_
          refine LX.pure (Y.move rfl) rfl rfl rfl ?_
          refine LX.sub (l' := [(1, _), (77, _), (78, _), (79, _)]) ⟨rfl, rfl, rfl, rfl, trivial⟩ ?_
          refine LX.next ?_
          refine PX.thenN ?_
          refine CX.block ?_
          refine CX.loop (fun s : Nat × List Value × List Value × List Nat × Nat => [(1, .map (some bq)), (77, rv g (2 * es.length) c), (78, .int .i64 ((2 * es.length : Nat) : Int)), (79, .int .i64 (s.1 : Int))]) (fun (s : Nat × List Value × List Value × List Nat × Nat) w => (s.1 ≤ 2 * es.length ∧ MetOk Tryz.prog (WA w0 base (.row g c (2 * es.length) 31 1 (LL es) :: DI d ge ce bm true es bs ck r)) s.2.1 s.2.2.1 s.2.2.2.1) ∧ WA w0 base (metI bq s.2.1 s.2.2.1 s.2.2.2.1 s.2.2.2.2 :: .row g c (2 * es.length) 31 1 (LL es) :: DI d ge ce bm true es bs ck r) w) (fun s => 2 * es.length - s.1) (0, [.iface 24 (.pointer (some ⟨d, 0, none⟩))], [.bool true], [0], 0 + 1) ⟨rfl, rfl, rfl, rfl, trivial⟩ (fun w hw => ⟨⟨Nat.zero_le _, ⟨(fun k h => by rw [List.mem_singleton.1 h]; exact hkr), rfl, rfl, (fun u h => List.mem_singleton.1 h)⟩⟩, hw.perm (.swap _ _ _)⟩) ?_
          rintro ⟨j, ks, us, ms, mk⟩
          refine CX.have fun ⟨hj0, hmet⟩ => ?_
          try dsimp only at hj0 hmet ⊢
          refine CX.seq ?_
          refine CX.region ?_
          first
            | refine LX.pure (Y.ltN rfl rfl) rfl rfl rfl ?_
            | refine LX.pure (Y.ltI rfl rfl) rfl rfl rfl ?_
          refine LX.sub (l' := [(1, _), (77, _), (78, _), (79, _), (80, _)]) ⟨rfl, rfl, rfl, rfl, rfl, trivial⟩ ?_
          refine LX.next ?_
          refine PX.thenN ?_
          refine CX.seq ?_
          refine CX.cond rfl (fun hb5 => ?_) (fun hb5 => ?_)
          · try simp at hb5
            obtain ⟨x9, hx9⟩ : ∃ x, (LL es)[j]? = some x := ⟨_, List.getElem?_eq_getElem (by rw [LL_len]; omega)⟩
            refine CX.skip ?_
            refine PX.thenN ?_
            refine CX.seq ?_
            refine CX.block ?_
            refine CX.seq ?_
            refine CX.region ?_
            refine LX.pure (Y.idxR1 1 Du.un49 Dq.sz31 rfl rfl rfl (by omega)) rfl rfl rfl ?_
            refine LX.pure (Y.ldR 1 (v := x9) Dq.one31 rfl rfl hx9) rfl rfl rfl ?_
            refine LX.pure (Y.assign rfl) rfl rfl rfl ?_
            refine LX.sub (l' := [(1, _), (14, _), (77, _), (78, _), (79, _)]) ⟨rfl, rfl, rfl, rfl, rfl, trivial⟩ ?_
            refine LX.next ?_
            refine PX.thenN ?_
            refine CX.region ?_
            refine LX.pure (Y.move rfl) rfl rfl rfl ?_
            refine LX.pure (Y.move rfl) rfl rfl rfl ?_
            refine LX.call (frA_c hS hent (fun it h => List.mem_cons_of_mem _ (List.mem_cons_of_mem _ (List.mem_cons_of_mem _ (List.mem_cons_of_mem _ (List.mem_append_right _ (hds it h)))))) (List.mem_of_getElem? hx9) hmet) Dv.en44 rfl rfl rfl rfl rfl ?_
            rintro ⟨ks2, us2, ms2, mk2⟩
            refine LX.have fun hmet2 => ?_
            dsimp only at hmet2 ⊢
            refine LX.sub (l' := [(1, _), (77, _), (78, _), (79, _)]) ⟨rfl, rfl, rfl, rfl, trivial⟩ ?_
            refine LX.next ?_
            refine PX.blockN ?_
            refine PX.thenN ?_
            refine CX.region ?_
            first
              | refine LX.pure (Y.addN rfl rfl (by first | omega | (simp only []; omega) | (simp; done) | (simp; omega))) rfl rfl rfl ?_
              | refine LX.pure (Y.add rfl rfl (by first | omega | (simp only []; omega) | (simp; done) | (simp; omega))) rfl rfl rfl ?_
            refine LX.pure (Y.move rfl) rfl rfl rfl ?_
            refine LX.sub (l' := [(1, _), (77, _), (78, _), (79, _)]) ⟨rfl, rfl, rfl, rfl, trivial⟩ ?_
            refine LX.next ?_
            exact PX.again (L := (fun s : Nat × List Value × List Value × List Nat × Nat => [(1, .map (some bq)), (77, rv g (2 * es.length) c), (78, .int .i64 ((2 * es.length : Nat) : Int)), (79, .int .i64 (s.1 : Int))])) (WW := (fun (s : Nat × List Value × List Value × List Nat × Nat) w => (s.1 ≤ 2 * es.length ∧ MetOk Tryz.prog (WA w0 base (.row g c (2 * es.length) 31 1 (LL es) :: DI d ge ce bm true es bs ck r)) s.2.1 s.2.2.1 s.2.2.2.1) ∧ WA w0 base (metI bq s.2.1 s.2.2.1 s.2.2.2.1 s.2.2.2.2 :: .row g c (2 * es.length) 31 1 (LL es) :: DI d ge ce bm true es bs ck r) w)) (μ := fun s => 2 * es.length - s.1) (i := (j, ks, us, ms, mk)) (j + 1, ks2, us2, ms2, mk2) (by show 2 * es.length - (j + 1) < 2 * es.length - j; omega) ⟨rfl, rfl, rfl, rfl, trivial⟩ (fun w hw => ⟨⟨by show j + 1 ≤ 2 * es.length; omega, hmet2⟩, hw⟩)
          · try simp at hb5
            refine CX.exit ?_
            refine PX.thenE ?_
            refine PX.thenE ?_
            refine PX.blockE ?_
            refine PX.ret0 (by simp) Tryz.results44 ?_
            exact fun w hw => ⟨(), rfl, hw.drop ((List.sublist_cons_self _ _).cons _)⟩
    · try simp at hb2
      first | done | (exfalso; omega) | (exfalso; simp_all; done) | (exfalso; simp_all; omega)
theorem Freeze_c {w0 : World} {base : Nat} {r ds : List It} {aE : Nat → Addr} (hS : EnvS w0 base aE) {d bm ce ck : Nat} {ge : Option Nat} {es : List En} {bs : List Nat} (hD : Dk es bs ck) (hent : ∀ e ∈ es, KI e.k e.kv ds ∧ VI e.v e.vv ds) (hds : ∀ it ∈ ds, it ∈ r) : FnC Tryz.prog 21 #[.iface 24 (.pointer (some ⟨d, 0, none⟩))] (WA w0 base (DI d ge ce bm false es bs ck r)) (fun _ : Unit => .tuple #[]) (fun _ => WA w0 base (DI d ge ce bm true es bs ck r)) := by
  refine FnC.of_body (fn := Tryz.f21) [(0, _)] Tryz.func21 rfl Tryz.ntmps21 rfl ⟨rfl, trivial⟩ ?_
  refine CX.region ?_
  refine LX.pure (Y.move rfl) rfl rfl rfl ?_
  refine LX.makeMap rfl rfl rfl rfl ?_
  intro bq
  refine LX.call (frD_c hS hD hent hds) Dv.en44 rfl rfl rfl rfl rfl ?_
  intro _
  refine LX.sub (l' := []) trivial ?_
  refine LX.next ?_
  refine PX.ret0 (by simp) Tryz.results21 ?_
  exact fun w hw => ⟨(), rfl, hw⟩
theorem frozen_c {w0 : World} {base : Nat} {fr : List It} {d : Nat} {x y u : Value} : FnC Tryz.prog 45 #[.iface 24 (.pointer (some ⟨d, 0, none⟩))] (WA w0 base (blk d [x, y, .bool true, u] 76 :: fr)) (fun _ : Unit => .bool true) (fun _ => WA w0 base (blk d [x, y, .bool true, u] 76 :: fr)) := by
  refine FnC.of_body (fn := Tryz.f45) [(0, _)] Tryz.func45 rfl Tryz.ntmps45 rfl ⟨rfl, trivial⟩ ?_
  refine CX.seq ?_
  refine CX.region ?_
  refine LX.pure (Y.assign rfl) rfl rfl rfl ?_
  refine LX.sub (l' := [(0, _), (2, _)]) ⟨rfl, rfl, trivial⟩ ?_
  refine LX.next ?_
  refine PX.thenN ?_
  refine CX.seq ?_
  refine CX.seq ?_
  refine CX.region ?_
  refine LX.pure (Y.move rfl) rfl rfl rfl ?_
  refine LX.sub (l' := [(2, _), (5, _)]) ⟨rfl, rfl, trivial⟩ ?_
  refine LX.next ?_
  refine PX.thenN ?_
  refine CX.block ?_
  refine CX.seq ?_
  refine CX.region ?_
  first
    | refine LX.pure (Y.assertYes Dv.nif131 rfl) rfl rfl rfl ?_
    | refine LX.pure (Y.assertNo Dv.nif131 rfl (by decide) Dv.zv131) rfl rfl rfl ?_
  refine LX.pure (Y.extract rfl rfl) rfl rfl rfl ?_
  refine LX.pure (Y.extract rfl rfl) rfl rfl rfl ?_
  refine LX.sub (l' := [(2, _), (5, _), (7, _), (8, _)]) ⟨rfl, rfl, rfl, rfl, trivial⟩ ?_
  refine LX.next ?_
  refine PX.thenN ?_
  refine CX.cond rfl (fun hb1 => ?_) (fun hb1 => ?_)
  · try simp at hb1
    first | done | (exfalso; omega) | (exfalso; simp_all; done) | (exfalso; simp_all; omega)
  · try simp at hb1
    refine CX.seq ?_
    refine CX.region ?_
    first
      | refine LX.pure (Y.assertYes Dv.nif24 rfl) rfl rfl rfl ?_
      | refine LX.pure (Y.assertNo Dv.nif24 rfl (by decide) Dv.zv24) rfl rfl rfl ?_
    refine LX.pure (Y.extract rfl rfl) rfl rfl rfl ?_
    refine LX.pure (Y.extract rfl rfl) rfl rfl rfl ?_
    refine LX.sub (l' := [(2, _), (14, _), (15, _)]) ⟨rfl, rfl, rfl, trivial⟩ ?_
    refine LX.next ?_
    refine PX.thenN ?_
    refine CX.cond rfl (fun hb2 => ?_) (fun hb2 => ?_)
    · try simp at hb2
      refine CX.seq ?_
      refine CX.region ?_
      refine LX.pure (Y.assign rfl) rfl rfl rfl ?_
      refine LX.sub (l' := [(2, _), (4, _)]) ⟨rfl, rfl, trivial⟩ ?_
      refine LX.next ?_
      refine PX.thenN ?_
      refine CX.seq ?_
      refine CX.region ?_
      refine LX.pure (Y.move rfl) rfl rfl rfl ?_
      refine LX.pure (Y.nilCheck rfl) rfl rfl rfl ?_
      first
        | refine LX.pure (Y.fieldAddr0 Dq.fo76_3 rfl) rfl rfl rfl ?_
        | refine LX.pure (Y.fieldAddr Dq.fo76_3 rfl) rfl rfl rfl ?_
      first
        | refine LX.pure (Y.ldB 0 Fo.one4 rfl rfl rfl) rfl rfl rfl ?_
        | refine LX.pure (Y.ldB 1 Fo.one4 rfl rfl rfl) rfl rfl rfl ?_
        | refine LX.pure (Y.ldB 2 Fo.one4 rfl rfl rfl) rfl rfl rfl ?_
      refine LX.pure (Y.assign rfl) rfl rfl rfl ?_
      refine LX.sub (l' := [(2, _)]) ⟨rfl, trivial⟩ ?_
      refine LX.next ?_
      refine PX.thenN ?_
      refine CX.ret ?_
      refine PX.blockR ?_
      refine PX.thenR ?_
      refine PX.ret1 (by simp) Tryz.results45 rfl ?_
      exact fun w hw => ⟨(), rfl, hw⟩
    · try simp at hb2
      first | done | (exfalso; omega) | (exfalso; simp_all; done) | (exfalso; simp_all; omega)
theorem Frozen_c {w0 : World} {base : Nat} {fr : List It} {d : Nat} {x y u : Value} : FnC Tryz.prog 22 #[.iface 24 (.pointer (some ⟨d, 0, none⟩))] (WA w0 base (blk d [x, y, .bool true, u] 76 :: fr)) (fun _ : Unit => .bool true) (fun _ => WA w0 base (blk d [x, y, .bool true, u] 76 :: fr)) := by
  refine FnC.of_body (fn := Tryz.f22) [(0, _)] Tryz.func22 rfl Tryz.ntmps22 rfl ⟨rfl, trivial⟩ ?_
  refine CX.seq ?_
  refine CX.region ?_
  refine LX.pure (Y.assign rfl) rfl rfl rfl ?_
  refine LX.sub (l' := [(0, _), (2, _)]) ⟨rfl, rfl, trivial⟩ ?_
  refine LX.next ?_
  refine PX.thenN ?_
  refine CX.seq ?_
  refine CX.region ?_
  refine LX.pure (Y.move rfl) rfl rfl rfl ?_
  refine LX.call (frozen_c) Dw.en45 rfl rfl rfl rfl rfl ?_
  intro _
  refine LX.pure (Y.assign rfl) rfl rfl rfl ?_
  refine LX.sub (l' := [(2, _)]) ⟨rfl, trivial⟩ ?_
  refine LX.next ?_
  refine PX.thenN ?_
  refine CX.ret ?_
  refine PX.ret1 (by simp) Tryz.results22 rfl ?_
  exact fun w hw => ⟨(), rfl, hw⟩
end Go.Proofs.YtifanilblkellaaGreatDoor
