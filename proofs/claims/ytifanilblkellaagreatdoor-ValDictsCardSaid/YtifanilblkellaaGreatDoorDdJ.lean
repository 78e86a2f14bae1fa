/-
  Proved here: a Dict's keys listed; what is frozen is told something.
-/
import Derived.Test.YtifanilblkellaaGreatDoorDdI
import Derived.Test.YtifanilblkellaaGreatDoorIsa
namespace Go.Proofs.YtifanilblkellaaGreatDoor
open Go.SX Go.RowKit Go.Vo Go.Ss Go.Proofs.YtifanilblkellaaGreatDoor.Env Go.Proofs.YtifanilblkellaaGreatDoor.Bsf Go.EX Go.EB
namespace Dx
theorem en42 : Enters Tryz.prog 42 := Enters.of Tryz.func42 (by kernel_rfl) (by kernel_rfl)
theorem ni107 : NoIface Tryz.prog 107 := fun w v => by kernel_rfl
theorem one40 : One Tryz.prog 40 := fun w => by kernel_rfl
end Dx
theorem numb_c {w0 : World} {base : Nat} {fr : List It} (z : Int) {n : Nat} (hn : 0 < n ∧ n ≤ 12) : FnC Tryz.prog 7 #[.int .i64 z, .int .i64 (n : Int)] (WA w0 base fr) (fun m : Nat => .int .i64 (m : Int)) (fun m w => m < n ∧ WA w0 base fr w) := by
  have h1 : -(n : Int) < z.tmod n ∧ z.tmod n < n := by
    refine ⟨?_, Int.tmod_lt_of_pos _ (by omega)⟩
    rcases Int.le_total 0 z with h | h
    · have := Int.tmod_nonneg (n : Int) h; omega
    · have h2 := Int.tmod_lt_of_pos (-z) (show (0 : Int) < n by omega)
      rw [Int.neg_tmod] at h2
      omega
  have h2 : 0 ≤ (z.tmod n + n).tmod n ∧ (z.tmod n + n).tmod n < n := ⟨Int.tmod_nonneg _ (by omega), Int.tmod_lt_of_pos _ (by omega)⟩
  refine FnC.of_body (fn := Tryz.f7) [(0, _), (1, _)] Tryz.func7 rfl Tryz.ntmps7 rfl ⟨rfl, rfl, trivial⟩ ?_
  refine CX.seq ?_
  refine CX.region ?_
  refine LX.pure (Y.assign rfl) rfl rfl rfl ?_
  refine LX.sub (l' := [(0, _), (1, _), (4, _)]) ⟨rfl, rfl, rfl, trivial⟩ ?_
  refine LX.next ?_
  refine PX.thenN ?_
  refine CX.seq ?_
  refine CX.region ?_
  refine LX.pure (Y.move rfl) rfl rfl rfl ?_
  refine LX.pure (Y.move rfl) rfl rfl rfl ?_
  refine LX.pure (Y.rem (b := (n : Int)) rfl rfl (by omega)) rfl rfl rfl ?_
  refine LX.pure (Y.move rfl) rfl rfl rfl ?_
  refine LX.pure (Y.add (a := z.tmod n) (b := (n : Int)) rfl rfl (by omega)) rfl rfl rfl ?_
  refine LX.pure (Y.move rfl) rfl rfl rfl ?_
  refine LX.pure (Y.rem (a := z.tmod n + n) (b := (n : Int)) rfl rfl (by omega)) rfl rfl rfl ?_
  refine LX.pure (Y.assign rfl) rfl rfl rfl ?_
  refine LX.sub (l' := [(4, _)]) ⟨rfl, trivial⟩ ?_
  refine LX.next ?_
  refine PX.thenN ?_
  refine CX.ret ?_
  refine PX.ret1 (by simp) Tryz.results7 rfl ?_
  exact fun w hw => ⟨((z.tmod n + n).tmod n).toNat, by dsimp only; rw [show ((((z.tmod n + n).tmod n).toNat : Nat) : Int) = (z.tmod n + n).tmod n by omega], by omega, hw⟩
theorem none_c {w0 : World} {base : Nat} {fr : List It} : FnC Tryz.prog 24 #[] (WA w0 base fr) (fun _ : Unit => .iface 107 (.agg #[])) (fun _ => WA w0 base fr) := by
  refine FnC.of_body (fn := Tryz.f24) [] Tryz.func24 rfl Tryz.ntmps24 rfl trivial ?_
  refine CX.seq ?_
  refine CX.region ?_
  refine LX.pure (Y.assign rfl) rfl rfl rfl ?_
  refine LX.sub (l' := [(0, _)]) ⟨rfl, trivial⟩ ?_
  refine LX.next ?_
  refine PX.thenN ?_
  refine CX.seq ?_
  refine CX.region ?_
  refine LX.pure (Y.build (v := .agg #[]) rfl (fun _ => by kernel_rfl)) rfl rfl rfl ?_
  refine LX.pure (Y.mkI Dx.ni107 rfl) rfl rfl rfl ?_
  refine LX.pure (Y.assign rfl) rfl rfl rfl ?_
  refine LX.sub (l' := [(0, _)]) ⟨rfl, trivial⟩ ?_
  refine LX.next ?_
  refine PX.thenN ?_
  refine CX.ret ?_
  refine PX.ret1 (by simp) Tryz.results24 rfl ?_
  exact fun w hw => ⟨(), rfl, hw⟩
theorem items_c {w0 : World} {base : Nat} {r ds : List It} {d bm ce ck : Nat} {ge : Option Nat} {fz : Bool} {es : List En} {bs : List Nat} (hD : Dk es bs ck) (hent : ∀ e ∈ es, KI e.k e.kv ds ∧ VI e.v e.vv ds) : FnC Tryz.prog 42 #[.iface 24 (.pointer (some ⟨d, 0, none⟩))] (WA w0 base (DI d ge ce bm fz es bs ck r)) (fun q : Option Nat × Nat => .tuple #[rv q.1 es.length q.2, .bool true]) (fun q => WA w0 base (.row q.1 q.2 (es.length) 31 1 (es.map fun e => e.kv) :: DI d ge ce bm fz es bs ck r)) := by
  have h12 := hD.few
  refine FnC.of_body (fn := Tryz.f42) [(0, _)] Tryz.func42 rfl Tryz.ntmps42 rfl ⟨rfl, trivial⟩ ?_
  refine CX.seq ?_
  refine CX.region ?_
  refine LX.pure (Y.assign rfl) rfl rfl rfl ?_
  refine LX.pure (Y.assign rfl) rfl rfl rfl ?_
  refine LX.sub (l' := [(0, _), (2, _), (3, _)]) ⟨rfl, rfl, rfl, trivial⟩ ?_
  refine LX.next ?_
  refine PX.thenN ?_
  refine CX.seq ?_
  refine CX.seq ?_
  refine CX.region ?_
  refine LX.pure (Y.move rfl) rfl rfl rfl ?_
  refine LX.sub (l' := [(2, _), (3, _), (10, _)]) ⟨rfl, rfl, rfl, trivial⟩ ?_
  refine LX.next ?_
  refine PX.thenN ?_
  refine CX.block ?_
  refine CX.seq ?_
  refine CX.region ?_
  first
    | refine LX.pure (Y.assertYes Dv.nif131 rfl) rfl rfl rfl ?_
    | refine LX.pure (Y.assertNo Dv.nif131 rfl (by decide) Dv.zv131) rfl rfl rfl ?_
  refine LX.pure (Y.extract rfl rfl) rfl rfl rfl ?_
  refine LX.pure (Y.extract rfl rfl) rfl rfl rfl ?_
  refine LX.sub (l' := [(2, _), (3, _), (10, _), (12, _), (13, _)]) ⟨rfl, rfl, rfl, rfl, rfl, trivial⟩ ?_
  refine LX.next ?_
  refine PX.thenN ?_
  refine CX.cond rfl (fun hb1 => ?_) (fun hb1 => ?_)
  · try simp at hb1
    first | done | (exfalso; omega) | (exfalso; simp_all; done) | (exfalso; simp_all; omega)
  · try simp at hb1
    refine CX.seq ?_
    refine CX.region ?_
    first
      | refine LX.pure (Y.assertYes Dv.nif77 rfl) rfl rfl rfl ?_
      | refine LX.pure (Y.assertNo Dv.nif77 rfl (by decide) Dv.zv77) rfl rfl rfl ?_
    refine LX.pure (Y.extract rfl rfl) rfl rfl rfl ?_
    refine LX.pure (Y.extract rfl rfl) rfl rfl rfl ?_
    refine LX.sub (l' := [(2, _), (3, _), (10, _), (20, _), (21, _)]) ⟨rfl, rfl, rfl, rfl, rfl, trivial⟩ ?_
    refine LX.next ?_
    refine PX.thenN ?_
    refine CX.cond rfl (fun hb2 => ?_) (fun hb2 => ?_)
    · try simp at hb2
      first | done | (exfalso; omega) | (exfalso; simp_all; done) | (exfalso; simp_all; omega)
    · try simp at hb2
      refine CX.seq ?_
      refine CX.region ?_
      first
        | refine LX.pure (Y.assertYes Dv.nif24 rfl) rfl rfl rfl ?_
        | refine LX.pure (Y.assertNo Dv.nif24 rfl (by decide) Dv.zv24) rfl rfl rfl ?_
      refine LX.pure (Y.extract rfl rfl) rfl rfl rfl ?_
      refine LX.pure (Y.extract rfl rfl) rfl rfl rfl ?_
      refine LX.sub (l' := [(2, _), (3, _), (28, _), (29, _)]) ⟨rfl, rfl, rfl, rfl, trivial⟩ ?_
      refine LX.next ?_
      refine PX.thenN ?_
      refine CX.cond rfl (fun hb3 => ?_) (fun hb3 => ?_)
      · try simp at hb3
        refine CX.seq ?_
        refine CX.region ?_
        refine LX.pure (Y.assign rfl) rfl rfl rfl ?_
        refine LX.sub (l' := [(2, _), (3, _), (6, _)]) ⟨rfl, rfl, rfl, trivial⟩ ?_
        refine LX.next ?_
        refine PX.thenN ?_
        refine CX.seq ?_
        refine CX.region ?_
        refine LX.pure (Y.assign rfl) rfl rfl rfl ?_
        refine LX.sub (l' := [(2, _), (3, _), (6, _), (7, _)]) ⟨rfl, rfl, rfl, rfl, trivial⟩ ?_
        refine LX.next ?_
        refine PX.thenN ?_
        refine CX.seq ?_
        refine CX.seq ?_
        refine CX.region ?_
        refine LX.pure (Y.move rfl) rfl rfl rfl ?_
        refine LX.pure (Y.nilCheck rfl) rfl rfl rfl ?_
        first
          | refine LX.pure (Y.fieldAddr0 Dq.fo76_1 rfl) rfl rfl rfl ?_
          | refine LX.pure (Y.fieldAddr Dq.fo76_1 rfl) rfl rfl rfl ?_
        first
          | refine LX.pure (Y.ldB 0 Dq.one74 rfl rfl rfl) rfl rfl rfl ?_
          | refine LX.pure (Y.ldB 1 Dq.one74 rfl rfl rfl) rfl rfl rfl ?_
          | refine LX.pure (Y.ldB 2 Dq.one74 rfl rfl rfl) rfl rfl rfl ?_
          | refine LX.pure (Y.ldB 3 Dq.one74 rfl rfl rfl) rfl rfl rfl ?_
          | refine LX.pure (Y.ldB 4 Dq.one74 rfl rfl rfl) rfl rfl rfl ?_
        refine LX.pure (Y.lenSl rfl Dq.un74 rfl) rfl rfl rfl ?_
        refine LX.pure (Y.move rfl) rfl rfl rfl ?_
        refine LX.sub (l' := [(2, _), (3, _), (7, _), (33, _), (34, _), (35, _)]) ⟨rfl, rfl, rfl, rfl, rfl, rfl, trivial⟩ ?_
        refine LX.next ?_
        refine PX.thenN ?_
        refine CX.block ?_
        refine CX.loop (fun s : Nat × Option Nat × Nat => [(7, rv s.2.1 s.1 s.2.2), (33, rv ge es.length ce), (34, .int .i64 (es.length : Int)), (35, .int .i64 (s.1 : Int))]) (fun (s : Nat × Option Nat × Nat) w => s.1 ≤ es.length ∧ WA w0 base (.row s.2.1 s.2.2 (s.1) 31 1 ((es.map fun e => e.kv).take s.1) :: DI d ge ce bm fz es bs ck r) w) (fun s => es.length - s.1) (0, none, 0) ⟨rfl, rfl, rfl, rfl, trivial⟩ (fun w hw => ⟨Nat.zero_le _, hw.nilRow 31 1⟩) ?_
        rintro ⟨j, g, c⟩
        refine CX.have fun hj0 => ?_
        try dsimp only at hj0 ⊢
        refine CX.seq ?_
        refine CX.region ?_
        first
          | refine LX.pure (Y.ltN rfl rfl) rfl rfl rfl ?_
          | refine LX.pure (Y.ltI rfl rfl) rfl rfl rfl ?_
        refine LX.sub (l' := [(7, _), (33, _), (34, _), (35, _), (36, _)]) ⟨rfl, rfl, rfl, rfl, rfl, trivial⟩ ?_
        refine LX.next ?_
        refine PX.thenN ?_
        refine CX.seq ?_
        refine CX.cond rfl (fun hb4 => ?_) (fun hb4 => ?_)
        · try simp at hb4
          obtain ⟨e, he⟩ : ∃ e, es[j]? = some e := ⟨_, List.getElem?_eq_getElem (by omega)⟩
          have hkvj : (es.map fun e => e.kv)[j]? = some e.kv := by rw [List.getElem?_map, he]; rfl
          obtain ⟨hK, hV⟩ := hent e (List.mem_of_getElem? he)
          obtain ⟨ek, ev, eeb, ekv, evv⟩ := e
          dsimp only at hK hV hkvj
          obtain ⟨tb, gt, ct, ga, ca, rfl, _⟩ := hK
          refine CX.skip ?_
          refine PX.thenN ?_
          refine CX.seq ?_
          refine CX.block ?_
          refine CX.seq ?_
          refine CX.region ?_
          refine LX.pure (Y.idxR1 2 Dq.un74 Dr.sz89 rfl rfl rfl (by omega)) rfl rfl rfl ?_
          refine LX.pure (Y.ldR 2 (v := .pointer (some ⟨eeb, 0, none⟩)) Dr.one89 rfl rfl (ptrs_at he)) rfl rfl rfl ?_
          refine LX.pure (Y.assign rfl) rfl rfl rfl ?_
          refine LX.sub (l' := [(7, _), (9, _), (33, _), (34, _), (35, _)]) ⟨rfl, rfl, rfl, rfl, rfl, trivial⟩ ?_
          refine LX.next ?_
          refine PX.thenN ?_
          refine CX.region ?_
          refine LX.pure (Y.move rfl) rfl rfl rfl ?_
          refine LX.pure (Y.move rfl) rfl rfl rfl ?_
          refine LX.pure (Y.nilCheck rfl) rfl rfl rfl ?_
          first
            | refine LX.pure (Y.fieldAddr0 Dw.fo91_1 rfl) rfl rfl rfl ?_
            | refine LX.pure (Y.fieldAddr Dw.fo91_1 rfl) rfl rfl rfl ?_
          refine LX.pure (Y.ldB (j + 4) Dq.one31 rfl (ent_at (a := blk 0 [] 0) (b := blk 0 [] 0) (c := blk 0 [] 0) he) rfl) rfl rfl rfl ?_
          refine LX.buildSlice (e := 31) (size := 1) rfl rfl (fun _ => by kernel_rfl) rfl (by decide) rfl rfl rfl ?_
          intro gt29
          refine LX.appendT 0 Du.el49 rfl rfl rfl rfl rfl rfl rfl (by omega) (by omega) rfl rfl rfl ?_
          intro g2 c2
          refine LX.pure (Y.assign rfl) rfl rfl rfl ?_
          refine LX.sub (l' := [(7, _), (33, _), (34, _), (35, _)]) ⟨rfl, rfl, rfl, rfl, trivial⟩ ?_
          refine LX.next ?_
          refine PX.blockN ?_
          refine PX.thenN ?_
          refine CX.region ?_
          first
            | refine LX.pure (Y.addN rfl rfl (by first | omega | (simp only []; omega) | (simp; done) | (simp; omega))) rfl rfl rfl ?_
            | refine LX.pure (Y.add rfl rfl (by first | omega | (simp only []; omega) | (simp; done) | (simp; omega))) rfl rfl rfl ?_
          refine LX.pure (Y.move rfl) rfl rfl rfl ?_
          refine LX.sub (l' := [(7, _), (33, _), (34, _), (35, _)]) ⟨rfl, rfl, rfl, rfl, trivial⟩ ?_
          refine LX.next ?_
          exact PX.again (L := (fun s : Nat × Option Nat × Nat => [(7, rv s.2.1 s.1 s.2.2), (33, rv ge es.length ce), (34, .int .i64 (es.length : Int)), (35, .int .i64 (s.1 : Int))])) (WW := (fun (s : Nat × Option Nat × Nat) w => s.1 ≤ es.length ∧ WA w0 base (.row s.2.1 s.2.2 (s.1) 31 1 ((es.map fun e => e.kv).take s.1) :: DI d ge ce bm fz es bs ck r) w)) (μ := fun s => es.length - s.1) (i := (j, g, c)) (j + 1, g2, c2) (by show es.length - (j + 1) < es.length - j; omega) ⟨rfl, rfl, rfl, rfl, trivial⟩ (fun w hw => ⟨by show j + 1 ≤ es.length; omega, by dsimp only; rw [List.take_add_one, hkvj]; exact hw⟩)
        · try simp at hb4
          obtain rfl : j = es.length := by omega
          rw [List.take_of_length_le (by rw [List.length_map]; exact Nat.le_refl _)]
          refine CX.exit ?_
          refine PX.thenE ?_
          refine PX.thenE ?_
          refine PX.blockE ?_
          refine PX.thenN ?_
          refine CX.seq ?_
          refine CX.region ?_
          refine LX.pure (Y.move rfl) rfl rfl rfl ?_
          refine LX.pure (Y.assign rfl) rfl rfl rfl ?_
          refine LX.pure (Y.assign rfl) rfl rfl rfl ?_
          refine LX.sub (l' := [(2, _), (3, _)]) ⟨rfl, rfl, trivial⟩ ?_
          refine LX.next ?_
          refine PX.thenN ?_
          refine CX.ret ?_
          refine PX.blockR ?_
          refine PX.thenR ?_
          refine PX.ret2 (by simp) Tryz.results42 rfl rfl ?_
          exact fun w hw => ⟨(g, c), rfl, hw⟩
      · try simp at hb3
        first | done | (exfalso; omega) | (exfalso; simp_all; done) | (exfalso; simp_all; omega)
theorem Items_c {w0 : World} {base : Nat} {r ds : List It} {d bm ce ck : Nat} {ge : Option Nat} {fz : Bool} {es : List En} {bs : List Nat} (hD : Dk es bs ck) (hent : ∀ e ∈ es, KI e.k e.kv ds ∧ VI e.v e.vv ds) : FnC Tryz.prog 19 #[.iface 24 (.pointer (some ⟨d, 0, none⟩))] (WA w0 base (DI d ge ce bm fz es bs ck r)) (fun q : Option Nat × Nat => .tuple #[rv q.1 es.length q.2, .bool true]) (fun q => WA w0 base (.row q.1 q.2 (es.length) 31 1 (es.map fun e => e.kv) :: DI d ge ce bm fz es bs ck r)) := by
  have h12 := hD.few
  refine FnC.of_body (fn := Tryz.f19) [(0, _)] Tryz.func19 rfl Tryz.ntmps19 rfl ⟨rfl, trivial⟩ ?_
  refine CX.seq ?_
  refine CX.region ?_
  refine LX.pure (Y.assign rfl) rfl rfl rfl ?_
  refine LX.pure (Y.assign rfl) rfl rfl rfl ?_
  refine LX.sub (l' := [(0, _), (2, _), (3, _)]) ⟨rfl, rfl, rfl, trivial⟩ ?_
  refine LX.next ?_
  refine PX.thenN ?_
  refine CX.seq ?_
  refine CX.region ?_
  refine LX.pure (Y.move rfl) rfl rfl rfl ?_
  refine LX.call (items_c hD hent) Dx.en42 rfl rfl rfl rfl rfl ?_
  rintro ⟨g, c⟩
  refine LX.pure (Y.extract rfl rfl) rfl rfl rfl ?_
  refine LX.pure (Y.extract rfl rfl) rfl rfl rfl ?_
  refine LX.pure (Y.assign rfl) rfl rfl rfl ?_
  refine LX.pure (Y.assign rfl) rfl rfl rfl ?_
  refine LX.sub (l' := [(2, _), (3, _)]) ⟨rfl, rfl, trivial⟩ ?_
  refine LX.next ?_
  refine PX.thenN ?_
  refine CX.ret ?_
  refine PX.ret2 (by simp) Tryz.results19 rfl rfl ?_
  exact fun w hw => ⟨(g, c), rfl, hw⟩
theorem set_frozen {w0 : World} {base : Nat} {r : List It} {aE : Nat → Addr} (hS : EnvS w0 base aE) {d : Nat} {x y : Value} : FnC Tryz.prog 12 #[.pointer (some ⟨d, 0, none⟩), .iface 107 (.agg #[]), .iface 107 (.agg #[])] (WA w0 base (blk d [x, y, .bool true, .int .i64 0] 76 :: r)) (fun _ : Unit => errV (aE 3)) (fun _ => WA w0 base (blk d [x, y, .bool true, .int .i64 0] 76 :: r)) := by
  refine FnC.of_body (fn := Tryz.f12) [(0, _), (1, _), (2, _)] Tryz.func12 rfl Tryz.ntmps12 rfl ⟨rfl, rfl, rfl, trivial⟩ ?_
  refine CX.seq ?_
  refine CX.region ?_
  refine LX.pure (Y.assign rfl) rfl rfl rfl ?_
  refine LX.sub (l' := [(0, _), (1, _), (2, _), (6, _)]) ⟨rfl, rfl, rfl, rfl, trivial⟩ ?_
  refine LX.next ?_
  refine PX.thenN ?_
  refine CX.seq ?_
  refine CX.region ?_
  refine LX.pure (Y.move rfl) rfl rfl rfl ?_
  refine LX.callQ (keyN_q (fun w hw => push hS hw)) Dq.en36 rfl rfl rfl rfl rfl ?_
  refine LX.pure (Y.move rfl) rfl rfl rfl ?_
  refine LX.pure (Y.extract rfl rfl) rfl rfl rfl ?_
  refine LX.pure (Y.extract rfl rfl) rfl rfl rfl ?_
  refine LX.pure (Y.assign rfl) rfl rfl rfl ?_
  refine LX.pure (Y.assign rfl) rfl rfl rfl ?_
  refine LX.sub (l' := [(0, _), (1, _), (2, _), (6, _), (7, _), (8, _)]) ⟨rfl, rfl, rfl, rfl, rfl, rfl, trivial⟩ ?_
  refine LX.next ?_
  refine PX.thenN ?_
  refine CX.seq ?_
  refine CX.seq ?_
  refine CX.region ?_
  refine LX.pure (Y.move rfl) rfl rfl rfl ?_
  first
    | refine LX.pure (Y.neNil Fo.un40 rfl rfl) rfl rfl rfl ?_
    | refine LX.pure (Y.neNilNil Fo.un40 rfl) rfl rfl rfl ?_
  refine LX.sub (l' := [(0, _), (1, _), (2, _), (6, _), (7, _), (8, _), (17, _)]) ⟨rfl, rfl, rfl, rfl, rfl, rfl, rfl, trivial⟩ ?_
  refine LX.next ?_
  refine PX.thenN ?_
  refine CX.cond rfl (fun hb1 => ?_) (fun hb1 => ?_)
  · try simp at hb1
    first | done | (exfalso; omega) | (exfalso; simp_all; done) | (exfalso; simp_all; omega)
  · try simp at hb1
    refine CX.skip ?_
    refine PX.thenN ?_
    refine CX.seq ?_
    refine CX.seq ?_
    refine CX.region ?_
    refine LX.pure (Y.move rfl) rfl rfl rfl ?_
    refine LX.call (loose_c) Dq.en37 rfl rfl rfl rfl rfl ?_
    intro _
    refine LX.pure (Y.not rfl) rfl rfl rfl ?_
    refine LX.sub (l' := [(0, _), (1, _), (2, _), (6, _), (7, _), (21, _)]) ⟨rfl, rfl, rfl, rfl, rfl, rfl, trivial⟩ ?_
    refine LX.next ?_
    refine PX.thenN ?_
    refine CX.cond rfl (fun hb2 => ?_) (fun hb2 => ?_)
    · try simp at hb2
      refine CX.seq ?_
      refine CX.region ?_
      refine LX.pure (Y.ldO Dx.one40 rfl (hS.at_ 3 0 rfl) (hS.lt 0 (by decide))) rfl rfl rfl ?_
      refine LX.pure (Y.assign rfl) rfl rfl rfl ?_
      refine LX.sub (l' := [(0, _), (1, _), (2, _), (6, _), (7, _)]) ⟨rfl, rfl, rfl, rfl, rfl, trivial⟩ ?_
      refine LX.next ?_
      refine PX.thenN ?_
      refine CX.ret ?_
      refine PX.thenR ?_
      refine PX.ret1 (by simp) Tryz.results12 rfl ?_
      exact fun w hw => ⟨(), rfl, hw⟩
    · try simp at hb2
      first | done | (exfalso; omega) | (exfalso; simp_all; done) | (exfalso; simp_all; omega)
end Go.Proofs.YtifanilblkellaaGreatDoor
