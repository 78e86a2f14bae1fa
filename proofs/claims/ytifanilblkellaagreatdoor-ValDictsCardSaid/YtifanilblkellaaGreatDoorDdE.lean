/-
  Proved here: a Dict made; numbers copied; a pair as a value.
-/
import Derived.Test.YtifanilblkellaaGreatDoorDdD
namespace Go.Proofs.YtifanilblkellaaGreatDoor
open Go.SX Go.RowKit Go.Vo Go.Ss Go.Proofs.YtifanilblkellaaGreatDoor.Env Go.Proofs.YtifanilblkellaaGreatDoor.Bsf
namespace Du
theorem en34 : Enters Tryz.prog 34 := Enters.of Tryz.func34 (by kernel_rfl) (by kernel_rfl)
theorem en40 : Enters Tryz.prog 40 := Enters.of Tryz.func40 (by kernel_rfl) (by kernel_rfl)
theorem ni77 : NoIface Tryz.prog 77 := fun w v => by kernel_rfl
theorem ni86 : NoIface Tryz.prog 86 := fun w v => by kernel_rfl
theorem un26 : Tryz.prog.underlying 26 = some (.slice 3) := by kernel_rfl
theorem un49 : Tryz.prog.underlying 49 = some (.slice 31) := by kernel_rfl
theorem el26 : Elem Tryz.prog 26 3 1 8 := Elem.of un26 (z := .int .i64 0) (by kernel_rfl) rfl
theorem el49 : Elem Tryz.prog 49 31 1 16 := Elem.of un49 (z := .nilIface) (by kernel_rfl) rfl
end Du
theorem text_z {w0 : World} {base : Nat} {fr : List It} {z : Int} (hz : z.natAbs < 1000) {u : Value} (hu : NumV w0 base z u) : FnC Tryz.prog 17 #[u] (WA w0 base fr) (fun _ : Unit => str (txtZ z)) (fun _ => WA w0 base fr) := by
  obtain ⟨⟨g, c, rfl, hr⟩, _⟩ := hu
  rcases Nat.eq_zero_or_pos z.natAbs with h0 | hp
  · have e : txtZ z = [48] := by unfold txtZ; rw [h0]
    rw [e]
    unfold numV
    rw [h0, digs_0]
    exact text0_c
  · have hd := digs_one hp hz
    rw [hd] at hr
    obtain ⟨b, rfl, hq, hc⟩ := hr.at_ 0 (.int .u32 (z.natAbs : Int)) rfl
    have e : txtZ z = txtN (decide (z < 0)) z.natAbs := by
      unfold txtZ
      obtain ⟨n, hn⟩ : ∃ n, z.natAbs = n + 1 := ⟨z.natAbs - 1, by omega⟩
      rw [hn]
    rw [e]
    unfold numV
    rw [hd]
    cases decide (z < 0) with
    | true => exact text_true ⟨hp, hz⟩ hq hc
    | false => exact text_false ⟨hp, hz⟩ hq hc
theorem textZ_q {W : World → Prop} [Stab W] {z : Int} (hz : z.natAbs < 1000) {u : Value} (hu : ∀ w, W w → NumV w w.heap.size z u) : FnQ Tryz.prog 17 #[u] W (str (txtZ z)) := fun w hw =>
  (text_z (fr := []) hz (hu w hw) w (WA.start w)).mono fun e w' ⟨_, he, h⟩ => ⟨he, h.below⟩
theorem asInt_c {w0 : World} {base : Nat} {fr : List It} {p : Bool} {g : Option Nat} {n c : Nat} : FnC Tryz.prog 40 #[.iface 82 (.agg #[.bool p, rv g n c])] (WA w0 base fr) (fun _ : Unit => .tuple #[.agg #[.bool p, rv g n c], .bool true]) (fun _ => WA w0 base fr) := by
  refine FnC.of_body (fn := Tryz.f40) [(0, _)] Tryz.func40 rfl Tryz.ntmps40 rfl ⟨rfl, trivial⟩ ?_
  refine CX.seq ?_
  refine CX.region ?_
  refine LX.alloc rfl Fo.zv36 rfl rfl rfl ?_
  intro bx0
  refine LX.pure (Y.assign rfl) rfl rfl rfl ?_
  refine LX.sub (l' := [(0, _), (2, _), (3, _)]) ⟨rfl, rfl, rfl, trivial⟩ ?_
  refine LX.next ?_
  refine PX.thenN ?_
  refine CX.seq ?_
  refine CX.region ?_
  refine LX.pure (Y.move rfl) rfl rfl rfl ?_
  first
    | refine LX.pure (Y.assertYes Fo.nif82 rfl) rfl rfl rfl ?_
    | refine LX.pure (Y.assertNo Fo.nif82 rfl (by decide) Fo.zv82) rfl rfl rfl ?_
  refine LX.pure (Y.move rfl) rfl rfl rfl ?_
  refine LX.pure (Y.extract rfl rfl) rfl rfl rfl ?_
  refine LX.pure (Y.extract rfl rfl) rfl rfl rfl ?_
  refine LX.alloc rfl Fo.zv82 rfl rfl rfl ?_
  intro bx7
  first
    | refine LX.storeA 0 Fo.ag82 rfl rfl rfl rfl rfl rfl rfl rfl rfl ?_
    | refine LX.storeA 1 Fo.ag82 rfl rfl rfl rfl rfl rfl rfl rfl rfl ?_
    | refine LX.storeA 2 Fo.ag82 rfl rfl rfl rfl rfl rfl rfl rfl rfl ?_
    | refine LX.storeA 3 Fo.ag82 rfl rfl rfl rfl rfl rfl rfl rfl rfl ?_
  refine LX.pure (Y.assign rfl) rfl rfl rfl ?_
  refine LX.sub (l' := [(2, _), (3, _), (4, _), (5, _)]) ⟨rfl, rfl, rfl, rfl, trivial⟩ ?_
  refine LX.next ?_
  refine PX.thenN ?_
  refine CX.seq ?_
  refine CX.region ?_
  first
    | refine LX.pure (Y.fieldAddr0 Fo.fo82_1 rfl) rfl rfl rfl ?_
    | refine LX.pure (Y.fieldAddr Fo.fo82_1 rfl) rfl rfl rfl ?_
  first
    | refine LX.pure (Y.ldAggB (vs := [.bool p, rv g n c]) 0 Fo.ag36 rfl rfl rfl rfl) rfl rfl rfl ?_
    | refine LX.pure (Y.ldAggB (vs := [.bool p, rv g n c]) 1 Fo.ag36 rfl rfl rfl rfl) rfl rfl rfl ?_
    | refine LX.pure (Y.ldAggB (vs := [.bool p, rv g n c]) 2 Fo.ag36 rfl rfl rfl rfl) rfl rfl rfl ?_
  refine LX.pure (Y.move rfl) rfl rfl rfl ?_
  first
    | refine LX.storeA 0 Fo.ag36 rfl rfl rfl rfl rfl rfl rfl rfl rfl ?_
    | refine LX.storeA 1 Fo.ag36 rfl rfl rfl rfl rfl rfl rfl rfl rfl ?_
    | refine LX.storeA 2 Fo.ag36 rfl rfl rfl rfl rfl rfl rfl rfl rfl ?_
    | refine LX.storeA 3 Fo.ag36 rfl rfl rfl rfl rfl rfl rfl rfl rfl ?_
  refine LX.pure (Y.assign rfl) rfl rfl rfl ?_
  refine LX.sub (l' := [(2, _), (3, _)]) ⟨rfl, rfl, trivial⟩ ?_
  refine LX.next ?_
  refine PX.thenN ?_
  refine CX.ret ?_
  first
    | refine PX.retA2 (i := 0) (by simp) Tryz.results40 Fo.ag36 rfl rfl rfl rfl ?_
    | refine PX.retA2 (i := 1) (by simp) Tryz.results40 Fo.ag36 rfl rfl rfl rfl ?_
    | refine PX.retA2 (i := 2) (by simp) Tryz.results40 Fo.ag36 rfl rfl rfl rfl ?_
    | refine PX.retA2 (i := 3) (by simp) Tryz.results40 Fo.ag36 rfl rfl rfl rfl ?_
  exact fun w hw => ⟨(), rfl, hw.drop ((List.sublist_cons_self _ _).cons _)⟩
theorem AsInt_c {w0 : World} {base : Nat} {fr : List It} {p : Bool} {g : Option Nat} {n c : Nat} : FnC Tryz.prog 16 #[.iface 82 (.agg #[.bool p, rv g n c])] (WA w0 base fr) (fun _ : Unit => .tuple #[.agg #[.bool p, rv g n c], .bool true]) (fun _ => WA w0 base fr) := by
  refine FnC.of_body (fn := Tryz.f16) [(0, _)] Tryz.func16 rfl Tryz.ntmps16 rfl ⟨rfl, trivial⟩ ?_
  refine CX.seq ?_
  refine CX.region ?_
  refine LX.alloc rfl Fo.zv36 rfl rfl rfl ?_
  intro bx0
  refine LX.pure (Y.assign rfl) rfl rfl rfl ?_
  refine LX.sub (l' := [(0, _), (2, _), (3, _)]) ⟨rfl, rfl, rfl, trivial⟩ ?_
  refine LX.next ?_
  refine PX.thenN ?_
  refine CX.seq ?_
  refine CX.region ?_
  refine LX.pure (Y.move rfl) rfl rfl rfl ?_
  refine LX.call (asInt_c) Du.en40 rfl rfl rfl rfl rfl ?_
  intro _
  refine LX.pure (Y.extract rfl rfl) rfl rfl rfl ?_
  refine LX.pure (Y.extract rfl rfl) rfl rfl rfl ?_
  first
    | refine LX.storeA 0 Fo.ag36 rfl rfl rfl rfl rfl rfl rfl rfl rfl ?_
    | refine LX.storeA 1 Fo.ag36 rfl rfl rfl rfl rfl rfl rfl rfl rfl ?_
    | refine LX.storeA 2 Fo.ag36 rfl rfl rfl rfl rfl rfl rfl rfl rfl ?_
    | refine LX.storeA 3 Fo.ag36 rfl rfl rfl rfl rfl rfl rfl rfl rfl ?_
  refine LX.pure (Y.assign rfl) rfl rfl rfl ?_
  refine LX.sub (l' := [(2, _), (3, _)]) ⟨rfl, rfl, trivial⟩ ?_
  refine LX.next ?_
  refine PX.thenN ?_
  refine CX.ret ?_
  first
    | refine PX.retA2 (i := 0) (by simp) Tryz.results16 Fo.ag36 rfl rfl rfl rfl ?_
    | refine PX.retA2 (i := 1) (by simp) Tryz.results16 Fo.ag36 rfl rfl rfl rfl ?_
    | refine PX.retA2 (i := 2) (by simp) Tryz.results16 Fo.ag36 rfl rfl rfl rfl ?_
    | refine PX.retA2 (i := 3) (by simp) Tryz.results16 Fo.ag36 rfl rfl rfl rfl ?_
  exact fun w hw => ⟨(), rfl, hw.drop (List.sublist_cons_self _ _)⟩
theorem clone1_c {w0 : World} {base : Nat} {fr : List It} (b c n : Nat) (us : List Value) (hl : us.length = n) (h1 : us.all (·.oneCell') = true) (hn : n ≤ 100) : FnC Tryz.prog 34 #[rv (some b) n c] (WA w0 base (.row (some b) c n 31 1 us :: fr)) (fun r : Option Nat × Nat => rv r.1 n r.2) (fun r => WA w0 base (.row r.1 r.2 n 31 1 us :: .row (some b) c n 31 1 us :: fr)) := by
  refine FnC.of_body (fn := Tryz.f34) [(0, _)] Tryz.func34 rfl Tryz.ntmps34 rfl ⟨rfl, trivial⟩ ?_
  refine CX.seq ?_
  refine CX.region ?_
  refine LX.pure (Y.assign rfl) rfl rfl rfl ?_
  refine LX.sub (l' := [(0, _), (2, _)]) ⟨rfl, rfl, trivial⟩ ?_
  refine LX.next ?_
  refine PX.thenN ?_
  refine CX.seq ?_
  refine CX.seq ?_
  refine CX.region ?_
  refine LX.pure (Y.move rfl) rfl rfl rfl ?_
  refine LX.pure (Y.eqSlNil Du.un49 rfl) rfl rfl rfl ?_
  refine LX.sub (l' := [(0, _), (2, _), (4, _)]) ⟨rfl, rfl, rfl, trivial⟩ ?_
  refine LX.next ?_
  refine PX.thenN ?_
  refine CX.cond rfl (fun hb1 => ?_) (fun hb1 => ?_)
  · try simp at hb1
    first | done | (exfalso; omega) | (exfalso; simp_all; done) | (exfalso; simp_all; omega)
  · try simp at hb1
    refine CX.skip ?_
    refine PX.thenN ?_
    refine CX.seq ?_
    refine CX.region ?_
    refine LX.buildSlice (e := 31) (size := 1) rfl rfl (fun _ => by kernel_rfl) rfl (by decide) rfl rfl rfl ?_
    intro gt3
    refine LX.pure (Y.move rfl) rfl rfl rfl ?_
    refine LX.appendRow 0 1 (k := 0) Du.el49 rfl rfl rfl rfl rfl rfl hl h1 (by omega) (by omega) rfl rfl rfl ?_
    intro g' cap'
    rw [Nat.zero_add]
    refine LX.pure (Y.assign rfl) rfl rfl rfl ?_
    refine LX.sub (l' := [(2, _)]) ⟨rfl, trivial⟩ ?_
    refine LX.next ?_
    refine PX.thenN ?_
    refine CX.ret ?_
    refine PX.ret1 (by simp) Tryz.results34 rfl ?_
    exact fun w hw => ⟨(g', cap'), rfl, hw⟩
theorem str_c {w0 : World} {base : Nat} {fr : List It} (a : List UInt8) : FnC Tryz.prog 11 #[str a] (WA w0 base fr) (fun _ : Unit => .iface 86 (str a)) (fun _ => WA w0 base fr) := by
  refine FnC.of_body (fn := Tryz.f11) [(0, _)] Tryz.func11 rfl Tryz.ntmps11 rfl ⟨rfl, trivial⟩ ?_
  refine CX.seq ?_
  refine CX.region ?_
  refine LX.pure (Y.assign rfl) rfl rfl rfl ?_
  refine LX.sub (l' := [(0, _), (2, _)]) ⟨rfl, rfl, trivial⟩ ?_
  refine LX.next ?_
  refine PX.thenN ?_
  refine CX.seq ?_
  refine CX.region ?_
  refine LX.pure (Y.move rfl) rfl rfl rfl ?_
  refine LX.pure (Y.mkI Du.ni86 rfl) rfl rfl rfl ?_
  refine LX.pure (Y.assign rfl) rfl rfl rfl ?_
  refine LX.sub (l' := [(2, _)]) ⟨rfl, trivial⟩ ?_
  refine LX.next ?_
  refine PX.thenN ?_
  refine CX.ret ?_
  refine PX.ret1 (by simp) Tryz.results11 rfl ?_
  exact fun w hw => ⟨(), rfl, hw⟩
theorem tup_c {w0 : World} {base : Nat} {fr : List It} (b c : Nat) (us : List Value) (hl : us.length = 2) (h1 : us.all (·.oneCell') = true) : FnC Tryz.prog 8 #[rv (some b) 2 c] (WA w0 base (.row (some b) c 2 31 1 us :: fr)) (fun q : Nat × Option Nat × Nat => .iface 77 (.pointer (some ⟨q.1, 0, none⟩))) (fun q => WA w0 base (blk q.1 [rv q.2.1 2 q.2.2] 80 :: .row q.2.1 q.2.2 2 31 1 us :: .row (some b) c 2 31 1 us :: fr)) := by
  refine FnC.of_body (fn := Tryz.f8) [(0, _)] Tryz.func8 rfl Tryz.ntmps8 rfl ⟨rfl, trivial⟩ ?_
  refine CX.seq ?_
  refine CX.region ?_
  refine LX.pure (Y.assign rfl) rfl rfl rfl ?_
  refine LX.sub (l' := [(0, _), (2, _)]) ⟨rfl, rfl, trivial⟩ ?_
  refine LX.next ?_
  refine PX.thenN ?_
  refine CX.seq ?_
  refine CX.region ?_
  refine LX.pure (Y.move rfl) rfl rfl rfl ?_
  refine LX.call (clone1_c b c 2 us hl h1 (by omega)) Du.en34 rfl rfl rfl rfl rfl ?_
  rintro ⟨g2, c2⟩
  refine LX.pure (Y.build (v := .agg #[rv g2 2 c2]) rfl (fun _ => by kernel_rfl)) rfl rfl rfl ?_
  refine LX.box rfl rfl rfl rfl rfl ?_
  intro bx4
  refine LX.pure (Y.mkI Du.ni77 rfl) rfl rfl rfl ?_
  refine LX.pure (Y.assign rfl) rfl rfl rfl ?_
  refine LX.sub (l' := [(2, _)]) ⟨rfl, trivial⟩ ?_
  refine LX.next ?_
  refine PX.thenN ?_
  refine CX.ret ?_
  refine PX.ret1 (by simp) Tryz.results8 rfl ?_
  exact fun w hw => ⟨(_, g2, c2), rfl, hw⟩
theorem newD_c {w0 : World} {base : Nat} {fr : List It} : FnC Tryz.prog 6 #[] (WA w0 base fr) (fun q : Nat × Nat => .pointer (some ⟨q.1, 0, none⟩)) (fun q => WA w0 base (DI q.1 none 0 q.2 false [] [] 0 fr)) := by
  refine FnC.of_body (fn := Tryz.f6) [] Tryz.func6 rfl Tryz.ntmps6 rfl trivial ?_
  refine CX.seq ?_
  refine CX.region ?_
  refine LX.pure (Y.assign rfl) rfl rfl rfl ?_
  refine LX.sub (l' := [(0, _)]) ⟨rfl, trivial⟩ ?_
  refine LX.next ?_
  refine PX.thenN ?_
  refine CX.seq ?_
  refine CX.region ?_
  refine LX.makeMap rfl rfl rfl rfl ?_
  intro bm
  refine LX.pure (Y.build (v := .agg #[.slice none 0 0, .map (some bm), .bool false, .int .i64 0]) rfl (fun _ => by kernel_rfl)) rfl rfl rfl ?_
  refine LX.box rfl rfl rfl rfl rfl ?_
  intro bx3
  refine LX.pure (Y.assign rfl) rfl rfl rfl ?_
  refine LX.sub (l' := [(0, _)]) ⟨rfl, trivial⟩ ?_
  refine LX.next ?_
  refine PX.thenN ?_
  refine CX.ret ?_
  refine PX.ret1 (by simp) Tryz.results6 rfl ?_
  exact fun w hw => ⟨(_, bm), rfl, (hw.nilRow 89 1).perm (.swap _ _ _)⟩
theorem ints_c {w0 : World} {base : Nat} {fr : List It} {av : Option Addr} {cv : Nat} {zs : List Int} {vs : List Value} (hv : vs = zs.map fun z => Value.int .i64 z) (hs : Sl w0 base av vs) (h12 : vs.length ≤ 12) : FnC Tryz.prog 14 #[.slice av vs.length cv] (WA w0 base fr) (fun q : Option Nat × Nat => rv q.1 vs.length q.2) (fun q => WA w0 base (.row q.1 q.2 vs.length 3 1 (vs) :: fr)) := by
  refine FnC.of_body (fn := Tryz.f14) [(0, _)] Tryz.func14 rfl Tryz.ntmps14 rfl ⟨rfl, trivial⟩ ?_
  refine CX.seq ?_
  refine CX.region ?_
  refine LX.pure (Y.assign rfl) rfl rfl rfl ?_
  refine LX.sub (l' := [(0, _), (2, _)]) ⟨rfl, rfl, trivial⟩ ?_
  refine LX.next ?_
  refine PX.thenN ?_
  refine CX.seq ?_
  refine CX.region ?_
  refine LX.pure (Y.move rfl) rfl rfl rfl ?_
  refine LX.pure (Y.lenSl rfl Du.un26 rfl) rfl rfl rfl ?_
  refine LX.make0 (c := vs.length) Du.el26 rfl rfl rfl (by omega) (by omega) rfl rfl rfl ?_
  intro bm
  refine LX.pure (Y.assign rfl) rfl rfl rfl ?_
  refine LX.sub (l' := [(0, _), (2, _), (3, _)]) ⟨rfl, rfl, rfl, trivial⟩ ?_
  refine LX.next ?_
  refine PX.thenN ?_
  refine CX.seq ?_
  refine CX.seq ?_
  refine CX.region ?_
  refine LX.pure (Y.assign rfl) rfl rfl rfl ?_
  refine LX.sub (l' := [(0, _), (2, _), (3, _), (4, _)]) ⟨rfl, rfl, rfl, rfl, trivial⟩ ?_
  refine LX.next ?_
  refine PX.thenN ?_
  refine CX.block ?_
  refine CX.loop (fun s : Nat × Option Nat × Nat => [(0, .slice av vs.length cv), (3, rv s.2.1 s.1 s.2.2), (4, .int .i64 (s.1 : Int))]) (fun (s : Nat × Option Nat × Nat) w => s.1 ≤ vs.length ∧ WA w0 base (.row s.2.1 s.2.2 s.1 3 1 (vs.take s.1) :: fr) w) (fun s => vs.length - s.1) (0, some bm, vs.length) ⟨rfl, rfl, rfl, trivial⟩ (fun w hw => ⟨Nat.zero_le _, hw⟩) ?_
  rintro ⟨i, g, c⟩
  refine CX.have fun hi0 => ?_
  try dsimp only at hi0 ⊢
  refine CX.seq ?_
  refine CX.seq ?_
  refine CX.region ?_
  refine LX.pure (Y.move rfl) rfl rfl rfl ?_
  refine LX.pure (Y.move rfl) rfl rfl rfl ?_
  refine LX.pure (Y.lenSl rfl Du.un26 rfl) rfl rfl rfl ?_
  first
    | refine LX.pure (Y.ltN rfl rfl) rfl rfl rfl ?_
    | refine LX.pure (Y.ltI rfl rfl) rfl rfl rfl ?_
  refine LX.sub (l' := [(0, _), (3, _), (4, _), (11, _)]) ⟨rfl, rfl, rfl, rfl, trivial⟩ ?_
  refine LX.next ?_
  refine PX.thenN ?_
  refine CX.cond rfl (fun hb1 => ?_) (fun hb1 => ?_)
  · try simp at hb1
    obtain ⟨z1, hz1⟩ : ∃ z, vs[i]? = some (.int .i64 z) := by
      subst hv
      rw [List.getElem?_map, List.getElem?_eq_getElem (by simpa using hb1)]
      exact ⟨_, rfl⟩
    obtain ⟨a1, ha1, hq1, hc1⟩ := hs.at_ i _ hz1
    refine CX.skip ?_
    refine PX.thenN ?_
    refine CX.seq ?_
    refine CX.block ?_
    refine CX.region ?_
    refine LX.pure (Y.move rfl) rfl rfl rfl ?_
    refine LX.pure (Y.move rfl) rfl rfl rfl ?_
    refine LX.pure (Y.move rfl) rfl rfl rfl ?_
    refine LX.pure (Y.idxS Du.un26 Fo.sz3 rfl rfl (by omega) ha1) rfl rfl rfl ?_
    refine LX.pure (Y.ldO (v := .int .i64 z1) Fo.one3 rfl hc1 hq1) rfl rfl rfl ?_
    refine LX.buildSlice (e := 3) (size := 1) rfl rfl (fun _ => by kernel_rfl) rfl (by decide) rfl rfl rfl ?_
    intro gt15
    first
      | refine LX.appendT 0 Du.el26 rfl rfl rfl rfl rfl rfl rfl (by first | omega | (dsimp only; omega)) (by first | omega | (dsimp only; omega)) rfl rfl rfl ?_
      | refine LX.appendT 1 Du.el26 rfl rfl rfl rfl rfl rfl rfl (by first | omega | (dsimp only; omega)) (by first | omega | (dsimp only; omega)) rfl rfl rfl ?_
      | refine LX.appendT 2 Du.el26 rfl rfl rfl rfl rfl rfl rfl (by first | omega | (dsimp only; omega)) (by first | omega | (dsimp only; omega)) rfl rfl rfl ?_
    intro g' cap'
    refine LX.pure (Y.assign rfl) rfl rfl rfl ?_
    refine LX.sub (l' := [(0, _), (3, _), (4, _)]) ⟨rfl, rfl, rfl, trivial⟩ ?_
    refine LX.next ?_
    refine PX.blockN ?_
    refine PX.thenN ?_
    refine CX.region ?_
    refine LX.pure (Y.move rfl) rfl rfl rfl ?_
    first
      | refine LX.pure (Y.addN rfl rfl (by first | omega | (simp only []; omega) | (simp; done) | (simp; omega))) rfl rfl rfl ?_
      | refine LX.pure (Y.add rfl rfl (by first | omega | (simp only []; omega) | (simp; done) | (simp; omega))) rfl rfl rfl ?_
    refine LX.pure (Y.assign rfl) rfl rfl rfl ?_
    refine LX.sub (l' := [(0, _), (3, _), (4, _)]) ⟨rfl, rfl, rfl, trivial⟩ ?_
    refine LX.next ?_
    exact PX.again (L := (fun s : Nat × Option Nat × Nat => [(0, .slice av vs.length cv), (3, rv s.2.1 s.1 s.2.2), (4, .int .i64 (s.1 : Int))])) (WW := (fun (s : Nat × Option Nat × Nat) w => s.1 ≤ vs.length ∧ WA w0 base (.row s.2.1 s.2.2 s.1 3 1 (vs.take s.1) :: fr) w)) (μ := fun s => vs.length - s.1) (i := (i, g, c)) (i + 1, g', cap') (by show vs.length - (i + 1) < vs.length - i; omega) ⟨rfl, rfl, rfl, trivial⟩ (fun w hw => ⟨by show i + 1 ≤ vs.length; omega, by dsimp only; rw [List.take_add_one, hz1]; exact hw⟩)
  · try simp at hb1
    have hie : i = vs.length := by omega
    subst hie
    rw [List.take_length]
    refine CX.exit ?_
    refine PX.thenE ?_
    refine PX.thenE ?_
    refine PX.blockE ?_
    refine PX.thenN ?_
    refine CX.seq ?_
    refine CX.region ?_
    refine LX.pure (Y.move rfl) rfl rfl rfl ?_
    refine LX.pure (Y.assign rfl) rfl rfl rfl ?_
    refine LX.sub (l' := [(2, _)]) ⟨rfl, trivial⟩ ?_
    refine LX.next ?_
    refine PX.thenN ?_
    refine CX.ret ?_
    refine PX.ret1 (by simp) Tryz.results14 rfl ?_
    exact fun w hw => ⟨(g, c), rfl, hw⟩
end Go.Proofs.YtifanilblkellaaGreatDoor
