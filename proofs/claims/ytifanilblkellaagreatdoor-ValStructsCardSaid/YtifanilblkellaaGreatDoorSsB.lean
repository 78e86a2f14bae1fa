/-
  Proved here: whether two Structs of the same names are equal.
-/
import Derived.Test.YtifanilblkellaaGreatDoorSsA
namespace Go.Proofs.YtifanilblkellaaGreatDoor
open Go.SX Go.RowKit Go.Vo Go.Ss
namespace Fp
theorem en50 : Enters Tryz.prog 50 := Enters.of Tryz.func50 (by kernel_rfl) (by kernel_rfl)
theorem en72 : Enters Tryz.prog 72 := Enters.of Tryz.func72 (by kernel_rfl) (by kernel_rfl)
theorem en74 : Enters Tryz.prog 74 := Enters.of Tryz.func74 (by kernel_rfl) (by kernel_rfl)
theorem en96 : Enters Tryz.prog 96 := Enters.of Tryz.func96 (by kernel_rfl) (by kernel_rfl)
theorem fo115_1 : FieldOff Tryz.prog 115 1 0 := fun b o w => by kernel_rfl
theorem fo115_2 : FieldOff Tryz.prog 115 2 1 := fun b o w => by kernel_rfl
theorem one31 : One Tryz.prog 31 := fun w => by kernel_rfl
theorem one49 : One Tryz.prog 49 := fun w => by kernel_rfl
theorem one58 : One Tryz.prog 58 := fun w => by kernel_rfl
theorem one9 : One Tryz.prog 9 := fun w => by kernel_rfl
theorem sz31 : SizeIs Tryz.prog 31 1 := fun w => by kernel_rfl
theorem sz9 : SizeIs Tryz.prog 9 1 := fun w => by kernel_rfl
theorem un109 : Tryz.prog.underlying 109 = some (.pointer 115) := by kernel_rfl
theorem un131 : Tryz.prog.underlying 131 = some (.pointer 133) := by kernel_rfl
theorem un24 : Tryz.prog.underlying 24 = some (.pointer 76) := by kernel_rfl
theorem un49 : Tryz.prog.underlying 49 = some (.slice 31) := by kernel_rfl
theorem un58 : Tryz.prog.underlying 58 = some (.slice 9) := by kernel_rfl
theorem un77 : Tryz.prog.underlying 77 = some (.pointer 80) := by kernel_rfl
theorem un86 : Tryz.prog.underlying 86 = some .string := by kernel_rfl
theorem zv109 : ∀ w, (zeroValue 109).run Tryz.prog w = .ok (.pointer none) w := fun w => by kernel_rfl
theorem zv131 : ∀ w, (zeroValue 131).run Tryz.prog w = .ok (.pointer none) w := fun w => by kernel_rfl
theorem zv24 : ∀ w, (zeroValue 24).run Tryz.prog w = .ok (.pointer none) w := fun w => by kernel_rfl
theorem zv77 : ∀ w, (zeroValue 77).run Tryz.prog w = .ok (.pointer none) w := fun w => by kernel_rfl
theorem zv86 : ∀ w, (zeroValue 86).run Tryz.prog w = .ok (.string ⟨#[]⟩) w := fun w => by kernel_rfl
theorem nif109 : NotIface Tryz.prog 109 := NotIface.of un109 (fun ms h => by cases h)
theorem nif131 : NotIface Tryz.prog 131 := NotIface.of un131 (fun ms h => by cases h)
theorem nif24 : NotIface Tryz.prog 24 := NotIface.of un24 (fun ms h => by cases h)
theorem nif77 : NotIface Tryz.prog 77 := NotIface.of un77 (fun ms h => by cases h)
theorem nif86 : NotIface Tryz.prog 86 := NotIface.of un86 (fun ms h => by cases h)
end Fp
theorem equalV_c {w0 : World} {base : Nat} {fr : List It} (bk : Nat) {dd L : Int} (hd : 0 ≤ dd ∧ dd ≤ 60) (hL : 1 ≤ L ∧ L ≤ 5000) {i : Nat} {o : Option Nat} {u v : Value} (hx : VV w0 base (some i) u) (hy : VV w0 base o v) : FnC Tryz.prog 50 #[.pointer (some ⟨bk, 0, none⟩), u, v, .int .i64 dd] (WA w0 base (blk bk [.int .i64 L] 118 :: fr)) (fun _ : Unit => .tuple #[.bool (decide (some i = o)), .nilIface]) (fun _ => WA w0 base (blk bk [.int .i64 (L - 1)] 118 :: fr)) := by
  obtain ⟨u1, rfl, h1, _⟩ := hx
  cases o with
  | none =>
    obtain rfl : v = .iface 107 (.agg #[]) := hy
    exact equalWN_c bk hd hL h1
  | some j =>
    obtain ⟨v1, rfl, h2, _⟩ := hy
    have h := equalW_c (fr := fr) bk hd hL h1 h2
    have e : decide (cmp3 (i : Int) (j : Int) = 0) = decide (some i = some j) := by
      refine decide_eq_decide.2 ?_
      unfold cmp3
      split
      · constructor
        · intro h; cases h
        · intro h; cases h; omega
      · split
        · constructor
          · intro h; cases h
          · intro h; cases h; omega
        · constructor
          · intro _; congr 1; omega
          · intro _; rfl
    rw [e] at h
    exact h
theorem all_c {w0 : World} {base : Nat} {fr : List It} (bk : Nat) {L : Int} (hL : 100 ≤ L ∧ L ≤ 5000) {os1 os2 : List (Option Nat)} {av bv : Option Addr} {us1 us2 : List Value} (c1 c2 : Nat) (s1 : Sl w0 base av us1) (v1 : Vs w0 base os1 us1) (s2 : Sl w0 base bv us2) (v2 : Vs w0 base os2 us2) (l1 : os1.length ≤ 12) (hsm : ∀ o ∈ os1, o ≠ none) : FnC Tryz.prog 72 #[.pointer (some ⟨bk, 0, none⟩), .slice av os1.length c1, .slice bv os2.length c2, .int .i64 0] (WA w0 base (blk bk [.int .i64 L] 118 :: fr)) (fun _ : Int => .tuple #[.bool (decide (os1 = os2)), .nilIface]) (fun L2 => WA w0 base (blk bk [.int .i64 L2] 118 :: fr)) := by
  refine FnC.of_body (fn := Tryz.f72) [(0, _), (1, _), (2, _), (3, _)] Tryz.func72 rfl Tryz.ntmps72 rfl ⟨rfl, rfl, rfl, rfl, trivial⟩ ?_
  refine CX.seq ?_
  refine CX.region ?_
  refine LX.pure (Y.assign rfl) rfl rfl rfl ?_
  refine LX.pure (Y.assign rfl) rfl rfl rfl ?_
  refine LX.sub (l' := [(0, _), (1, _), (2, _), (3, _), (8, _), (9, _)]) ⟨rfl, rfl, rfl, rfl, rfl, rfl, trivial⟩ ?_
  refine LX.next ?_
  refine PX.thenN ?_
  refine CX.seq ?_
  refine CX.seq ?_
  refine CX.region ?_
  refine LX.pure (Y.move rfl) rfl rfl rfl ?_
  refine LX.pure (Y.lenSl rfl Fp.un49 rfl) rfl rfl rfl ?_
  refine LX.pure (Y.move rfl) rfl rfl rfl ?_
  refine LX.pure (Y.lenSl rfl Fp.un49 rfl) rfl rfl rfl ?_
  first
    | refine LX.pure (Y.neN rfl rfl) rfl rfl rfl ?_
    | refine LX.pure (Y.neI rfl rfl) rfl rfl rfl ?_
  refine LX.sub (l' := [(0, _), (1, _), (2, _), (3, _), (8, _), (9, _), (18, _)]) ⟨rfl, rfl, rfl, rfl, rfl, rfl, rfl, trivial⟩ ?_
  refine LX.next ?_
  refine PX.thenN ?_
  refine CX.cond rfl (fun hb1 => ?_) (fun hb1 => ?_)
  · try simp at hb1
    refine CX.seq ?_
    refine CX.region ?_
    refine LX.pure (Y.assign rfl) rfl rfl rfl ?_
    refine LX.pure (Y.assign rfl) rfl rfl rfl ?_
    refine LX.sub (l' := [(0, _), (1, _), (2, _), (3, _), (8, _), (9, _)]) ⟨rfl, rfl, rfl, rfl, rfl, rfl, trivial⟩ ?_
    refine LX.next ?_
    refine PX.thenN ?_
    refine CX.ret ?_
    refine PX.thenR ?_
    refine PX.ret2 (by simp) Tryz.results72 rfl rfl ?_
    exact fun w hw => ⟨L, by rw [decide_eq_false (fun e => hb1 (congrArg List.length e))], hw⟩
  · try simp at hb1
    refine CX.skip ?_
    refine PX.thenN ?_
    refine CX.seq ?_
    refine CX.seq ?_
    refine CX.region ?_
    refine LX.pure (Y.move rfl) rfl rfl rfl ?_
    refine LX.pure (Y.lenSl rfl Fp.un49 rfl) rfl rfl rfl ?_
    refine LX.pure (Y.move rfl) rfl rfl rfl ?_
    refine LX.sub (l' := [(0, _), (1, _), (2, _), (3, _), (8, _), (9, _), (20, _), (21, _)]) ⟨rfl, rfl, rfl, rfl, rfl, rfl, rfl, rfl, trivial⟩ ?_
    refine LX.next ?_
    refine PX.thenN ?_
    refine CX.block ?_
    refine CX.loop (fun i : Nat => [(0, .pointer (some ⟨bk, 0, none⟩)), (1, .slice av os1.length c1), (2, .slice bv os2.length c2), (3, .int .i64 0), (20, .int .i64 (os1.length : Int)), (21, .int .i64 (i : Int))]) (fun (i : Nat) w => (i ≤ os1.length ∧ os1.take i = os2.take i) ∧ WA w0 base (blk bk [.int .i64 (L - i)] 118 :: fr) w) (fun i => os1.length - i) 0 ⟨rfl, rfl, rfl, rfl, rfl, rfl, trivial⟩ (fun w hw => ⟨⟨Nat.zero_le _, rfl⟩, by simpa using hw⟩) ?_
    intro i
    refine CX.have fun ⟨hi0, htk⟩ => ?_
    try dsimp only at hi0 htk ⊢
    refine CX.seq ?_
    refine CX.region ?_
    first
      | refine LX.pure (Y.ltN rfl rfl) rfl rfl rfl ?_
      | refine LX.pure (Y.ltI rfl rfl) rfl rfl rfl ?_
    refine LX.sub (l' := [(0, _), (1, _), (2, _), (3, _), (20, _), (21, _), (22, _)]) ⟨rfl, rfl, rfl, rfl, rfl, rfl, rfl, trivial⟩ ?_
    refine LX.next ?_
    refine PX.thenN ?_
    refine CX.seq ?_
    refine CX.cond rfl (fun hb2 => ?_) (fun hb2 => ?_)
    · try simp at hb2
      obtain ⟨o1, a1, u1, ho1, ha1, hq1, hc1, hu1⟩ := el s1 v1 (i := i) (by omega)
      obtain ⟨o2, a2, u2, ho2, ha2, hq2, hc2, hu2⟩ := el s2 v2 (i := i) (by omega)
      obtain ⟨j1, rfl⟩ : ∃ j, o1 = some j := by
        cases o1 with
        | none => exact absurd rfl (hsm _ (List.mem_of_getElem? ho1))
        | some j => exact ⟨j, rfl⟩
      refine CX.skip ?_
      refine PX.thenN ?_
      refine CX.seq ?_
      refine CX.block ?_
      refine CX.seq ?_
      refine CX.region ?_
      refine LX.pure (Y.move rfl) rfl rfl rfl ?_
      refine LX.pure (Y.assign rfl) rfl rfl rfl ?_
      refine LX.sub (l' := [(0, _), (1, _), (2, _), (3, _), (10, _), (20, _), (21, _)]) ⟨rfl, rfl, rfl, rfl, rfl, rfl, rfl, trivial⟩ ?_
      refine LX.next ?_
      refine PX.thenN ?_
      refine CX.seq ?_
      refine CX.regionM [(0, .anywhere), (1, .anywhere), (2, .anywhere), (3, .held), (4, .held), (5, .anywhere), (6, .anywhere), (7, .held), (8, .held), (9, .anywhere), (10, .anywhere), (11, .alone), (12, .anywhere), (13, .anywhere), (15, .anywhere), (14, .anywhere), (16, .anywhere)] rfl (by kernel_rfl) ?_
      refine MX.lift0 (i := 0) rfl (Y.move rfl) rfl rfl rfl ?_
      refine MX.lift0 (i := 1) rfl (Y.move rfl) rfl rfl rfl ?_
      refine MX.lift0 (i := 2) rfl (Y.move rfl) rfl rfl rfl ?_
      refine MX.lift1 (i := 3) (pend' := []) rfl (fun w hw => by first | exact hw | exact hw.1 | exact hw.drop (List.sublist_cons_self _ _) | exact hw.drop ((List.sublist_cons_self _ _).cons _)) (Y.idxS Fp.un49 Fp.sz31 rfl rfl (by omega) ha1) rfl rfl rfl (by kernel_rfl) ?_
      refine MX.lift1 (i := 4) (pend' := []) rfl (fun w hw => by first | exact hw | exact hw.1 | exact hw.drop (List.sublist_cons_self _ _) | exact hw.drop ((List.sublist_cons_self _ _).cons _)) (Y.ldO Fp.one31 rfl hc1 hq1) rfl rfl rfl (by kernel_rfl) ?_
      refine MX.lift0 (i := 5) rfl (Y.move rfl) rfl rfl rfl ?_
      refine MX.lift0 (i := 6) rfl (Y.move rfl) rfl rfl rfl ?_
      refine MX.lift1 (i := 7) (pend' := [4]) rfl (fun w hw => by first | exact hw | exact hw.1 | exact hw.drop (List.sublist_cons_self _ _) | exact hw.drop ((List.sublist_cons_self _ _).cons _)) (Y.idxS Fp.un49 Fp.sz31 rfl rfl (by omega) ha2) rfl rfl rfl (by kernel_rfl) ?_
      refine MX.lift1 (i := 8) (pend' := [4]) rfl (fun w hw => by first | exact hw | exact hw.1 | exact hw.drop (List.sublist_cons_self _ _) | exact hw.drop ((List.sublist_cons_self _ _).cons _)) (Y.ldO Fp.one31 rfl hc2 hq2) rfl rfl rfl (by kernel_rfl) ?_
      refine MX.lift0 (i := 9) rfl (Y.move rfl) rfl rfl rfl ?_
      refine MX.lift0 (i := 10) rfl (Y.add (a := 0) (b := 1) rfl rfl (by omega)) rfl rfl rfl ?_
      refine MX.force (i := 11) rfl ?_
      refine LX.call (equalV_c bk (dd := 0 + 1) (L := L - i) (by omega) (by omega) hu1 hu2) Fp.en50 rfl rfl rfl rfl rfl ?_
      intro _
      refine LX.nextM [] (by kernel_rfl) (fun h => absurd rfl h) ?_
      refine MX.lift0 (i := 12) rfl (Y.move rfl) rfl rfl rfl ?_
      refine MX.lift0 (i := 13) rfl (Y.extract rfl rfl) rfl rfl rfl ?_
      refine MX.lift0 (i := 15) rfl (Y.assign rfl) rfl rfl rfl ?_
      refine MX.lift0 (i := 14) rfl (Y.extract rfl rfl) rfl rfl rfl ?_
      refine MX.lift0 (i := 16) rfl (Y.assign rfl) rfl rfl rfl ?_
      refine MX.sub (l' := [(0, _), (1, _), (2, _), (3, _), (11, _), (12, _), (20, _), (21, _)]) ⟨rfl, rfl, rfl, rfl, rfl, rfl, rfl, rfl, trivial⟩ ?_
      refine MX.done ?_
      refine PX.thenN ?_
      refine CX.seq ?_
      refine CX.region ?_
      refine LX.pure (Y.move rfl) rfl rfl rfl ?_
      refine LX.pure (Y.not rfl) rfl rfl rfl ?_
      refine LX.pure (Y.move rfl) rfl rfl rfl ?_
      refine LX.sub (l' := [(0, _), (1, _), (2, _), (3, _), (12, _), (20, _), (21, _), (41, _)]) ⟨rfl, rfl, rfl, rfl, rfl, rfl, rfl, rfl, trivial⟩ ?_
      apply LX.joinOr 3 44 41 rfl
      · intro hb3
        have hb3p := hb3
        try simp at hb3p
        refine LX.gF rfl rfl rfl hb3 rfl rfl ?_
        refine LX.gF rfl rfl rfl hb3 rfl rfl ?_
        refine LX.pure (Y.pickT rfl hb3 rfl) rfl rfl rfl ?_
        exact LX.left ⟨rfl, rfl, rfl, rfl, rfl, rfl, rfl, rfl, rfl, trivial⟩
      · intro hb3
        have hb3p := hb3
        try simp at hb3p
        refine LX.gT rfl rfl rfl hb3 (Y.move rfl) rfl rfl ?_
        first
          | refine LX.gT rfl rfl rfl hb3 (Y.neNil Fo.un40 rfl rfl) rfl rfl ?_
          | refine LX.gT rfl rfl rfl hb3 (Y.neNilNil Fo.un40 rfl) rfl rfl ?_
        refine LX.pure (Y.pickF rfl hb3 rfl) rfl rfl rfl ?_
        exact LX.left ⟨rfl, rfl, rfl, rfl, rfl, rfl, rfl, rfl, rfl, trivial⟩
      refine LX.sub (l' := [(0, _), (1, _), (2, _), (3, _), (12, _), (20, _), (21, _), (44, _)]) ⟨rfl, rfl, rfl, rfl, rfl, rfl, rfl, rfl, trivial⟩ ?_
      refine LX.next ?_
      refine PX.thenN ?_
      refine CX.cond rfl (fun hb4 => ?_) (fun hb4 => ?_)
      · try simp at hb4
        refine CX.seq ?_
        refine CX.region ?_
        refine LX.pure (Y.move rfl) rfl rfl rfl ?_
        refine LX.pure (Y.assign rfl) rfl rfl rfl ?_
        refine LX.pure (Y.assign rfl) rfl rfl rfl ?_
        refine LX.sub (l' := [(0, _), (1, _), (2, _), (3, _), (8, _), (9, _), (20, _), (21, _)]) ⟨rfl, rfl, rfl, rfl, rfl, rfl, rfl, rfl, trivial⟩ ?_
        refine LX.next ?_
        refine PX.thenN ?_
        refine CX.ret ?_
        refine PX.blockR ?_
        refine PX.thenR ?_
        refine PX.thenR ?_
        refine PX.blockR ?_
        refine PX.thenR ?_
        refine PX.ret2 (by simp) Tryz.results72 rfl rfl ?_
        exact fun w hw => ⟨L - i - 1, by rw [decide_eq_false (ne_at ho1 ho2 (by first | assumption | simp_all))]; rfl, hw⟩
      · try simp at hb4
        refine CX.skip ?_
        refine PX.blockN ?_
        refine PX.thenN ?_
        refine CX.region ?_
        first
          | refine LX.pure (Y.addN rfl rfl (by first | omega | (simp only []; omega) | (simp; done) | (simp; omega))) rfl rfl rfl ?_
          | refine LX.pure (Y.add rfl rfl (by first | omega | (simp only []; omega) | (simp; done) | (simp; omega))) rfl rfl rfl ?_
        refine LX.pure (Y.move rfl) rfl rfl rfl ?_
        refine LX.sub (l' := [(0, _), (1, _), (2, _), (3, _), (20, _), (21, _)]) ⟨rfl, rfl, rfl, rfl, rfl, rfl, trivial⟩ ?_
        refine LX.next ?_
        exact PX.again (L := (fun i : Nat => [(0, .pointer (some ⟨bk, 0, none⟩)), (1, .slice av os1.length c1), (2, .slice bv os2.length c2), (3, .int .i64 0), (20, .int .i64 (os1.length : Int)), (21, .int .i64 (i : Int))])) (WW := (fun (i : Nat) w => (i ≤ os1.length ∧ os1.take i = os2.take i) ∧ WA w0 base (blk bk [.int .i64 (L - i)] 118 :: fr) w)) (μ := fun i => os1.length - i) (i := i) (i + 1) (by show os1.length - (i + 1) < os1.length - i; omega) ⟨rfl, rfl, rfl, rfl, rfl, rfl, trivial⟩ (fun w hw => ⟨⟨by omega, take_step htk ho1 ho2 (by first | assumption | simp_all)⟩, by rw [show L - ((i + 1 : Nat) : Int) = L - i - 1 by omega]; exact hw⟩)
    · try simp at hb2
      have hie : i = os1.length := by omega
      refine CX.exit ?_
      refine PX.thenE ?_
      refine PX.thenE ?_
      refine PX.blockE ?_
      refine PX.thenN ?_
      refine CX.seq ?_
      refine CX.seq ?_
      refine CX.region ?_
      refine LX.pure (Y.move rfl) rfl rfl rfl ?_
      refine LX.pure (Y.lenSl rfl Fp.un49 rfl) rfl rfl rfl ?_
      refine LX.pure (Y.move rfl) rfl rfl rfl ?_
      refine LX.call (shallow_c _ (by omega)) Fp.en96 rfl rfl rfl rfl rfl ?_
      intro _
      refine LX.pure (Y.assign rfl) rfl rfl rfl ?_
      refine LX.sub (l' := [(13, _)]) ⟨rfl, trivial⟩ ?_
      refine LX.next ?_
      refine PX.thenN ?_
      refine CX.seq ?_
      refine CX.region ?_
      refine LX.pure (Y.move rfl) rfl rfl rfl ?_
      first
        | refine LX.pure (Y.neNil Fo.un40 rfl rfl) rfl rfl rfl ?_
        | refine LX.pure (Y.neNilNil Fo.un40 rfl) rfl rfl rfl ?_
      refine LX.sub (l' := [(13, _), (52, _)]) ⟨rfl, rfl, trivial⟩ ?_
      refine LX.next ?_
      refine PX.thenN ?_
      refine CX.cond rfl (fun hb5 => ?_) (fun hb5 => ?_)
      · try simp at hb5
        first | done | (exfalso; omega) | (exfalso; simp_all; done) | (exfalso; simp_all; omega)
      · try simp at hb5
        refine CX.skip ?_
        refine PX.thenN ?_
        refine CX.seq ?_
        refine CX.region ?_
        refine LX.pure (Y.assign rfl) rfl rfl rfl ?_
        refine LX.pure (Y.assign rfl) rfl rfl rfl ?_
        refine LX.sub (l' := [(8, _), (9, _)]) ⟨rfl, rfl, trivial⟩ ?_
        refine LX.next ?_
        refine PX.thenN ?_
        refine CX.ret ?_
        refine PX.ret2 (by simp) Tryz.results72 rfl rfl ?_
        exact fun w hw => ⟨L - i, by rw [decide_eq_true (take_all htk hie (by omega))], hw⟩
theorem seq_c {w0 : World} {base : Nat} {fr : List It} {S : List T} {av bv : Option Addr} (c1 c2 : Nat) (s1 : Sl w0 base av (S.map str)) (s2 : Sl w0 base bv (S.map str)) (l1 : S.length ≤ 12) : FnC Tryz.prog 74 #[.slice av S.length c1, .slice bv S.length c2] (WA w0 base fr) (fun _ : Unit => .bool true) (fun _ => WA w0 base fr) := by
  refine FnC.of_body (fn := Tryz.f74) [(0, _), (1, _)] Tryz.func74 rfl Tryz.ntmps74 rfl ⟨rfl, rfl, trivial⟩ ?_
  refine CX.seq ?_
  refine CX.region ?_
  refine LX.pure (Y.assign rfl) rfl rfl rfl ?_
  refine LX.sub (l' := [(0, _), (1, _), (4, _)]) ⟨rfl, rfl, rfl, trivial⟩ ?_
  refine LX.next ?_
  refine PX.thenN ?_
  refine CX.seq ?_
  refine CX.seq ?_
  refine CX.region ?_
  refine LX.pure (Y.move rfl) rfl rfl rfl ?_
  refine LX.pure (Y.lenSl rfl Fp.un58 rfl) rfl rfl rfl ?_
  refine LX.pure (Y.move rfl) rfl rfl rfl ?_
  refine LX.pure (Y.lenSl rfl Fp.un58 rfl) rfl rfl rfl ?_
  first
    | refine LX.pure (Y.neN rfl rfl) rfl rfl rfl ?_
    | refine LX.pure (Y.neI rfl rfl) rfl rfl rfl ?_
  refine LX.sub (l' := [(0, _), (1, _), (4, _), (10, _)]) ⟨rfl, rfl, rfl, rfl, trivial⟩ ?_
  refine LX.next ?_
  refine PX.thenN ?_
  refine CX.cond rfl (fun hb1 => ?_) (fun hb1 => ?_)
  · try simp at hb1
    first | done | (exfalso; omega) | (exfalso; simp_all; done) | (exfalso; simp_all; omega)
  · try simp at hb1
    refine CX.skip ?_
    refine PX.thenN ?_
    refine CX.seq ?_
    refine CX.seq ?_
    refine CX.region ?_
    refine LX.pure (Y.move rfl) rfl rfl rfl ?_
    refine LX.pure (Y.lenSl rfl Fp.un58 rfl) rfl rfl rfl ?_
    refine LX.pure (Y.move rfl) rfl rfl rfl ?_
    refine LX.sub (l' := [(0, _), (1, _), (4, _), (12, _), (13, _)]) ⟨rfl, rfl, rfl, rfl, rfl, trivial⟩ ?_
    refine LX.next ?_
    refine PX.thenN ?_
    refine CX.block ?_
    refine CX.loop (fun i : Nat => [(0, .slice av S.length c1), (1, .slice bv S.length c2), (12, .int .i64 (S.length : Int)), (13, .int .i64 (i : Int))]) (fun (i : Nat) w => i ≤ S.length ∧ WA w0 base fr w) (fun i => S.length - i) 0 ⟨rfl, rfl, rfl, rfl, trivial⟩ (fun w hw => ⟨Nat.zero_le _, hw⟩) ?_
    intro i
    refine CX.have fun hi0 => ?_
    try dsimp only at hi0 ⊢
    refine CX.seq ?_
    refine CX.region ?_
    first
      | refine LX.pure (Y.ltN rfl rfl) rfl rfl rfl ?_
      | refine LX.pure (Y.ltI rfl rfl) rfl rfl rfl ?_
    refine LX.sub (l' := [(0, _), (1, _), (12, _), (13, _), (14, _)]) ⟨rfl, rfl, rfl, rfl, rfl, trivial⟩ ?_
    refine LX.next ?_
    refine PX.thenN ?_
    refine CX.seq ?_
    refine CX.cond rfl (fun hb2 => ?_) (fun hb2 => ?_)
    · try simp at hb2
      obtain ⟨a1, ha1, hq1, hc1⟩ := s1.at_ i _ (str_at (i := i) (by omega))
      obtain ⟨a2, ha2, hq2, hc2⟩ := s2.at_ i _ (str_at (i := i) (by omega))
      refine CX.skip ?_
      refine PX.thenN ?_
      refine CX.seq ?_
      refine CX.block ?_
      refine CX.seq ?_
      refine CX.region ?_
      refine LX.pure (Y.move rfl) rfl rfl rfl ?_
      refine LX.pure (Y.assign rfl) rfl rfl rfl ?_
      refine LX.sub (l' := [(0, _), (1, _), (5, _), (12, _), (13, _)]) ⟨rfl, rfl, rfl, rfl, rfl, trivial⟩ ?_
      refine LX.next ?_
      refine PX.thenN ?_
      refine CX.seq ?_
      refine CX.regionQ rfl (by kernel_rfl) ?_
      refine LX.pure (Y.move rfl) rfl rfl rfl ?_
      refine LX.pure (Y.move rfl) rfl rfl rfl ?_
      refine LX.pure (Y.idxS Fp.un58 Fp.sz9 rfl rfl (by omega) ha1) rfl rfl rfl ?_
      refine LX.pure (Y.ldO Fp.one9 rfl hc1 hq1) rfl rfl rfl ?_
      refine LX.pure (Y.move rfl) rfl rfl rfl ?_
      refine LX.pure (Y.move rfl) rfl rfl rfl ?_
      refine LX.pure (Y.idxS Fp.un58 Fp.sz9 rfl rfl (by omega) ha2) rfl rfl rfl ?_
      refine LX.pure (Y.ldO Fp.one9 rfl hc2 hq2) rfl rfl rfl ?_
      refine LX.pure (Y.neS rfl rfl) rfl rfl rfl ?_
      refine LX.sub (l' := [(0, _), (1, _), (12, _), (13, _), (24, _)]) ⟨rfl, rfl, rfl, rfl, rfl, trivial⟩ ?_
      refine LX.nextQ ?_
      refine PX.thenN ?_
      refine CX.cond rfl (fun hb3 => ?_) (fun hb3 => ?_)
      · try simp at hb3
        first | done | (exfalso; omega) | (exfalso; simp_all; done) | (exfalso; simp_all; omega)
      · try simp at hb3
        refine CX.skip ?_
        refine PX.blockN ?_
        refine PX.thenN ?_
        refine CX.region ?_
        first
          | refine LX.pure (Y.addN rfl rfl (by first | omega | (simp only []; omega) | (simp; done) | (simp; omega))) rfl rfl rfl ?_
          | refine LX.pure (Y.add rfl rfl (by first | omega | (simp only []; omega) | (simp; done) | (simp; omega))) rfl rfl rfl ?_
        refine LX.pure (Y.move rfl) rfl rfl rfl ?_
        refine LX.sub (l' := [(0, _), (1, _), (12, _), (13, _)]) ⟨rfl, rfl, rfl, rfl, trivial⟩ ?_
        refine LX.next ?_
        exact PX.again (L := (fun i : Nat => [(0, .slice av S.length c1), (1, .slice bv S.length c2), (12, .int .i64 (S.length : Int)), (13, .int .i64 (i : Int))])) (WW := (fun (i : Nat) w => i ≤ S.length ∧ WA w0 base fr w)) (μ := fun i => S.length - i) (i := i) (i + 1) (by show S.length - (i + 1) < S.length - i; omega) ⟨rfl, rfl, rfl, rfl, trivial⟩ (fun w hw => ⟨by omega, hw⟩)
    · try simp at hb2
      refine CX.exit ?_
      refine PX.thenE ?_
      refine PX.thenE ?_
      refine PX.blockE ?_
      refine PX.thenN ?_
      refine CX.seq ?_
      refine CX.region ?_
      refine LX.pure (Y.assign rfl) rfl rfl rfl ?_
      refine LX.sub (l' := [(4, _)]) ⟨rfl, trivial⟩ ?_
      refine LX.next ?_
      refine PX.thenN ?_
      refine CX.ret ?_
      refine PX.ret1 (by simp) Tryz.results74 rfl ?_
      exact fun w hw => ⟨(), rfl, hw⟩
theorem equalS_c {w0 : World} {base : Nat} {fr : List It} (bk : Nat) {L : Int} (hL : 200 ≤ L ∧ L ≤ 5000) {S : List T} {os1 os2 : List (Option Nat)} {x y : Value} (hx : StV w0 base S os1 x) (hy : StV w0 base S os2 y) (l1 : S.length ≤ 12) (hsm : ∀ o ∈ os1, o ≠ none) : FnC Tryz.prog 50 #[.pointer (some ⟨bk, 0, none⟩), x, y, .int .i64 0] (WA w0 base (blk bk [.int .i64 L] 118 :: fr)) (fun _ : Int => .tuple #[.bool (decide (os1 = os2)), .nilIface]) (fun L2 => WA w0 base (blk bk [.int .i64 L2] 118 :: fr)) := by
  obtain ⟨b1, av1, c1, bv1, d1, us1, rfl, hq1, hn1, hf1, sn1, sv1, v1, k1⟩ := hx
  obtain ⟨b2, av2, c2, bv2, d2, us2, rfl, hq2, hn2, hf2, sn2, sv2, v2, k2⟩ := hy
  have al := all_c (fr := fr) bk (L := L - 1) (by omega) d1 d2 sv1 v1 sv2 v2 (by omega) hsm
  rw [k1, k2] at al
  refine FnC.of_body (fn := Tryz.f50) [(0, _), (1, _), (2, _), (3, _)] Tryz.func50 rfl Tryz.ntmps50 rfl ⟨rfl, rfl, rfl, rfl, trivial⟩ ?_
  refine CX.seq ?_
  refine CX.region ?_
  refine LX.pure (Y.assign rfl) rfl rfl rfl ?_
  refine LX.pure (Y.assign rfl) rfl rfl rfl ?_
  refine LX.sub (l' := [(0, _), (1, _), (2, _), (3, _), (8, _), (9, _)]) ⟨rfl, rfl, rfl, rfl, rfl, rfl, trivial⟩ ?_
  refine LX.next ?_
  refine PX.thenN ?_
  refine CX.seq ?_
  refine CX.seq ?_
  refine CX.region ?_
  refine LX.pure (Y.move rfl) rfl rfl rfl ?_
  refine LX.pure (Y.move rfl) rfl rfl rfl ?_
  refine LX.call (look_c bk (dd := 0) (by omega) (L := L) (by omega)) Fo.en70 rfl rfl rfl rfl rfl ?_
  intro _
  refine LX.pure (Y.assign rfl) rfl rfl rfl ?_
  refine LX.sub (l' := [(0, _), (1, _), (2, _), (3, _), (8, _), (9, _), (10, _)]) ⟨rfl, rfl, rfl, rfl, rfl, rfl, rfl, trivial⟩ ?_
  refine LX.next ?_
  refine PX.thenN ?_
  refine CX.seq ?_
  refine CX.region ?_
  refine LX.pure (Y.move rfl) rfl rfl rfl ?_
  first
    | refine LX.pure (Y.neNil Fo.un40 rfl rfl) rfl rfl rfl ?_
    | refine LX.pure (Y.neNilNil Fo.un40 rfl) rfl rfl rfl ?_
  refine LX.sub (l' := [(0, _), (1, _), (2, _), (3, _), (8, _), (9, _), (10, _), (25, _)]) ⟨rfl, rfl, rfl, rfl, rfl, rfl, rfl, rfl, trivial⟩ ?_
  refine LX.next ?_
  refine PX.thenN ?_
  refine CX.cond rfl (fun hb1 => ?_) (fun hb1 => ?_)
  · try simp at hb1
    first | done | (exfalso; omega) | (exfalso; simp_all; done) | (exfalso; simp_all; omega)
  · try simp at hb1
    refine CX.skip ?_
    refine PX.thenN ?_
    refine CX.seq ?_
    refine CX.seq ?_
    refine CX.region ?_
    refine LX.pure (Y.move rfl) rfl rfl rfl ?_
    refine LX.invC (kindS_c _) rfl (fun _ => by kernel_rfl) rfl rfl rfl rfl ?_
    intro _
    refine LX.pure (Y.move rfl) rfl rfl rfl ?_
    refine LX.invC (kindS_c _) rfl (fun _ => by kernel_rfl) rfl rfl rfl rfl ?_
    intro _
    first
      | refine LX.pure (Y.neN rfl rfl) rfl rfl rfl ?_
      | refine LX.pure (Y.neI rfl rfl) rfl rfl rfl ?_
    refine LX.sub (l' := [(0, _), (1, _), (2, _), (3, _), (8, _), (9, _), (31, _)]) ⟨rfl, rfl, rfl, rfl, rfl, rfl, rfl, trivial⟩ ?_
    refine LX.next ?_
    refine PX.thenN ?_
    refine CX.cond rfl (fun hb2 => ?_) (fun hb2 => ?_)
    · try simp at hb2
      first | done | (exfalso; omega) | (exfalso; simp_all; done) | (exfalso; simp_all; omega)
    · try simp at hb2
      refine CX.skip ?_
      refine PX.thenN ?_
      refine CX.seq ?_
      refine CX.seq ?_
      refine CX.region ?_
      refine LX.pure (Y.move rfl) rfl rfl rfl ?_
      refine LX.sub (l' := [(0, _), (1, _), (2, _), (3, _), (8, _), (9, _), (32, _)]) ⟨rfl, rfl, rfl, rfl, rfl, rfl, rfl, trivial⟩ ?_
      refine LX.next ?_
      refine PX.thenN ?_
      refine CX.block ?_
      refine CX.seq ?_
      refine CX.region ?_
      first
        | refine LX.pure (Y.assertYes Fo.nif107 rfl) rfl rfl rfl ?_
        | refine LX.pure (Y.assertNo Fo.nif107 rfl (by decide) Fo.zv107) rfl rfl rfl ?_
      refine LX.pure (Y.extract rfl rfl) rfl rfl rfl ?_
      refine LX.pure (Y.extract rfl rfl) rfl rfl rfl ?_
      refine LX.sub (l' := [(0, _), (1, _), (2, _), (3, _), (8, _), (9, _), (32, _), (34, _), (35, _)]) ⟨rfl, rfl, rfl, rfl, rfl, rfl, rfl, rfl, rfl, trivial⟩ ?_
      refine LX.next ?_
      refine PX.thenN ?_
      refine CX.cond rfl (fun hb3 => ?_) (fun hb3 => ?_)
      · try simp at hb3
        first | done | (exfalso; omega) | (exfalso; simp_all; done) | (exfalso; simp_all; omega)
      · try simp at hb3
        refine CX.seq ?_
        refine CX.region ?_
        first
          | refine LX.pure (Y.assertYes Fo.nif135 rfl) rfl rfl rfl ?_
          | refine LX.pure (Y.assertNo Fo.nif135 rfl (by decide) Fo.zv135) rfl rfl rfl ?_
        refine LX.pure (Y.extract rfl rfl) rfl rfl rfl ?_
        refine LX.pure (Y.extract rfl rfl) rfl rfl rfl ?_
        refine LX.sub (l' := [(0, _), (1, _), (2, _), (3, _), (8, _), (9, _), (32, _), (37, _), (38, _)]) ⟨rfl, rfl, rfl, rfl, rfl, rfl, rfl, rfl, rfl, trivial⟩ ?_
        refine LX.next ?_
        refine PX.thenN ?_
        refine CX.cond rfl (fun hb4 => ?_) (fun hb4 => ?_)
        · try simp at hb4
          first | done | (exfalso; omega) | (exfalso; simp_all; done) | (exfalso; simp_all; omega)
        · try simp at hb4
          refine CX.seq ?_
          refine CX.region ?_
          first
            | refine LX.pure (Y.assertYes Fo.nif82 rfl) rfl rfl rfl ?_
            | refine LX.pure (Y.assertNo Fo.nif82 rfl (by decide) Fo.zv82) rfl rfl rfl ?_
          refine LX.pure (Y.extract rfl rfl) rfl rfl rfl ?_
          refine LX.pure (Y.extract rfl rfl) rfl rfl rfl ?_
          refine LX.sub (l' := [(0, _), (1, _), (2, _), (3, _), (8, _), (9, _), (32, _), (44, _), (45, _)]) ⟨rfl, rfl, rfl, rfl, rfl, rfl, rfl, rfl, rfl, trivial⟩ ?_
          refine LX.next ?_
          refine PX.thenN ?_
          refine CX.cond rfl (fun hb5 => ?_) (fun hb5 => ?_)
          · try simp at hb5
            first | done | (exfalso; omega) | (exfalso; simp_all; done) | (exfalso; simp_all; omega)
          · try simp at hb5
            refine CX.seq ?_
            refine CX.region ?_
            first
              | refine LX.pure (Y.assertYes Fp.nif86 rfl) rfl rfl rfl ?_
              | refine LX.pure (Y.assertNo Fp.nif86 rfl (by decide) Fp.zv86) rfl rfl rfl ?_
            refine LX.pure (Y.extract rfl rfl) rfl rfl rfl ?_
            refine LX.pure (Y.extract rfl rfl) rfl rfl rfl ?_
            refine LX.sub (l' := [(0, _), (1, _), (2, _), (3, _), (8, _), (9, _), (32, _), (54, _), (55, _)]) ⟨rfl, rfl, rfl, rfl, rfl, rfl, rfl, rfl, rfl, trivial⟩ ?_
            refine LX.next ?_
            refine PX.thenN ?_
            refine CX.cond rfl (fun hb6 => ?_) (fun hb6 => ?_)
            · try simp at hb6
              first | done | (exfalso; omega) | (exfalso; simp_all; done) | (exfalso; simp_all; omega)
            · try simp at hb6
              refine CX.seq ?_
              refine CX.region ?_
              first
                | refine LX.pure (Y.assertYes Fp.nif131 rfl) rfl rfl rfl ?_
                | refine LX.pure (Y.assertNo Fp.nif131 rfl (by decide) Fp.zv131) rfl rfl rfl ?_
              refine LX.pure (Y.extract rfl rfl) rfl rfl rfl ?_
              refine LX.pure (Y.extract rfl rfl) rfl rfl rfl ?_
              refine LX.sub (l' := [(0, _), (1, _), (2, _), (3, _), (8, _), (9, _), (32, _), (61, _), (62, _)]) ⟨rfl, rfl, rfl, rfl, rfl, rfl, rfl, rfl, rfl, trivial⟩ ?_
              refine LX.next ?_
              refine PX.thenN ?_
              refine CX.cond rfl (fun hb7 => ?_) (fun hb7 => ?_)
              · try simp at hb7
                first | done | (exfalso; omega) | (exfalso; simp_all; done) | (exfalso; simp_all; omega)
              · try simp at hb7
                refine CX.seq ?_
                refine CX.region ?_
                first
                  | refine LX.pure (Y.assertYes Fp.nif77 rfl) rfl rfl rfl ?_
                  | refine LX.pure (Y.assertNo Fp.nif77 rfl (by decide) Fp.zv77) rfl rfl rfl ?_
                refine LX.pure (Y.extract rfl rfl) rfl rfl rfl ?_
                refine LX.pure (Y.extract rfl rfl) rfl rfl rfl ?_
                refine LX.sub (l' := [(0, _), (1, _), (2, _), (3, _), (8, _), (9, _), (32, _), (78, _), (79, _)]) ⟨rfl, rfl, rfl, rfl, rfl, rfl, rfl, rfl, rfl, trivial⟩ ?_
                refine LX.next ?_
                refine PX.thenN ?_
                refine CX.cond rfl (fun hb8 => ?_) (fun hb8 => ?_)
                · try simp at hb8
                  first | done | (exfalso; omega) | (exfalso; simp_all; done) | (exfalso; simp_all; omega)
                · try simp at hb8
                  refine CX.seq ?_
                  refine CX.region ?_
                  first
                    | refine LX.pure (Y.assertYes Fp.nif24 rfl) rfl rfl rfl ?_
                    | refine LX.pure (Y.assertNo Fp.nif24 rfl (by decide) Fp.zv24) rfl rfl rfl ?_
                  refine LX.pure (Y.extract rfl rfl) rfl rfl rfl ?_
                  refine LX.pure (Y.extract rfl rfl) rfl rfl rfl ?_
                  refine LX.sub (l' := [(0, _), (1, _), (2, _), (3, _), (8, _), (9, _), (32, _), (95, _), (96, _)]) ⟨rfl, rfl, rfl, rfl, rfl, rfl, rfl, rfl, rfl, trivial⟩ ?_
                  refine LX.next ?_
                  refine PX.thenN ?_
                  refine CX.cond rfl (fun hb9 => ?_) (fun hb9 => ?_)
                  · try simp at hb9
                    first | done | (exfalso; omega) | (exfalso; simp_all; done) | (exfalso; simp_all; omega)
                  · try simp at hb9
                    refine CX.seq ?_
                    refine CX.region ?_
                    first
                      | refine LX.pure (Y.assertYes Fp.nif109 rfl) rfl rfl rfl ?_
                      | refine LX.pure (Y.assertNo Fp.nif109 rfl (by decide) Fp.zv109) rfl rfl rfl ?_
                    refine LX.pure (Y.extract rfl rfl) rfl rfl rfl ?_
                    refine LX.pure (Y.extract rfl rfl) rfl rfl rfl ?_
                    refine LX.sub (l' := [(0, _), (1, _), (2, _), (3, _), (8, _), (9, _), (32, _), (106, _), (107, _)]) ⟨rfl, rfl, rfl, rfl, rfl, rfl, rfl, rfl, rfl, trivial⟩ ?_
                    refine LX.next ?_
                    refine PX.thenN ?_
                    refine CX.cond rfl (fun hb10 => ?_) (fun hb10 => ?_)
                    · try simp at hb10
                      refine CX.seq ?_
                      refine CX.region ?_
                      refine LX.pure (Y.assign rfl) rfl rfl rfl ?_
                      refine LX.sub (l' := [(0, _), (1, _), (2, _), (3, _), (8, _), (9, _), (18, _)]) ⟨rfl, rfl, rfl, rfl, rfl, rfl, rfl, trivial⟩ ?_
                      refine LX.next ?_
                      refine PX.thenN ?_
                      refine CX.seq ?_
                      refine CX.region ?_
                      refine LX.pure (Y.move rfl) rfl rfl rfl ?_
                      refine LX.pure (Y.assert1 Fp.nif109 rfl) rfl rfl rfl ?_
                      refine LX.pure (Y.assign rfl) rfl rfl rfl ?_
                      refine LX.sub (l' := [(0, _), (1, _), (2, _), (3, _), (8, _), (9, _), (18, _), (19, _)]) ⟨rfl, rfl, rfl, rfl, rfl, rfl, rfl, rfl, trivial⟩ ?_
                      refine LX.next ?_
                      refine PX.thenN ?_
                      refine CX.seq ?_
                      refine CX.seq ?_
                      refine CX.regionM [(0, .anywhere), (1, .anywhere), (2, .anywhere), (3, .held), (4, .anywhere), (5, .anywhere), (6, .anywhere), (7, .held), (8, .alone), (9, .anywhere)] rfl (by kernel_rfl) ?_
                      refine MX.lift0 (i := 0) rfl (Y.move rfl) rfl rfl rfl ?_
                      refine MX.lift0 (i := 1) rfl (Y.nilCheck rfl) rfl rfl rfl ?_
                      first
                        | refine MX.lift0 (i := 2) rfl (Y.fieldAddr0 Fp.fo115_1 rfl) rfl rfl rfl ?_
                        | refine MX.lift0 (i := 2) rfl (Y.fieldAddr Fp.fo115_1 rfl) rfl rfl rfl ?_
                      refine MX.lift1 (i := 3) (pend' := []) rfl (fun w hw => by first | exact hw | exact hw.1 | exact hw.drop (List.sublist_cons_self _ _) | exact hw.drop ((List.sublist_cons_self _ _).cons _)) (Y.ldO Fp.one58 rfl hn1 hq1) rfl rfl rfl (by kernel_rfl) ?_
                      refine MX.lift0 (i := 4) rfl (Y.move rfl) rfl rfl rfl ?_
                      refine MX.lift0 (i := 5) rfl (Y.nilCheck rfl) rfl rfl rfl ?_
                      first
                        | refine MX.lift0 (i := 6) rfl (Y.fieldAddr0 Fp.fo115_1 rfl) rfl rfl rfl ?_
                        | refine MX.lift0 (i := 6) rfl (Y.fieldAddr Fp.fo115_1 rfl) rfl rfl rfl ?_
                      refine MX.lift1 (i := 7) (pend' := [3]) rfl (fun w hw => by first | exact hw | exact hw.1 | exact hw.drop (List.sublist_cons_self _ _) | exact hw.drop ((List.sublist_cons_self _ _).cons _)) (Y.ldO Fp.one58 rfl hn2 hq2) rfl rfl rfl (by kernel_rfl) ?_
                      refine MX.force (i := 8) rfl ?_
                      refine LX.call (seq_c c1 c2 sn1 sn2 l1) Fp.en74 rfl rfl rfl rfl rfl ?_
                      intro _
                      refine LX.nextM [] (by kernel_rfl) (fun h => absurd rfl h) ?_
                      refine MX.lift0 (i := 9) rfl (Y.not rfl) rfl rfl rfl ?_
                      refine MX.sub (l' := [(0, _), (1, _), (2, _), (3, _), (8, _), (9, _), (18, _), (19, _), (119, _)]) ⟨rfl, rfl, rfl, rfl, rfl, rfl, rfl, rfl, rfl, trivial⟩ ?_
                      refine MX.done ?_
                      refine PX.thenN ?_
                      refine CX.cond rfl (fun hb11 => ?_) (fun hb11 => ?_)
                      · try simp at hb11
                        first | done | (exfalso; omega) | (exfalso; simp_all; done) | (exfalso; simp_all; omega)
                      · try simp at hb11
                        refine CX.skip ?_
                        refine PX.thenN ?_
                        refine CX.seq ?_
                        refine CX.regionM [(0, .anywhere), (1, .anywhere), (2, .anywhere), (3, .anywhere), (4, .held), (5, .anywhere), (6, .anywhere), (7, .anywhere), (8, .held), (9, .anywhere), (10, .alone), (11, .anywhere), (12, .anywhere), (13, .anywhere), (14, .anywhere)] rfl (by kernel_rfl) ?_
                        refine MX.lift0 (i := 0) rfl (Y.move rfl) rfl rfl rfl ?_
                        refine MX.lift0 (i := 1) rfl (Y.move rfl) rfl rfl rfl ?_
                        refine MX.lift0 (i := 2) rfl (Y.nilCheck rfl) rfl rfl rfl ?_
                        first
                          | refine MX.lift0 (i := 3) rfl (Y.fieldAddr0 Fp.fo115_2 rfl) rfl rfl rfl ?_
                          | refine MX.lift0 (i := 3) rfl (Y.fieldAddr Fp.fo115_2 rfl) rfl rfl rfl ?_
                        refine MX.lift1 (i := 4) (pend' := []) rfl (fun w hw => by first | exact hw | exact hw.1 | exact hw.drop (List.sublist_cons_self _ _) | exact hw.drop ((List.sublist_cons_self _ _).cons _)) (Y.ldO Fp.one49 rfl hf1 hq1) rfl rfl rfl (by kernel_rfl) ?_
                        refine MX.lift0 (i := 5) rfl (Y.move rfl) rfl rfl rfl ?_
                        refine MX.lift0 (i := 6) rfl (Y.nilCheck rfl) rfl rfl rfl ?_
                        first
                          | refine MX.lift0 (i := 7) rfl (Y.fieldAddr0 Fp.fo115_2 rfl) rfl rfl rfl ?_
                          | refine MX.lift0 (i := 7) rfl (Y.fieldAddr Fp.fo115_2 rfl) rfl rfl rfl ?_
                        refine MX.lift1 (i := 8) (pend' := [4]) rfl (fun w hw => by first | exact hw | exact hw.1 | exact hw.drop (List.sublist_cons_self _ _) | exact hw.drop ((List.sublist_cons_self _ _).cons _)) (Y.ldO Fp.one49 rfl hf2 hq2) rfl rfl rfl (by kernel_rfl) ?_
                        refine MX.lift0 (i := 9) rfl (Y.move rfl) rfl rfl rfl ?_
                        refine MX.force (i := 10) rfl ?_
                        refine LX.call (al) Fp.en72 rfl rfl rfl rfl rfl ?_
                        intro L2
                        refine LX.nextM [] (by kernel_rfl) (fun h => absurd rfl h) ?_
                        refine MX.lift0 (i := 11) rfl (Y.extract rfl rfl) rfl rfl rfl ?_
                        refine MX.lift0 (i := 12) rfl (Y.extract rfl rfl) rfl rfl rfl ?_
                        refine MX.lift0 (i := 13) rfl (Y.assign rfl) rfl rfl rfl ?_
                        refine MX.lift0 (i := 14) rfl (Y.assign rfl) rfl rfl rfl ?_
                        refine MX.sub (l' := [(1, _), (2, _), (8, _), (9, _)]) ⟨rfl, rfl, rfl, rfl, trivial⟩ ?_
                        refine MX.done ?_
                        refine PX.thenN ?_
                        refine CX.ret ?_
                        refine PX.blockR ?_
                        refine PX.thenR ?_
                        refine PX.ret2 (by simp) Tryz.results50 rfl rfl ?_
                        exact fun w hw => ⟨L2, rfl, hw⟩
                    · try simp at hb10
                      first | done | (exfalso; omega) | (exfalso; simp_all; done) | (exfalso; simp_all; omega)
theorem Equal_c {w0 : World} {base : Nat} {fr : List It} {S : List T} {os1 os2 : List (Option Nat)} {x y : Value} (hx : StV w0 base S os1 x) (hy : StV w0 base S os2 y) (l1 : S.length ≤ 12) (hsm : ∀ o ∈ os1, o ≠ none) : FnC Tryz.prog 28 #[x, y] (WA w0 base fr) (fun _ : Unit => .tuple #[.bool (decide (os1 = os2)), .nilIface]) (fun _ => WA w0 base fr) := by
  refine FnC.of_body (fn := Tryz.f28) [(0, _), (1, _)] Tryz.func28 rfl Tryz.ntmps28 rfl ⟨rfl, rfl, trivial⟩ ?_
  refine CX.seq ?_
  refine CX.region ?_
  refine LX.pure (Y.assign rfl) rfl rfl rfl ?_
  refine LX.pure (Y.assign rfl) rfl rfl rfl ?_
  refine LX.sub (l' := [(0, _), (1, _), (4, _), (5, _)]) ⟨rfl, rfl, rfl, rfl, trivial⟩ ?_
  refine LX.next ?_
  refine PX.thenN ?_
  refine CX.seq ?_
  refine CX.region ?_
  refine LX.pure (Y.build (v := .agg #[.int .i64 4096]) rfl (fun _ => by kernel_rfl)) rfl rfl rfl ?_
  refine LX.box rfl rfl rfl rfl rfl ?_
  intro bx3
  refine LX.pure (Y.assign rfl) rfl rfl rfl ?_
  refine LX.sub (l' := [(0, _), (1, _), (4, _), (5, _), (6, _)]) ⟨rfl, rfl, rfl, rfl, rfl, trivial⟩ ?_
  refine LX.next ?_
  refine PX.thenN ?_
  refine CX.seq ?_
  refine CX.region ?_
  refine LX.pure (Y.move rfl) rfl rfl rfl ?_
  refine LX.pure (Y.move rfl) rfl rfl rfl ?_
  refine LX.pure (Y.move rfl) rfl rfl rfl ?_
  refine LX.call (equalS_c bx3 (L := 4096) (by omega) hx hy l1 hsm) Fp.en50 rfl rfl rfl rfl rfl ?_
  intro L2
  refine LX.pure (Y.extract rfl rfl) rfl rfl rfl ?_
  refine LX.pure (Y.extract rfl rfl) rfl rfl rfl ?_
  refine LX.pure (Y.assign rfl) rfl rfl rfl ?_
  refine LX.pure (Y.assign rfl) rfl rfl rfl ?_
  refine LX.sub (l' := [(4, _), (5, _)]) ⟨rfl, rfl, trivial⟩ ?_
  refine LX.next ?_
  refine PX.thenN ?_
  refine CX.ret ?_
  refine PX.ret2 (by simp) Tryz.results28 rfl rfl ?_
  exact fun w hw => ⟨(), rfl, hw.drop (List.sublist_cons_self _ _)⟩
end Go.Proofs.YtifanilblkellaaGreatDoor
