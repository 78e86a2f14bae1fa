/-
  Proved here: fields of a Struct; texts in order.
-/
import Derived.Test.YtifanilblkellaaGreatDoorSsE
namespace Go.Proofs.YtifanilblkellaaGreatDoor
open Go.SX Go.RowKit Go.Vo Go.Ss Go.Proofs.YtifanilblkellaaGreatDoor.Env
namespace Ft
theorem en52 : Enters Tryz.prog 52 := Enters.of Tryz.func52 (by kernel_rfl) (by kernel_rfl)
theorem en77 : Enters Tryz.prog 77 := Enters.of Tryz.func77 (by kernel_rfl) (by kernel_rfl)
theorem ni107 : NoIface Tryz.prog 107 := fun w v => by kernel_rfl
end Ft
theorem field_c {w0 : World} {base : Nat} {fr : List It} {S : List T} {os : List (Option Nat)} {x : Value} (hx : StV w0 base S os x) (l1 : S.length ≤ 12) (hinc : Inc S) {m : Nat} (hm : m < S.length) : ∃ o u, os[m]? = some o ∧ VV w0 base o u ∧ FnC Tryz.prog 52 #[x, str (S.getD m [])] (WA w0 base fr) (fun _ : Unit => .tuple #[u, .bool true]) (fun _ => WA w0 base fr) := by
  obtain ⟨b1, av1, c1, bv1, d1, us1, rfl, hq1, hn1, hf1, sn1, sv1, v1, k1⟩ := hx
  obtain ⟨o1, a1, u1, ho1, ha1, hqa, hca, hu1⟩ := el sv1 v1 (i := m) (by omega)
  refine ⟨o1, u1, ho1, hu1, ?_⟩
  refine FnC.of_body (fn := Tryz.f52) [(0, _), (1, _)] Tryz.func52 rfl Tryz.ntmps52 rfl ⟨rfl, rfl, trivial⟩ ?_
  refine CX.seq ?_
  refine CX.region ?_
  refine LX.pure (Y.assign rfl) rfl rfl rfl ?_
  refine LX.pure (Y.assign rfl) rfl rfl rfl ?_
  refine LX.sub (l' := [(0, _), (1, _), (4, _), (5, _)]) ⟨rfl, rfl, rfl, rfl, trivial⟩ ?_
  refine LX.next ?_
  refine PX.thenN ?_
  refine CX.seq ?_
  refine CX.region ?_
  refine LX.pure (Y.move rfl) rfl rfl rfl ?_
  first
    | refine LX.pure (Y.assertYes Fp.nif109 rfl) rfl rfl rfl ?_
    | refine LX.pure (Y.assertNo Fp.nif109 rfl (by decide) Fp.zv109) rfl rfl rfl ?_
  refine LX.pure (Y.move rfl) rfl rfl rfl ?_
  refine LX.pure (Y.extract rfl rfl) rfl rfl rfl ?_
  refine LX.pure (Y.extract rfl rfl) rfl rfl rfl ?_
  refine LX.pure (Y.assign rfl) rfl rfl rfl ?_
  refine LX.pure (Y.assign rfl) rfl rfl rfl ?_
  refine LX.sub (l' := [(1, _), (4, _), (5, _), (6, _), (7, _)]) ⟨rfl, rfl, rfl, rfl, rfl, trivial⟩ ?_
  refine LX.next ?_
  refine PX.thenN ?_
  refine CX.seq ?_
  refine CX.seq ?_
  refine CX.region ?_
  refine LX.pure (Y.move rfl) rfl rfl rfl ?_
  refine LX.pure (Y.not rfl) rfl rfl rfl ?_
  refine LX.sub (l' := [(1, _), (4, _), (5, _), (6, _), (16, _)]) ⟨rfl, rfl, rfl, rfl, rfl, trivial⟩ ?_
  refine LX.next ?_
  refine PX.thenN ?_
  refine CX.cond rfl (fun hb1 => ?_) (fun hb1 => ?_)
  · try simp at hb1
    first | done | (exfalso; omega) | (exfalso; simp_all; done) | (exfalso; simp_all; omega)
  · try simp at hb1
    refine CX.skip ?_
    refine PX.thenN ?_
    refine CX.seq ?_
    refine CX.region ?_
    refine LX.pure (Y.move rfl) rfl rfl rfl ?_
    refine LX.pure (Y.nilCheck rfl) rfl rfl rfl ?_
    first
      | refine LX.pure (Y.fieldAddr0 Fp.fo115_1 rfl) rfl rfl rfl ?_
      | refine LX.pure (Y.fieldAddr Fp.fo115_1 rfl) rfl rfl rfl ?_
    refine LX.pure (Y.ldO Fp.one58 rfl hn1 hq1) rfl rfl rfl ?_
    refine LX.pure (Y.move rfl) rfl rfl rfl ?_
    refine LX.call (search_c sn1 l1 hinc hm) Ft.en77 rfl rfl rfl rfl rfl ?_
    intro _
    refine LX.pure (Y.move rfl) rfl rfl rfl ?_
    refine LX.pure (Y.extract rfl rfl) rfl rfl rfl ?_
    refine LX.pure (Y.extract rfl rfl) rfl rfl rfl ?_
    refine LX.pure (Y.assign rfl) rfl rfl rfl ?_
    refine LX.pure (Y.assign rfl) rfl rfl rfl ?_
    refine LX.sub (l' := [(4, _), (5, _), (6, _), (8, _), (9, _)]) ⟨rfl, rfl, rfl, rfl, rfl, trivial⟩ ?_
    refine LX.next ?_
    refine PX.thenN ?_
    refine CX.seq ?_
    refine CX.seq ?_
    refine CX.region ?_
    refine LX.pure (Y.move rfl) rfl rfl rfl ?_
    refine LX.pure (Y.not rfl) rfl rfl rfl ?_
    refine LX.sub (l' := [(4, _), (5, _), (6, _), (8, _), (27, _)]) ⟨rfl, rfl, rfl, rfl, rfl, trivial⟩ ?_
    refine LX.next ?_
    refine PX.thenN ?_
    refine CX.cond rfl (fun hb2 => ?_) (fun hb2 => ?_)
    · try simp at hb2
      first | done | (exfalso; omega) | (exfalso; simp_all; done) | (exfalso; simp_all; omega)
    · try simp at hb2
      refine CX.skip ?_
      refine PX.thenN ?_
      refine CX.seq ?_
      refine CX.region ?_
      refine LX.pure (Y.move rfl) rfl rfl rfl ?_
      refine LX.pure (Y.nilCheck rfl) rfl rfl rfl ?_
      first
        | refine LX.pure (Y.fieldAddr0 Fp.fo115_2 rfl) rfl rfl rfl ?_
        | refine LX.pure (Y.fieldAddr Fp.fo115_2 rfl) rfl rfl rfl ?_
      refine LX.pure (Y.ldO Fp.one49 rfl hf1 hq1) rfl rfl rfl ?_
      refine LX.pure (Y.move rfl) rfl rfl rfl ?_
      refine LX.pure (Y.idxS Fp.un49 Fp.sz31 rfl rfl (by omega) ha1) rfl rfl rfl ?_
      refine LX.pure (Y.ldO Fp.one31 rfl hca hqa) rfl rfl rfl ?_
      refine LX.pure (Y.assign rfl) rfl rfl rfl ?_
      refine LX.pure (Y.assign rfl) rfl rfl rfl ?_
      refine LX.sub (l' := [(4, _), (5, _)]) ⟨rfl, rfl, trivial⟩ ?_
      refine LX.next ?_
      refine PX.thenN ?_
      refine CX.ret ?_
      refine PX.ret2 (by simp) Tryz.results52 rfl rfl ?_
      exact fun w hw => ⟨(), rfl, hw⟩
theorem Field_c {w0 : World} {base : Nat} {fr : List It} {S : List T} {os : List (Option Nat)} {x : Value} (hx : StV w0 base S os x) (l1 : S.length ≤ 12) (hinc : Inc S) {m : Nat} (hm : m < S.length) : ∃ o u, os[m]? = some o ∧ VV w0 base o u ∧ FnC Tryz.prog 31 #[x, str (S.getD m [])] (WA w0 base fr) (fun _ : Unit => .tuple #[u, .bool true]) (fun _ => WA w0 base fr) := by
  obtain ⟨o1, u1, ho1, hu1, hf⟩ := field_c (fr := fr) hx l1 hinc hm
  refine ⟨o1, u1, ho1, hu1, ?_⟩
  refine FnC.of_body (fn := Tryz.f31) [(0, _), (1, _)] Tryz.func31 rfl Tryz.ntmps31 rfl ⟨rfl, rfl, trivial⟩ ?_
  refine CX.seq ?_
  refine CX.region ?_
  refine LX.pure (Y.assign rfl) rfl rfl rfl ?_
  refine LX.pure (Y.assign rfl) rfl rfl rfl ?_
  refine LX.sub (l' := [(0, _), (1, _), (4, _), (5, _)]) ⟨rfl, rfl, rfl, rfl, trivial⟩ ?_
  refine LX.next ?_
  refine PX.thenN ?_
  refine CX.seq ?_
  refine CX.region ?_
  refine LX.pure (Y.move rfl) rfl rfl rfl ?_
  refine LX.pure (Y.move rfl) rfl rfl rfl ?_
  refine LX.call (hf) Ft.en52 rfl rfl rfl rfl rfl ?_
  intro _
  refine LX.pure (Y.extract rfl rfl) rfl rfl rfl ?_
  refine LX.pure (Y.extract rfl rfl) rfl rfl rfl ?_
  refine LX.pure (Y.assign rfl) rfl rfl rfl ?_
  refine LX.pure (Y.assign rfl) rfl rfl rfl ?_
  refine LX.sub (l' := [(4, _), (5, _)]) ⟨rfl, rfl, trivial⟩ ?_
  refine LX.next ?_
  refine PX.thenN ?_
  refine CX.ret ?_
  refine PX.ret2 (by simp) Tryz.results31 rfl rfl ?_
  exact fun w hw => ⟨(), rfl, hw⟩
theorem sortedT_c {w0 : World} {base : Nat} {fr : List It} {av : Option Addr} {ns : List T} {cn : Nat} (hN : Sl w0 base av (ns.map str)) (h12 : ns.length ≤ 12) : FnC Tryz.prog 27 #[.slice av ns.length cn] (WA w0 base fr) (fun q : Option Nat × Nat => rv q.1 (srt ns).length q.2) (fun q => WA w0 base (.row q.1 q.2 (srt ns).length 9 1 ((srt ns).map str) :: fr)) := by
  refine FnC.of_body (fn := Tryz.f27) [(0, _)] Tryz.func27 rfl Tryz.ntmps27 rfl ⟨rfl, trivial⟩ ?_
  refine CX.seq ?_
  refine CX.region ?_
  refine LX.pure (Y.assign rfl) rfl rfl rfl ?_
  refine LX.sub (l' := [(0, _), (2, _)]) ⟨rfl, rfl, trivial⟩ ?_
  refine LX.next ?_
  refine PX.thenN ?_
  refine CX.seq ?_
  refine CX.region ?_
  refine LX.pure (Y.assign rfl) rfl rfl rfl ?_
  refine LX.sub (l' := [(0, _), (2, _), (3, _)]) ⟨rfl, rfl, rfl, trivial⟩ ?_
  refine LX.next ?_
  refine PX.thenN ?_
  refine CX.seq ?_
  refine CX.seq ?_
  refine CX.region ?_
  refine LX.pure (Y.assign rfl) rfl rfl rfl ?_
  refine LX.sub (l' := [(0, _), (2, _), (3, _), (4, _)]) ⟨rfl, rfl, rfl, rfl, trivial⟩ ?_
  refine LX.next ?_
  refine PX.thenN ?_
  refine CX.block ?_
  refine CX.loop (fun t : Nat × Option Nat × Nat => [(0, .slice av ns.length cn), (3, rv t.2.1 (srt (ns.take t.1)).length t.2.2), (4, .int .i64 (t.1 : Int))]) (fun (t : Nat × Option Nat × Nat) w => t.1 ≤ ns.length ∧ WA w0 base (.row t.2.1 t.2.2 (srt (ns.take t.1)).length 9 1 ((srt (ns.take t.1)).map str) :: fr) w) (fun t => ns.length - t.1) (0, none, 0) ⟨rfl, rfl, rfl, trivial⟩ (fun w hw => ⟨Nat.zero_le _, hw.nilRow 9 1⟩) ?_
  rintro ⟨i, g, cap⟩
  refine CX.have fun hi0 => ?_
  dsimp only at hi0 ⊢
  refine CX.world (W' := fun w => (srt (ns.take i)).length ≤ cap ∧ WA w0 base (.row g cap (srt (ns.take i)).length 9 1 ((srt (ns.take i)).map str) :: fr) w) (fun w hw => ⟨(row_len (hw.get (i := 0) rfl)).2, hw⟩) ?_
  refine CX.have fun hcap => ?_
  have hol : (srt (ns.take i)).length ≤ 12 := Nat.le_trans (srt_le _) (by rw [List.length_take]; omega)
  refine CX.seq ?_
  refine CX.seq ?_
  refine CX.region ?_
  refine LX.pure (Y.move rfl) rfl rfl rfl ?_
  refine LX.pure (Y.move rfl) rfl rfl rfl ?_
  refine LX.pure (Y.lenSl rfl Fp.un58 rfl) rfl rfl rfl ?_
  first
    | refine LX.pure (Y.ltN rfl rfl) rfl rfl rfl ?_
    | refine LX.pure (Y.ltI rfl rfl) rfl rfl rfl ?_
  refine LX.sub (l' := [(0, _), (3, _), (4, _), (10, _)]) ⟨rfl, rfl, rfl, rfl, trivial⟩ ?_
  refine LX.next ?_
  refine PX.thenN ?_
  refine CX.cond rfl (fun hb1 => ?_) (fun hb1 => ?_)
  · try simp at hb1
    have hi : i < ns.length := by omega
    obtain ⟨a1, ha1, hq1, hc1⟩ := hN.at_ i _ (str_at (i := i) (by omega))
    have hcl := cut_le (ns.getD i []) (srt (ns.take i))
    refine CX.skip ?_
    refine PX.thenN ?_
    refine CX.seq ?_
    refine CX.block ?_
    refine CX.seq ?_
    refine CX.region ?_
    refine LX.pure (Y.assign rfl) rfl rfl rfl ?_
    refine LX.sub (l' := [(0, _), (3, _), (4, _), (5, _)]) ⟨rfl, rfl, rfl, rfl, trivial⟩ ?_
    refine LX.next ?_
    refine PX.thenN ?_
    refine CX.seq ?_
    refine CX.block ?_
    refine CX.loop (fun k : Nat => [(0, .slice av ns.length cn), (3, rv g (srt (ns.take i)).length cap), (4, .int .i64 (i : Int)), (5, .int .i64 (k : Int))]) (fun (k : Nat) w => k ≤ cut (ns.getD i []) (srt (ns.take i)) ∧ WA w0 base (.row g cap (srt (ns.take i)).length 9 1 ((srt (ns.take i)).map str) :: fr) w) (fun k => (cut (ns.getD i []) (srt (ns.take i))) - k) 0 ⟨rfl, rfl, rfl, rfl, trivial⟩ (fun w hw => ⟨Nat.zero_le _, hw⟩) ?_
    intro k
    refine CX.have fun hk0 => ?_
    try dsimp only at hk0 ⊢
    refine CX.seq ?_
    refine CX.seq ?_
    refine CX.regionQ rfl (by kernel_rfl) ?_
    refine LX.pure (Y.move rfl) rfl rfl rfl ?_
    refine LX.pure (Y.move rfl) rfl rfl rfl ?_
    refine LX.pure (Y.lenSl rfl Fp.un58 rfl) rfl rfl rfl ?_
    first
      | refine LX.pure (Y.ltN rfl rfl) rfl rfl rfl ?_
      | refine LX.pure (Y.ltI rfl rfl) rfl rfl rfl ?_
    refine LX.pure (Y.move rfl) rfl rfl rfl ?_
    refine LX.sub (l' := [(0, _), (3, _), (4, _), (5, _), (17, _)]) ⟨rfl, rfl, rfl, rfl, rfl, trivial⟩ ?_
    apply LX.joinAnd 10 27 17 rfl
    · intro hb2
      have hb2p := hb2
      try simp at hb2p
      refine LX.gT rfl rfl rfl hb2 (Y.move rfl) rfl rfl ?_
      refine LX.gT rfl rfl rfl hb2 (Y.move rfl) rfl rfl ?_
      refine LX.gT rfl rfl rfl hb2 (Y.idxR1 0 Fp.un58 Fp.sz9 rfl rfl rfl (by first | omega | assumption)) rfl rfl ?_
      refine LX.gT rfl rfl rfl hb2 (Y.ldR 0 (v := str ((srt (ns.take i)).getD k [])) Fp.one9 rfl rfl (str_at (by first | omega | assumption))) rfl rfl ?_
      refine LX.gT rfl rfl rfl hb2 (Y.move rfl) rfl rfl ?_
      refine LX.gT rfl rfl rfl hb2 (Y.move rfl) rfl rfl ?_
      refine LX.gT rfl rfl rfl hb2 (Y.idxS Fp.un58 Fp.sz9 rfl rfl (by omega) ha1) rfl rfl ?_
      refine LX.gT rfl rfl rfl hb2 (Y.ldO Fp.one9 rfl hc1 hq1) rfl rfl ?_
      refine LX.gT rfl rfl rfl hb2 (Y.ltS rfl rfl) rfl rfl ?_
      refine LX.pure (Y.pickT rfl hb2 rfl) rfl rfl rfl ?_
      exact LX.left ⟨rfl, rfl, rfl, rfl, rfl, rfl, trivial⟩
    · intro hb2
      have hb2p := hb2
      try simp at hb2p
      refine LX.gF rfl rfl rfl hb2 rfl rfl ?_
      refine LX.gF rfl rfl rfl hb2 rfl rfl ?_
      refine LX.gF rfl rfl rfl hb2 rfl rfl ?_
      refine LX.gF rfl rfl rfl hb2 rfl rfl ?_
      refine LX.gF rfl rfl rfl hb2 rfl rfl ?_
      refine LX.gF rfl rfl rfl hb2 rfl rfl ?_
      refine LX.gF rfl rfl rfl hb2 rfl rfl ?_
      refine LX.gF rfl rfl rfl hb2 rfl rfl ?_
      refine LX.gF rfl rfl rfl hb2 rfl rfl ?_
      refine LX.pure (Y.pickF rfl hb2 rfl) rfl rfl rfl ?_
      exact LX.left ⟨rfl, rfl, rfl, rfl, rfl, rfl, trivial⟩
    refine LX.sub (l' := [(0, _), (3, _), (4, _), (5, _), (27, _)]) ⟨rfl, rfl, rfl, rfl, rfl, trivial⟩ ?_
    refine LX.nextQ ?_
    refine PX.thenN ?_
    refine CX.cond rfl (fun hb3 => ?_) (fun hb3 => ?_)
    · try simp at hb3
      have hkc : k < (cut (ns.getD i []) (srt (ns.take i))) := by
        obtain ⟨h1, h2⟩ := hb3
        rcases Nat.lt_or_ge k (cut (ns.getD i []) (srt (ns.take i))) with h | h
        · exact h
        · obtain rfl : k = (cut (ns.getD i []) (srt (ns.take i))) := by omega
          rw [Go.Proofs.bytesLess_eq] at h2
          exact absurd (of_decide_eq_true h2) (cut_at h1)
      refine CX.skip ?_
      refine PX.thenN ?_
      refine CX.block ?_
      refine CX.region ?_
      refine LX.pure (Y.move rfl) rfl rfl rfl ?_
      first
        | refine LX.pure (Y.addN rfl rfl (by first | omega | (simp only []; omega) | (simp; done) | (simp; omega))) rfl rfl rfl ?_
        | refine LX.pure (Y.add rfl rfl (by first | omega | (simp only []; omega) | (simp; done) | (simp; omega))) rfl rfl rfl ?_
      refine LX.pure (Y.assign rfl) rfl rfl rfl ?_
      refine LX.sub (l' := [(0, _), (3, _), (4, _), (5, _)]) ⟨rfl, rfl, rfl, rfl, trivial⟩ ?_
      refine LX.next ?_
      refine PX.blockN ?_
      exact PX.again (L := (fun k : Nat => [(0, .slice av ns.length cn), (3, rv g (srt (ns.take i)).length cap), (4, .int .i64 (i : Int)), (5, .int .i64 (k : Int))])) (WW := (fun (k : Nat) w => k ≤ cut (ns.getD i []) (srt (ns.take i)) ∧ WA w0 base (.row g cap (srt (ns.take i)).length 9 1 ((srt (ns.take i)).map str) :: fr) w)) (μ := fun k => (cut (ns.getD i []) (srt (ns.take i))) - k) (i := k) (k + 1) (by show (cut (ns.getD i []) (srt (ns.take i))) - (k + 1) < (cut (ns.getD i []) (srt (ns.take i))) - k; omega) ⟨rfl, rfl, rfl, rfl, trivial⟩ (fun w hw => ⟨by show k + 1 ≤ (cut (ns.getD i []) (srt (ns.take i))); omega, hw⟩)
    · try simp at hb3
      have hkc : k = (cut (ns.getD i []) (srt (ns.take i))) := by
        rcases Nat.lt_or_ge k (cut (ns.getD i []) (srt (ns.take i))) with h | h
        · have h5 := hb3 (by omega)
          rw [Go.Proofs.bytesLess_eq] at h5
          exact absurd (cut_lt h) (of_decide_eq_false h5)
        · omega
      subst hkc
      refine CX.exit ?_
      refine PX.thenE ?_
      refine PX.thenE ?_
      refine PX.blockE ?_
      refine PX.thenN ?_
      refine CX.seq ?_
      refine CX.seq ?_
      refine CX.regionQ rfl (by kernel_rfl) ?_
      refine LX.pure (Y.move rfl) rfl rfl rfl ?_
      refine LX.pure (Y.move rfl) rfl rfl rfl ?_
      refine LX.pure (Y.lenSl rfl Fp.un58 rfl) rfl rfl rfl ?_
      first
        | refine LX.pure (Y.ltN rfl rfl) rfl rfl rfl ?_
        | refine LX.pure (Y.ltI rfl rfl) rfl rfl rfl ?_
      refine LX.pure (Y.move rfl) rfl rfl rfl ?_
      refine LX.sub (l' := [(0, _), (3, _), (4, _), (5, _), (34, _)]) ⟨rfl, rfl, rfl, rfl, rfl, trivial⟩ ?_
      apply LX.joinAnd 10 44 34 rfl
      · intro hb4
        have hb4p := hb4
        try simp at hb4p
        refine LX.gT rfl rfl rfl hb4 (Y.move rfl) rfl rfl ?_
        refine LX.gT rfl rfl rfl hb4 (Y.move rfl) rfl rfl ?_
        refine LX.gT rfl rfl rfl hb4 (Y.idxR1 0 Fp.un58 Fp.sz9 rfl rfl rfl (by first | omega | assumption)) rfl rfl ?_
        refine LX.gT rfl rfl rfl hb4 (Y.ldR 0 (v := str ((srt (ns.take i)).getD (cut (ns.getD i []) (srt (ns.take i))) [])) Fp.one9 rfl rfl (str_at (by first | omega | assumption))) rfl rfl ?_
        refine LX.gT rfl rfl rfl hb4 (Y.move rfl) rfl rfl ?_
        refine LX.gT rfl rfl rfl hb4 (Y.move rfl) rfl rfl ?_
        refine LX.gT rfl rfl rfl hb4 (Y.idxS Fp.un58 Fp.sz9 rfl rfl (by omega) ha1) rfl rfl ?_
        refine LX.gT rfl rfl rfl hb4 (Y.ldO Fp.one9 rfl hc1 hq1) rfl rfl ?_
        refine LX.gT rfl rfl rfl hb4 (Y.eqS rfl rfl) rfl rfl ?_
        refine LX.pure (Y.pickT rfl hb4 rfl) rfl rfl rfl ?_
        exact LX.left ⟨rfl, rfl, rfl, rfl, rfl, rfl, trivial⟩
      · intro hb4
        have hb4p := hb4
        try simp at hb4p
        refine LX.gF rfl rfl rfl hb4 rfl rfl ?_
        refine LX.gF rfl rfl rfl hb4 rfl rfl ?_
        refine LX.gF rfl rfl rfl hb4 rfl rfl ?_
        refine LX.gF rfl rfl rfl hb4 rfl rfl ?_
        refine LX.gF rfl rfl rfl hb4 rfl rfl ?_
        refine LX.gF rfl rfl rfl hb4 rfl rfl ?_
        refine LX.gF rfl rfl rfl hb4 rfl rfl ?_
        refine LX.gF rfl rfl rfl hb4 rfl rfl ?_
        refine LX.gF rfl rfl rfl hb4 rfl rfl ?_
        refine LX.pure (Y.pickF rfl hb4 rfl) rfl rfl rfl ?_
        exact LX.left ⟨rfl, rfl, rfl, rfl, rfl, rfl, trivial⟩
      refine LX.sub (l' := [(0, _), (3, _), (4, _), (5, _), (44, _)]) ⟨rfl, rfl, rfl, rfl, rfl, trivial⟩ ?_
      refine LX.nextQ ?_
      refine PX.thenN ?_
      refine CX.cond rfl (fun hb5 => ?_) (fun hb5 => ?_)
      · try simp at hb5
        have hsm : srt (ns.take (i + 1)) = srt (ns.take i) := by rw [srt_step hi]; exact ins_same hb5.1 (by simpa using hb5.2)
        refine CX.exit ?_
        refine PX.thenE ?_
        refine PX.blockE ?_
        refine PX.thenN ?_
        refine CX.region ?_
        refine LX.pure (Y.move rfl) rfl rfl rfl ?_
        first
          | refine LX.pure (Y.addN rfl rfl (by first | omega | (simp only []; omega) | (simp; done) | (simp; omega))) rfl rfl rfl ?_
          | refine LX.pure (Y.add rfl rfl (by first | omega | (simp only []; omega) | (simp; done) | (simp; omega))) rfl rfl rfl ?_
        refine LX.pure (Y.assign rfl) rfl rfl rfl ?_
        refine LX.sub (l' := [(0, _), (3, _), (4, _)]) ⟨rfl, rfl, rfl, trivial⟩ ?_
        refine LX.next ?_
        exact PX.again (L := (fun t : Nat × Option Nat × Nat => [(0, .slice av ns.length cn), (3, rv t.2.1 (srt (ns.take t.1)).length t.2.2), (4, .int .i64 (t.1 : Int))])) (WW := (fun (t : Nat × Option Nat × Nat) w => t.1 ≤ ns.length ∧ WA w0 base (.row t.2.1 t.2.2 (srt (ns.take t.1)).length 9 1 ((srt (ns.take t.1)).map str) :: fr) w)) (μ := fun t => ns.length - t.1) (i := (i, g, cap)) (i + 1, g, cap) (by show ns.length - (i + 1) < ns.length - i; omega) ⟨rfl, by dsimp only; rw [hsm]; rfl, rfl, trivial⟩ (fun w hw => ⟨by show i + 1 ≤ ns.length; omega, by dsimp only; rw [hsm]; exact hw⟩)
      · try simp at hb5
        have hno : (cut (ns.getD i []) (srt (ns.take i))) < (srt (ns.take i)).length → (srt (ns.take i)).getD (cut (ns.getD i []) (srt (ns.take i))) [] ≠ (ns.getD i []) := fun h => by simpa using hb5 h
        have hpl : (srt (ns.take (i + 1))).length = (srt (ns.take i)).length + 1 := by rw [srt_step hi]; exact put_len hno
        refine CX.skip ?_
        refine PX.thenN ?_
        refine CX.seq ?_
        refine CX.regionM [(0, .anywhere), (1, .anywhere), (2, .anywhere), (4, .anywhere), (5, .anywhere), (6, .held), (3, .alone), (7, .alone), (8, .anywhere)] rfl (by kernel_rfl) ?_
        refine MX.lift0 (i := 0) rfl (Y.move rfl) rfl rfl rfl ?_
        refine MX.lift0 (i := 1) rfl (Y.lenSl rfl Fp.un58 rfl) rfl rfl rfl ?_
        first
          | refine MX.lift0 (i := 2) rfl (Y.addN rfl rfl (by first | omega | (simp only []; omega) | (simp; done) | (simp; omega))) rfl rfl rfl ?_
          | refine MX.lift0 (i := 2) rfl (Y.add rfl rfl (by first | omega | (simp only []; omega) | (simp; done) | (simp; omega))) rfl rfl rfl ?_
        refine MX.lift0 (i := 4) rfl (Y.move rfl) rfl rfl rfl ?_
        refine MX.lift0 (i := 5) rfl (Y.move rfl) rfl rfl rfl ?_
        refine MX.lift1 (i := 6) (pend' := []) rfl (fun w hw => by first | exact hw | exact hw.1 | exact hw.drop (List.sublist_cons_self _ _) | exact hw.drop ((List.sublist_cons_self _ _).cons _)) (Y.cutHi Fp.un58 Fp.sz9 rfl rfl (by omega)) rfl rfl rfl (by kernel_rfl) ?_
        refine MX.force (i := 3) rfl ?_
        refine LX.make0 (c := (srt (ns.take i)).length + 1) Fs.el58 rfl rfl rfl (by omega) (by omega) rfl rfl rfl ?_
        intro bm
        refine LX.nextM [6] (by kernel_rfl) (fun _ => (fun w hw => by first | exact hw | exact hw.1 | exact hw.drop (List.sublist_cons_self _ _) | exact hw.drop ((List.sublist_cons_self _ _).cons _))) ?_
        refine MX.force (i := 7) rfl ?_
        refine LX.appendPart 0 1 (lo := 0) Fs.el58 rfl rfl rfl rfl rfl rfl (by cases g <;> simp [Addr.add]) (by omega) (by omega) (strs_one _) (by omega) (by omega) rfl rfl rfl ?_
        intro g1 cap1
        refine LX.nextM [] (by kernel_rfl) (fun h => absurd rfl h) ?_
        refine MX.lift0 (i := 8) rfl (Y.assign rfl) rfl rfl rfl ?_
        refine MX.sub (l' := [(0, _), (3, _), (4, _), (5, _), (6, _)]) ⟨rfl, rfl, rfl, rfl, rfl, trivial⟩ ?_
        refine MX.done ?_
        refine PX.thenN ?_
        refine CX.seq ?_
        refine CX.region ?_
        refine LX.pure (Y.move rfl) rfl rfl rfl ?_
        refine LX.pure (Y.move rfl) rfl rfl rfl ?_
        refine LX.pure (Y.move rfl) rfl rfl rfl ?_
        refine LX.pure (Y.idxS Fp.un58 Fp.sz9 rfl rfl (by omega) ha1) rfl rfl rfl ?_
        refine LX.pure (Y.ldO Fp.one9 rfl hc1 hq1) rfl rfl rfl ?_
        refine LX.buildSlice (e := 9) (size := 1) rfl rfl (fun _ => by kernel_rfl) rfl (by decide) rfl rfl rfl ?_
        intro gt60
        first
          | refine LX.appendT 0 Fs.el58 rfl rfl rfl rfl rfl rfl rfl (by first | omega | (dsimp only; omega)) (by first | omega | (dsimp only; omega)) rfl rfl rfl ?_
          | refine LX.appendT 1 Fs.el58 rfl rfl rfl rfl rfl rfl rfl (by first | omega | (dsimp only; omega)) (by first | omega | (dsimp only; omega)) rfl rfl rfl ?_
          | refine LX.appendT 2 Fs.el58 rfl rfl rfl rfl rfl rfl rfl (by first | omega | (dsimp only; omega)) (by first | omega | (dsimp only; omega)) rfl rfl rfl ?_
        intro g' cap'
        refine LX.pure (Y.assign rfl) rfl rfl rfl ?_
        refine LX.sub (l' := [(0, _), (3, _), (4, _), (5, _), (6, _)]) ⟨rfl, rfl, rfl, rfl, rfl, trivial⟩ ?_
        refine LX.next ?_
        refine PX.thenN ?_
        refine CX.region ?_
        refine LX.pure (Y.move rfl) rfl rfl rfl ?_
        refine LX.pure (Y.move rfl) rfl rfl rfl ?_
        refine LX.pure (Y.move rfl) rfl rfl rfl ?_
        refine LX.pure (Y.cutLo Fp.un58 Fp.sz9 rfl rfl (by first | omega | (simp only []; omega) | (simp; done) | (simp; omega))) rfl rfl rfl ?_
        refine LX.appendPart 0 1 (lo := (cut (ns.getD i []) (srt (ns.take i)))) Fs.el58 rfl rfl rfl rfl rfl rfl rfl (by omega) (by omega) (strs_one _) (by omega) (by omega) rfl rfl rfl ?_
        intro g3 cap3
        have hlen : 0 + (cut (ns.getD i []) (srt (ns.take i))) + 1 + ((srt (ns.take i)).length - (cut (ns.getD i []) (srt (ns.take i)))) = (srt (ns.take i)).length + 1 := by omega
        refine LX.pure (Y.assign rfl) rfl rfl rfl ?_
        refine LX.sub (l' := [(0, _), (3, _), (4, _)]) ⟨rfl, rfl, rfl, trivial⟩ ?_
        refine LX.next ?_
        refine PX.blockN ?_
        refine PX.thenN ?_
        refine CX.region ?_
        refine LX.pure (Y.move rfl) rfl rfl rfl ?_
        first
          | refine LX.pure (Y.addN rfl rfl (by first | omega | (simp only []; omega) | (simp; done) | (simp; omega))) rfl rfl rfl ?_
          | refine LX.pure (Y.add rfl rfl (by first | omega | (simp only []; omega) | (simp; done) | (simp; omega))) rfl rfl rfl ?_
        refine LX.pure (Y.assign rfl) rfl rfl rfl ?_
        refine LX.sub (l' := [(0, _), (3, _), (4, _)]) ⟨rfl, rfl, rfl, trivial⟩ ?_
        refine LX.next ?_
        exact PX.again (L := (fun t : Nat × Option Nat × Nat => [(0, .slice av ns.length cn), (3, rv t.2.1 (srt (ns.take t.1)).length t.2.2), (4, .int .i64 (t.1 : Int))])) (WW := (fun (t : Nat × Option Nat × Nat) w => t.1 ≤ ns.length ∧ WA w0 base (.row t.2.1 t.2.2 (srt (ns.take t.1)).length 9 1 ((srt (ns.take t.1)).map str) :: fr) w)) (μ := fun t => ns.length - t.1) (i := (i, g, cap)) (i + 1, _, _) (by show ns.length - (i + 1) < ns.length - i; omega) ⟨rfl, by dsimp only; rw [hpl, ← hlen]; rfl, rfl, trivial⟩ (fun w hw => ⟨by show i + 1 ≤ ns.length; omega, by
          dsimp only
          have hd := hw.drop (its' := _ :: fr) ((List.sublist_cons_self _ _).cons_cons _)
          rw [hpl, ← hlen, srt_step hi, ← put_row hno]
          exact hd⟩)
  · try simp at hb1
    have hie : i = ns.length := by omega
    subst hie
    rw [List.take_length]
    refine CX.exit ?_
    refine PX.thenE ?_
    refine PX.thenE ?_
    refine PX.blockE ?_
    refine PX.thenN ?_
    refine CX.seq ?_
    refine CX.region ?_
    refine LX.pure (Y.move rfl) rfl rfl rfl ?_
    refine LX.pure (Y.assign rfl) rfl rfl rfl ?_
    refine LX.sub (l' := [(2, _)]) ⟨rfl, trivial⟩ ?_
    refine LX.next ?_
    refine PX.thenN ?_
    refine CX.ret ?_
    refine PX.ret1 (by simp) Tryz.results27 rfl ?_
    exact fun w hw => ⟨(g, cap), rfl, by simpa using hw⟩
theorem none_c {w0 : World} {base : Nat} {fr : List It} : FnC Tryz.prog 24 #[] (WA w0 base fr) (fun _ : Unit => .iface 107 (.agg #[])) (fun _ => WA w0 base fr) := by
  refine FnC.of_body (fn := Tryz.f24) [] Tryz.func24 rfl Tryz.ntmps24 rfl trivial ?_
  refine CX.seq ?_
  refine CX.region ?_
  refine LX.pure (Y.assign rfl) rfl rfl rfl ?_
  refine LX.sub (l' := [(0, _)]) ⟨rfl, trivial⟩ ?_
  refine LX.next ?_
  refine PX.thenN ?_
  refine CX.seq ?_
  refine CX.region ?_
  refine LX.pure (Y.build (v := .agg #[]) rfl (fun _ => by kernel_rfl)) rfl rfl rfl ?_
  refine LX.pure (Y.mkI Ft.ni107 rfl) rfl rfl rfl ?_
  refine LX.pure (Y.assign rfl) rfl rfl rfl ?_
  refine LX.sub (l' := [(0, _)]) ⟨rfl, trivial⟩ ?_
  refine LX.next ?_
  refine PX.thenN ?_
  refine CX.ret ?_
  refine PX.ret1 (by simp) Tryz.results24 rfl ?_
  exact fun w hw => ⟨(), rfl, hw⟩
theorem numb_c {w0 : World} {base : Nat} {fr : List It} (z : Int) {n : Nat} (hn : 0 < n ∧ n ≤ 12) : FnC Tryz.prog 7 #[.int .i64 z, .int .i64 (n : Int)] (WA w0 base fr) (fun m : Nat => .int .i64 (m : Int)) (fun m w => m < n ∧ WA w0 base fr w) := by
  have h1 : -(n : Int) < z.tmod n ∧ z.tmod n < n := by
    refine ⟨?_, Int.tmod_lt_of_pos _ (by omega)⟩
    rcases Int.le_total 0 z with h | h
    · have := Int.tmod_nonneg (n : Int) h; omega
    · have h2 := Int.tmod_lt_of_pos (-z) (show (0 : Int) < n by omega)
      rw [Int.neg_tmod] at h2
      omega
  have h2 : 0 ≤ (z.tmod n + n).tmod n ∧ (z.tmod n + n).tmod n < n := ⟨Int.tmod_nonneg _ (by omega), Int.tmod_lt_of_pos _ (by omega)⟩
  refine FnC.of_body (fn := Tryz.f7) [(0, _), (1, _)] Tryz.func7 rfl Tryz.ntmps7 rfl ⟨rfl, rfl, trivial⟩ ?_
  refine CX.seq ?_
  refine CX.region ?_
  refine LX.pure (Y.assign rfl) rfl rfl rfl ?_
  refine LX.sub (l' := [(0, _), (1, _), (4, _)]) ⟨rfl, rfl, rfl, trivial⟩ ?_
  refine LX.next ?_
  refine PX.thenN ?_
  refine CX.seq ?_
  refine CX.region ?_
  refine LX.pure (Y.move rfl) rfl rfl rfl ?_
  refine LX.pure (Y.move rfl) rfl rfl rfl ?_
  refine LX.pure (Y.rem (b := (n : Int)) rfl rfl (by omega)) rfl rfl rfl ?_
  refine LX.pure (Y.move rfl) rfl rfl rfl ?_
  refine LX.pure (Y.add (a := z.tmod n) (b := (n : Int)) rfl rfl (by omega)) rfl rfl rfl ?_
  refine LX.pure (Y.move rfl) rfl rfl rfl ?_
  refine LX.pure (Y.rem (a := z.tmod n + n) (b := (n : Int)) rfl rfl (by omega)) rfl rfl rfl ?_
  refine LX.pure (Y.assign rfl) rfl rfl rfl ?_
  refine LX.sub (l' := [(4, _)]) ⟨rfl, trivial⟩ ?_
  refine LX.next ?_
  refine PX.thenN ?_
  refine CX.ret ?_
  refine PX.ret1 (by simp) Tryz.results7 rfl ?_
  exact fun w hw => ⟨((z.tmod n + n).tmod n).toNat, by dsimp only; rw [show ((((z.tmod n + n).tmod n).toNat : Nat) : Int) = (z.tmod n + n).tmod n by omega], by omega, hw⟩
end Go.Proofs.YtifanilblkellaaGreatDoor
