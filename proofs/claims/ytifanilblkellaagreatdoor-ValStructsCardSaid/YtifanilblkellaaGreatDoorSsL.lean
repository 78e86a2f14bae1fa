/-
  Proved here: names each once: the law.
-/
import Derived.Test.YtifanilblkellaaGreatDoorSsJ
namespace Go.Proofs.YtifanilblkellaaGreatDoor
open Go.SX Go.RowKit Go.Vo Go.Ss Go.Proofs.YtifanilblkellaaGreatDoor.Env
namespace Fw
theorem en17 : Enters Tryz.prog 17 := Enters.of Tryz.func17 (by kernel_rfl) (by kernel_rfl)
theorem en20 : Enters Tryz.prog 20 := Enters.of Tryz.func20 (by kernel_rfl) (by kernel_rfl)
theorem en24 : Enters Tryz.prog 24 := Enters.of Tryz.func24 (by kernel_rfl) (by kernel_rfl)
theorem en28 : Enters Tryz.prog 28 := Enters.of Tryz.func28 (by kernel_rfl) (by kernel_rfl)
theorem en29 : Enters Tryz.prog 29 := Enters.of Tryz.func29 (by kernel_rfl) (by kernel_rfl)
theorem en30 : Enters Tryz.prog 30 := Enters.of Tryz.func30 (by kernel_rfl) (by kernel_rfl)
theorem en31 : Enters Tryz.prog 31 := Enters.of Tryz.func31 (by kernel_rfl) (by kernel_rfl)
theorem en7 : Enters Tryz.prog 7 := Enters.of Tryz.func7 (by kernel_rfl) (by kernel_rfl)
end Fw
theorem law_nd {w0 : World} {base : Nat} {fr : List It} {aE : Nat → Addr} (hS : EnvS w0 base aE) {av : Option Addr} {ns : List T} {cn : Nat} (hN : Sl w0 base av (ns.map str)) (z : Int) (hnd : ns.Nodup) : FnC Tryz.prog 4 #[.slice av ns.length cn, .int .i64 z] (WA w0 base fr) (fun _ : Unit => .bool true) (fun _ => WA w0 base fr) := by
  refine FnC.of_body (fn := Tryz.f4) [(0, _), (1, _)] Tryz.func4 rfl Tryz.ntmps4 rfl ⟨rfl, rfl, trivial⟩ ?_
  refine CX.seq ?_
  refine CX.region ?_
  refine LX.pure (Y.assign rfl) rfl rfl rfl ?_
  refine LX.sub (l' := [(0, _), (1, _), (4, _)]) ⟨rfl, rfl, rfl, trivial⟩ ?_
  refine LX.next ?_
  refine PX.thenN ?_
  refine CX.seq ?_
  refine CX.region ?_
  refine LX.callQ (Bsf.first_q hS _) Fv.en5 rfl rfl rfl rfl rfl ?_
  refine LX.pure (Y.assign rfl) rfl rfl rfl ?_
  refine LX.sub (l' := [(0, _), (1, _), (4, _), (5, _)]) ⟨rfl, rfl, rfl, rfl, trivial⟩ ?_
  refine LX.next ?_
  refine PX.thenN ?_
  refine CX.seq ?_
  refine CX.seq ?_
  refine CX.region ?_
  refine LX.pure (Y.move rfl) rfl rfl rfl ?_
  refine LX.pure (Y.not rfl) rfl rfl rfl ?_
  refine LX.sub (l' := [(0, _), (1, _), (4, _), (5, _), (27, _)]) ⟨rfl, rfl, rfl, rfl, rfl, trivial⟩ ?_
  refine LX.next ?_
  refine PX.thenN ?_
  refine CX.cond rfl (fun hb1 => ?_) (fun hb1 => ?_)
  · try simp at hb1
    first | done | (exfalso; omega) | (exfalso; simp_all; done)
  · try simp at hb1
    refine CX.skip ?_
    refine PX.thenN ?_
    refine CX.seq ?_
    refine CX.seq ?_
    refine CX.region ?_
    refine LX.pure (Y.move rfl) rfl rfl rfl ?_
    refine LX.call (texts_c hN) Fv.en25 rfl rfl rfl rfl rfl ?_
    intro _
    refine LX.pure (Y.not rfl) rfl rfl rfl ?_
    refine LX.pure (Y.move rfl) rfl rfl rfl ?_
    refine LX.sub (l' := [(0, _), (1, _), (4, _), (5, _), (31, _)]) ⟨rfl, rfl, rfl, rfl, rfl, trivial⟩ ?_
    apply LX.joinOr 3 34 31 rfl
    · intro hb2
      have hb2p := hb2
      try simp at hb2p
      refine LX.gF rfl rfl rfl hb2 rfl rfl ?_
      refine LX.gF rfl rfl rfl hb2 rfl rfl ?_
      refine LX.pure (Y.pickT rfl hb2 rfl) rfl rfl rfl ?_
      exact LX.left ⟨rfl, rfl, rfl, rfl, rfl, rfl, trivial⟩
    · intro hb2
      have hb2p := hb2
      try simp at hb2p
      refine LX.gT rfl rfl rfl hb2 (Y.move rfl) rfl rfl ?_
      refine LX.gT rfl rfl rfl hb2 (Y.not rfl) rfl rfl ?_
      refine LX.pure (Y.pickF rfl hb2 rfl) rfl rfl rfl ?_
      exact LX.left ⟨rfl, rfl, rfl, rfl, rfl, rfl, trivial⟩
    refine LX.sub (l' := [(0, _), (1, _), (4, _), (5, _), (34, _)]) ⟨rfl, rfl, rfl, rfl, rfl, trivial⟩ ?_
    refine LX.next ?_
    refine PX.thenN ?_
    refine CX.cond rfl (fun hb3 => ?_) (fun hb3 => ?_)
    · try simp at hb3
      refine CX.seq ?_
      refine CX.region ?_
      refine LX.pure (Y.move rfl) rfl rfl rfl ?_
      refine LX.pure (Y.assign rfl) rfl rfl rfl ?_
      refine LX.sub (l' := [(0, _), (1, _), (4, _)]) ⟨rfl, rfl, rfl, trivial⟩ ?_
      refine LX.next ?_
      refine PX.thenN ?_
      refine CX.ret ?_
      refine PX.thenR ?_
      refine PX.ret1 (by simp) Tryz.results4 rfl ?_
      exact fun w hw => ⟨(), rfl, hw⟩
    · try simp at hb3
      have hsm : ns.length ≤ 12 ∧ ∀ s ∈ ns, s.length ≤ 30 := by first | exact hb3 | (simpa using hb3) | (simp_all; done)
      obtain ⟨h12, hlen⟩ := hsm
      refine CX.skip ?_
      refine PX.thenN ?_
      refine CX.seq ?_
      refine CX.region ?_
      refine LX.pure (Y.assign rfl) rfl rfl rfl ?_
      refine LX.pure (Y.assign rfl) rfl rfl rfl ?_
      refine LX.sub (l' := [(0, _), (1, _), (4, _), (6, _), (7, _)]) ⟨rfl, rfl, rfl, rfl, rfl, trivial⟩ ?_
      refine LX.next ?_
      refine PX.thenN ?_
      refine CX.seq ?_
      refine CX.region ?_
      refine LX.pure (Y.assign rfl) rfl rfl rfl ?_
      refine LX.sub (l' := [(0, _), (1, _), (4, _), (6, _), (7, _), (8, _)]) ⟨rfl, rfl, rfl, rfl, rfl, rfl, trivial⟩ ?_
      refine LX.next ?_
      refine PX.thenN ?_
      refine CX.seq ?_
      refine CX.seq ?_
      refine CX.region ?_
      refine LX.pure (Y.assign rfl) rfl rfl rfl ?_
      refine LX.sub (l' := [(0, _), (1, _), (4, _), (6, _), (7, _), (8, _), (9, _)]) ⟨rfl, rfl, rfl, rfl, rfl, rfl, rfl, trivial⟩ ?_
      refine LX.next ?_
      refine PX.thenN ?_
      refine CX.block ?_
      refine CX.loop (fun s : Nat × (Option Nat × Nat) × (Option Nat × Nat) × (Option Nat × Nat) × List Value × List Value × List It => [(0, .slice av ns.length cn), (1, .int .i64 z), (6, rv s.2.1.1 s.1 s.2.1.2), (7, rv s.2.2.1.1 s.1 s.2.2.1.2), (8, rv s.2.2.2.1.1 s.1 s.2.2.2.1.2), (9, .int .i64 (s.1 : Int))]) (fun (s : Nat × (Option Nat × Nat) × (Option Nat × Nat) × (Option Nat × Nat) × List Value × List Value × List It) w => (s.1 ≤ ns.length ∧ Own ((upto ns.length).take s.1) s.2.2.2.2.1 s.2.2.2.2.2.2 ∧ Own ((upto ns.length).reverse.take s.1) s.2.2.2.2.2.1 s.2.2.2.2.2.2) ∧ WA w0 base (.row s.2.1.1 s.2.1.2 s.1 31 1 (s.2.2.2.2.1) :: .row s.2.2.1.1 s.2.2.1.2 s.1 31 1 (s.2.2.2.2.2.1) :: .row s.2.2.2.1.1 s.2.2.2.1.2 s.1 9 1 ((ns.reverse.take s.1).map str) :: (s.2.2.2.2.2.2 ++ fr)) w) (fun s => ns.length - s.1) (0, (none, 0), (none, 0), (none, 0), [], [], []) ⟨rfl, rfl, rfl, rfl, rfl, rfl, trivial⟩ (fun w hw => ⟨⟨Nat.zero_le _, Own.nil _, Own.nil _⟩, ((hw.nilRow 9 1).nilRow 31 1).nilRow 31 1⟩) ?_
      rintro ⟨i, ⟨gl, cl⟩, ⟨gb, cb⟩, ⟨gt, ct⟩, us, vs, ds⟩
      refine CX.have fun ⟨hi0, hoa, hob⟩ => ?_
      try dsimp only at hi0 hoa hob ⊢
      refine CX.seq ?_
      refine CX.seq ?_
      refine CX.region ?_
      refine LX.pure (Y.move rfl) rfl rfl rfl ?_
      refine LX.pure (Y.move rfl) rfl rfl rfl ?_
      refine LX.pure (Y.lenSl rfl Fp.un58 rfl) rfl rfl rfl ?_
      first
        | refine LX.pure (Y.ltN rfl rfl) rfl rfl rfl ?_
        | refine LX.pure (Y.ltI rfl rfl) rfl rfl rfl ?_
      refine LX.sub (l' := [(0, _), (1, _), (6, _), (7, _), (8, _), (9, _), (39, _)]) ⟨rfl, rfl, rfl, rfl, rfl, rfl, rfl, trivial⟩ ?_
      refine LX.next ?_
      refine PX.thenN ?_
      refine CX.cond rfl (fun hb4 => ?_) (fun hb4 => ?_)
      · try simp at hb4
        have hi1 : i < ns.length := by omega
        obtain ⟨a2, ha2, hq2, hc2⟩ := hN.at_ (ns.length - 1 - i) _ (str_at (i := ns.length - 1 - i) (by omega))
        refine CX.skip ?_
        refine PX.thenN ?_
        refine CX.seq ?_
        refine CX.block ?_
        refine CX.seq ?_
        refine CX.region ?_
        refine LX.pure (Y.move rfl) rfl rfl rfl ?_
        refine LX.pure (Y.move rfl) rfl rfl rfl ?_
        refine LX.call (Bsf.of_n hS (i := i) (by omega)) Fv.en10 rfl rfl rfl rfl rfl ?_
        rintro ⟨ga, ca⟩
        refine LX.have fun hxa => ?_
        dsimp only at hxa ⊢
        refine LX.call (int_c _ ga ca) Fv.en9 rfl rfl rfl rfl rfl ?_
        intro _
        refine LX.buildSlice (e := 31) (size := 1) rfl rfl (fun _ => by kernel_rfl) rfl (by decide) rfl rfl rfl ?_
        intro gt27
        refine LX.appendT 1 Fr.el49 rfl rfl rfl rfl rfl rfl rfl (by omega) (by omega) rfl rfl rfl ?_
        intro gl2 cl2
        refine LX.pure (Y.assign rfl) rfl rfl rfl ?_
        refine LX.sub (l' := [(0, _), (1, _), (6, _), (7, _), (8, _), (9, _)]) ⟨rfl, rfl, rfl, rfl, rfl, rfl, trivial⟩ ?_
        refine LX.next ?_
        refine PX.thenN ?_
        refine CX.seq ?_
        refine CX.region ?_
        refine LX.pure (Y.move rfl) rfl rfl rfl ?_
        refine LX.pure (Y.move rfl) rfl rfl rfl ?_
        refine LX.pure (Y.move rfl) rfl rfl rfl ?_
        refine LX.pure (Y.lenSl rfl Fp.un58 rfl) rfl rfl rfl ?_
        refine LX.pure (Y.subN (a := ns.length) (b := 1) rfl rfl (by omega) (by omega)) rfl rfl rfl ?_
        refine LX.pure (Y.move rfl) rfl rfl rfl ?_
        refine LX.pure (Y.subN (a := ns.length - 1) (b := i) rfl rfl (by omega) (by omega)) rfl rfl rfl ?_
        refine LX.pure (Y.idxS Fp.un58 Fp.sz9 rfl rfl (by omega) ha2) rfl rfl rfl ?_
        refine LX.pure (Y.ldO Fp.one9 rfl hc2 hq2) rfl rfl rfl ?_
        refine LX.buildSlice (e := 9) (size := 1) rfl rfl (fun _ => by kernel_rfl) rfl (by decide) rfl rfl rfl ?_
        intro gt39
        refine LX.appendT 3 Fs.el58 rfl rfl rfl rfl rfl rfl rfl (by omega) (by omega) rfl rfl rfl ?_
        intro gt2 ct2
        refine LX.pure (Y.assign rfl) rfl rfl rfl ?_
        refine LX.sub (l' := [(0, _), (1, _), (6, _), (7, _), (8, _), (9, _)]) ⟨rfl, rfl, rfl, rfl, rfl, rfl, trivial⟩ ?_
        refine LX.next ?_
        refine PX.thenN ?_
        refine CX.region ?_
        refine LX.pure (Y.move rfl) rfl rfl rfl ?_
        refine LX.pure (Y.move rfl) rfl rfl rfl ?_
        refine LX.pure (Y.lenSl rfl Fp.un58 rfl) rfl rfl rfl ?_
        refine LX.pure (Y.subN (a := ns.length) (b := 1) rfl rfl (by omega) (by omega)) rfl rfl rfl ?_
        refine LX.pure (Y.move rfl) rfl rfl rfl ?_
        refine LX.pure (Y.subN (a := ns.length - 1) (b := i) rfl rfl (by omega) (by omega)) rfl rfl rfl ?_
        refine LX.call (Bsf.of_n hS (i := ns.length - 1 - i) (by omega)) Fv.en10 rfl rfl rfl rfl rfl ?_
        rintro ⟨gd, cd⟩
        refine LX.have fun hxb => ?_
        dsimp only at hxb ⊢
        refine LX.call (int_c _ gd cd) Fv.en9 rfl rfl rfl rfl rfl ?_
        intro _
        refine LX.buildSlice (e := 31) (size := 1) rfl rfl (fun _ => by kernel_rfl) rfl (by decide) rfl rfl rfl ?_
        intro gt50
        refine LX.appendT 3 Fr.el49 rfl rfl rfl rfl rfl rfl rfl (by omega) (by omega) rfl rfl rfl ?_
        intro gb2 cb2
        refine LX.pure (Y.assign rfl) rfl rfl rfl ?_
        refine LX.sub (l' := [(0, _), (1, _), (6, _), (7, _), (8, _), (9, _)]) ⟨rfl, rfl, rfl, rfl, rfl, rfl, trivial⟩ ?_
        refine LX.next ?_
        refine PX.blockN ?_
        refine PX.thenN ?_
        refine CX.region ?_
        refine LX.pure (Y.move rfl) rfl rfl rfl ?_
        first
          | refine LX.pure (Y.addN rfl rfl (by first | omega | (simp only []; omega) | (simp; done) | (simp; omega))) rfl rfl rfl ?_
          | refine LX.pure (Y.add rfl rfl (by first | omega | (simp only []; omega) | (simp; done) | (simp; omega))) rfl rfl rfl ?_
        refine LX.pure (Y.assign rfl) rfl rfl rfl ?_
        refine LX.sub (l' := [(0, _), (1, _), (6, _), (7, _), (8, _), (9, _)]) ⟨rfl, rfl, rfl, rfl, rfl, rfl, trivial⟩ ?_
        refine LX.next ?_
        exact PX.again (L := (fun s : Nat × (Option Nat × Nat) × (Option Nat × Nat) × (Option Nat × Nat) × List Value × List Value × List It => [(0, .slice av ns.length cn), (1, .int .i64 z), (6, rv s.2.1.1 s.1 s.2.1.2), (7, rv s.2.2.1.1 s.1 s.2.2.1.2), (8, rv s.2.2.2.1.1 s.1 s.2.2.2.1.2), (9, .int .i64 (s.1 : Int))])) (WW := (fun (s : Nat × (Option Nat × Nat) × (Option Nat × Nat) × (Option Nat × Nat) × List Value × List Value × List It) w => (s.1 ≤ ns.length ∧ Own ((upto ns.length).take s.1) s.2.2.2.2.1 s.2.2.2.2.2.2 ∧ Own ((upto ns.length).reverse.take s.1) s.2.2.2.2.2.1 s.2.2.2.2.2.2) ∧ WA w0 base (.row s.2.1.1 s.2.1.2 s.1 31 1 (s.2.2.2.2.1) :: .row s.2.2.1.1 s.2.2.1.2 s.1 31 1 (s.2.2.2.2.2.1) :: .row s.2.2.2.1.1 s.2.2.2.1.2 s.1 9 1 ((ns.reverse.take s.1).map str) :: (s.2.2.2.2.2.2 ++ fr)) w)) (μ := fun s => ns.length - s.1) (i := (i, (gl, cl), (gb, cb), (gt, ct), us, vs, ds)) (i + 1, (gl2, cl2), (gb2, cb2), (gt2, ct2), us ++ [.iface 82 (numV (i : Int) ga ca)], vs ++ [.iface 82 (numV ((ns.length - 1 - i : Nat) : Int) gd cd)], dR (ns.length - 1 - i) gd cd :: dR i ga ca :: ds) (by show ns.length - (i + 1) < ns.length - i; omega) ⟨rfl, rfl, rfl, rfl, rfl, rfl, trivial⟩ (fun w hw => ⟨⟨by show i + 1 ≤ ns.length; omega, by dsimp only; rw [upto_take hi1]; exact hoa.snoc (fun it h => List.mem_cons_of_mem _ (List.mem_cons_of_mem _ h)) (by omega) hxa (List.mem_cons_of_mem _ List.mem_cons_self), by dsimp only; rw [uptor_take hi1]; exact hob.snoc (fun it h => List.mem_cons_of_mem _ (List.mem_cons_of_mem _ h)) (by omega) hxb List.mem_cons_self⟩, by
          have h2 := hw.perm (List.perm_append_comm_assoc [_, _, _] [_, _] _)
          rw [rev_take hi1]
          exact h2⟩)
      · try simp at hb4
        have hie : i = ns.length := by omega
        subst hie
        rw [List.take_of_length_le (by rw [upto_len]; exact Nat.le_refl _)] at hoa
        rw [List.take_of_length_le (by rw [List.length_reverse, upto_len]; exact Nat.le_refl _)] at hob
        have hul : us.length = ns.length := by rw [hoa.len, upto_len]
        have hvl : vs.length = ns.length := by rw [hob.len, List.length_reverse, upto_len]
        rw [List.take_of_length_le (l := ns.reverse) (by rw [List.length_reverse]; exact Nat.le_refl _)]
        have hS12 : (srt ns).length ≤ 12 := by rw [srt_len.2 hnd]; exact h12
        refine CX.exit ?_
        refine PX.thenE ?_
        refine PX.thenE ?_
        refine PX.blockE ?_
        refine PX.thenN ?_
        refine CX.seq ?_
        refine CX.region ?_
        refine LX.pure (Y.move rfl) rfl rfl rfl ?_
        refine LX.pure (Y.move rfl) rfl rfl rfl ?_
        refine LX.call (struct_w (its := .row gl cl ns.length 31 1 (us) :: .row gb cb ns.length 31 1 (vs) :: .row gt ct ns.length 9 1 (ns.reverse.map str) :: (ds ++ fr)) hS rfl (fun w hw => hN.push hw) (fun w hw => sl_row (g := gl) (c := cl) (n := ns.length) (e := 31) (xs := us) hw (by simp)) hul h12 hoa.one hlen hnd) Fv.en26 rfl rfl rfl rfl rfl ?_
        rintro ⟨ba, ⟨ga1, ca1⟩, ⟨ga2, ca2⟩⟩
        refine LX.have fun hza => ?_
        dsimp only at hza ⊢
        refine LX.pure (Y.move rfl) rfl rfl rfl ?_
        refine LX.pure (Y.extract rfl rfl) rfl rfl rfl ?_
        refine LX.pure (Y.extract rfl rfl) rfl rfl rfl ?_
        refine LX.pure (Y.assign rfl) rfl rfl rfl ?_
        refine LX.pure (Y.assign rfl) rfl rfl rfl ?_
        refine LX.sub (l' := [(0, _), (1, _), (6, _), (7, _), (8, _), (10, _), (11, _)]) ⟨rfl, rfl, rfl, rfl, rfl, rfl, rfl, trivial⟩ ?_
        refine LX.next ?_
        refine PX.thenN ?_
        refine CX.seq ?_
        refine CX.region ?_
        refine LX.pure (Y.move rfl) rfl rfl rfl ?_
        refine LX.pure (Y.move rfl) rfl rfl rfl ?_
        refine LX.call (struct_w (its := blk ba [rv ga1 ns.length ca1, rv ga2 ns.length ca2] 115 :: .row ga1 ca1 ns.length 9 1 ((srt ns).map str) :: .row ga2 ca2 ns.length 31 1 (vals .nilIface ns us) :: .row gl cl ns.length 31 1 (us) :: .row gb cb ns.length 31 1 (vs) :: .row gt ct ns.length 9 1 (ns.reverse.map str) :: (ds ++ fr)) hS List.length_reverse (fun w hw => sl_row (g := gt) (c := ct) (n := ns.length) (e := 9) (xs := ns.reverse.map str) hw (by simp)) (fun w hw => sl_row (g := gb) (c := cb) (n := ns.length) (e := 31) (xs := vs) hw (by simp)) hvl h12 hob.one (fun s hs => hlen s (List.mem_reverse.1 hs)) ((List.reverse_perm ns).nodup_iff.2 hnd)) Fv.en26 rfl rfl rfl rfl rfl ?_
        rintro ⟨bb, ⟨gb1, cb1⟩, ⟨gb2, cb2⟩⟩
        refine LX.have fun hzb => ?_
        dsimp only at hzb ⊢
        refine LX.pure (Y.move rfl) rfl rfl rfl ?_
        refine LX.pure (Y.extract rfl rfl) rfl rfl rfl ?_
        refine LX.pure (Y.extract rfl rfl) rfl rfl rfl ?_
        refine LX.pure (Y.assign rfl) rfl rfl rfl ?_
        refine LX.pure (Y.assign rfl) rfl rfl rfl ?_
        refine LX.sub (l' := [(0, _), (1, _), (6, _), (7, _), (8, _), (10, _), (11, _), (12, _), (13, _)]) ⟨rfl, rfl, rfl, rfl, rfl, rfl, rfl, rfl, rfl, trivial⟩ ?_
        refine LX.next ?_
        refine PX.thenN ?_
        refine CX.seq ?_
        refine CX.seq ?_
        refine CX.region ?_
        refine LX.pure (Y.move rfl) rfl rfl rfl ?_
        refine LX.call (sortedT_c hN h12) Fv.en27 rfl rfl rfl rfl rfl ?_
        rintro ⟨gs, cs⟩
        refine LX.world (W' := WA w0 base (blk bb [rv gb1 ns.length cb1, rv gb2 ns.length cb2] 115 :: .row gb1 cb1 ns.length 9 1 ((srt ns.reverse).map str) :: .row gb2 cb2 ns.length 31 1 (vals .nilIface ns.reverse vs) :: blk ba [rv ga1 ns.length ca1, rv ga2 ns.length ca2] 115 :: .row ga1 ca1 ns.length 9 1 ((srt ns).map str) :: .row ga2 ca2 ns.length 31 1 (vals .nilIface ns us) :: .row gl cl ns.length 31 1 (us) :: .row gb cb ns.length 31 1 (vs) :: .row gt ct ns.length 9 1 (ns.reverse.map str) :: (ds ++ fr))) (fun w hw => hw.drop (List.sublist_cons_self _ _)) ?_
        refine LX.pure (Y.lenSl rfl Fp.un58 rfl) rfl rfl rfl ?_
        refine LX.pure (Y.move rfl) rfl rfl rfl ?_
        refine LX.pure (Y.lenSl rfl Fp.un58 rfl) rfl rfl rfl ?_
        first
          | refine LX.pure (Y.neN rfl rfl) rfl rfl rfl ?_
          | refine LX.pure (Y.neI rfl rfl) rfl rfl rfl ?_
        refine LX.sub (l' := [(0, _), (1, _), (6, _), (7, _), (8, _), (10, _), (11, _), (12, _), (13, _), (86, _)]) ⟨rfl, rfl, rfl, rfl, rfl, rfl, rfl, rfl, rfl, rfl, trivial⟩ ?_
        refine LX.next ?_
        refine PX.thenN ?_
        refine CX.cond rfl (fun hb5 => ?_) (fun hb5 => ?_)
        · try simp at hb5
          exact absurd (srt_len.2 hnd) (by omega)
        · try simp at hb5
          refine CX.skip ?_
          refine PX.thenN ?_
          refine CX.seq ?_
          refine CX.seq ?_
          refine CX.region ?_
          refine LX.pure (Y.move rfl) rfl rfl rfl ?_
          first
            | refine LX.pure (Y.eqNil Fv.un31 rfl rfl) rfl rfl rfl ?_
            | refine LX.pure (Y.eqNilNil Fv.un31 rfl) rfl rfl rfl ?_
          refine LX.pure (Y.move rfl) rfl rfl rfl ?_
          refine LX.sub (l' := [(0, _), (1, _), (6, _), (7, _), (8, _), (10, _), (11, _), (12, _), (13, _), (103, _)]) ⟨rfl, rfl, rfl, rfl, rfl, rfl, rfl, rfl, rfl, rfl, trivial⟩ ?_
          apply LX.joinOr 3 106 103 rfl
          · intro hb6
            first | done | (exfalso; simp_all; done) | cases hb6
          · intro hb6
            have hb6p := hb6
            try simp at hb6p
            refine LX.gT rfl rfl rfl hb6 (Y.move rfl) rfl rfl ?_
            first
              | refine LX.gT rfl rfl rfl hb6 (Y.eqNil Fv.un31 rfl rfl) rfl rfl ?_
              | refine LX.gT rfl rfl rfl hb6 (Y.eqNilNil Fv.un31 rfl) rfl rfl ?_
            refine LX.pure (Y.pickF rfl hb6 rfl) rfl rfl rfl ?_
            exact LX.left ⟨rfl, rfl, rfl, rfl, rfl, rfl, rfl, rfl, rfl, rfl, rfl, trivial⟩
          refine LX.pure (Y.move rfl) rfl rfl rfl ?_
          refine LX.sub (l' := [(0, _), (1, _), (6, _), (7, _), (8, _), (10, _), (11, _), (12, _), (13, _), (107, _)]) ⟨rfl, rfl, rfl, rfl, rfl, rfl, rfl, rfl, rfl, rfl, trivial⟩ ?_
          apply LX.joinOr 3 110 107 rfl
          · intro hb7
            first | done | (exfalso; simp_all; done) | cases hb7
          · intro hb7
            have hb7p := hb7
            try simp at hb7p
            refine LX.gT rfl rfl rfl hb7 (Y.move rfl) rfl rfl ?_
            first
              | refine LX.gT rfl rfl rfl hb7 (Y.neNil Fo.un40 rfl rfl) rfl rfl ?_
              | refine LX.gT rfl rfl rfl hb7 (Y.neNilNil Fo.un40 rfl) rfl rfl ?_
            refine LX.pure (Y.pickF rfl hb7 rfl) rfl rfl rfl ?_
            exact LX.left ⟨rfl, rfl, rfl, rfl, rfl, rfl, rfl, rfl, rfl, rfl, rfl, trivial⟩
          refine LX.pure (Y.move rfl) rfl rfl rfl ?_
          refine LX.sub (l' := [(0, _), (1, _), (6, _), (7, _), (8, _), (10, _), (12, _), (13, _), (111, _)]) ⟨rfl, rfl, rfl, rfl, rfl, rfl, rfl, rfl, rfl, trivial⟩ ?_
          apply LX.joinOr 3 114 111 rfl
          · intro hb8
            first | done | (exfalso; simp_all; done) | cases hb8
          · intro hb8
            have hb8p := hb8
            try simp at hb8p
            refine LX.gT rfl rfl rfl hb8 (Y.move rfl) rfl rfl ?_
            first
              | refine LX.gT rfl rfl rfl hb8 (Y.neNil Fo.un40 rfl rfl) rfl rfl ?_
              | refine LX.gT rfl rfl rfl hb8 (Y.neNilNil Fo.un40 rfl) rfl rfl ?_
            refine LX.pure (Y.pickF rfl hb8 rfl) rfl rfl rfl ?_
            exact LX.left ⟨rfl, rfl, rfl, rfl, rfl, rfl, rfl, rfl, rfl, rfl, trivial⟩
          refine LX.sub (l' := [(0, _), (1, _), (6, _), (7, _), (8, _), (10, _), (12, _), (114, _)]) ⟨rfl, rfl, rfl, rfl, rfl, rfl, rfl, rfl, trivial⟩ ?_
          refine LX.next ?_
          refine PX.thenN ?_
          refine CX.cond rfl (fun hb9 => ?_) (fun hb9 => ?_)
          · try simp at hb9
            first | done | (exfalso; omega) | (exfalso; simp_all; done)
          · try simp at hb9
            refine CX.skip ?_
            refine PX.thenN ?_
            refine CX.seq ?_
            refine CX.region ?_
            refine LX.pure (Y.move rfl) rfl rfl rfl ?_
            refine LX.pure (Y.move rfl) rfl rfl rfl ?_
            refine LX.call (none_c) Fw.en24 rfl rfl rfl rfl rfl ?_
            intro _
            refine LX.buildSlice (e := 31) (size := 1) rfl rfl (fun _ => by kernel_rfl) rfl (by decide) rfl rfl rfl ?_
            intro gt95
            refine LX.appendT 6 Fr.el49 rfl rfl rfl rfl rfl rfl rfl (by omega) (by omega) rfl rfl rfl ?_
            intro gl3 cl3
            refine LX.call (struct_len hS (n := ns.length) (m := ns.length + 1) (by omega)) Fv.en26 rfl rfl rfl rfl rfl ?_
            intro _
            refine LX.world (W' := WA w0 base (blk bb [rv gb1 ns.length cb1, rv gb2 ns.length cb2] 115 :: .row gb1 cb1 ns.length 9 1 ((srt ns.reverse).map str) :: .row gb2 cb2 ns.length 31 1 (vals .nilIface ns.reverse vs) :: blk ba [rv ga1 ns.length ca1, rv ga2 ns.length ca2] 115 :: .row ga1 ca1 ns.length 9 1 ((srt ns).map str) :: .row ga2 ca2 ns.length 31 1 (vals .nilIface ns us) :: .row gb cb ns.length 31 1 (vs) :: .row gt ct ns.length 9 1 (ns.reverse.map str) :: (ds ++ fr))) (fun w hw => (show WA w0 base (blk bb [rv gb1 ns.length cb1, rv gb2 ns.length cb2] 115 :: .row gb1 cb1 ns.length 9 1 ((srt ns.reverse).map str) :: .row gb2 cb2 ns.length 31 1 (vals .nilIface ns.reverse vs) :: blk ba [rv ga1 ns.length ca1, rv ga2 ns.length ca2] 115 :: .row ga1 ca1 ns.length 9 1 ((srt ns).map str) :: .row ga2 ca2 ns.length 31 1 (vals .nilIface ns us) :: .row gl3 cl3 (ns.length + 1) 31 1 (us ++ [.iface 107 (.agg #[])]) :: .row gb cb ns.length 31 1 (vs) :: .row gt ct ns.length 9 1 (ns.reverse.map str) :: (ds ++ fr)) w from hw).drop (List.Sublist.cons_cons _ (List.Sublist.cons_cons _ (List.Sublist.cons_cons _ (List.Sublist.cons_cons _ (List.Sublist.cons_cons _ (List.Sublist.cons_cons _ (List.Sublist.cons _ (List.Sublist.refl _))))))))) ?_
            refine LX.pure (Y.move rfl) rfl rfl rfl ?_
            refine LX.pure (Y.extract rfl rfl) rfl rfl rfl ?_
            refine LX.pure (Y.extract rfl rfl) rfl rfl rfl ?_
            refine LX.pure (Y.assign rfl) rfl rfl rfl ?_
            refine LX.pure (Y.assign rfl) rfl rfl rfl ?_
            refine LX.sub (l' := [(0, _), (1, _), (7, _), (8, _), (10, _), (12, _), (15, _)]) ⟨rfl, rfl, rfl, rfl, rfl, rfl, rfl, trivial⟩ ?_
            refine LX.next ?_
            refine PX.thenN ?_
            refine CX.seq ?_
            refine CX.region ?_
            refine LX.pure (Y.move rfl) rfl rfl rfl ?_
            refine LX.pure (Y.move rfl) rfl rfl rfl ?_
            refine LX.call (equal_w (fun w hw => st_w (g1 := ga1) (c1 := ca1) (g2 := ga2) (c2 := ca2) (us := us) hw rfl hnd (hoa.vs hw (fun it h => by simp [h])) (upto_len _) (by simp) (by simp) (by simp)) (fun w hw => by rw [← srt_rev ns]; exact st_w (g1 := gb1) (c1 := cb1) (g2 := gb2) (c2 := cb2) (us := vs) hw List.length_reverse ((List.reverse_perm ns).nodup_iff.2 hnd) (hob.vs hw (fun it h => by simp [h])) (by rw [List.length_reverse, upto_len]) (by simp) (by simp) (by simp)) hS12 (vals_some hnd) (b := true) (decide_eq_true (vals_rev hnd (upto_len _)).symm)) Fw.en28 rfl rfl rfl rfl rfl ?_
            intro _
            refine LX.pure (Y.move rfl) rfl rfl rfl ?_
            refine LX.pure (Y.extract rfl rfl) rfl rfl rfl ?_
            refine LX.pure (Y.extract rfl rfl) rfl rfl rfl ?_
            refine LX.pure (Y.assign rfl) rfl rfl rfl ?_
            refine LX.pure (Y.assign rfl) rfl rfl rfl ?_
            refine LX.sub (l' := [(0, _), (1, _), (7, _), (8, _), (10, _), (15, _), (16, _), (17, _)]) ⟨rfl, rfl, rfl, rfl, rfl, rfl, rfl, rfl, trivial⟩ ?_
            refine LX.next ?_
            refine PX.thenN ?_
            refine CX.seq ?_
            refine CX.seq ?_
            refine CX.region ?_
            refine LX.pure (Y.move rfl) rfl rfl rfl ?_
            refine LX.pure (Y.not rfl) rfl rfl rfl ?_
            refine LX.pure (Y.move rfl) rfl rfl rfl ?_
            refine LX.caseB (s := 132) rfl (fun hb10 => ?_) (fun hb10 => ?_)
            ·
              first | (exfalso; simp_all; done) | cases hb10
            ·
              have hb10p := hb10
              try simp at hb10p
              refine LX.gT rfl rfl rfl hb10 (Y.move rfl) rfl rfl ?_
              first
                | refine LX.gT rfl rfl rfl hb10 (Y.neNil Fo.un40 rfl rfl) rfl rfl ?_
                | refine LX.gT rfl rfl rfl hb10 (Y.neNilNil Fo.un40 rfl) rfl rfl ?_
              refine LX.pure (Y.pickF rfl hb10 rfl) rfl rfl rfl ?_
              refine LX.pure (Y.move rfl) rfl rfl rfl ?_
              refine LX.caseB (s := 136) rfl (fun hb11 => ?_) (fun hb11 => ?_)
              ·
                first | (exfalso; simp_all; done) | cases hb11
              ·
                have hb11p := hb11
                try simp at hb11p
                refine LX.gT rfl rfl rfl hb11 (Y.move rfl) rfl rfl ?_
                refine LX.callQT rfl rfl rfl hb11 (Isa.is_q (fun w hw => Bsf.push hS hw) (i := 12) (by decide) (b := true) (by decide)) Fv.en23 rfl rfl rfl rfl ?_
                refine LX.gT rfl rfl rfl hb11 (Y.not rfl) rfl rfl ?_
                refine LX.pure (Y.pickF rfl hb11 rfl) rfl rfl rfl ?_
                refine LX.pure (Y.move rfl) rfl rfl rfl ?_
                refine LX.caseB (s := 141) rfl (fun hb12 => ?_) (fun hb12 => ?_)
                ·
                  first | (exfalso; simp_all; done) | cases hb12
                ·
                  have hb12p := hb12
                  try simp at hb12p
                  refine LX.gT rfl rfl rfl hb12 (Y.move rfl) rfl rfl ?_
                  refine LX.callT rfl rfl rfl hb12 (fields_w (fun w hw => st_w (g1 := ga1) (c1 := ca1) (g2 := ga2) (c2 := ca2) (us := us) hw rfl hnd (hoa.vs hw (fun it h => by simp [h])) (upto_len _) (by simp) (by simp) (by simp)) hS12) Fw.en30 rfl rfl rfl rfl ?_
                  rintro ⟨gf, cf⟩
                  refine LX.gT rfl rfl rfl hb12 (Y.move rfl) rfl rfl ?_
                  refine LX.callT rfl rfl rfl hb12 (sortedT_c hN h12) Fv.en27 rfl rfl rfl rfl ?_
                  rintro ⟨gs2, cs2⟩
                  refine LX.callT rfl rfl rfl hb12 (same_w (S := srt ns) cf cs2 (fun w hw => sl_row (g := gf) (c := cf) (n := (srt ns).length) (e := 9) (xs := (srt ns).map str) hw (by simp)) (fun w hw => sl_row (g := gs2) (c := cs2) (n := (srt ns).length) (e := 9) (xs := (srt ns).map str) hw (by simp)) hS12) Fw.en29 rfl rfl rfl rfl ?_
                  intro _
                  refine LX.world (W' := WA w0 base (blk bb [rv gb1 ns.length cb1, rv gb2 ns.length cb2] 115 :: .row gb1 cb1 ns.length 9 1 ((srt ns.reverse).map str) :: .row gb2 cb2 ns.length 31 1 (vals .nilIface ns.reverse vs) :: blk ba [rv ga1 ns.length ca1, rv ga2 ns.length ca2] 115 :: .row ga1 ca1 ns.length 9 1 ((srt ns).map str) :: .row ga2 ca2 ns.length 31 1 (vals .nilIface ns us) :: .row gb cb ns.length 31 1 (vs) :: .row gt ct ns.length 9 1 (ns.reverse.map str) :: (ds ++ fr))) (fun w hw => hw.drop ((List.sublist_cons_self _ _).cons _)) ?_
                  refine LX.gT rfl rfl rfl hb12 (Y.not rfl) rfl rfl ?_
                  refine LX.pure (Y.pickF rfl hb12 rfl) rfl rfl rfl ?_
                  refine LX.sub (l' := [(0, _), (1, _), (7, _), (8, _), (10, _), (148, _)]) ⟨rfl, rfl, rfl, rfl, rfl, rfl, trivial⟩ ?_
                  refine LX.next ?_
                  refine PX.thenN ?_
                  refine CX.cond rfl (fun hb13 => ?_) (fun hb13 => ?_)
                  · try simp at hb13
                    first | done | (exfalso; omega) | (exfalso; simp_all; done)
                  · try simp at hb13
                    refine CX.skip ?_
                    refine PX.thenN ?_
                    refine CX.seq ?_
                    refine CX.seq ?_
                    refine CX.region ?_
                    refine LX.pure (Y.assign rfl) rfl rfl rfl ?_
                    refine LX.sub (l' := [(0, _), (1, _), (7, _), (8, _), (10, _), (18, _)]) ⟨rfl, rfl, rfl, rfl, rfl, rfl, trivial⟩ ?_
                    refine LX.next ?_
                    refine PX.thenN ?_
                    refine CX.block ?_
                    refine CX.loop (fun i : Nat => [(0, .slice av ns.length cn), (1, .int .i64 z), (7, rv gb ns.length cb), (8, rv gt ns.length ct), (10, .iface 109 (.pointer (some ⟨ba, 0, none⟩))), (18, .int .i64 (i : Int))]) (fun (i : Nat) w => i ≤ ns.length ∧ WA w0 base (blk bb [rv gb1 ns.length cb1, rv gb2 ns.length cb2] 115 :: .row gb1 cb1 ns.length 9 1 ((srt ns.reverse).map str) :: .row gb2 cb2 ns.length 31 1 (vals .nilIface ns.reverse vs) :: blk ba [rv ga1 ns.length ca1, rv ga2 ns.length ca2] 115 :: .row ga1 ca1 ns.length 9 1 ((srt ns).map str) :: .row ga2 ca2 ns.length 31 1 (vals .nilIface ns us) :: .row gb cb ns.length 31 1 (vs) :: .row gt ct ns.length 9 1 (ns.reverse.map str) :: (ds ++ fr)) w) (fun i => ns.length - i) 0 ⟨rfl, rfl, rfl, rfl, rfl, rfl, trivial⟩ (fun w hw => ⟨Nat.zero_le _, hw⟩) ?_
                    intro i
                    refine CX.have fun hi0 => ?_
                    try dsimp only at hi0 ⊢
                    refine CX.seq ?_
                    refine CX.seq ?_
                    refine CX.region ?_
                    refine LX.pure (Y.move rfl) rfl rfl rfl ?_
                    refine LX.pure (Y.move rfl) rfl rfl rfl ?_
                    refine LX.pure (Y.lenSl rfl Fp.un58 rfl) rfl rfl rfl ?_
                    first
                      | refine LX.pure (Y.ltN rfl rfl) rfl rfl rfl ?_
                      | refine LX.pure (Y.ltI rfl rfl) rfl rfl rfl ?_
                    refine LX.sub (l' := [(0, _), (1, _), (7, _), (8, _), (10, _), (18, _), (152, _)]) ⟨rfl, rfl, rfl, rfl, rfl, rfl, rfl, trivial⟩ ?_
                    refine LX.next ?_
                    refine PX.thenN ?_
                    refine CX.cond rfl (fun hb14 => ?_) (fun hb14 => ?_)
                    · try simp at hb14
                      have hi1 : i < ns.length := by omega
                      obtain ⟨a3, ha3, hq3, hc3⟩ := hN.at_ i _ (str_at (i := i) (by omega))
                      obtain ⟨m9, hm1, hm2, hm3⟩ := field_at hnd hi1
                      refine CX.skip ?_
                      refine PX.thenN ?_
                      refine CX.seq ?_
                      refine CX.block ?_
                      refine CX.seq ?_
                      refine CX.region ?_
                      refine LX.pure (Y.move rfl) rfl rfl rfl ?_
                      refine LX.pure (Y.move rfl) rfl rfl rfl ?_
                      refine LX.pure (Y.move rfl) rfl rfl rfl ?_
                      refine LX.pure (Y.idxS Fp.un58 Fp.sz9 rfl rfl (by omega) ha3) rfl rfl rfl ?_
                      refine LX.pure (Y.ldO Fp.one9 rfl hc3 hq3) rfl rfl rfl ?_
                      refine LX.call (field_w (fun w hw => st_w (g1 := ga1) (c1 := ca1) (g2 := ga2) (c2 := ca2) (us := us) hw rfl hnd (hoa.vs hw (fun it h => by simp [h])) (upto_len _) (by simp) (by simp) (by simp)) hS12 (srt_inc ns) hm1 hm2 hm3) Fw.en31 rfl rfl rfl rfl rfl ?_
                      intro u
                      refine LX.pure (Y.move rfl) rfl rfl rfl ?_
                      refine LX.pure (Y.extract rfl rfl) rfl rfl rfl ?_
                      refine LX.pure (Y.extract rfl rfl) rfl rfl rfl ?_
                      refine LX.pure (Y.assign rfl) rfl rfl rfl ?_
                      refine LX.pure (Y.assign rfl) rfl rfl rfl ?_
                      refine LX.sub (l' := [(0, _), (1, _), (7, _), (8, _), (10, _), (18, _), (19, _), (20, _)]) ⟨rfl, rfl, rfl, rfl, rfl, rfl, rfl, rfl, trivial⟩ ?_
                      refine LX.next ?_
                      refine PX.thenN ?_
                      refine CX.seq ?_
                      refine CX.region ?_
                      refine LX.pure (Y.move rfl) rfl rfl rfl ?_
                      refine LX.pure (Y.not rfl) rfl rfl rfl ?_
                      refine LX.pure (Y.move rfl) rfl rfl rfl ?_
                      refine LX.caseB (s := 166) rfl (fun hb15 => ?_) (fun hb15 => ?_)
                      ·
                        first | (exfalso; simp_all; done) | cases hb15
                      ·
                        have hb15p := hb15
                        try simp at hb15p
                        refine LX.gT rfl rfl rfl hb15 (Y.move rfl) rfl rfl ?_
                        refine LX.callQT rfl rfl rfl hb15 (Bsf.repr_q (fun w hw => Bsf.push hS hw.2) (i := i) (by omega) (fun w hw => hw.1)) Fw.en20 rfl rfl rfl rfl ?_
                        refine LX.gT rfl rfl rfl hb15 (Y.move rfl) rfl rfl ?_
                        refine LX.callT rfl rfl rfl hb15 (of_w (fun w hw => Bsf.push hS hw.2) (i := i) (by omega)) Fv.en10 rfl rfl rfl rfl ?_
                        rintro ⟨g9, c9⟩
                        refine LX.have fun hx9 => ?_
                        dsimp only at hx9 ⊢
                        refine LX.callQT rfl rfl rfl hb15 (Bsf.text_q (fun w hw => Bsf.push hS hw.2.2) (i := i) (by omega) (fun w hw => hw.1) hx9) Fw.en17 rfl rfl rfl rfl ?_
                        refine LX.gT rfl rfl rfl hb15 (Y.neS rfl rfl) rfl rfl ?_
                        refine LX.pure (Y.pickF rfl hb15 rfl) rfl rfl rfl ?_
                        refine LX.sub (l' := [(0, _), (1, _), (7, _), (8, _), (10, _), (18, _), (173, _)]) ⟨rfl, rfl, rfl, rfl, rfl, rfl, rfl, trivial⟩ ?_
                        refine LX.next ?_
                        refine PX.thenN ?_
                        refine CX.cond rfl (fun hb16 => ?_) (fun hb16 => ?_)
                        · try simp at hb16
                          first | done | (exfalso; omega) | (exfalso; simp_all; done)
                        · try simp at hb16
                          refine CX.skip ?_
                          refine PX.blockN ?_
                          refine PX.thenN ?_
                          refine CX.region ?_
                          refine LX.pure (Y.move rfl) rfl rfl rfl ?_
                          first
                            | refine LX.pure (Y.addN rfl rfl (by first | omega | (simp only []; omega) | (simp; done) | (simp; omega))) rfl rfl rfl ?_
                            | refine LX.pure (Y.add rfl rfl (by first | omega | (simp only []; omega) | (simp; done) | (simp; omega))) rfl rfl rfl ?_
                          refine LX.pure (Y.assign rfl) rfl rfl rfl ?_
                          refine LX.sub (l' := [(0, _), (1, _), (7, _), (8, _), (10, _), (18, _)]) ⟨rfl, rfl, rfl, rfl, rfl, rfl, trivial⟩ ?_
                          refine LX.next ?_
                          exact PX.again (L := (fun i : Nat => [(0, .slice av ns.length cn), (1, .int .i64 z), (7, rv gb ns.length cb), (8, rv gt ns.length ct), (10, .iface 109 (.pointer (some ⟨ba, 0, none⟩))), (18, .int .i64 (i : Int))])) (WW := (fun (i : Nat) w => i ≤ ns.length ∧ WA w0 base (blk bb [rv gb1 ns.length cb1, rv gb2 ns.length cb2] 115 :: .row gb1 cb1 ns.length 9 1 ((srt ns.reverse).map str) :: .row gb2 cb2 ns.length 31 1 (vals .nilIface ns.reverse vs) :: blk ba [rv ga1 ns.length ca1, rv ga2 ns.length ca2] 115 :: .row ga1 ca1 ns.length 9 1 ((srt ns).map str) :: .row ga2 ca2 ns.length 31 1 (vals .nilIface ns us) :: .row gb cb ns.length 31 1 (vs) :: .row gt ct ns.length 9 1 (ns.reverse.map str) :: (ds ++ fr)) w)) (μ := fun i => ns.length - i) (i := i) (i + 1) (by show ns.length - (i + 1) < ns.length - i; omega) ⟨rfl, rfl, rfl, rfl, rfl, rfl, trivial⟩ (fun w hw => ⟨by omega, hw.2.2⟩)
                    · try simp at hb14
                      refine CX.exit ?_
                      refine PX.thenE ?_
                      refine PX.thenE ?_
                      refine PX.blockE ?_
                      refine PX.thenN ?_
                      refine CX.seq ?_
                      refine CX.seq ?_
                      refine CX.region ?_
                      refine LX.pure (Y.move rfl) rfl rfl rfl ?_
                      refine LX.pure (Y.lenSl rfl Fp.un58 rfl) rfl rfl rfl ?_
                      first
                        | refine LX.pure (Y.eqN rfl rfl) rfl rfl rfl ?_
                        | refine LX.pure (Y.eqI rfl rfl) rfl rfl rfl ?_
                      refine LX.sub (l' := [(1, _), (7, _), (8, _), (10, _), (176, _)]) ⟨rfl, rfl, rfl, rfl, rfl, trivial⟩ ?_
                      refine LX.next ?_
                      refine PX.thenN ?_
                      refine CX.cond rfl (fun hb17 => ?_) (fun hb17 => ?_)
                      · try simp at hb17
                        have hn0 : ns.length = 0 := by first | omega | (simp_all; done)
                        obtain ⟨e1, e2⟩ := hza hn0
                        obtain ⟨rfl, rfl⟩ := Prod.mk.inj e1
                        obtain ⟨rfl, rfl⟩ := Prod.mk.inj e2
                        refine CX.seq ?_
                        refine CX.region ?_
                        refine LX.pure (Y.move rfl) rfl rfl rfl ?_
                        refine LX.callQ (Bsf.reprS_q (fun w hw => Bsf.push hS hw) (b := ba) (fun w hw => by
                          have h9 := cells_of (b := ba) (x := rv none ns.length 0) (y := rv none ns.length 0) (t := 115) hw (by simp)
                          rw [hn0] at h9
                          exact h9)) Fw.en20 rfl rfl rfl rfl rfl ?_
                        refine LX.pure (Y.eqS rfl rfl) rfl rfl rfl ?_
                        refine LX.pure (Y.assign rfl) rfl rfl rfl ?_
                        refine LX.sub (l' := [(1, _), (4, _), (7, _), (8, _), (10, _)]) ⟨rfl, rfl, rfl, rfl, rfl, trivial⟩ ?_
                        refine LX.next ?_
                        refine PX.thenN ?_
                        refine CX.ret ?_
                        refine PX.thenR ?_
                        refine PX.ret1 (by simp) Tryz.results4 rfl ?_
                        exact fun w hw => ⟨(), by simp, hw.drop (List.Sublist.cons _ (List.Sublist.cons _ (List.Sublist.cons _ (List.Sublist.cons _ (List.Sublist.cons _ (List.Sublist.cons _ (List.Sublist.cons _ (List.Sublist.cons _ ((List.sublist_append_right ds fr))))))))))⟩
                      · try simp at hb17
                        have hn1 : 0 < ns.length := by first | omega | (exact List.length_pos_iff.2 (by assumption)) | (simp_all; done)
                        refine CX.skip ?_
                        refine PX.thenN ?_
                        refine CX.seq ?_
                        refine CX.region ?_
                        refine LX.pure (Y.move rfl) rfl rfl rfl ?_
                        refine LX.pure (Y.move rfl) rfl rfl rfl ?_
                        refine LX.pure (Y.move rfl) rfl rfl rfl ?_
                        refine LX.pure (Y.lenSl rfl Fp.un49 rfl) rfl rfl rfl ?_
                        refine LX.call (numb_c z ⟨by omega, h12⟩) Fw.en7 rfl rfl rfl rfl rfl ?_
                        intro m
                        refine LX.have fun hmn => ?_
                        dsimp only at hmn ⊢
                        refine LX.call (none_c) Fw.en24 rfl rfl rfl rfl rfl ?_
                        intro _
                        refine LX.pure (Y.idxR1 6 Fp.un49 Fp.sz31 rfl rfl rfl (by omega)) rfl rfl rfl ?_
                        first
                          | refine LX.storeR 6 Fp.sz31 rfl rfl rfl rfl rfl (by rw [hvl]; omega) rfl rfl ?_
                        refine LX.world (W' := WA w0 base (blk bb [rv gb1 ns.length cb1, rv gb2 ns.length cb2] 115 :: .row gb1 cb1 ns.length 9 1 ((srt ns.reverse).map str) :: .row gb2 cb2 ns.length 31 1 (vals .nilIface ns.reverse vs) :: blk ba [rv ga1 ns.length ca1, rv ga2 ns.length ca2] 115 :: .row ga1 ca1 ns.length 9 1 ((srt ns).map str) :: .row ga2 ca2 ns.length 31 1 (vals .nilIface ns us) :: .row gb cb ns.length 31 1 (vs.set m (.iface 107 (.agg #[]))) :: .row gt ct ns.length 9 1 (ns.reverse.map str) :: (ds ++ fr))) (fun w hw => hw) ?_
                        refine LX.sub (l' := [(7, _), (8, _), (10, _)]) ⟨rfl, rfl, rfl, trivial⟩ ?_
                        refine LX.next ?_
                        refine PX.thenN ?_
                        refine CX.seq ?_
                        refine CX.region ?_
                        refine LX.pure (Y.move rfl) rfl rfl rfl ?_
                        refine LX.pure (Y.move rfl) rfl rfl rfl ?_
                        refine LX.call (struct_w (its := blk bb [rv gb1 ns.length cb1, rv gb2 ns.length cb2] 115 :: .row gb1 cb1 ns.length 9 1 ((srt ns.reverse).map str) :: .row gb2 cb2 ns.length 31 1 (vals .nilIface ns.reverse vs) :: blk ba [rv ga1 ns.length ca1, rv ga2 ns.length ca2] 115 :: .row ga1 ca1 ns.length 9 1 ((srt ns).map str) :: .row ga2 ca2 ns.length 31 1 (vals .nilIface ns us) :: .row gb cb ns.length 31 1 (vs.set m (.iface 107 (.agg #[]))) :: .row gt ct ns.length 9 1 (ns.reverse.map str) :: (ds ++ fr)) hS List.length_reverse (fun w hw => sl_row (g := gt) (c := ct) (n := ns.length) (e := 9) (xs := ns.reverse.map str) hw (by simp)) (fun w hw => sl_row (g := gb) (c := cb) (n := ns.length) (e := 31) (xs := vs.set m (.iface 107 (.agg #[]))) hw (by simp)) (by rw [List.length_set]; exact hvl) h12 (one_set hob.one ⟨_, _, rfl⟩) (fun s hs => hlen s (List.mem_reverse.1 hs)) ((List.reverse_perm ns).nodup_iff.2 hnd)) Fv.en26 rfl rfl rfl rfl rfl ?_
                        rintro ⟨bc, ⟨gc1, cc1⟩, ⟨gc2, cc2⟩⟩
                        refine LX.have fun hzc => ?_
                        dsimp only at hzc ⊢
                        refine LX.pure (Y.move rfl) rfl rfl rfl ?_
                        refine LX.pure (Y.extract rfl rfl) rfl rfl rfl ?_
                        refine LX.pure (Y.extract rfl rfl) rfl rfl rfl ?_
                        refine LX.pure (Y.assign rfl) rfl rfl rfl ?_
                        refine LX.pure (Y.assign rfl) rfl rfl rfl ?_
                        refine LX.sub (l' := [(10, _), (21, _), (22, _)]) ⟨rfl, rfl, rfl, trivial⟩ ?_
                        refine LX.next ?_
                        refine PX.thenN ?_
                        refine CX.seq ?_
                        refine CX.seq ?_
                        refine CX.region ?_
                        refine LX.pure (Y.move rfl) rfl rfl rfl ?_
                        first
                          | refine LX.pure (Y.eqNil Fv.un31 rfl rfl) rfl rfl rfl ?_
                          | refine LX.pure (Y.eqNilNil Fv.un31 rfl) rfl rfl rfl ?_
                        refine LX.pure (Y.move rfl) rfl rfl rfl ?_
                        refine LX.sub (l' := [(10, _), (21, _), (22, _), (195, _)]) ⟨rfl, rfl, rfl, rfl, trivial⟩ ?_
                        apply LX.joinOr 3 198 195 rfl
                        · intro hb18
                          first | done | (exfalso; simp_all; done) | cases hb18
                        · intro hb18
                          have hb18p := hb18
                          try simp at hb18p
                          refine LX.gT rfl rfl rfl hb18 (Y.move rfl) rfl rfl ?_
                          first
                            | refine LX.gT rfl rfl rfl hb18 (Y.neNil Fo.un40 rfl rfl) rfl rfl ?_
                            | refine LX.gT rfl rfl rfl hb18 (Y.neNilNil Fo.un40 rfl) rfl rfl ?_
                          refine LX.pure (Y.pickF rfl hb18 rfl) rfl rfl rfl ?_
                          exact LX.left ⟨rfl, rfl, rfl, rfl, rfl, trivial⟩
                        refine LX.sub (l' := [(10, _), (21, _), (198, _)]) ⟨rfl, rfl, rfl, trivial⟩ ?_
                        refine LX.next ?_
                        refine PX.thenN ?_
                        refine CX.cond rfl (fun hb19 => ?_) (fun hb19 => ?_)
                        · try simp at hb19
                          first | done | (exfalso; omega) | (exfalso; simp_all; done)
                        · try simp at hb19
                          refine CX.skip ?_
                          refine PX.thenN ?_
                          refine CX.seq ?_
                          refine CX.region ?_
                          refine LX.pure (Y.move rfl) rfl rfl rfl ?_
                          refine LX.pure (Y.move rfl) rfl rfl rfl ?_
                          refine LX.call (equal_w (fun w hw => st_w (g1 := ga1) (c1 := ca1) (g2 := ga2) (c2 := ca2) (us := us) hw rfl hnd (hoa.vs hw (fun it h => by simp [h])) (upto_len _) (by simp) (by simp) (by simp)) (fun w hw => by rw [← srt_rev ns]; exact st_w (g1 := gc1) (c1 := cc1) (g2 := gc2) (c2 := cc2) (us := vs.set m (.iface 107 (.agg #[]))) hw List.length_reverse ((List.reverse_perm ns).nodup_iff.2 hnd) (Vs.set (hob.vs hw (fun it h => by simp [h])) m) (by rw [List.length_set, List.length_reverse, upto_len]) (by simp) (by simp) (by simp)) hS12 (vals_some hnd) (b := false) (bent hnd hmn)) Fw.en28 rfl rfl rfl rfl rfl ?_
                          intro _
                          refine LX.pure (Y.move rfl) rfl rfl rfl ?_
                          refine LX.pure (Y.extract rfl rfl) rfl rfl rfl ?_
                          refine LX.pure (Y.extract rfl rfl) rfl rfl rfl ?_
                          refine LX.pure (Y.assign rfl) rfl rfl rfl ?_
                          refine LX.pure (Y.assign rfl) rfl rfl rfl ?_
                          refine LX.sub (l' := [(23, _), (24, _)]) ⟨rfl, rfl, trivial⟩ ?_
                          refine LX.next ?_
                          refine PX.thenN ?_
                          refine CX.seq ?_
                          refine CX.region ?_
                          refine LX.pure (Y.move rfl) rfl rfl rfl ?_
                          refine LX.pure (Y.not rfl) rfl rfl rfl ?_
                          refine LX.pure (Y.move rfl) rfl rfl rfl ?_
                          refine LX.sub (l' := [(24, _), (207, _)]) ⟨rfl, rfl, trivial⟩ ?_
                          apply LX.joinAnd 3 210 207 rfl
                          · intro hb20
                            have hb20p := hb20
                            try simp at hb20p
                            refine LX.gT rfl rfl rfl hb20 (Y.move rfl) rfl rfl ?_
                            first
                              | refine LX.gT rfl rfl rfl hb20 (Y.eqNil Fo.un40 rfl rfl) rfl rfl ?_
                              | refine LX.gT rfl rfl rfl hb20 (Y.eqNilNil Fo.un40 rfl) rfl rfl ?_
                            refine LX.pure (Y.pickT rfl hb20 rfl) rfl rfl rfl ?_
                            exact LX.left ⟨rfl, rfl, rfl, trivial⟩
                          · intro hb20
                            first | done | (exfalso; simp_all; done) | cases hb20
                          refine LX.pure (Y.assign rfl) rfl rfl rfl ?_
                          refine LX.sub (l' := [(4, _)]) ⟨rfl, trivial⟩ ?_
                          refine LX.next ?_
                          refine PX.thenN ?_
                          refine CX.ret ?_
                          refine PX.ret1 (by simp) Tryz.results4 rfl ?_
                          exact fun w hw => ⟨(), rfl, hw.drop (List.Sublist.cons _ (List.Sublist.cons _ (List.Sublist.cons _ (List.Sublist.cons _ (List.Sublist.cons _ (List.Sublist.cons _ (List.Sublist.cons _ (List.Sublist.cons _ (List.Sublist.cons _ (List.Sublist.cons _ (List.Sublist.cons _ ((List.sublist_append_right ds fr)))))))))))))⟩
theorem law_c {w0 : World} {base : Nat} {fr : List It} {aE : Nat → Addr} (hS : EnvS w0 base aE) {av : Option Addr} {ns : List T} {cn : Nat} (hN : Sl w0 base av (ns.map str)) (z : Int) : FnC Tryz.prog 4 #[.slice av ns.length cn, .int .i64 z] (WA w0 base fr) (fun _ : Unit => .bool true) (fun _ => WA w0 base fr) := by
  by_cases h : ns.Nodup
  · exact law_nd hS hN z h
  · exact law_dup hS hN z h
end Go.Proofs.YtifanilblkellaaGreatDoor
