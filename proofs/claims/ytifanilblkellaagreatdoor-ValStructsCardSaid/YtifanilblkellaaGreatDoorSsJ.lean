/-
  Proved here: names of which one is there twice.
-/
import Derived.Test.YtifanilblkellaaGreatDoorSsI
namespace Go.Proofs.YtifanilblkellaaGreatDoor
open Go.SX Go.RowKit Go.Vo Go.Ss Go.Proofs.YtifanilblkellaaGreatDoor.Env
namespace Fv
theorem en10 : Enters Tryz.prog 10 := Enters.of Tryz.func10 (by kernel_rfl) (by kernel_rfl)
theorem en23 : Enters Tryz.prog 23 := Enters.of Tryz.func23 (by kernel_rfl) (by kernel_rfl)
theorem en25 : Enters Tryz.prog 25 := Enters.of Tryz.func25 (by kernel_rfl) (by kernel_rfl)
theorem en26 : Enters Tryz.prog 26 := Enters.of Tryz.func26 (by kernel_rfl) (by kernel_rfl)
theorem en27 : Enters Tryz.prog 27 := Enters.of Tryz.func27 (by kernel_rfl) (by kernel_rfl)
theorem en5 : Enters Tryz.prog 5 := Enters.of Tryz.func5 (by kernel_rfl) (by kernel_rfl)
theorem en9 : Enters Tryz.prog 9 := Enters.of Tryz.func9 (by kernel_rfl) (by kernel_rfl)
theorem un31 : Tryz.prog.underlying 31 = some (.interface #[("Kind", 48), ("smithy/val.value", 1)]) := by kernel_rfl
end Fv
theorem law_dup {w0 : World} {base : Nat} {fr : List It} {aE : Nat → Addr} (hS : EnvS w0 base aE) {av : Option Addr} {ns : List T} {cn : Nat} (hN : Sl w0 base av (ns.map str)) (z : Int) (hnd : ¬ns.Nodup) : FnC Tryz.prog 4 #[.slice av ns.length cn, .int .i64 z] (WA w0 base fr) (fun _ : Unit => .bool true) (fun _ => WA w0 base fr) := by
  refine FnC.of_body (fn := Tryz.f4) [(0, _), (1, _)] Tryz.func4 rfl Tryz.ntmps4 rfl ⟨rfl, rfl, trivial⟩ ?_
  refine CX.seq ?_
  refine CX.region ?_
  refine LX.pure (Y.assign rfl) rfl rfl rfl ?_
  refine LX.sub (l' := [(0, _), (1, _), (4, _)]) ⟨rfl, rfl, rfl, trivial⟩ ?_
  refine LX.next ?_
  refine PX.thenN ?_
  refine CX.seq ?_
  refine CX.region ?_
  refine LX.callQ (Bsf.first_q hS _) Fv.en5 rfl rfl rfl rfl rfl ?_
  refine LX.pure (Y.assign rfl) rfl rfl rfl ?_
  refine LX.sub (l' := [(0, _), (1, _), (4, _), (5, _)]) ⟨rfl, rfl, rfl, rfl, trivial⟩ ?_
  refine LX.next ?_
  refine PX.thenN ?_
  refine CX.seq ?_
  refine CX.seq ?_
  refine CX.region ?_
  refine LX.pure (Y.move rfl) rfl rfl rfl ?_
  refine LX.pure (Y.not rfl) rfl rfl rfl ?_
  refine LX.sub (l' := [(0, _), (1, _), (4, _), (5, _), (27, _)]) ⟨rfl, rfl, rfl, rfl, rfl, trivial⟩ ?_
  refine LX.next ?_
  refine PX.thenN ?_
  refine CX.cond rfl (fun hb1 => ?_) (fun hb1 => ?_)
  · try simp at hb1
    first | done | (exfalso; simp_all; done)
  · try simp at hb1
    refine CX.skip ?_
    refine PX.thenN ?_
    refine CX.seq ?_
    refine CX.seq ?_
    refine CX.region ?_
    refine LX.pure (Y.move rfl) rfl rfl rfl ?_
    refine LX.call (texts_c hN) Fv.en25 rfl rfl rfl rfl rfl ?_
    intro _
    refine LX.pure (Y.not rfl) rfl rfl rfl ?_
    refine LX.pure (Y.move rfl) rfl rfl rfl ?_
    refine LX.sub (l' := [(0, _), (1, _), (4, _), (5, _), (31, _)]) ⟨rfl, rfl, rfl, rfl, rfl, trivial⟩ ?_
    apply LX.joinOr 3 34 31 rfl
    · intro hb2
      have hb2p := hb2
      try simp at hb2p
      refine LX.gF rfl rfl rfl hb2 rfl rfl ?_
      refine LX.gF rfl rfl rfl hb2 rfl rfl ?_
      refine LX.pure (Y.pickT rfl hb2 rfl) rfl rfl rfl ?_
      exact LX.left ⟨rfl, rfl, rfl, rfl, rfl, rfl, trivial⟩
    · intro hb2
      have hb2p := hb2
      try simp at hb2p
      refine LX.gT rfl rfl rfl hb2 (Y.move rfl) rfl rfl ?_
      refine LX.gT rfl rfl rfl hb2 (Y.not rfl) rfl rfl ?_
      refine LX.pure (Y.pickF rfl hb2 rfl) rfl rfl rfl ?_
      exact LX.left ⟨rfl, rfl, rfl, rfl, rfl, rfl, trivial⟩
    refine LX.sub (l' := [(0, _), (1, _), (4, _), (5, _), (34, _)]) ⟨rfl, rfl, rfl, rfl, rfl, trivial⟩ ?_
    refine LX.next ?_
    refine PX.thenN ?_
    refine CX.cond rfl (fun hb3 => ?_) (fun hb3 => ?_)
    · try simp at hb3
      refine CX.seq ?_
      refine CX.region ?_
      refine LX.pure (Y.move rfl) rfl rfl rfl ?_
      refine LX.pure (Y.assign rfl) rfl rfl rfl ?_
      refine LX.sub (l' := [(0, _), (1, _), (4, _)]) ⟨rfl, rfl, rfl, trivial⟩ ?_
      refine LX.next ?_
      refine PX.thenN ?_
      refine CX.ret ?_
      refine PX.thenR ?_
      refine PX.ret1 (by simp) Tryz.results4 rfl ?_
      exact fun w hw => ⟨(), rfl, hw⟩
    · try simp at hb3
      have hsm : ns.length ≤ 12 ∧ ∀ s ∈ ns, s.length ≤ 30 := by first | exact hb3 | (simpa using hb3) | (simp_all; done)
      obtain ⟨h12, hlen⟩ := hsm
      refine CX.skip ?_
      refine PX.thenN ?_
      refine CX.seq ?_
      refine CX.region ?_
      refine LX.pure (Y.assign rfl) rfl rfl rfl ?_
      refine LX.pure (Y.assign rfl) rfl rfl rfl ?_
      refine LX.sub (l' := [(0, _), (1, _), (4, _), (6, _), (7, _)]) ⟨rfl, rfl, rfl, rfl, rfl, trivial⟩ ?_
      refine LX.next ?_
      refine PX.thenN ?_
      refine CX.seq ?_
      refine CX.region ?_
      refine LX.pure (Y.assign rfl) rfl rfl rfl ?_
      refine LX.sub (l' := [(0, _), (1, _), (4, _), (6, _), (7, _), (8, _)]) ⟨rfl, rfl, rfl, rfl, rfl, rfl, trivial⟩ ?_
      refine LX.next ?_
      refine PX.thenN ?_
      refine CX.seq ?_
      refine CX.seq ?_
      refine CX.region ?_
      refine LX.pure (Y.assign rfl) rfl rfl rfl ?_
      refine LX.sub (l' := [(0, _), (1, _), (4, _), (6, _), (7, _), (8, _), (9, _)]) ⟨rfl, rfl, rfl, rfl, rfl, rfl, rfl, trivial⟩ ?_
      refine LX.next ?_
      refine PX.thenN ?_
      refine CX.block ?_
      refine CX.loop (fun s : Nat × (Option Nat × Nat) × (Option Nat × Nat) × (Option Nat × Nat) × List Value × List Value × List It => [(0, .slice av ns.length cn), (1, .int .i64 z), (6, rv s.2.1.1 s.1 s.2.1.2), (7, rv s.2.2.1.1 s.1 s.2.2.1.2), (8, rv s.2.2.2.1.1 s.1 s.2.2.2.1.2), (9, .int .i64 (s.1 : Int))]) (fun (s : Nat × (Option Nat × Nat) × (Option Nat × Nat) × (Option Nat × Nat) × List Value × List Value × List It) w => (s.1 ≤ ns.length ∧ Own ((upto ns.length).take s.1) s.2.2.2.2.1 s.2.2.2.2.2.2 ∧ Own ((upto ns.length).reverse.take s.1) s.2.2.2.2.2.1 s.2.2.2.2.2.2) ∧ WA w0 base (.row s.2.1.1 s.2.1.2 s.1 31 1 (s.2.2.2.2.1) :: .row s.2.2.1.1 s.2.2.1.2 s.1 31 1 (s.2.2.2.2.2.1) :: .row s.2.2.2.1.1 s.2.2.2.1.2 s.1 9 1 ((ns.reverse.take s.1).map str) :: (s.2.2.2.2.2.2 ++ fr)) w) (fun s => ns.length - s.1) (0, (none, 0), (none, 0), (none, 0), [], [], []) ⟨rfl, rfl, rfl, rfl, rfl, rfl, trivial⟩ (fun w hw => ⟨⟨Nat.zero_le _, Own.nil _, Own.nil _⟩, ((hw.nilRow 9 1).nilRow 31 1).nilRow 31 1⟩) ?_
      rintro ⟨i, ⟨gl, cl⟩, ⟨gb, cb⟩, ⟨gt, ct⟩, us, vs, ds⟩
      refine CX.have fun ⟨hi0, hoa, hob⟩ => ?_
      try dsimp only at hi0 hoa hob ⊢
      refine CX.seq ?_
      refine CX.seq ?_
      refine CX.region ?_
      refine LX.pure (Y.move rfl) rfl rfl rfl ?_
      refine LX.pure (Y.move rfl) rfl rfl rfl ?_
      refine LX.pure (Y.lenSl rfl Fp.un58 rfl) rfl rfl rfl ?_
      first
        | refine LX.pure (Y.ltN rfl rfl) rfl rfl rfl ?_
        | refine LX.pure (Y.ltI rfl rfl) rfl rfl rfl ?_
      refine LX.sub (l' := [(0, _), (1, _), (6, _), (7, _), (8, _), (9, _), (39, _)]) ⟨rfl, rfl, rfl, rfl, rfl, rfl, rfl, trivial⟩ ?_
      refine LX.next ?_
      refine PX.thenN ?_
      refine CX.cond rfl (fun hb4 => ?_) (fun hb4 => ?_)
      · try simp at hb4
        have hi1 : i < ns.length := by omega
        obtain ⟨a2, ha2, hq2, hc2⟩ := hN.at_ (ns.length - 1 - i) _ (str_at (i := ns.length - 1 - i) (by omega))
        refine CX.skip ?_
        refine PX.thenN ?_
        refine CX.seq ?_
        refine CX.block ?_
        refine CX.seq ?_
        refine CX.region ?_
        refine LX.pure (Y.move rfl) rfl rfl rfl ?_
        refine LX.pure (Y.move rfl) rfl rfl rfl ?_
        refine LX.call (Bsf.of_n hS (i := i) (by omega)) Fv.en10 rfl rfl rfl rfl rfl ?_
        rintro ⟨ga, ca⟩
        refine LX.have fun hxa => ?_
        dsimp only at hxa ⊢
        refine LX.call (int_c _ ga ca) Fv.en9 rfl rfl rfl rfl rfl ?_
        intro _
        refine LX.buildSlice (e := 31) (size := 1) rfl rfl (fun _ => by kernel_rfl) rfl (by decide) rfl rfl rfl ?_
        intro gt27
        refine LX.appendT 1 Fr.el49 rfl rfl rfl rfl rfl rfl rfl (by omega) (by omega) rfl rfl rfl ?_
        intro gl2 cl2
        refine LX.pure (Y.assign rfl) rfl rfl rfl ?_
        refine LX.sub (l' := [(0, _), (1, _), (6, _), (7, _), (8, _), (9, _)]) ⟨rfl, rfl, rfl, rfl, rfl, rfl, trivial⟩ ?_
        refine LX.next ?_
        refine PX.thenN ?_
        refine CX.seq ?_
        refine CX.region ?_
        refine LX.pure (Y.move rfl) rfl rfl rfl ?_
        refine LX.pure (Y.move rfl) rfl rfl rfl ?_
        refine LX.pure (Y.move rfl) rfl rfl rfl ?_
        refine LX.pure (Y.lenSl rfl Fp.un58 rfl) rfl rfl rfl ?_
        refine LX.pure (Y.subN (a := ns.length) (b := 1) rfl rfl (by omega) (by omega)) rfl rfl rfl ?_
        refine LX.pure (Y.move rfl) rfl rfl rfl ?_
        refine LX.pure (Y.subN (a := ns.length - 1) (b := i) rfl rfl (by omega) (by omega)) rfl rfl rfl ?_
        refine LX.pure (Y.idxS Fp.un58 Fp.sz9 rfl rfl (by omega) ha2) rfl rfl rfl ?_
        refine LX.pure (Y.ldO Fp.one9 rfl hc2 hq2) rfl rfl rfl ?_
        refine LX.buildSlice (e := 9) (size := 1) rfl rfl (fun _ => by kernel_rfl) rfl (by decide) rfl rfl rfl ?_
        intro gt39
        refine LX.appendT 3 Fs.el58 rfl rfl rfl rfl rfl rfl rfl (by omega) (by omega) rfl rfl rfl ?_
        intro gt2 ct2
        refine LX.pure (Y.assign rfl) rfl rfl rfl ?_
        refine LX.sub (l' := [(0, _), (1, _), (6, _), (7, _), (8, _), (9, _)]) ⟨rfl, rfl, rfl, rfl, rfl, rfl, trivial⟩ ?_
        refine LX.next ?_
        refine PX.thenN ?_
        refine CX.region ?_
        refine LX.pure (Y.move rfl) rfl rfl rfl ?_
        refine LX.pure (Y.move rfl) rfl rfl rfl ?_
        refine LX.pure (Y.lenSl rfl Fp.un58 rfl) rfl rfl rfl ?_
        refine LX.pure (Y.subN (a := ns.length) (b := 1) rfl rfl (by omega) (by omega)) rfl rfl rfl ?_
        refine LX.pure (Y.move rfl) rfl rfl rfl ?_
        refine LX.pure (Y.subN (a := ns.length - 1) (b := i) rfl rfl (by omega) (by omega)) rfl rfl rfl ?_
        refine LX.call (Bsf.of_n hS (i := ns.length - 1 - i) (by omega)) Fv.en10 rfl rfl rfl rfl rfl ?_
        rintro ⟨gd, cd⟩
        refine LX.have fun hxb => ?_
        dsimp only at hxb ⊢
        refine LX.call (int_c _ gd cd) Fv.en9 rfl rfl rfl rfl rfl ?_
        intro _
        refine LX.buildSlice (e := 31) (size := 1) rfl rfl (fun _ => by kernel_rfl) rfl (by decide) rfl rfl rfl ?_
        intro gt50
        refine LX.appendT 3 Fr.el49 rfl rfl rfl rfl rfl rfl rfl (by omega) (by omega) rfl rfl rfl ?_
        intro gb2 cb2
        refine LX.pure (Y.assign rfl) rfl rfl rfl ?_
        refine LX.sub (l' := [(0, _), (1, _), (6, _), (7, _), (8, _), (9, _)]) ⟨rfl, rfl, rfl, rfl, rfl, rfl, trivial⟩ ?_
        refine LX.next ?_
        refine PX.blockN ?_
        refine PX.thenN ?_
        refine CX.region ?_
        refine LX.pure (Y.move rfl) rfl rfl rfl ?_
        first
          | refine LX.pure (Y.addN rfl rfl (by first | omega | (simp only []; omega) | (simp; done) | (simp; omega))) rfl rfl rfl ?_
          | refine LX.pure (Y.add rfl rfl (by first | omega | (simp only []; omega) | (simp; done) | (simp; omega))) rfl rfl rfl ?_
        refine LX.pure (Y.assign rfl) rfl rfl rfl ?_
        refine LX.sub (l' := [(0, _), (1, _), (6, _), (7, _), (8, _), (9, _)]) ⟨rfl, rfl, rfl, rfl, rfl, rfl, trivial⟩ ?_
        refine LX.next ?_
        exact PX.again (L := (fun s : Nat × (Option Nat × Nat) × (Option Nat × Nat) × (Option Nat × Nat) × List Value × List Value × List It => [(0, .slice av ns.length cn), (1, .int .i64 z), (6, rv s.2.1.1 s.1 s.2.1.2), (7, rv s.2.2.1.1 s.1 s.2.2.1.2), (8, rv s.2.2.2.1.1 s.1 s.2.2.2.1.2), (9, .int .i64 (s.1 : Int))])) (WW := (fun (s : Nat × (Option Nat × Nat) × (Option Nat × Nat) × (Option Nat × Nat) × List Value × List Value × List It) w => (s.1 ≤ ns.length ∧ Own ((upto ns.length).take s.1) s.2.2.2.2.1 s.2.2.2.2.2.2 ∧ Own ((upto ns.length).reverse.take s.1) s.2.2.2.2.2.1 s.2.2.2.2.2.2) ∧ WA w0 base (.row s.2.1.1 s.2.1.2 s.1 31 1 (s.2.2.2.2.1) :: .row s.2.2.1.1 s.2.2.1.2 s.1 31 1 (s.2.2.2.2.2.1) :: .row s.2.2.2.1.1 s.2.2.2.1.2 s.1 9 1 ((ns.reverse.take s.1).map str) :: (s.2.2.2.2.2.2 ++ fr)) w)) (μ := fun s => ns.length - s.1) (i := (i, (gl, cl), (gb, cb), (gt, ct), us, vs, ds)) (i + 1, (gl2, cl2), (gb2, cb2), (gt2, ct2), us ++ [.iface 82 (numV (i : Int) ga ca)], vs ++ [.iface 82 (numV ((ns.length - 1 - i : Nat) : Int) gd cd)], dR (ns.length - 1 - i) gd cd :: dR i ga ca :: ds) (by show ns.length - (i + 1) < ns.length - i; omega) ⟨rfl, rfl, rfl, rfl, rfl, rfl, trivial⟩ (fun w hw => ⟨⟨by show i + 1 ≤ ns.length; omega, by dsimp only; rw [upto_take hi1]; exact hoa.snoc (fun it h => List.mem_cons_of_mem _ (List.mem_cons_of_mem _ h)) (by omega) hxa (List.mem_cons_of_mem _ List.mem_cons_self), by dsimp only; rw [uptor_take hi1]; exact hob.snoc (fun it h => List.mem_cons_of_mem _ (List.mem_cons_of_mem _ h)) (by omega) hxb List.mem_cons_self⟩, by
          have h2 := hw.perm (List.perm_append_comm_assoc [_, _, _] [_, _] _)
          rw [rev_take hi1]
          exact h2⟩)
      · try simp at hb4
        have hie : i = ns.length := by omega
        subst hie
        rw [List.take_of_length_le (by rw [upto_len]; exact Nat.le_refl _)] at hoa
        rw [List.take_of_length_le (by rw [List.length_reverse, upto_len]; exact Nat.le_refl _)] at hob
        have hul : us.length = ns.length := by rw [hoa.len, upto_len]
        have hvl : vs.length = ns.length := by rw [hob.len, List.length_reverse, upto_len]
        rw [List.take_of_length_le (l := ns.reverse) (by rw [List.length_reverse]; exact Nat.le_refl _)]
        refine CX.exit ?_
        refine PX.thenE ?_
        refine PX.thenE ?_
        refine PX.blockE ?_
        refine PX.thenN ?_
        refine CX.seq ?_
        refine CX.region ?_
        refine LX.pure (Y.move rfl) rfl rfl rfl ?_
        refine LX.pure (Y.move rfl) rfl rfl rfl ?_
        refine LX.call (struct_dw (its := .row gl cl ns.length 31 1 (us) :: .row gb cb ns.length 31 1 (vs) :: .row gt ct ns.length 9 1 (ns.reverse.map str) :: (ds ++ fr)) hS rfl (fun w hw => hN.push hw) (fun w hw => sl_row (g := gl) (c := cl) (n := ns.length) (e := 31) (xs := us) hw (by simp)) hul h12 hnd) Fv.en26 rfl rfl rfl rfl rfl ?_
        intro _
        refine LX.pure (Y.move rfl) rfl rfl rfl ?_
        refine LX.pure (Y.extract rfl rfl) rfl rfl rfl ?_
        refine LX.pure (Y.extract rfl rfl) rfl rfl rfl ?_
        refine LX.pure (Y.assign rfl) rfl rfl rfl ?_
        refine LX.pure (Y.assign rfl) rfl rfl rfl ?_
        refine LX.sub (l' := [(0, _), (1, _), (6, _), (7, _), (8, _), (10, _), (11, _)]) ⟨rfl, rfl, rfl, rfl, rfl, rfl, rfl, trivial⟩ ?_
        refine LX.next ?_
        refine PX.thenN ?_
        refine CX.seq ?_
        refine CX.region ?_
        refine LX.pure (Y.move rfl) rfl rfl rfl ?_
        refine LX.pure (Y.move rfl) rfl rfl rfl ?_
        refine LX.call (struct_dw (its := .row gl cl ns.length 31 1 (us) :: .row gb cb ns.length 31 1 (vs) :: .row gt ct ns.length 9 1 (ns.reverse.map str) :: (ds ++ fr)) hS List.length_reverse (fun w hw => sl_row (g := gt) (c := ct) (n := ns.length) (e := 9) (xs := ns.reverse.map str) hw (by simp)) (fun w hw => sl_row (g := gb) (c := cb) (n := ns.length) (e := 31) (xs := vs) hw (by simp)) hvl h12 (fun h => hnd ((List.reverse_perm ns).nodup_iff.1 h))) Fv.en26 rfl rfl rfl rfl rfl ?_
        intro _
        refine LX.pure (Y.move rfl) rfl rfl rfl ?_
        refine LX.pure (Y.extract rfl rfl) rfl rfl rfl ?_
        refine LX.pure (Y.extract rfl rfl) rfl rfl rfl ?_
        refine LX.pure (Y.assign rfl) rfl rfl rfl ?_
        refine LX.pure (Y.assign rfl) rfl rfl rfl ?_
        refine LX.sub (l' := [(0, _), (1, _), (6, _), (7, _), (8, _), (10, _), (11, _), (12, _), (13, _)]) ⟨rfl, rfl, rfl, rfl, rfl, rfl, rfl, rfl, rfl, trivial⟩ ?_
        refine LX.next ?_
        refine PX.thenN ?_
        refine CX.seq ?_
        refine CX.seq ?_
        refine CX.region ?_
        refine LX.pure (Y.move rfl) rfl rfl rfl ?_
        refine LX.call (sortedT_c hN h12) Fv.en27 rfl rfl rfl rfl rfl ?_
        rintro ⟨gs, cs⟩
        refine LX.pure (Y.lenSl rfl Fp.un58 rfl) rfl rfl rfl ?_
        refine LX.pure (Y.move rfl) rfl rfl rfl ?_
        refine LX.pure (Y.lenSl rfl Fp.un58 rfl) rfl rfl rfl ?_
        first
          | refine LX.pure (Y.neN rfl rfl) rfl rfl rfl ?_
          | refine LX.pure (Y.neI rfl rfl) rfl rfl rfl ?_
        refine LX.sub (l' := [(0, _), (1, _), (6, _), (7, _), (8, _), (10, _), (11, _), (12, _), (13, _), (86, _)]) ⟨rfl, rfl, rfl, rfl, rfl, rfl, rfl, rfl, rfl, rfl, trivial⟩ ?_
        refine LX.next ?_
        refine PX.thenN ?_
        refine CX.cond rfl (fun hb5 => ?_) (fun hb5 => ?_)
        · try simp at hb5
          refine CX.seq ?_
          refine CX.region ?_
          refine LX.pure (Y.move rfl) rfl rfl rfl ?_
          first
            | refine LX.pure (Y.eqNil Fv.un31 rfl rfl) rfl rfl rfl ?_
            | refine LX.pure (Y.eqNilNil Fv.un31 rfl) rfl rfl rfl ?_
          refine LX.pure (Y.move rfl) rfl rfl rfl ?_
          refine LX.sub (l' := [(0, _), (1, _), (6, _), (7, _), (8, _), (10, _), (11, _), (12, _), (13, _), (89, _)]) ⟨rfl, rfl, rfl, rfl, rfl, rfl, rfl, rfl, rfl, rfl, trivial⟩ ?_
          apply LX.joinAnd 3 92 89 rfl
          · intro hb6
            have hb6p := hb6
            try simp at hb6p
            refine LX.gT rfl rfl rfl hb6 (Y.move rfl) rfl rfl ?_
            first
              | refine LX.gT rfl rfl rfl hb6 (Y.eqNil Fv.un31 rfl rfl) rfl rfl ?_
              | refine LX.gT rfl rfl rfl hb6 (Y.eqNilNil Fv.un31 rfl) rfl rfl ?_
            refine LX.pure (Y.pickT rfl hb6 rfl) rfl rfl rfl ?_
            exact LX.left ⟨rfl, rfl, rfl, rfl, rfl, rfl, rfl, rfl, rfl, rfl, rfl, trivial⟩
          · intro hb6
            first | done | (exfalso; simp_all; done) | cases hb6
          refine LX.pure (Y.move rfl) rfl rfl rfl ?_
          refine LX.sub (l' := [(0, _), (1, _), (6, _), (7, _), (8, _), (10, _), (11, _), (12, _), (13, _), (93, _)]) ⟨rfl, rfl, rfl, rfl, rfl, rfl, rfl, rfl, rfl, rfl, trivial⟩ ?_
          apply LX.joinAnd 3 96 93 rfl
          · intro hb7
            have hb7p := hb7
            try simp at hb7p
            refine LX.gT rfl rfl rfl hb7 (Y.move rfl) rfl rfl ?_
            refine LX.callQT rfl rfl rfl hb7 (Isa.is_q (fun w hw => Bsf.push hS hw) (i := 12) (by decide) (b := true) (by decide)) Fv.en23 rfl rfl rfl rfl ?_
            refine LX.pure (Y.pickT rfl hb7 rfl) rfl rfl rfl ?_
            exact LX.left ⟨rfl, rfl, rfl, rfl, rfl, rfl, rfl, rfl, rfl, rfl, rfl, trivial⟩
          · intro hb7
            first | done | (exfalso; simp_all; done) | cases hb7
          refine LX.pure (Y.move rfl) rfl rfl rfl ?_
          refine LX.sub (l' := [(0, _), (1, _), (6, _), (7, _), (8, _), (10, _), (11, _), (12, _), (13, _), (97, _)]) ⟨rfl, rfl, rfl, rfl, rfl, rfl, rfl, rfl, rfl, rfl, trivial⟩ ?_
          apply LX.joinAnd 3 100 97 rfl
          · intro hb8
            have hb8p := hb8
            try simp at hb8p
            refine LX.gT rfl rfl rfl hb8 (Y.move rfl) rfl rfl ?_
            refine LX.callQT rfl rfl rfl hb8 (Isa.is_q (fun w hw => Bsf.push hS hw) (i := 12) (by decide) (b := true) (by decide)) Fv.en23 rfl rfl rfl rfl ?_
            refine LX.pure (Y.pickT rfl hb8 rfl) rfl rfl rfl ?_
            exact LX.left ⟨rfl, rfl, rfl, rfl, rfl, rfl, rfl, rfl, rfl, rfl, rfl, trivial⟩
          · intro hb8
            first | done | (exfalso; simp_all; done) | cases hb8
          refine LX.pure (Y.assign rfl) rfl rfl rfl ?_
          refine LX.sub (l' := [(0, _), (1, _), (4, _), (6, _), (7, _), (8, _), (10, _), (11, _), (12, _), (13, _)]) ⟨rfl, rfl, rfl, rfl, rfl, rfl, rfl, rfl, rfl, rfl, trivial⟩ ?_
          refine LX.next ?_
          refine PX.thenN ?_
          refine CX.ret ?_
          refine PX.thenR ?_
          refine PX.ret1 (by simp) Tryz.results4 rfl ?_
          exact fun w hw => ⟨(), rfl, hw.drop (List.Sublist.cons _ (List.Sublist.cons _ (List.Sublist.cons _ (List.Sublist.cons _ ((List.sublist_append_right ds fr))))))⟩
        · try simp at hb5
          exact absurd (srt_len.1 (by omega)) hnd
end Go.Proofs.YtifanilblkellaaGreatDoor
