/-
  Proved here: SortedTexts, on names by their numbers: they come in order, each once.
-/
import Derived.Test.YtljaoofbklkglaaDoorSeqP
import Derived.Test.YtljaoofbklkglaaDoorProg
namespace Go.Proofs.YtljaoofbklkglaaDoor
open Go.SX Go.RowKit Go.EY
open Go.Proofs (encStr)
namespace Fz
theorem one9 : One Tryd.prog 9 := fun w => by kernel_rfl
theorem sz9 : SizeIs Tryd.prog 9 1 := fun w => by kernel_rfl
theorem un25 : Tryd.prog.underlying 25 = some (.slice 9) := by kernel_rfl
theorem el25 : Elem Tryd.prog 25 9 1 16 := Elem.of un25 (z := .string ⟨#[]⟩) (by kernel_rfl) rfl
end Fz
theorem sorted_c0 (w0 : World) (base : Nat) (fr : List It) (bn cn : Nat) (ks : List Nat) (h8 : ∀ k ∈ ks, k < 8) (hl : ks.length ≤ 60) :
    FnC Tryd.prog 11 #[rv (some bn) ks.length cn] (WA w0 base (.row (some bn) cn ks.length 9 1 (rowK8 ks) :: fr)) (fun p : Option Nat × Nat => rv p.1 (outK ks ks.length).length p.2) (fun p => WA w0 base (.row p.1 p.2 (outK ks ks.length).length 9 1 (rowK8 (outK ks ks.length)) :: .row (some bn) cn ks.length 9 1 (rowK8 ks) :: fr)) := by
  refine FnC.of_body (fn := Tryd.f11) [(0, _)] Tryd.func11 rfl Tryd.ntmps11 rfl ⟨rfl, trivial⟩ ?_
  refine CX.seq ?_
  refine CX.region ?_
  refine LX.pure (Y.assign rfl) rfl rfl rfl ?_
  refine LX.sub (l' := [(0, _), (2, _)]) ⟨rfl, rfl, trivial⟩ ?_
  refine LX.next ?_
  refine PX.thenN ?_
  refine CX.seq ?_
  refine CX.region ?_
  refine LX.pure (Y.assign rfl) rfl rfl rfl ?_
  refine LX.sub (l' := [(0, _), (2, _), (3, _)]) ⟨rfl, rfl, rfl, trivial⟩ ?_
  refine LX.next ?_
  refine PX.thenN ?_
  refine CX.seq ?_
  refine CX.seq ?_
  refine CX.region ?_
  refine LX.pure (Y.assign rfl) rfl rfl rfl ?_
  refine LX.sub (l' := [(0, _), (2, _), (3, _), (4, _)]) ⟨rfl, rfl, rfl, rfl, trivial⟩ ?_
  refine LX.next ?_
  refine PX.thenN ?_
  refine CX.block ?_
  refine CX.loop (fun t : Nat × Option Nat × Nat => [(0, rv (some bn) ks.length cn), (3, rv t.2.1 (outK ks t.1).length t.2.2), (4, .int .i64 (t.1 : Int))]) (fun (t : Nat × Option Nat × Nat) w => t.1 ≤ ks.length ∧ WA w0 base (.row t.2.1 t.2.2 (outK ks t.1).length 9 1 (rowK8 (outK ks t.1)) :: .row (some bn) cn ks.length 9 1 (rowK8 ks) :: fr) w) (fun t => ks.length - t.1) (0, none, 0) ⟨rfl, by dsimp only; rw [outK_zero]; rfl, rfl, trivial⟩ (fun w hw => ⟨Nat.zero_le _, by dsimp only; rw [outK_zero]; exact hw.nilRow 9 1⟩) ?_
  rintro ⟨i, g, cap⟩
  refine CX.have fun hi0 => ?_
  dsimp only at hi0 ⊢
  refine CX.world (W' := fun w => (outK ks i).length ≤ cap ∧ WA w0 base (.row g cap (outK ks i).length 9 1 (rowK8 (outK ks i)) :: .row (some bn) cn ks.length 9 1 (rowK8 ks) :: fr) w) (fun w hw => ⟨(row_len (hw.get (i := 0) rfl)).2, hw⟩) ?_
  refine CX.have fun hcap => ?_
  have hol := outK_len ks i
  refine CX.seq ?_
  refine CX.seq ?_
  refine CX.region ?_
  refine LX.pure (Y.move rfl) rfl rfl rfl ?_
  refine LX.pure (Y.move rfl) rfl rfl rfl ?_
  refine LX.pure (Y.lenSl rfl Fz.un25 rfl) rfl rfl rfl ?_
  first
    | refine LX.pure (Y.ltN rfl rfl) rfl rfl rfl ?_
    | refine LX.pure (Y.ltI rfl rfl) rfl rfl rfl ?_
  refine LX.sub (l' := [(0, _), (3, _), (4, _), (10, _)]) ⟨rfl, rfl, rfl, rfl, trivial⟩ ?_
  refine LX.next ?_
  refine PX.thenN ?_
  refine CX.cond rfl (fun hb1 => ?_) (fun hb1 => ?_)
  · try simp at hb1
    have hi : i < ks.length := by omega
    have hq := keyAtK hi h8
    refine CX.skip ?_
    refine PX.thenN ?_
    refine CX.seq ?_
    refine CX.block ?_
    refine CX.seq ?_
    refine CX.region ?_
    refine LX.pure (Y.assign rfl) rfl rfl rfl ?_
    refine LX.sub (l' := [(0, _), (3, _), (4, _), (5, _)]) ⟨rfl, rfl, rfl, rfl, trivial⟩ ?_
    refine LX.next ?_
    refine PX.thenN ?_
    refine CX.seq ?_
    refine CX.block ?_
    refine CX.loop (fun k : Nat => [(0, rv (some bn) ks.length cn), (3, rv g (outK ks i).length cap), (4, .int .i64 (i : Int)), (5, .int .i64 (k : Int))]) (fun (k : Nat) w => k ≤ ctK ks i ∧ WA w0 base (.row g cap (outK ks i).length 9 1 (rowK8 (outK ks i)) :: .row (some bn) cn ks.length 9 1 (rowK8 ks) :: fr) w) (fun k => ctK ks i - k) 0 ⟨rfl, rfl, rfl, rfl, trivial⟩ (fun w hw => ⟨Nat.zero_le _, hw⟩) ?_
    intro k
    refine CX.have fun hk0 => ?_
    try dsimp only at hk0 ⊢
    refine CX.seq ?_
    refine CX.seq ?_
    refine CX.regionQ rfl (by kernel_rfl) ?_
    refine LX.pure (Y.move rfl) rfl rfl rfl ?_
    refine LX.pure (Y.move rfl) rfl rfl rfl ?_
    refine LX.pure (Y.lenSl rfl Fz.un25 rfl) rfl rfl rfl ?_
    first
      | refine LX.pure (Y.ltN rfl rfl) rfl rfl rfl ?_
      | refine LX.pure (Y.ltI rfl rfl) rfl rfl rfl ?_
    refine LX.pure (Y.move rfl) rfl rfl rfl ?_
    refine LX.sub (l' := [(0, _), (3, _), (4, _), (5, _), (17, _)]) ⟨rfl, rfl, rfl, rfl, rfl, trivial⟩ ?_
    apply LX.joinAnd 10 27 17 rfl
    · intro hb2
      have hb2p := hb2
      try simp at hb2p
      refine LX.gT rfl rfl rfl hb2 (Y.move rfl) rfl rfl ?_
      refine LX.gT rfl rfl rfl hb2 (Y.move rfl) rfl rfl ?_
      first
        | refine LX.gT rfl rfl rfl hb2 (Y.idxR 0 Fz.un25 Fz.sz9 rfl rfl rfl (by first | omega | (simp only []; omega) | (simp; done) | (simp; omega))) rfl rfl ?_
        | refine LX.gT rfl rfl rfl hb2 (Y.idxR 1 Fz.un25 Fz.sz9 rfl rfl rfl (by first | omega | (simp only []; omega) | (simp; done) | (simp; omega))) rfl rfl ?_
        | refine LX.gT rfl rfl rfl hb2 (Y.idxR 2 Fz.un25 Fz.sz9 rfl rfl rfl (by first | omega | (simp only []; omega) | (simp; done) | (simp; omega))) rfl rfl ?_
        | refine LX.gT rfl rfl rfl hb2 (Y.idxR 3 Fz.un25 Fz.sz9 rfl rfl rfl (by first | omega | (simp only []; omega) | (simp; done) | (simp; omega))) rfl rfl ?_
        | refine LX.gT rfl rfl rfl hb2 (Y.idx Fz.un25 Fz.sz9 rfl rfl (by first | omega | (simp only []; omega) | (simp; done) | (simp; omega))) rfl rfl ?_
      refine LX.gT rfl rfl rfl hb2 (Y.ldR 0 (v := str (nmB (atK (outK ks i) k))) Fz.one9 rfl rfl (rowK8_at (by first | omega | assumption))) rfl rfl ?_
      refine LX.gT rfl rfl rfl hb2 (Y.move rfl) rfl rfl ?_
      refine LX.gT rfl rfl rfl hb2 (Y.move rfl) rfl rfl ?_
      first
        | refine LX.gT rfl rfl rfl hb2 (Y.idxR 0 Fz.un25 Fz.sz9 rfl rfl rfl (by first | omega | (simp only []; omega) | (simp; done) | (simp; omega))) rfl rfl ?_
        | refine LX.gT rfl rfl rfl hb2 (Y.idxR 1 Fz.un25 Fz.sz9 rfl rfl rfl (by first | omega | (simp only []; omega) | (simp; done) | (simp; omega))) rfl rfl ?_
        | refine LX.gT rfl rfl rfl hb2 (Y.idxR 2 Fz.un25 Fz.sz9 rfl rfl rfl (by first | omega | (simp only []; omega) | (simp; done) | (simp; omega))) rfl rfl ?_
        | refine LX.gT rfl rfl rfl hb2 (Y.idxR 3 Fz.un25 Fz.sz9 rfl rfl rfl (by first | omega | (simp only []; omega) | (simp; done) | (simp; omega))) rfl rfl ?_
        | refine LX.gT rfl rfl rfl hb2 (Y.idx Fz.un25 Fz.sz9 rfl rfl (by first | omega | (simp only []; omega) | (simp; done) | (simp; omega))) rfl rfl ?_
      refine LX.gT rfl rfl rfl hb2 (Y.ldR 1 (v := str (nmB (atK ks i))) Fz.one9 rfl rfl (rowK8_at (by first | omega | assumption))) rfl rfl ?_
      refine LX.gT rfl rfl rfl hb2 (Y.ltS rfl rfl) rfl rfl ?_
      refine LX.pure (Y.pickT rfl hb2 rfl) rfl rfl rfl ?_
      exact LX.left ⟨rfl, rfl, rfl, rfl, rfl, rfl, trivial⟩
    · intro hb2
      have hb2p := hb2
      try simp at hb2p
      refine LX.gF rfl rfl rfl hb2 rfl rfl ?_
      refine LX.gF rfl rfl rfl hb2 rfl rfl ?_
      refine LX.gF rfl rfl rfl hb2 rfl rfl ?_
      refine LX.gF rfl rfl rfl hb2 rfl rfl ?_
      refine LX.gF rfl rfl rfl hb2 rfl rfl ?_
      refine LX.gF rfl rfl rfl hb2 rfl rfl ?_
      refine LX.gF rfl rfl rfl hb2 rfl rfl ?_
      refine LX.gF rfl rfl rfl hb2 rfl rfl ?_
      refine LX.gF rfl rfl rfl hb2 rfl rfl ?_
      refine LX.pure (Y.pickF rfl hb2 rfl) rfl rfl rfl ?_
      exact LX.left ⟨rfl, rfl, rfl, rfl, rfl, rfl, trivial⟩
    refine LX.sub (l' := [(0, _), (3, _), (4, _), (5, _), (27, _)]) ⟨rfl, rfl, rfl, rfl, rfl, trivial⟩ ?_
    refine LX.nextQ ?_
    refine PX.thenN ?_
    refine CX.cond rfl (fun hb3 => ?_) (fun hb3 => ?_)
    · try simp at hb3
      have hkc : k < ctK ks i := by
        obtain ⟨h1, h2⟩ := hb3
        have h3 := outK_atK hq h1
        have h4 := nmB_lt _ h3.1 _ hq
        rw [h4] at h2
        exact h3.2.1.1 (by simpa using h2)
      refine CX.skip ?_
      refine PX.thenN ?_
      refine CX.block ?_
      refine CX.region ?_
      refine LX.pure (Y.move rfl) rfl rfl rfl ?_
      first
        | refine LX.pure (Y.addN rfl rfl (by first | omega | (simp only []; omega) | (simp; done) | (simp; omega))) rfl rfl rfl ?_
        | refine LX.pure (Y.add rfl rfl (by first | omega | (simp only []; omega) | (simp; done) | (simp; omega))) rfl rfl rfl ?_
      refine LX.pure (Y.assign rfl) rfl rfl rfl ?_
      refine LX.sub (l' := [(0, _), (3, _), (4, _), (5, _)]) ⟨rfl, rfl, rfl, rfl, trivial⟩ ?_
      refine LX.next ?_
      refine PX.blockN ?_
      exact PX.again (L := (fun k : Nat => [(0, rv (some bn) ks.length cn), (3, rv g (outK ks i).length cap), (4, .int .i64 (i : Int)), (5, .int .i64 (k : Int))])) (WW := (fun (k : Nat) w => k ≤ ctK ks i ∧ WA w0 base (.row g cap (outK ks i).length 9 1 (rowK8 (outK ks i)) :: .row (some bn) cn ks.length 9 1 (rowK8 ks) :: fr) w)) (μ := fun k => ctK ks i - k) (i := k) (k + 1) (by show ctK ks i - (k + 1) < ctK ks i - k; omega) ⟨rfl, rfl, rfl, rfl, trivial⟩ (fun w hw => ⟨by show k + 1 ≤ ctK ks i; omega, hw⟩)
    · try simp at hb3
      have hkc : k = ctK ks i := by
        rcases Nat.lt_or_ge k (ctK ks i) with h | h
        · have h1 := ctK_le (i := i) hq
          have h0 : k < (outK ks i).length := by omega
          have h3 := outK_atK hq h0
          have h4 := nmB_lt _ h3.1 _ hq
          have h5 := hb3 h0
          rw [h4] at h5
          have h6 := h3.2.1.2 h
          simp at h5
          omega
        · omega
      subst hkc
      have hcl := ctK_le (i := i) hq
      refine CX.exit ?_
      refine PX.thenE ?_
      refine PX.thenE ?_
      refine PX.blockE ?_
      refine PX.thenN ?_
      refine CX.seq ?_
      refine CX.seq ?_
      refine CX.regionQ rfl (by kernel_rfl) ?_
      refine LX.pure (Y.move rfl) rfl rfl rfl ?_
      refine LX.pure (Y.move rfl) rfl rfl rfl ?_
      refine LX.pure (Y.lenSl rfl Fz.un25 rfl) rfl rfl rfl ?_
      first
        | refine LX.pure (Y.ltN rfl rfl) rfl rfl rfl ?_
        | refine LX.pure (Y.ltI rfl rfl) rfl rfl rfl ?_
      refine LX.pure (Y.move rfl) rfl rfl rfl ?_
      refine LX.sub (l' := [(0, _), (3, _), (4, _), (5, _), (34, _)]) ⟨rfl, rfl, rfl, rfl, rfl, trivial⟩ ?_
      apply LX.joinAnd 10 44 34 rfl
      · intro hb4
        have hb4p := hb4
        try simp at hb4p
        refine LX.gT rfl rfl rfl hb4 (Y.move rfl) rfl rfl ?_
        refine LX.gT rfl rfl rfl hb4 (Y.move rfl) rfl rfl ?_
        first
          | refine LX.gT rfl rfl rfl hb4 (Y.idxR 0 Fz.un25 Fz.sz9 rfl rfl rfl (by first | omega | (simp only []; omega) | (simp; done) | (simp; omega))) rfl rfl ?_
          | refine LX.gT rfl rfl rfl hb4 (Y.idxR 1 Fz.un25 Fz.sz9 rfl rfl rfl (by first | omega | (simp only []; omega) | (simp; done) | (simp; omega))) rfl rfl ?_
          | refine LX.gT rfl rfl rfl hb4 (Y.idxR 2 Fz.un25 Fz.sz9 rfl rfl rfl (by first | omega | (simp only []; omega) | (simp; done) | (simp; omega))) rfl rfl ?_
          | refine LX.gT rfl rfl rfl hb4 (Y.idxR 3 Fz.un25 Fz.sz9 rfl rfl rfl (by first | omega | (simp only []; omega) | (simp; done) | (simp; omega))) rfl rfl ?_
          | refine LX.gT rfl rfl rfl hb4 (Y.idx Fz.un25 Fz.sz9 rfl rfl (by first | omega | (simp only []; omega) | (simp; done) | (simp; omega))) rfl rfl ?_
        refine LX.gT rfl rfl rfl hb4 (Y.ldR 0 (v := str (nmB (atK (outK ks i) (ctK ks i)))) Fz.one9 rfl rfl (rowK8_at (by first | omega | assumption))) rfl rfl ?_
        refine LX.gT rfl rfl rfl hb4 (Y.move rfl) rfl rfl ?_
        refine LX.gT rfl rfl rfl hb4 (Y.move rfl) rfl rfl ?_
        first
          | refine LX.gT rfl rfl rfl hb4 (Y.idxR 0 Fz.un25 Fz.sz9 rfl rfl rfl (by first | omega | (simp only []; omega) | (simp; done) | (simp; omega))) rfl rfl ?_
          | refine LX.gT rfl rfl rfl hb4 (Y.idxR 1 Fz.un25 Fz.sz9 rfl rfl rfl (by first | omega | (simp only []; omega) | (simp; done) | (simp; omega))) rfl rfl ?_
          | refine LX.gT rfl rfl rfl hb4 (Y.idxR 2 Fz.un25 Fz.sz9 rfl rfl rfl (by first | omega | (simp only []; omega) | (simp; done) | (simp; omega))) rfl rfl ?_
          | refine LX.gT rfl rfl rfl hb4 (Y.idxR 3 Fz.un25 Fz.sz9 rfl rfl rfl (by first | omega | (simp only []; omega) | (simp; done) | (simp; omega))) rfl rfl ?_
          | refine LX.gT rfl rfl rfl hb4 (Y.idx Fz.un25 Fz.sz9 rfl rfl (by first | omega | (simp only []; omega) | (simp; done) | (simp; omega))) rfl rfl ?_
        refine LX.gT rfl rfl rfl hb4 (Y.ldR 1 (v := str (nmB (atK ks i))) Fz.one9 rfl rfl (rowK8_at (by first | omega | assumption))) rfl rfl ?_
        refine LX.gT rfl rfl rfl hb4 (Y.eqS rfl rfl) rfl rfl ?_
        refine LX.pure (Y.pickT rfl hb4 rfl) rfl rfl rfl ?_
        exact LX.left ⟨rfl, rfl, rfl, rfl, rfl, rfl, trivial⟩
      · intro hb4
        have hb4p := hb4
        try simp at hb4p
        refine LX.gF rfl rfl rfl hb4 rfl rfl ?_
        refine LX.gF rfl rfl rfl hb4 rfl rfl ?_
        refine LX.gF rfl rfl rfl hb4 rfl rfl ?_
        refine LX.gF rfl rfl rfl hb4 rfl rfl ?_
        refine LX.gF rfl rfl rfl hb4 rfl rfl ?_
        refine LX.gF rfl rfl rfl hb4 rfl rfl ?_
        refine LX.gF rfl rfl rfl hb4 rfl rfl ?_
        refine LX.gF rfl rfl rfl hb4 rfl rfl ?_
        refine LX.gF rfl rfl rfl hb4 rfl rfl ?_
        refine LX.pure (Y.pickF rfl hb4 rfl) rfl rfl rfl ?_
        exact LX.left ⟨rfl, rfl, rfl, rfl, rfl, rfl, trivial⟩
      refine LX.sub (l' := [(0, _), (3, _), (4, _), (5, _), (44, _)]) ⟨rfl, rfl, rfl, rfl, rfl, trivial⟩ ?_
      refine LX.nextQ ?_
      refine PX.thenN ?_
      refine CX.cond rfl (fun hb5 => ?_) (fun hb5 => ?_)
      · try simp at hb5
        have hs : EY.seen ks i (atK ks i) = true := by
          obtain ⟨h1, h2⟩ := hb5
          have h3 := outK_atK hq h1
          exact (h3.2.2 rfl).1 (nmB_inj _ h3.1 _ hq h2)
        refine CX.exit ?_
        refine PX.thenE ?_
        refine PX.blockE ?_
        refine PX.thenN ?_
        refine CX.region ?_
        refine LX.pure (Y.move rfl) rfl rfl rfl ?_
        first
          | refine LX.pure (Y.addN rfl rfl (by first | omega | (simp only []; omega) | (simp; done) | (simp; omega))) rfl rfl rfl ?_
          | refine LX.pure (Y.add rfl rfl (by first | omega | (simp only []; omega) | (simp; done) | (simp; omega))) rfl rfl rfl ?_
        refine LX.pure (Y.assign rfl) rfl rfl rfl ?_
        refine LX.sub (l' := [(0, _), (3, _), (4, _)]) ⟨rfl, rfl, rfl, trivial⟩ ?_
        refine LX.next ?_
        exact PX.again (L := (fun t : Nat × Option Nat × Nat => [(0, rv (some bn) ks.length cn), (3, rv t.2.1 (outK ks t.1).length t.2.2), (4, .int .i64 (t.1 : Int))])) (WW := (fun (t : Nat × Option Nat × Nat) w => t.1 ≤ ks.length ∧ WA w0 base (.row t.2.1 t.2.2 (outK ks t.1).length 9 1 (rowK8 (outK ks t.1)) :: .row (some bn) cn ks.length 9 1 (rowK8 ks) :: fr) w)) (μ := fun t => ks.length - t.1) (i := (i, g, cap)) (i + 1, g, cap) (by show ks.length - (i + 1) < ks.length - i; omega) ⟨rfl, by dsimp only; rw [outK_same hi hs]; rfl, rfl, trivial⟩ (fun w hw => ⟨by show i + 1 ≤ ks.length; omega, by dsimp only; rw [outK_same hi hs]; exact hw⟩)
      · try simp at hb5
        have hs : EY.seen ks i (atK ks i) = false := by
          rcases Nat.lt_or_ge (ctK ks i) (outK ks i).length with h | h
          · have h3 := outK_atK hq h
            have h5 := hb5 h
            cases hsn : EY.seen ks i (atK ks i) with
            | false => rfl
            | true => exact absurd (congrArg nmB ((h3.2.2 rfl).2 hsn)) h5
          · exact outK_not hq (by omega)
        refine CX.skip ?_
        refine PX.thenN ?_
        refine CX.seq ?_
        refine CX.regionM [(0, .anywhere), (1, .anywhere), (2, .anywhere), (4, .anywhere), (5, .anywhere), (6, .held), (3, .alone), (7, .alone), (8, .anywhere)] rfl (by kernel_rfl) ?_
        refine MX.lift0 (i := 0) rfl (Y.move rfl) rfl rfl rfl ?_
        refine MX.lift0 (i := 1) rfl (Y.lenSl rfl Fz.un25 rfl) rfl rfl rfl ?_
        first
          | refine MX.lift0 (i := 2) rfl (Y.addN rfl rfl (by first | omega | (simp only []; omega) | (simp; done) | (simp; omega))) rfl rfl rfl ?_
          | refine MX.lift0 (i := 2) rfl (Y.add rfl rfl (by first | omega | (simp only []; omega) | (simp; done) | (simp; omega))) rfl rfl rfl ?_
        refine MX.lift0 (i := 4) rfl (Y.move rfl) rfl rfl rfl ?_
        refine MX.lift0 (i := 5) rfl (Y.move rfl) rfl rfl rfl ?_
        refine MX.lift1 (i := 6) (pend' := []) rfl (fun w hw => by first | exact hw | exact hw.1 | exact hw.drop (List.sublist_cons_self _ _) | exact hw.drop ((List.sublist_cons_self _ _).cons _)) (Y.cutHi Fz.un25 Fz.sz9 rfl rfl (by omega)) rfl rfl rfl (by kernel_rfl) ?_
        refine MX.force (i := 3) rfl ?_
        refine LX.make0 (c := (outK ks i).length + 1) Fz.el25 rfl rfl rfl (by omega) (by omega) rfl rfl rfl ?_
        intro bm
        refine LX.nextM [6] (by kernel_rfl) (fun _ => (fun w hw => by first | exact hw | exact hw.1 | exact hw.drop (List.sublist_cons_self _ _) | exact hw.drop ((List.sublist_cons_self _ _).cons _))) ?_
        refine MX.force (i := 7) rfl ?_
        refine LX.appendPart 0 1 (lo := 0) Fz.el25 rfl rfl rfl rfl rfl rfl (by cases g <;> simp [Addr.add]) (by omega) (by omega) (rowK8_one _) (by omega) (by omega) rfl rfl rfl ?_
        intro g1 cap1
        refine LX.nextM [] (by kernel_rfl) (fun h => absurd rfl h) ?_
        refine MX.lift0 (i := 8) rfl (Y.assign rfl) rfl rfl rfl ?_
        refine MX.sub (l' := [(0, _), (3, _), (4, _), (5, _), (6, _)]) ⟨rfl, rfl, rfl, rfl, rfl, trivial⟩ ?_
        refine MX.done ?_
        refine PX.thenN ?_
        refine CX.seq ?_
        refine CX.region ?_
        refine LX.pure (Y.move rfl) rfl rfl rfl ?_
        refine LX.pure (Y.move rfl) rfl rfl rfl ?_
        refine LX.pure (Y.move rfl) rfl rfl rfl ?_
        first
          | refine LX.pure (Y.idxR 0 Fz.un25 Fz.sz9 rfl rfl rfl (by first | omega | (simp only []; omega) | (simp; done) | (simp; omega))) rfl rfl rfl ?_
          | refine LX.pure (Y.idxR 1 Fz.un25 Fz.sz9 rfl rfl rfl (by first | omega | (simp only []; omega) | (simp; done) | (simp; omega))) rfl rfl rfl ?_
          | refine LX.pure (Y.idxR 2 Fz.un25 Fz.sz9 rfl rfl rfl (by first | omega | (simp only []; omega) | (simp; done) | (simp; omega))) rfl rfl rfl ?_
          | refine LX.pure (Y.idxR 3 Fz.un25 Fz.sz9 rfl rfl rfl (by first | omega | (simp only []; omega) | (simp; done) | (simp; omega))) rfl rfl rfl ?_
          | refine LX.pure (Y.idx Fz.un25 Fz.sz9 rfl rfl (by first | omega | (simp only []; omega) | (simp; done) | (simp; omega))) rfl rfl rfl ?_
        refine LX.pure (Y.ldR 2 (v := str (nmB (atK ks i))) Fz.one9 rfl rfl (rowK8_at (by first | omega | assumption))) rfl rfl rfl ?_
        refine LX.buildSlice (e := 9) (size := 1) rfl rfl (fun _ => by kernel_rfl) rfl (by decide) rfl rfl rfl ?_
        intro gt60
        first
          | refine LX.appendT 0 Fz.el25 rfl rfl rfl rfl rfl rfl rfl (by first | omega | (dsimp only; omega)) (by first | omega | (dsimp only; omega)) rfl rfl rfl ?_
          | refine LX.appendT 1 Fz.el25 rfl rfl rfl rfl rfl rfl rfl (by first | omega | (dsimp only; omega)) (by first | omega | (dsimp only; omega)) rfl rfl rfl ?_
          | refine LX.appendT 2 Fz.el25 rfl rfl rfl rfl rfl rfl rfl (by first | omega | (dsimp only; omega)) (by first | omega | (dsimp only; omega)) rfl rfl rfl ?_
          | refine LX.appendT 3 Fz.el25 rfl rfl rfl rfl rfl rfl rfl (by first | omega | (dsimp only; omega)) (by first | omega | (dsimp only; omega)) rfl rfl rfl ?_
        intro g' cap'
        refine LX.pure (Y.assign rfl) rfl rfl rfl ?_
        refine LX.sub (l' := [(0, _), (3, _), (4, _), (5, _), (6, _)]) ⟨rfl, rfl, rfl, rfl, rfl, trivial⟩ ?_
        refine LX.next ?_
        refine PX.thenN ?_
        refine CX.region ?_
        refine LX.pure (Y.move rfl) rfl rfl rfl ?_
        refine LX.pure (Y.move rfl) rfl rfl rfl ?_
        refine LX.pure (Y.move rfl) rfl rfl rfl ?_
        refine LX.pure (Y.cutLo Fz.un25 Fz.sz9 rfl rfl (by first | omega | (simp only []; omega) | (simp; done) | (simp; omega))) rfl rfl rfl ?_
        refine LX.appendPart 0 1 (lo := ctK ks i) Fz.el25 rfl rfl rfl rfl rfl rfl rfl (by omega) (by omega) (rowK8_one _) (by omega) (by omega) rfl rfl rfl ?_
        intro g3 cap3
        have hlen : 0 + ctK ks i + 1 + ((outK ks i).length - ctK ks i) = (outK ks i).length + 1 := by omega
        refine LX.pure (Y.assign rfl) rfl rfl rfl ?_
        refine LX.sub (l' := [(0, _), (3, _), (4, _)]) ⟨rfl, rfl, rfl, trivial⟩ ?_
        refine LX.next ?_
        refine PX.blockN ?_
        refine PX.thenN ?_
        refine CX.region ?_
        refine LX.pure (Y.move rfl) rfl rfl rfl ?_
        first
          | refine LX.pure (Y.addN rfl rfl (by first | omega | (simp only []; omega) | (simp; done) | (simp; omega))) rfl rfl rfl ?_
          | refine LX.pure (Y.add rfl rfl (by first | omega | (simp only []; omega) | (simp; done) | (simp; omega))) rfl rfl rfl ?_
        refine LX.pure (Y.assign rfl) rfl rfl rfl ?_
        refine LX.sub (l' := [(0, _), (3, _), (4, _)]) ⟨rfl, rfl, rfl, trivial⟩ ?_
        refine LX.next ?_
        exact PX.again (L := (fun t : Nat × Option Nat × Nat => [(0, rv (some bn) ks.length cn), (3, rv t.2.1 (outK ks t.1).length t.2.2), (4, .int .i64 (t.1 : Int))])) (WW := (fun (t : Nat × Option Nat × Nat) w => t.1 ≤ ks.length ∧ WA w0 base (.row t.2.1 t.2.2 (outK ks t.1).length 9 1 (rowK8 (outK ks t.1)) :: .row (some bn) cn ks.length 9 1 (rowK8 ks) :: fr) w)) (μ := fun t => ks.length - t.1) (i := (i, g, cap)) (i + 1, _, _) (by show ks.length - (i + 1) < ks.length - i; omega) ⟨rfl, by dsimp only; rw [outK_put_len hi hq hs, ← hlen]; rfl, rfl, trivial⟩ (fun w hw => ⟨by show i + 1 ≤ ks.length; omega, by
          dsimp only
          have hd := hw.drop (its' := _ :: _ :: fr) ((List.sublist_cons_self _ _).cons_cons _)
          rw [outK_put_len hi hq hs, ← hlen, rowK8_put hi hq hs]
          have ht : ((rowK8 (outK ks i)).drop (ctK ks i)).take ((outK ks i).length - ctK ks i) = (rowK8 (outK ks i)).drop (ctK ks i) := List.take_of_length_le (by rw [List.length_drop, rowK8_len]; omega)
          rw [ht, List.append_assoc] at hd
          exact hd⟩)
  · try simp at hb1
    have hie : i = ks.length := by omega
    subst hie
    refine CX.exit ?_
    refine PX.thenE ?_
    refine PX.thenE ?_
    refine PX.blockE ?_
    refine PX.thenN ?_
    refine CX.seq ?_
    refine CX.region ?_
    refine LX.pure (Y.move rfl) rfl rfl rfl ?_
    refine LX.pure (Y.assign rfl) rfl rfl rfl ?_
    refine LX.sub (l' := [(2, _)]) ⟨rfl, trivial⟩ ?_
    refine LX.next ?_
    refine PX.thenN ?_
    refine CX.ret ?_
    refine PX.ret1 (by simp) Tryd.results11 rfl ?_
    exact fun w hw => ⟨(g, cap), rfl, hw⟩
theorem outK_all (ks : List Nat) : outK ks ks.length = canon fun k => ks.contains k := by
  show canon (fun k => (ks.take ks.length).contains k) = _
  rw [List.take_length]
theorem sorted_c (w0 : World) (base : Nat) (fr : List It) (bn cn : Nat) (ks : List Nat) (h8 : ∀ k ∈ ks, k < 8) (hl : ks.length ≤ 60) :
    FnC Tryd.prog 11 #[.slice (some ⟨bn, 0, none⟩) ks.length cn] (WA w0 base (.row (some bn) cn ks.length 9 1 ((ks.map nmB).map encStr) :: fr)) (fun p : Option Nat × Nat => rv p.1 (canon fun k => ks.contains k).length p.2)
      (fun p => WA w0 base (.row p.1 p.2 (canon fun k => ks.contains k).length 9 1 (((canon fun k => ks.contains k).map nmB).map encStr) :: .row (some bn) cn ks.length 9 1 ((ks.map nmB).map encStr) :: fr)) := by
  have h := sorted_c0 w0 base fr bn cn ks h8 hl
  rw [outK_all] at h
  exact h
end Go.Proofs.YtljaoofbklkglaaDoor
