/-
  Proved here: the walk of the statement LexSpaces.
-/
import Derived.Test.YtggoogbloaennaaDoorFw
import Derived.Test.YtggoogbloaennaaDoorLawA
import Derived.Test.YtggoogbloaennaaDoorSpdP
namespace Go.Proofs.YtggoogbloaennaaDoor
open Go.SX Go.RowKit Go.Lex
theorem spaces_c {w0 : World} {base : Nat} {fr : List It} {eLex eLim : Value} (hE : EnvLex w0 base eLex) (hM : EnvLim w0 base eLim) (s : List UInt8) (z : Int) : FnC Tryd.prog 5 #[str s, .int .i64 z] (WA w0 base fr) (fun _ : Unit => .bool true) (fun _ => WA w0 base fr) := by
  refine FnC.of_body (fn := Tryd.f5) [(0, _), (1, _)] Tryd.func5 rfl Tryd.ntmps5 rfl ⟨rfl, rfl, trivial⟩ ?_
  refine CX.seq ?_
  refine CX.region ?_
  refine LX.pure (Y.assign rfl) rfl rfl rfl ?_
  refine LX.sub (l' := [(0, _), (1, _), (4, _)]) ⟨rfl, rfl, rfl, trivial⟩ ?_
  refine LX.next ?_
  refine PX.thenN ?_
  refine CX.seq ?_
  refine CX.region ?_
  refine LX.call (first_c hE hM) F.en19 rfl rfl rfl rfl rfl ?_
  intro _
  refine LX.pure (Y.assign rfl) rfl rfl rfl ?_
  refine LX.sub (l' := [(0, _), (1, _), (4, _), (5, _)]) ⟨rfl, rfl, rfl, rfl, trivial⟩ ?_
  refine LX.next ?_
  refine PX.thenN ?_
  refine CX.seq ?_
  refine CX.seq ?_
  refine CX.region ?_
  refine LX.pure (Y.move rfl) rfl rfl rfl ?_
  refine LX.pure (Y.not rfl) rfl rfl rfl ?_
  refine LX.sub (l' := [(0, _), (1, _), (4, _), (5, _), (16, _)]) ⟨rfl, rfl, rfl, rfl, rfl, trivial⟩ ?_
  refine LX.next ?_
  refine PX.thenN ?_
  refine CX.cond rfl (fun hb1 => ?_) (fun hb1 => ?_)
  · try simp at hb1
    first | done | cases hb1
  · try simp at hb1
    refine CX.skip ?_
    refine PX.thenN ?_
    refine CX.seqM (τ := Unit) (fun _ : Unit => [(0, str s), (1, .int .i64 z)]) (fun (_ : Unit) w => s.length ≤ 1000 ∧ WA w0 base fr w) ?_ ?_
    ·
      refine CX.seq ?_
      refine CX.region ?_
      refine LX.pure (Y.move rfl) rfl rfl rfl ?_
      refine LX.pure (Y.lenStr rfl F.un9 rfl) rfl rfl rfl ?_
      first
        | refine LX.pure (Y.gtN rfl rfl) rfl rfl rfl ?_
        | refine LX.pure (Y.gtI rfl rfl) rfl rfl rfl ?_
      refine LX.pure (Y.move rfl) rfl rfl rfl ?_
      refine LX.sub (l' := [(0, _), (1, _), (4, _), (5, _), (20, _)]) ⟨rfl, rfl, rfl, rfl, rfl, trivial⟩ ?_
      apply LX.joinOr 3 23 20 rfl
      · intro hb2
        have hb2p := hb2
        try simp at hb2p
        refine LX.gF rfl rfl rfl hb2 rfl rfl ?_
        refine LX.gF rfl rfl rfl hb2 rfl rfl ?_
        refine LX.pure (Y.pickT rfl hb2 rfl) rfl rfl rfl ?_
        exact LX.left ⟨rfl, rfl, rfl, rfl, rfl, rfl, trivial⟩
      · intro hb2
        have hb2p := hb2
        try simp at hb2p
        refine LX.gT rfl rfl rfl hb2 (Y.move rfl) rfl rfl ?_
        refine LX.gT rfl rfl rfl hb2 (Y.not rfl) rfl rfl ?_
        refine LX.pure (Y.pickF rfl hb2 rfl) rfl rfl rfl ?_
        exact LX.left ⟨rfl, rfl, rfl, rfl, rfl, rfl, trivial⟩
      refine LX.sub (l' := [(0, _), (1, _), (4, _), (5, _), (23, _)]) ⟨rfl, rfl, rfl, rfl, rfl, trivial⟩ ?_
      refine LX.next ?_
      refine PX.thenN ?_
      refine CX.cond rfl (fun hb3 => ?_) (fun hb3 => ?_)
      · try simp at hb3
        refine CX.seq ?_
        refine CX.region ?_
        refine LX.pure (Y.move rfl) rfl rfl rfl ?_
        refine LX.pure (Y.assign rfl) rfl rfl rfl ?_
        refine LX.sub (l' := [(0, _), (1, _), (4, _)]) ⟨rfl, rfl, rfl, trivial⟩ ?_
        refine LX.next ?_
        refine PX.thenN ?_
        refine CX.ret ?_
        refine PX.thenR ?_
        refine PX.ret1 (by simp) Tryd.results5 rfl ?_
        exact fun w hw => ⟨(), rfl, hw⟩
      · try simp at hb3
        have hs1 : s.length ≤ 1000 := hb3
        refine CX.skip ?_
        exact PX.seam (L := (fun _ : Unit => [(0, str s), (1, .int .i64 z)])) (WW := (fun (_ : Unit) w => s.length ≤ 1000 ∧ WA w0 base fr w)) () ⟨rfl, rfl, trivial⟩ (fun w hw => ⟨hs1, hw⟩)
    ·
      intro _
      refine CX.have fun hs1 => ?_
      rcases hsc : scan s with pe | ts
      ·
        refine CX.seq ?_
        refine CX.region ?_
        refine LX.pure (Y.move rfl) rfl rfl rfl ?_
        refine LX.call (scan_bad_c hE hM (by omega) hsc) F.en20 rfl rfl rfl rfl rfl ?_
        intro bE
        refine LX.pure (Y.move rfl) rfl rfl rfl ?_
        refine LX.pure (Y.extract rfl rfl) rfl rfl rfl ?_
        refine LX.pure (Y.extract rfl rfl) rfl rfl rfl ?_
        refine LX.pure (Y.assign rfl) rfl rfl rfl ?_
        refine LX.pure (Y.assign rfl) rfl rfl rfl ?_
        refine LX.sub (l' := [(0, _), (1, _), (6, _), (7, _)]) ⟨rfl, rfl, rfl, rfl, trivial⟩ ?_
        refine LX.next ?_
        refine PX.thenN ?_
        refine CX.seq ?_
        refine CX.seq ?_
        refine CX.region ?_
        refine LX.pure (Y.move rfl) rfl rfl rfl ?_
        first
          | refine LX.pure (Y.neNil F.un29 rfl rfl) rfl rfl rfl ?_
          | refine LX.pure (Y.neNilNil F.un29 rfl) rfl rfl rfl ?_
        refine LX.sub (l' := [(0, _), (1, _), (6, _), (31, _)]) ⟨rfl, rfl, rfl, rfl, trivial⟩ ?_
        refine LX.next ?_
        refine PX.thenN ?_
        refine CX.cond rfl (fun hb4 => ?_) (fun hb4 => ?_)
        · try simp at hb4
          refine CX.seq ?_
          refine CX.region ?_
          refine LX.pure (Y.move rfl) rfl rfl rfl ?_
          refine LX.pure (Y.lenSl rfl F.un38 rfl) rfl rfl rfl ?_
          first
            | refine LX.pure (Y.eqN rfl rfl) rfl rfl rfl ?_
            | refine LX.pure (Y.eqI rfl rfl) rfl rfl rfl ?_
          refine LX.pure (Y.assign rfl) rfl rfl rfl ?_
          refine LX.sub (l' := [(0, _), (1, _), (4, _), (6, _)]) ⟨rfl, rfl, rfl, rfl, trivial⟩ ?_
          refine LX.next ?_
          refine PX.thenN ?_
          refine CX.ret ?_
          refine PX.thenR ?_
          refine PX.ret1 (by simp) Tryd.results5 rfl ?_
          exact fun w hw => ⟨(), rfl, hw.drop (List.sublist_cons_self _ _)⟩
        · try simp at hb4
          first | done | cases hb4
      ·
        have hlt := scan_len hsc
        refine CX.seq ?_
        refine CX.region ?_
        refine LX.pure (Y.move rfl) rfl rfl rfl ?_
        refine LX.call (scan_ok_c hE hM (by omega) hsc) F.en20 rfl rfl rfl rfl rfl ?_
        rintro ⟨g, c⟩
        refine LX.pure (Y.move rfl) rfl rfl rfl ?_
        refine LX.pure (Y.extract rfl rfl) rfl rfl rfl ?_
        refine LX.pure (Y.extract rfl rfl) rfl rfl rfl ?_
        refine LX.pure (Y.assign rfl) rfl rfl rfl ?_
        refine LX.pure (Y.assign rfl) rfl rfl rfl ?_
        refine LX.sub (l' := [(0, _), (1, _), (6, _), (7, _)]) ⟨rfl, rfl, rfl, rfl, trivial⟩ ?_
        refine LX.next ?_
        refine PX.thenN ?_
        refine CX.seq ?_
        refine CX.seq ?_
        refine CX.region ?_
        refine LX.pure (Y.move rfl) rfl rfl rfl ?_
        first
          | refine LX.pure (Y.neNil F.un29 rfl rfl) rfl rfl rfl ?_
          | refine LX.pure (Y.neNilNil F.un29 rfl) rfl rfl rfl ?_
        refine LX.sub (l' := [(0, _), (1, _), (6, _), (31, _)]) ⟨rfl, rfl, rfl, rfl, trivial⟩ ?_
        refine LX.next ?_
        refine PX.thenN ?_
        refine CX.cond rfl (fun hb5 => ?_) (fun hb5 => ?_)
        · try simp at hb5
          first | done | cases hb5
        · try simp at hb5
          refine CX.skip ?_
          refine PX.thenN ?_
          refine CX.seq ?_
          refine CX.region ?_
          refine LX.pure (Y.assign rfl) rfl rfl rfl ?_
          refine LX.sub (l' := [(0, _), (1, _), (6, _), (8, _)]) ⟨rfl, rfl, rfl, rfl, trivial⟩ ?_
          refine LX.next ?_
          refine PX.thenN ?_
          refine CX.seq ?_
          refine CX.seq ?_
          refine CX.region ?_
          refine LX.world (fun w hw => hw.nilRow 3 1) ?_
          refine LX.pure (Y.assign rfl) rfl rfl rfl ?_
          refine LX.sub (l' := [(0, _), (1, _), (6, _), (8, _), (9, _)]) ⟨rfl, rfl, rfl, rfl, rfl, trivial⟩ ?_
          refine LX.next ?_
          refine PX.thenN ?_
          refine CX.block ?_
          refine CX.loop (τ := Nat × Option Nat × Nat) (fun t : Nat × Option Nat × Nat => [(0, str s), (1, .int .i64 z), (6, rv g ts.length c), (8, rv t.2.1 (kL s.length ts t.1).length t.2.2), (9, .int .i64 (t.1 : Int))]) (fun (t : Nat × Option Nat × Nat) w => (t.1 < ts.length ∨ t.1 = 0) ∧ WA w0 base (nrow t.2.1 t.2.2 (kL s.length ts t.1) :: .row g c ts.length 46 3 (ts.flatMap tokC) :: fr) w) (fun t => ts.length - t.1) (0, none, 0) ⟨rfl, rfl, rfl, rfl, rfl, trivial⟩ (fun w hw => ⟨.inr rfl, hw⟩) ?_
          rintro ⟨k, gk, ck⟩
          refine CX.have fun hk => ?_
          dsimp only at hk ⊢
          have hkn := kL_len s.length ts k
          refine CX.seq ?_
          refine CX.seq ?_
          refine CX.region ?_
          refine LX.pure (Y.move rfl) rfl rfl rfl ?_
          first
            | refine LX.pure (Y.addN rfl rfl (by first | omega | (simp only []; omega) | (simp; done) | (simp; omega))) rfl rfl rfl ?_
            | refine LX.pure (Y.add rfl rfl (by first | omega | (simp only []; omega) | (simp; done) | (simp; omega))) rfl rfl rfl ?_
          refine LX.pure (Y.move rfl) rfl rfl rfl ?_
          refine LX.pure (Y.lenSl rfl F.un38 rfl) rfl rfl rfl ?_
          first
            | refine LX.pure (Y.ltN rfl rfl) rfl rfl rfl ?_
            | refine LX.pure (Y.ltI rfl rfl) rfl rfl rfl ?_
          refine LX.sub (l' := [(0, _), (1, _), (6, _), (8, _), (9, _), (39, _)]) ⟨rfl, rfl, rfl, rfl, rfl, rfl, trivial⟩ ?_
          refine LX.next ?_
          refine PX.thenN ?_
          refine CX.cond rfl (fun hb6 => ?_) (fun hb6 => ?_)
          · try simp at hb6
            have hk1 : k + 1 < ts.length := hb6
            refine CX.skip ?_
            refine PX.thenN ?_
            refine CX.seq ?_
            refine CX.block ?_
            refine CX.seq ?_
            refine CX.region ?_
            refine LX.pure (Y.move rfl) rfl rfl rfl ?_
            refine LX.pure (Y.move rfl) rfl rfl rfl ?_
            first
              | refine LX.pure (Y.addN rfl rfl (by first | omega | (simp only []; omega) | (simp; done) | (simp; omega))) rfl rfl rfl ?_
              | refine LX.pure (Y.add rfl rfl (by first | omega | (simp only []; omega) | (simp; done) | (simp; omega))) rfl rfl rfl ?_
            refine LX.pure (Y.idxR 1 F.un38 F.sz46 rfl rfl rfl hk1) rfl rfl rfl ?_
            first
              | refine LX.pure (Y.fieldAddr0 F.fo46_0 rfl) rfl rfl rfl ?_
              | refine LX.pure (Y.fieldAddr F.fo46_0 rfl) rfl rfl rfl ?_
            refine LX.pure (Y.ldR 1 (v := natV (kd ts (k + 1))) F.one3 rfl rfl (tok_cell0 hk1)) rfl rfl rfl ?_
            first
              | refine LX.pure (Y.eqN rfl rfl) rfl rfl rfl ?_
              | refine LX.pure (Y.eqI rfl rfl) rfl rfl rfl ?_
            refine LX.pure (Y.move rfl) rfl rfl rfl ?_
            refine LX.sub (l' := [(0, _), (1, _), (6, _), (8, _), (9, _), (49, _)]) ⟨rfl, rfl, rfl, rfl, rfl, rfl, trivial⟩ ?_
            apply LX.joinAnd 10 59 49 rfl
            · intro hb7
              have hb7p := hb7
              try simp at hb7p
              refine LX.gT rfl rfl rfl hb7 (Y.move rfl) rfl rfl ?_
              refine LX.gT rfl rfl rfl hb7 (Y.move rfl) rfl rfl ?_
              first
                | refine LX.gT rfl rfl rfl hb7 (Y.addN rfl rfl (by first | omega | (simp only []; omega) | (simp; done) | (simp; omega))) rfl rfl ?_
                | refine LX.gT rfl rfl rfl hb7 (Y.add rfl rfl (by first | omega | (simp only []; omega) | (simp; done) | (simp; omega))) rfl rfl ?_
              refine LX.gT rfl rfl rfl hb7 (Y.idxR 1 F.un38 F.sz46 rfl rfl rfl hk1) rfl rfl ?_
              first
                | refine LX.gT rfl rfl rfl hb7 (Y.fieldAddr0 Fw.fo46_2 rfl) rfl rfl ?_
                | refine LX.gT rfl rfl rfl hb7 (Y.fieldAddr Fw.fo46_2 rfl) rfl rfl ?_
              refine LX.gT rfl rfl rfl hb7 (Y.ldR 1 (v := natV (ts.getD (k + 1) tok0).pos) F.one3 rfl rfl (tok_cell2 hk1)) rfl rfl ?_
              refine LX.gT rfl rfl rfl hb7 (Y.move rfl) rfl rfl ?_
              refine LX.gT rfl rfl rfl hb7 (Y.lenStr rfl F.un9 rfl) rfl rfl ?_
              first
                | refine LX.gT rfl rfl rfl hb7 (Y.ltN rfl rfl) rfl rfl ?_
                | refine LX.gT rfl rfl rfl hb7 (Y.ltI rfl rfl) rfl rfl ?_
              refine LX.pure (Y.pickT rfl hb7 rfl) rfl rfl rfl ?_
              exact LX.left ⟨rfl, rfl, rfl, rfl, rfl, rfl, rfl, trivial⟩
            · intro hb7
              have hb7p := hb7
              try simp at hb7p
              refine LX.gF rfl rfl rfl hb7 rfl rfl ?_
              refine LX.gF rfl rfl rfl hb7 rfl rfl ?_
              refine LX.gF rfl rfl rfl hb7 rfl rfl ?_
              refine LX.gF rfl rfl rfl hb7 rfl rfl ?_
              refine LX.gF rfl rfl rfl hb7 rfl rfl ?_
              refine LX.gF rfl rfl rfl hb7 rfl rfl ?_
              refine LX.gF rfl rfl rfl hb7 rfl rfl ?_
              refine LX.gF rfl rfl rfl hb7 rfl rfl ?_
              refine LX.gF rfl rfl rfl hb7 rfl rfl ?_
              refine LX.pure (Y.pickF rfl hb7 rfl) rfl rfl rfl ?_
              exact LX.left ⟨rfl, rfl, rfl, rfl, rfl, rfl, rfl, trivial⟩
            refine LX.sub (l' := [(0, _), (1, _), (6, _), (8, _), (9, _), (59, _)]) ⟨rfl, rfl, rfl, rfl, rfl, rfl, trivial⟩ ?_
            refine LX.next ?_
            refine PX.thenN ?_
            refine CX.cond rfl (fun hb8 => ?_) (fun hb8 => ?_)
            · try simp at hb8
              have hyes : (ts.getD (k + 1) tok0).kind = 5 ∧ (ts.getD (k + 1) tok0).pos < s.length := by simpa [kd, List.getD] using hb8
              refine CX.region ?_
              refine LX.pure (Y.move rfl) rfl rfl rfl ?_
              refine LX.pure (Y.move rfl) rfl rfl rfl ?_
              refine LX.pure (Y.move rfl) rfl rfl rfl ?_
              first
                | refine LX.pure (Y.addN rfl rfl (by first | omega | (simp only []; omega) | (simp; done) | (simp; omega))) rfl rfl rfl ?_
                | refine LX.pure (Y.add rfl rfl (by first | omega | (simp only []; omega) | (simp; done) | (simp; omega))) rfl rfl rfl ?_
              refine LX.pure (Y.idxR 1 F.un38 F.sz46 rfl rfl rfl hk1) rfl rfl rfl ?_
              first
                | refine LX.pure (Y.fieldAddr0 Fw.fo46_2 rfl) rfl rfl rfl ?_
                | refine LX.pure (Y.fieldAddr Fw.fo46_2 rfl) rfl rfl rfl ?_
              refine LX.pure (Y.ldR 1 (v := natV (ts.getD (k + 1) tok0).pos) F.one3 rfl rfl (tok_cell2 hk1)) rfl rfl rfl ?_
              refine LX.buildSlice (e := 3) (size := 1) rfl rfl (fun _ => by kernel_rfl) rfl (by decide) rfl rfl rfl ?_
              intro gt70
              first
                | refine LX.appendT 0 F.el25 rfl rfl rfl rfl rfl rfl rfl (by first | omega | (dsimp only; omega)) (by first | omega | (dsimp only; omega)) rfl rfl rfl ?_
                | refine LX.appendT 1 F.el25 rfl rfl rfl rfl rfl rfl rfl (by first | omega | (dsimp only; omega)) (by first | omega | (dsimp only; omega)) rfl rfl rfl ?_
                | refine LX.appendT 2 F.el25 rfl rfl rfl rfl rfl rfl rfl (by first | omega | (dsimp only; omega)) (by first | omega | (dsimp only; omega)) rfl rfl rfl ?_
                | refine LX.appendT 3 F.el25 rfl rfl rfl rfl rfl rfl rfl (by first | omega | (dsimp only; omega)) (by first | omega | (dsimp only; omega)) rfl rfl rfl ?_
              intro g' cap'
              refine LX.pure (Y.assign rfl) rfl rfl rfl ?_
              refine LX.sub (l' := [(0, _), (1, _), (6, _), (8, _), (9, _)]) ⟨rfl, rfl, rfl, rfl, rfl, trivial⟩ ?_
              refine LX.next ?_
              refine PX.blockN ?_
              refine PX.thenN ?_
              refine CX.region ?_
              refine LX.pure (Y.move rfl) rfl rfl rfl ?_
              first
                | refine LX.pure (Y.addN rfl rfl (by first | omega | (simp only []; omega) | (simp; done) | (simp; omega))) rfl rfl rfl ?_
                | refine LX.pure (Y.add rfl rfl (by first | omega | (simp only []; omega) | (simp; done) | (simp; omega))) rfl rfl rfl ?_
              refine LX.pure (Y.assign rfl) rfl rfl rfl ?_
              refine LX.sub (l' := [(0, _), (1, _), (6, _), (8, _), (9, _)]) ⟨rfl, rfl, rfl, rfl, rfl, trivial⟩ ?_
              refine LX.next ?_
              exact PX.again (L := (fun t : Nat × Option Nat × Nat => [(0, str s), (1, .int .i64 z), (6, rv g ts.length c), (8, rv t.2.1 (kL s.length ts t.1).length t.2.2), (9, .int .i64 (t.1 : Int))])) (WW := (fun (t : Nat × Option Nat × Nat) w => (t.1 < ts.length ∨ t.1 = 0) ∧ WA w0 base (nrow t.2.1 t.2.2 (kL s.length ts t.1) :: .row g c ts.length 46 3 (ts.flatMap tokC) :: fr) w)) (μ := fun t => ts.length - t.1) (i := (k, gk, ck)) (k + 1, g', cap') (by show ts.length - (k + 1) < ts.length - k; omega) ⟨rfl, rfl, rfl, by show _ = some (rv _ (kL s.length ts (k + 1)).length _); rw [kL_yes hyes, List.length_append]; rfl, rfl, trivial⟩ (fun w hw => ⟨.inl hk1, by show WA w0 base (nrow _ _ (kL s.length ts (k + 1)) :: _) w; rw [kL_yes hyes]; simpa [nrow, flat, Value.cells, natV, tok0] using hw⟩)
            · try simp at hb8
              have hk1 : k + 1 < ts.length := hb6
              have hno : ¬ ((ts.getD (k + 1) tok0).kind = 5 ∧ (ts.getD (k + 1) tok0).pos < s.length) := by simpa [kd, List.getD] using hb8
              refine CX.skip ?_
              refine PX.blockN ?_
              refine PX.thenN ?_
              refine CX.region ?_
              refine LX.pure (Y.move rfl) rfl rfl rfl ?_
              first
                | refine LX.pure (Y.addN rfl rfl (by first | omega | (simp only []; omega) | (simp; done) | (simp; omega))) rfl rfl rfl ?_
                | refine LX.pure (Y.add rfl rfl (by first | omega | (simp only []; omega) | (simp; done) | (simp; omega))) rfl rfl rfl ?_
              refine LX.pure (Y.assign rfl) rfl rfl rfl ?_
              refine LX.sub (l' := [(0, _), (1, _), (6, _), (8, _), (9, _)]) ⟨rfl, rfl, rfl, rfl, rfl, trivial⟩ ?_
              refine LX.next ?_
              exact PX.again (L := (fun t : Nat × Option Nat × Nat => [(0, str s), (1, .int .i64 z), (6, rv g ts.length c), (8, rv t.2.1 (kL s.length ts t.1).length t.2.2), (9, .int .i64 (t.1 : Int))])) (WW := (fun (t : Nat × Option Nat × Nat) w => (t.1 < ts.length ∨ t.1 = 0) ∧ WA w0 base (nrow t.2.1 t.2.2 (kL s.length ts t.1) :: .row g c ts.length 46 3 (ts.flatMap tokC) :: fr) w)) (μ := fun t => ts.length - t.1) (i := (k, gk, ck)) (k + 1, gk, ck) (by show ts.length - (k + 1) < ts.length - k; omega) ⟨rfl, rfl, rfl, by show _ = some (rv _ (kL s.length ts (k + 1)).length _); rw [kL_no hno]; rfl, rfl, trivial⟩ (fun w hw => ⟨.inl hk1, by show WA w0 base (nrow _ _ (kL s.length ts (k + 1)) :: _) w; rw [kL_no hno]; exact hw⟩)
          · try simp at hb6
            have hkn2 : k = ts.length - 1 := by omega
            subst hkn2
            refine CX.exit ?_
            refine PX.thenE ?_
            refine PX.thenE ?_
            refine PX.blockE ?_
            refine PX.thenN ?_
            refine CX.seq ?_
            refine CX.seq ?_
            refine CX.region ?_
            refine LX.pure (Y.move rfl) rfl rfl rfl ?_
            refine LX.pure (Y.lenSl rfl F.un25 rfl) rfl rfl rfl ?_
            first
              | refine LX.pure (Y.eqN rfl rfl) rfl rfl rfl ?_
              | refine LX.pure (Y.eqI rfl rfl) rfl rfl rfl ?_
            refine LX.sub (l' := [(0, _), (1, _), (6, _), (8, _), (71, _)]) ⟨rfl, rfl, rfl, rfl, rfl, trivial⟩ ?_
            refine LX.next ?_
            refine PX.thenN ?_
            refine CX.cond rfl (fun hb9 => ?_) (fun hb9 => ?_)
            · try simp at hb9
              refine CX.seq ?_
              refine CX.region ?_
              refine LX.pure (Y.assign rfl) rfl rfl rfl ?_
              refine LX.sub (l' := [(0, _), (1, _), (4, _), (6, _), (8, _)]) ⟨rfl, rfl, rfl, rfl, rfl, trivial⟩ ?_
              refine LX.next ?_
              refine PX.thenN ?_
              refine CX.ret ?_
              refine PX.thenR ?_
              refine PX.ret1 (by simp) Tryd.results5 rfl ?_
              exact fun w hw => ⟨(), rfl, hw.drop (((List.Sublist.refl fr).cons _).cons _)⟩
            · try simp at hb9
              have hkl0 : 0 < (kL s.length ts (ts.length - 1)).length := List.length_pos_iff.2 hb9
              obtain ⟨t0, htm, ht5, htp, htq⟩ := kL_mem (q := ((kL s.length ts (ts.length - 1)).getD (rOf z (kL s.length ts (ts.length - 1)).length) 0)) hk (by rw [List.getD, List.getElem?_eq_getElem (rOf_lt z hkl0)]; exact List.getElem_mem _)
              obtain ⟨tm, hm, hor⟩ := spaces_law hsc htm ht5 (by rw [htp]; exact htq)
              rw [htp] at hm hor
              obtain ⟨q, hq⟩ : ∃ q, q = ((kL s.length ts (ts.length - 1)).getD (rOf z (kL s.length ts (ts.length - 1)).length) 0) := ⟨_, rfl⟩
              rw [← hq] at hm hor htq
              refine CX.skip ?_
              refine PX.thenN ?_
              refine CX.seq ?_
              refine CX.region ?_
              refine LX.pure (Y.move rfl) rfl rfl rfl ?_
              refine LX.pure (Y.move rfl) rfl rfl rfl ?_
              refine LX.pure (Y.move rfl) rfl rfl rfl ?_
              refine LX.pure (Y.lenSl rfl F.un25 rfl) rfl rfl rfl ?_
              refine LX.pure (Y.rem rfl rfl (by have := hkl0; omega)) rfl rfl rfl ?_
              refine LX.pure (Y.move rfl) rfl rfl rfl ?_
              refine LX.pure (Y.lenSl rfl F.un25 rfl) rfl rfl rfl ?_
              refine LX.pure (Y.add (a := Int.tmod z ((kL s.length ts (ts.length - 1)).length : Int)) (b := ((kL s.length ts (ts.length - 1)).length : Int)) rfl rfl (by have := tmodn_bd z hkl0; have := kL_len s.length ts (ts.length - 1); omega)) rfl rfl rfl ?_
              refine LX.pure (Y.move rfl) rfl rfl rfl ?_
              refine LX.pure (Y.lenSl rfl F.un25 rfl) rfl rfl rfl ?_
              refine LX.pure (show Y _ _ _ _ _ (.int .i64 ((rOf z (kL s.length ts (ts.length - 1)).length : Nat) : Int)) from by rw [← rOf_eq z hkl0]; exact Y.rem rfl rfl (by have := hkl0; omega)) rfl rfl rfl ?_
              refine LX.pure (Y.idxR 0 F.un25 F.sz3 rfl rfl rfl (rOf_lt z hkl0)) rfl rfl rfl ?_
              refine LX.pure (Y.ldR 0 (v := natV ((kL s.length ts (ts.length - 1)).getD (rOf z (kL s.length ts (ts.length - 1)).length) 0)) F.one3 rfl rfl (int_cell (rOf_lt z hkl0))) rfl rfl rfl ?_
              refine LX.pure (Y.assign (v := .int .i64 (q : Int)) (by rw [hq]; rfl)) rfl rfl rfl ?_
              refine LX.sub (l' := [(0, _), (6, _), (10, _)]) ⟨rfl, rfl, rfl, trivial⟩ ?_
              refine LX.next ?_
              refine PX.thenN ?_
              refine CX.seq ?_
              refine CX.regionM [(0, .anywhere), (1, .anywhere), (2, .anywhere), (3, .anywhere), (4, .anywhere), (5, .anywhere), (6, .anywhere), (7, .anywhere), (8, .anywhere), (9, .alone), (10, .anywhere), (11, .anywhere), (12, .anywhere), (13, .anywhere), (14, .anywhere)] rfl (by kernel_rfl) ?_
              refine MX.lift0 (i := 0) rfl (Y.move rfl) rfl rfl rfl ?_
              refine MX.lift0 (i := 1) rfl (Y.move rfl) rfl rfl rfl ?_
              refine MX.lift0 (i := 2) rfl (Y.sliceHi rfl rfl F.un9 (by omega)) rfl rfl rfl ?_
              refine MX.lift0 (i := 3) rfl (Y.addS rfl rfl (by simp; omega)) rfl rfl rfl ?_
              refine MX.lift0 (i := 4) rfl (Y.move rfl) rfl rfl rfl ?_
              refine MX.lift0 (i := 5) rfl (Y.move rfl) rfl rfl rfl ?_
              first
                | refine MX.lift0 (i := 6) rfl (Y.addN rfl rfl (by first | omega | (simp only []; omega) | (simp; done) | (simp; omega))) rfl rfl rfl ?_
                | refine MX.lift0 (i := 6) rfl (Y.add rfl rfl (by first | omega | (simp only []; omega) | (simp; done) | (simp; omega))) rfl rfl rfl ?_
              refine MX.lift0 (i := 7) rfl (Y.sliceLo rfl rfl F.un9 (by show q + 1 ≤ s.length; omega)) rfl rfl rfl ?_
              refine MX.lift0 (i := 8) rfl (Y.addS rfl rfl (by simp; omega)) rfl rfl rfl ?_
              refine MX.force (i := 9) rfl ?_
              refine LX.call (scan_ok_c hE hM (s := s.take q ++ moreT ++ s.drop (q + 1)) (ts := tm) (by simp [moreT]; omega) hm) F.en20 rfl rfl rfl rfl rfl ?_
              rintro ⟨gm, cm⟩
              refine LX.nextM [] (by kernel_rfl) (fun h => absurd rfl h) ?_
              refine MX.lift0 (i := 10) rfl (Y.move rfl) rfl rfl rfl ?_
              refine MX.lift0 (i := 11) rfl (Y.extract rfl rfl) rfl rfl rfl ?_
              refine MX.lift0 (i := 12) rfl (Y.extract rfl rfl) rfl rfl rfl ?_
              refine MX.lift0 (i := 13) rfl (Y.assign rfl) rfl rfl rfl ?_
              refine MX.lift0 (i := 14) rfl (Y.assign rfl) rfl rfl rfl ?_
              refine MX.sub (l' := [(6, _), (10, _), (11, _), (12, _)]) ⟨rfl, rfl, rfl, rfl, trivial⟩ ?_
              refine MX.done ?_
              refine PX.thenN ?_
              refine CX.seq ?_
              refine CX.seq ?_
              refine CX.region ?_
              refine LX.pure (Y.move rfl) rfl rfl rfl ?_
              first
                | refine LX.pure (Y.neNil F.un29 rfl rfl) rfl rfl rfl ?_
                | refine LX.pure (Y.neNilNil F.un29 rfl) rfl rfl rfl ?_
              refine LX.pure (Y.move rfl) rfl rfl rfl ?_
              refine LX.sub (l' := [(6, _), (10, _), (11, _), (100, _)]) ⟨rfl, rfl, rfl, rfl, trivial⟩ ?_
              apply LX.joinOr 6 106 100 rfl
              · intro hb10
                cases hb10
              · intro hb10
                have hb10p := hb10
                try simp at hb10p
                refine LX.gT rfl rfl rfl hb10 (Y.move rfl) rfl rfl ?_
                refine LX.gT rfl rfl rfl hb10 (Y.lenSl rfl F.un38 rfl) rfl rfl ?_
                refine LX.gT rfl rfl rfl hb10 (Y.move rfl) rfl rfl ?_
                refine LX.gT rfl rfl rfl hb10 (Y.lenSl rfl F.un38 rfl) rfl rfl ?_
                first
                  | refine LX.gT rfl rfl rfl hb10 (Y.neN rfl rfl) rfl rfl ?_
                  | refine LX.gT rfl rfl rfl hb10 (Y.neI rfl rfl) rfl rfl ?_
                refine LX.pure (Y.pickF rfl hb10 rfl) rfl rfl rfl ?_
                exact LX.left ⟨rfl, rfl, rfl, rfl, rfl, trivial⟩
              refine LX.sub (l' := [(6, _), (10, _), (11, _), (106, _)]) ⟨rfl, rfl, rfl, rfl, trivial⟩ ?_
              refine LX.next ?_
              refine PX.thenN ?_
              refine CX.cond rfl (fun hb11 => ?_) (fun hb11 => ?_)
              · try simp at hb11
                exact absurd hor.get.1 hb11
              · try simp at hb11
                refine CX.skip ?_
                refine PX.thenN ?_
                refine CX.seq ?_
                refine CX.seq ?_
                refine CX.region ?_
                refine LX.pure (Y.assign rfl) rfl rfl rfl ?_
                refine LX.sub (l' := [(6, _), (10, _), (11, _), (13, _)]) ⟨rfl, rfl, rfl, rfl, trivial⟩ ?_
                refine LX.next ?_
                refine PX.thenN ?_
                refine CX.block ?_
                refine CX.loop (τ := Nat) (fun k : Nat => [(6, rv g ts.length c), (10, .int .i64 (q : Int)), (11, rv gm tm.length cm), (13, .int .i64 (k : Int))]) (fun k w => k ≤ ts.length ∧ WA w0 base (.row gm cm tm.length 46 3 (tm.flatMap tokC) :: nrow gk ck (kL s.length ts (ts.length - 1)) :: .row g c ts.length 46 3 (ts.flatMap tokC) :: fr) w) (fun k => ts.length - k) 0 ⟨rfl, rfl, rfl, rfl, trivial⟩ (fun w hw => ⟨Nat.zero_le _, hw⟩) ?_
                intro k
                refine CX.have fun hk => ?_
                refine CX.seq ?_
                refine CX.seq ?_
                refine CX.region ?_
                refine LX.pure (Y.move rfl) rfl rfl rfl ?_
                refine LX.pure (Y.move rfl) rfl rfl rfl ?_
                refine LX.pure (Y.lenSl rfl F.un38 rfl) rfl rfl rfl ?_
                first
                  | refine LX.pure (Y.ltN rfl rfl) rfl rfl rfl ?_
                  | refine LX.pure (Y.ltI rfl rfl) rfl rfl rfl ?_
                refine LX.sub (l' := [(6, _), (10, _), (11, _), (13, _), (110, _)]) ⟨rfl, rfl, rfl, rfl, rfl, trivial⟩ ?_
                refine LX.next ?_
                refine PX.thenN ?_
                refine CX.cond rfl (fun hb12 => ?_) (fun hb12 => ?_)
                · try simp at hb12
                  have hkk : k < ts.length := hb12
                  have htk := hor.at_ hkk tok0
                  have hkm : k < tm.length := by rw [hor.get.1]; exact hkk
                  refine CX.skip ?_
                  refine PX.thenN ?_
                  refine CX.seq ?_
                  refine CX.block ?_
                  refine CX.seq ?_
                  refine CX.regionQ rfl (by kernel_rfl) ?_
                  refine LX.pure (Y.move rfl) rfl rfl rfl ?_
                  refine LX.pure (Y.move rfl) rfl rfl rfl ?_
                  refine LX.pure (Y.idxR 0 F.un38 F.sz46 rfl rfl rfl hkm) rfl rfl rfl ?_
                  first
                    | refine LX.pure (Y.fieldAddr0 F.fo46_0 rfl) rfl rfl rfl ?_
                    | refine LX.pure (Y.fieldAddr F.fo46_0 rfl) rfl rfl rfl ?_
                  refine LX.pure (Y.ldR 0 (v := natV (tm.getD k tok0).kind) F.one3 rfl rfl (tok_cell0 hkm)) rfl rfl rfl ?_
                  refine LX.pure (Y.move rfl) rfl rfl rfl ?_
                  refine LX.pure (Y.move rfl) rfl rfl rfl ?_
                  refine LX.pure (Y.idxR 2 F.un38 F.sz46 rfl rfl rfl hkk) rfl rfl rfl ?_
                  first
                    | refine LX.pure (Y.fieldAddr0 F.fo46_0 rfl) rfl rfl rfl ?_
                    | refine LX.pure (Y.fieldAddr F.fo46_0 rfl) rfl rfl rfl ?_
                  refine LX.pure (Y.ldR 2 (v := natV (ts.getD k tok0).kind) F.one3 rfl rfl (tok_cell0 hkk)) rfl rfl rfl ?_
                  first
                    | refine LX.pure (Y.neN rfl rfl) rfl rfl rfl ?_
                    | refine LX.pure (Y.neI rfl rfl) rfl rfl rfl ?_
                  refine LX.pure (Y.move rfl) rfl rfl rfl ?_
                  refine LX.sub (l' := [(6, _), (10, _), (11, _), (13, _), (124, _)]) ⟨rfl, rfl, rfl, rfl, rfl, trivial⟩ ?_
                  apply LX.joinOr 12 136 124 rfl
                  · intro hb13
                    have hb13p := hb13
                    try simp at hb13p
                    refine LX.gF rfl rfl rfl hb13 rfl rfl ?_
                    refine LX.gF rfl rfl rfl hb13 rfl rfl ?_
                    refine LX.gF rfl rfl rfl hb13 rfl rfl ?_
                    refine LX.gF rfl rfl rfl hb13 rfl rfl ?_
                    refine LX.gF rfl rfl rfl hb13 rfl rfl ?_
                    refine LX.gF rfl rfl rfl hb13 rfl rfl ?_
                    refine LX.gF rfl rfl rfl hb13 rfl rfl ?_
                    refine LX.gF rfl rfl rfl hb13 rfl rfl ?_
                    refine LX.gF rfl rfl rfl hb13 rfl rfl ?_
                    refine LX.gF rfl rfl rfl hb13 rfl rfl ?_
                    refine LX.gF rfl rfl rfl hb13 rfl rfl ?_
                    refine LX.pure (Y.pickT rfl hb13 rfl) rfl rfl rfl ?_
                    exact LX.left ⟨rfl, rfl, rfl, rfl, rfl, rfl, trivial⟩
                  · intro hb13
                    have hb13p := hb13
                    try simp at hb13p
                    refine LX.gT rfl rfl rfl hb13 (Y.move rfl) rfl rfl ?_
                    refine LX.gT rfl rfl rfl hb13 (Y.move rfl) rfl rfl ?_
                    refine LX.gT rfl rfl rfl hb13 (Y.idxR 0 F.un38 F.sz46 rfl rfl rfl hkm) rfl rfl ?_
                    first
                      | refine LX.gT rfl rfl rfl hb13 (Y.fieldAddr0 Fw.fo46_1 rfl) rfl rfl ?_
                      | refine LX.gT rfl rfl rfl hb13 (Y.fieldAddr Fw.fo46_1 rfl) rfl rfl ?_
                    refine LX.gT rfl rfl rfl hb13 (Y.ldR 0 (v := str (tm.getD k tok0).text) F.one9 rfl rfl (tok_cell1 hkm)) rfl rfl ?_
                    refine LX.gT rfl rfl rfl hb13 (Y.move rfl) rfl rfl ?_
                    refine LX.gT rfl rfl rfl hb13 (Y.move rfl) rfl rfl ?_
                    refine LX.gT rfl rfl rfl hb13 (Y.idxR 2 F.un38 F.sz46 rfl rfl rfl hkk) rfl rfl ?_
                    first
                      | refine LX.gT rfl rfl rfl hb13 (Y.fieldAddr0 Fw.fo46_1 rfl) rfl rfl ?_
                      | refine LX.gT rfl rfl rfl hb13 (Y.fieldAddr Fw.fo46_1 rfl) rfl rfl ?_
                    refine LX.gT rfl rfl rfl hb13 (Y.ldR 2 (v := str (ts.getD k tok0).text) F.one9 rfl rfl (tok_cell1 hkk)) rfl rfl ?_
                    refine LX.gT rfl rfl rfl hb13 (Y.neS rfl rfl) rfl rfl ?_
                    refine LX.pure (Y.pickF rfl hb13 rfl) rfl rfl rfl ?_
                    exact LX.left ⟨rfl, rfl, rfl, rfl, rfl, rfl, trivial⟩
                  refine LX.pure (Y.move rfl) rfl rfl rfl ?_
                  refine LX.sub (l' := [(6, _), (10, _), (11, _), (13, _), (137, _)]) ⟨rfl, rfl, rfl, rfl, rfl, trivial⟩ ?_
                  apply LX.joinOr 21 158 137 rfl
                  · intro hb14
                    have hb14p := hb14
                    try simp at hb14p
                    refine LX.gF rfl rfl rfl hb14 rfl rfl ?_
                    refine LX.gF rfl rfl rfl hb14 rfl rfl ?_
                    refine LX.gF rfl rfl rfl hb14 rfl rfl ?_
                    refine LX.gF rfl rfl rfl hb14 rfl rfl ?_
                    refine LX.gF rfl rfl rfl hb14 rfl rfl ?_
                    refine LX.gF rfl rfl rfl hb14 rfl rfl ?_
                    refine LX.gF rfl rfl rfl hb14 rfl rfl ?_
                    refine LX.gF rfl rfl rfl hb14 rfl rfl ?_
                    refine LX.gU rfl rfl rfl rfl rfl ?_
                    refine LX.gU rfl rfl rfl rfl rfl ?_
                    refine LX.gU rfl rfl rfl rfl rfl ?_
                    refine LX.gU rfl rfl rfl rfl rfl ?_
                    refine LX.gU rfl rfl rfl rfl rfl ?_
                    refine LX.gU rfl rfl rfl rfl rfl ?_
                    refine LX.gU rfl rfl rfl rfl rfl ?_
                    refine LX.gU rfl rfl rfl rfl rfl ?_
                    refine LX.gU rfl rfl rfl rfl rfl ?_
                    refine LX.gU rfl rfl rfl rfl rfl ?_
                    refine LX.gU rfl rfl rfl rfl rfl ?_
                    refine LX.gF rfl rfl rfl hb14 rfl rfl ?_
                    refine LX.pure (Y.pickT rfl hb14 rfl) rfl rfl rfl ?_
                    exact LX.left ⟨rfl, rfl, rfl, rfl, rfl, rfl, trivial⟩
                  · intro hb14
                    have hb14p := hb14
                    try simp at hb14p
                    refine LX.gT rfl rfl rfl hb14 (Y.move rfl) rfl rfl ?_
                    refine LX.gT rfl rfl rfl hb14 (Y.move rfl) rfl rfl ?_
                    refine LX.gT rfl rfl rfl hb14 (Y.idxR 2 F.un38 F.sz46 rfl rfl rfl hkk) rfl rfl ?_
                    first
                      | refine LX.gT rfl rfl rfl hb14 (Y.fieldAddr0 Fw.fo46_2 rfl) rfl rfl ?_
                      | refine LX.gT rfl rfl rfl hb14 (Y.fieldAddr Fw.fo46_2 rfl) rfl rfl ?_
                    refine LX.gT rfl rfl rfl hb14 (Y.ldR 2 (v := natV (ts.getD k tok0).pos) F.one3 rfl rfl (tok_cell2 hkk)) rfl rfl ?_
                    refine LX.gT rfl rfl rfl hb14 (Y.move rfl) rfl rfl ?_
                    first
                      | refine LX.gT rfl rfl rfl hb14 (Y.ltN rfl rfl) rfl rfl ?_
                      | refine LX.gT rfl rfl rfl hb14 (Y.ltI rfl rfl) rfl rfl ?_
                    refine LX.gT rfl rfl rfl hb14 (Y.move rfl) rfl rfl ?_
                    refine LX.sub (l' := [(6, _), (10, _), (11, _), (13, _), (137, _), (145, _)]) ⟨rfl, rfl, rfl, rfl, rfl, rfl, trivial⟩ ?_
                    apply LX.joinAnd 12 157 145 rfl
                    · intro hb15
                      have hb15p := hb15
                      try simp at hb15p
                      refine LX.gT rfl rfl rfl hb15 (Y.move rfl) rfl rfl ?_
                      refine LX.gT rfl rfl rfl hb15 (Y.move rfl) rfl rfl ?_
                      refine LX.gT rfl rfl rfl hb15 (Y.idxR 0 F.un38 F.sz46 rfl rfl rfl hkm) rfl rfl ?_
                      first
                        | refine LX.gT rfl rfl rfl hb15 (Y.fieldAddr0 Fw.fo46_2 rfl) rfl rfl ?_
                        | refine LX.gT rfl rfl rfl hb15 (Y.fieldAddr Fw.fo46_2 rfl) rfl rfl ?_
                      refine LX.gT rfl rfl rfl hb15 (Y.ldR 0 (v := natV (tm.getD k tok0).pos) F.one3 rfl rfl (tok_cell2 hkm)) rfl rfl ?_
                      refine LX.gT rfl rfl rfl hb15 (Y.move rfl) rfl rfl ?_
                      refine LX.gT rfl rfl rfl hb15 (Y.move rfl) rfl rfl ?_
                      refine LX.gT rfl rfl rfl hb15 (Y.idxR 2 F.un38 F.sz46 rfl rfl rfl hkk) rfl rfl ?_
                      first
                        | refine LX.gT rfl rfl rfl hb15 (Y.fieldAddr0 Fw.fo46_2 rfl) rfl rfl ?_
                        | refine LX.gT rfl rfl rfl hb15 (Y.fieldAddr Fw.fo46_2 rfl) rfl rfl ?_
                      refine LX.gT rfl rfl rfl hb15 (Y.ldR 2 (v := natV (ts.getD k tok0).pos) F.one3 rfl rfl (tok_cell2 hkk)) rfl rfl ?_
                      first
                        | refine LX.gT rfl rfl rfl hb15 (Y.neN rfl rfl) rfl rfl ?_
                        | refine LX.gT rfl rfl rfl hb15 (Y.neI rfl rfl) rfl rfl ?_
                      refine LX.gT rfl rfl rfl hb14 (Y.pickT rfl hb15 rfl) rfl rfl ?_
                      exact LX.left ⟨rfl, rfl, rfl, rfl, rfl, rfl, rfl, trivial⟩
                    · intro hb15
                      have hb15p := hb15
                      try simp at hb15p
                      refine LX.gF rfl rfl rfl hb15 rfl rfl ?_
                      refine LX.gF rfl rfl rfl hb15 rfl rfl ?_
                      refine LX.gF rfl rfl rfl hb15 rfl rfl ?_
                      refine LX.gF rfl rfl rfl hb15 rfl rfl ?_
                      refine LX.gF rfl rfl rfl hb15 rfl rfl ?_
                      refine LX.gF rfl rfl rfl hb15 rfl rfl ?_
                      refine LX.gF rfl rfl rfl hb15 rfl rfl ?_
                      refine LX.gF rfl rfl rfl hb15 rfl rfl ?_
                      refine LX.gF rfl rfl rfl hb15 rfl rfl ?_
                      refine LX.gF rfl rfl rfl hb15 rfl rfl ?_
                      refine LX.gF rfl rfl rfl hb15 rfl rfl ?_
                      refine LX.gT rfl rfl rfl hb14 (Y.pickF rfl hb15 rfl) rfl rfl ?_
                      exact LX.left ⟨rfl, rfl, rfl, rfl, rfl, rfl, rfl, trivial⟩
                    refine LX.pure (Y.pickF rfl hb14 rfl) rfl rfl rfl ?_
                    exact LX.left ⟨rfl, rfl, rfl, rfl, rfl, rfl, trivial⟩
                  refine LX.sub (l' := [(6, _), (10, _), (11, _), (13, _), (158, _)]) ⟨rfl, rfl, rfl, rfl, rfl, trivial⟩ ?_
                  refine LX.nextQ ?_
                  refine PX.thenN ?_
                  refine CX.cond rfl (fun hb16 => ?_) (fun hb16 => ?_)
                  · try simp at hb16
                    exfalso; have a1 := htk.kind; have a2 := htk.text; have a3 := htk.pos; simp only [List.getD] at a1 a2 a3; simp_all
                  · try simp at hb16
                    refine CX.skip ?_
                    refine PX.blockN ?_
                    refine PX.thenN ?_
                    refine CX.region ?_
                    refine LX.pure (Y.move rfl) rfl rfl rfl ?_
                    first
                      | refine LX.pure (Y.addN rfl rfl (by first | omega | (simp only []; omega) | (simp; done) | (simp; omega))) rfl rfl rfl ?_
                      | refine LX.pure (Y.add rfl rfl (by first | omega | (simp only []; omega) | (simp; done) | (simp; omega))) rfl rfl rfl ?_
                    refine LX.pure (Y.assign rfl) rfl rfl rfl ?_
                    refine LX.sub (l' := [(6, _), (10, _), (11, _), (13, _)]) ⟨rfl, rfl, rfl, rfl, trivial⟩ ?_
                    refine LX.next ?_
                    exact PX.again (k + 1) (by show ts.length - (k + 1) < ts.length - k; omega) ⟨rfl, rfl, rfl, rfl, trivial⟩ (fun w hw => ⟨by omega, hw⟩)
                · try simp at hb12
                  refine CX.exit ?_
                  refine PX.thenE ?_
                  refine PX.thenE ?_
                  refine PX.blockE ?_
                  refine PX.thenN ?_
                  refine CX.seq ?_
                  refine CX.region ?_
                  refine LX.pure (Y.assign rfl) rfl rfl rfl ?_
                  refine LX.sub (l' := [(4, _)]) ⟨rfl, trivial⟩ ?_
                  refine LX.next ?_
                  refine PX.thenN ?_
                  refine CX.ret ?_
                  refine PX.ret1 (by simp) Tryd.results5 rfl ?_
                  exact fun w hw => ⟨(), rfl, hw.drop ((((List.Sublist.refl fr).cons _).cons _).cons _)⟩

end Go.Proofs.YtggoogbloaennaaDoor
