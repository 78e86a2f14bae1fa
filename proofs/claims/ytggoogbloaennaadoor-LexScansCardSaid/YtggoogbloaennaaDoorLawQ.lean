/-
  Proved here: Quote and the statement LexQuotes: their walks.
-/
import Derived.Test.YtggoogbloaennaaDoorFq
import Derived.Test.YtggoogbloaennaaDoorLawA
import Derived.Test.YtggoogbloaennaaDoorQuoP
namespace Go.Proofs.YtggoogbloaennaaDoor
open Go.SX Go.RowKit Go.Lex
theorem quote_c {w0 : World} {base : Nat} {fr : List It} (s : List UInt8) (hs : s.length ≤ 1000) : FnC Tryd.prog 23 #[str s] (WA w0 base fr) (fun _ : Unit => str (quoteL s)) (fun _ => WA w0 base fr) := by
  refine FnC.of_body (fn := Tryd.f23) [(0, _)] Tryd.func23 rfl Tryd.ntmps23 rfl ⟨rfl, trivial⟩ ?_
  refine CX.seq ?_
  refine CX.region ?_
  refine LX.pure (Y.assign rfl) rfl rfl rfl ?_
  refine LX.sub (l' := [(0, _), (2, _)]) ⟨rfl, rfl, trivial⟩ ?_
  refine LX.next ?_
  refine PX.thenN ?_
  refine CX.seq ?_
  refine CX.region ?_
  refine LX.buildSlice (e := 5) (size := 1) rfl rfl (fun _ => by kernel_rfl) rfl (by decide) rfl rfl rfl ?_
  intro gt1
  refine LX.pure (Y.assign rfl) rfl rfl rfl ?_
  refine LX.sub (l' := [(0, _), (2, _), (3, _)]) ⟨rfl, rfl, rfl, trivial⟩ ?_
  refine LX.next ?_
  refine PX.thenN ?_
  refine CX.seq ?_
  refine CX.seq ?_
  refine CX.region ?_
  refine LX.pure (Y.move rfl) rfl rfl rfl ?_
  refine LX.pure (Y.lenStr rfl F.un9 rfl) rfl rfl rfl ?_
  refine LX.pure (Y.move rfl) rfl rfl rfl ?_
  refine LX.sub (l' := [(0, _), (2, _), (3, _), (8, _), (9, _)]) ⟨rfl, rfl, rfl, rfl, rfl, trivial⟩ ?_
  refine LX.next ?_
  refine PX.thenN ?_
  refine CX.block ?_
  refine CX.loop (τ := Nat × Option Nat × Nat) (fun t : Nat × Option Nat × Nat => [(0, str s), (3, rv t.2.1 (qb s t.1).length t.2.2), (8, .int .i64 (s.length : Int)), (9, .int .i64 (t.1 : Int))]) (fun (t : Nat × Option Nat × Nat) w => t.1 ≤ s.length ∧ WA w0 base (.row t.2.1 t.2.2 (qb s t.1).length 5 1 ((qb s t.1).map b8) :: fr) w) (fun t => s.length - t.1) (0, some gt1, 1) ⟨rfl, rfl, rfl, rfl, trivial⟩ (fun w hw => ⟨Nat.zero_le _, hw⟩) ?_
  rintro ⟨k, g, c⟩
  refine CX.have fun hk => ?_
  dsimp only at hk ⊢
  have hql := qb_len s k
  have hbl := bt_lt s k
  refine CX.seq ?_
  refine CX.region ?_
  first
    | refine LX.pure (Y.ltN rfl rfl) rfl rfl rfl ?_
    | refine LX.pure (Y.ltI rfl rfl) rfl rfl rfl ?_
  refine LX.sub (l' := [(0, _), (3, _), (8, _), (9, _), (10, _)]) ⟨rfl, rfl, rfl, rfl, rfl, trivial⟩ ?_
  refine LX.next ?_
  refine PX.thenN ?_
  refine CX.seq ?_
  refine CX.cond rfl (fun hb1 => ?_) (fun hb1 => ?_)
  · try simp at hb1
    have hkl : k < s.length := hb1
    refine CX.skip ?_
    refine PX.thenN ?_
    refine CX.seq ?_
    refine CX.block ?_
    refine CX.seq ?_
    refine CX.region ?_
    refine LX.pure (Y.move rfl) rfl rfl rfl ?_
    refine LX.pure (Y.assign rfl) rfl rfl rfl ?_
    refine LX.sub (l' := [(0, _), (3, _), (4, _), (8, _), (9, _)]) ⟨rfl, rfl, rfl, rfl, rfl, trivial⟩ ?_
    refine LX.next ?_
    refine PX.thenN ?_
    refine CX.seq ?_
    refine CX.region ?_
    refine LX.pure (Y.move rfl) rfl rfl rfl ?_
    refine LX.pure (Y.move rfl) rfl rfl rfl ?_
    refine LX.pure (Y.index rfl rfl F.un9 (by first | omega | (simp only []; omega) | (simp; done) | (simp; omega))) rfl rfl rfl ?_
    refine LX.pure (Y.assign rfl) rfl rfl rfl ?_
    refine LX.sub (l' := [(0, _), (3, _), (5, _), (8, _), (9, _)]) ⟨rfl, rfl, rfl, rfl, rfl, trivial⟩ ?_
    refine LX.next ?_
    refine PX.thenN ?_
    refine CX.block ?_
    refine CX.seq ?_
    refine CX.region ?_
    refine LX.pure (Y.move rfl) rfl rfl rfl ?_
    first
      | refine LX.pure (Y.eqN rfl rfl) rfl rfl rfl ?_
      | refine LX.pure (Y.eqI rfl rfl) rfl rfl rfl ?_
    refine LX.pure (Y.assign rfl) rfl rfl rfl ?_
    refine LX.sub (l' := [(0, _), (3, _), (5, _), (8, _), (9, _), (19, _)]) ⟨rfl, rfl, rfl, rfl, rfl, rfl, trivial⟩ ?_
    refine LX.next ?_
    refine PX.thenN ?_
    refine CX.cond rfl (fun hb2 => ?_) (fun hb2 => ?_)
    · try simp at hb2
      refine CX.region ?_
      refine LX.pure (Y.move rfl) rfl rfl rfl ?_
      refine LX.buildSlice (e := 5) (size := 1) rfl rfl (fun _ => by kernel_rfl) rfl (by decide) rfl rfl rfl ?_
      intro gt17
      first
        | refine LX.appendT 0 F.el76 rfl rfl rfl rfl rfl rfl rfl (by first | omega | (dsimp only; omega)) (by first | omega | (dsimp only; omega)) rfl rfl rfl ?_
        | refine LX.appendT 1 F.el76 rfl rfl rfl rfl rfl rfl rfl (by first | omega | (dsimp only; omega)) (by first | omega | (dsimp only; omega)) rfl rfl rfl ?_
      intro g' cap'
      refine LX.pure (Y.assign rfl) rfl rfl rfl ?_
      refine LX.sub (l' := [(0, _), (3, _), (8, _), (9, _)]) ⟨rfl, rfl, rfl, rfl, trivial⟩ ?_
      refine LX.next ?_
      refine PX.blockN ?_
      refine PX.blockN ?_
      refine PX.thenN ?_
      refine CX.region ?_
      first
        | refine LX.pure (Y.addN rfl rfl (by first | omega | (simp only []; omega) | (simp; done) | (simp; omega))) rfl rfl rfl ?_
        | refine LX.pure (Y.add rfl rfl (by first | omega | (simp only []; omega) | (simp; done) | (simp; omega))) rfl rfl rfl ?_
      refine LX.pure (Y.move rfl) rfl rfl rfl ?_
      refine LX.sub (l' := [(0, _), (3, _), (8, _), (9, _)]) ⟨rfl, rfl, rfl, rfl, trivial⟩ ?_
      refine LX.next ?_
      have qn := (qb_next hkl).trans (congrArg (qb s k ++ ·) (quoteC_n hb2))
      exact PX.again (L := (fun t : Nat × Option Nat × Nat => [(0, str s), (3, rv t.2.1 (qb s t.1).length t.2.2), (8, .int .i64 (s.length : Int)), (9, .int .i64 (t.1 : Int))])) (WW := (fun (t : Nat × Option Nat × Nat) w => t.1 ≤ s.length ∧ WA w0 base (.row t.2.1 t.2.2 (qb s t.1).length 5 1 ((qb s t.1).map b8) :: fr) w)) (μ := fun t => s.length - t.1) (i := (k, g, c)) (k + 1, g', cap') (by show s.length - (k + 1) < s.length - k; omega) ⟨rfl, by show _ = some (rv g' (qb s (k + 1)).length cap'); rw [qn]; simp only [List.length_append]; rfl, rfl, rfl, trivial⟩ (fun w hw => ⟨by show k + 1 ≤ _; omega, by show WA w0 base (.row g' cap' (qb s (k + 1)).length 5 1 ((qb s (k + 1)).map b8) :: fr) w; rw [qn, List.length_append, List.map_append]; exact hw⟩)
    · try simp at hb2
      refine CX.seq ?_
      refine CX.region ?_
      refine LX.pure (Y.move rfl) rfl rfl rfl ?_
      first
        | refine LX.pure (Y.eqN rfl rfl) rfl rfl rfl ?_
        | refine LX.pure (Y.eqI rfl rfl) rfl rfl rfl ?_
      refine LX.pure (Y.assign rfl) rfl rfl rfl ?_
      refine LX.sub (l' := [(0, _), (3, _), (5, _), (8, _), (9, _), (25, _)]) ⟨rfl, rfl, rfl, rfl, rfl, rfl, trivial⟩ ?_
      refine LX.next ?_
      refine PX.thenN ?_
      refine CX.cond rfl (fun hb3 => ?_) (fun hb3 => ?_)
      · try simp at hb3
        refine CX.region ?_
        refine LX.pure (Y.move rfl) rfl rfl rfl ?_
        refine LX.buildSlice (e := 5) (size := 1) rfl rfl (fun _ => by kernel_rfl) rfl (by decide) rfl rfl rfl ?_
        intro gt26
        first
          | refine LX.appendT 0 F.el76 rfl rfl rfl rfl rfl rfl rfl (by first | omega | (dsimp only; omega)) (by first | omega | (dsimp only; omega)) rfl rfl rfl ?_
          | refine LX.appendT 1 F.el76 rfl rfl rfl rfl rfl rfl rfl (by first | omega | (dsimp only; omega)) (by first | omega | (dsimp only; omega)) rfl rfl rfl ?_
        intro g' cap'
        refine LX.pure (Y.assign rfl) rfl rfl rfl ?_
        refine LX.sub (l' := [(0, _), (3, _), (8, _), (9, _)]) ⟨rfl, rfl, rfl, rfl, trivial⟩ ?_
        refine LX.next ?_
        refine PX.blockN ?_
        refine PX.blockN ?_
        refine PX.thenN ?_
        refine CX.region ?_
        first
          | refine LX.pure (Y.addN rfl rfl (by first | omega | (simp only []; omega) | (simp; done) | (simp; omega))) rfl rfl rfl ?_
          | refine LX.pure (Y.add rfl rfl (by first | omega | (simp only []; omega) | (simp; done) | (simp; omega))) rfl rfl rfl ?_
        refine LX.pure (Y.move rfl) rfl rfl rfl ?_
        refine LX.sub (l' := [(0, _), (3, _), (8, _), (9, _)]) ⟨rfl, rfl, rfl, rfl, trivial⟩ ?_
        refine LX.next ?_
        have qn := (qb_next hkl).trans (congrArg (qb s k ++ ·) (quoteC_t hb2 hb3))
        exact PX.again (L := (fun t : Nat × Option Nat × Nat => [(0, str s), (3, rv t.2.1 (qb s t.1).length t.2.2), (8, .int .i64 (s.length : Int)), (9, .int .i64 (t.1 : Int))])) (WW := (fun (t : Nat × Option Nat × Nat) w => t.1 ≤ s.length ∧ WA w0 base (.row t.2.1 t.2.2 (qb s t.1).length 5 1 ((qb s t.1).map b8) :: fr) w)) (μ := fun t => s.length - t.1) (i := (k, g, c)) (k + 1, g', cap') (by show s.length - (k + 1) < s.length - k; omega) ⟨rfl, by show _ = some (rv g' (qb s (k + 1)).length cap'); rw [qn]; simp only [List.length_append]; rfl, rfl, rfl, trivial⟩ (fun w hw => ⟨by show k + 1 ≤ _; omega, by show WA w0 base (.row g' cap' (qb s (k + 1)).length 5 1 ((qb s (k + 1)).map b8) :: fr) w; rw [qn, List.length_append, List.map_append]; exact hw⟩)
      · try simp at hb3
        refine CX.seq ?_
        refine CX.region ?_
        refine LX.pure (Y.move rfl) rfl rfl rfl ?_
        first
          | refine LX.pure (Y.eqN rfl rfl) rfl rfl rfl ?_
          | refine LX.pure (Y.eqI rfl rfl) rfl rfl rfl ?_
        refine LX.pure (Y.move rfl) rfl rfl rfl ?_
        refine LX.sub (l' := [(0, _), (3, _), (5, _), (8, _), (9, _), (34, _)]) ⟨rfl, rfl, rfl, rfl, rfl, rfl, trivial⟩ ?_
        apply LX.joinOr 3 37 34 rfl
        · intro hb4
          have hb4p := hb4
          try simp at hb4p
          refine LX.gF rfl rfl rfl hb4 rfl rfl ?_
          refine LX.gF rfl rfl rfl hb4 rfl rfl ?_
          refine LX.pure (Y.pickT rfl hb4 rfl) rfl rfl rfl ?_
          exact LX.left ⟨rfl, rfl, rfl, rfl, rfl, rfl, rfl, trivial⟩
        · intro hb4
          have hb4p := hb4
          try simp at hb4p
          refine LX.gT rfl rfl rfl hb4 (Y.move rfl) rfl rfl ?_
          first
            | refine LX.gT rfl rfl rfl hb4 (Y.eqN rfl rfl) rfl rfl ?_
            | refine LX.gT rfl rfl rfl hb4 (Y.eqI rfl rfl) rfl rfl ?_
          refine LX.pure (Y.pickF rfl hb4 rfl) rfl rfl rfl ?_
          exact LX.left ⟨rfl, rfl, rfl, rfl, rfl, rfl, rfl, trivial⟩
        refine LX.pure (Y.assign rfl) rfl rfl rfl ?_
        refine LX.sub (l' := [(0, _), (3, _), (5, _), (8, _), (9, _), (31, _)]) ⟨rfl, rfl, rfl, rfl, rfl, rfl, trivial⟩ ?_
        refine LX.next ?_
        refine PX.thenN ?_
        refine CX.cond rfl (fun hb5 => ?_) (fun hb5 => ?_)
        · try simp at hb5
          refine CX.region ?_
          refine LX.pure (Y.move rfl) rfl rfl rfl ?_
          refine LX.pure (Y.move rfl) rfl rfl rfl ?_
          refine LX.buildSlice (e := 5) (size := 1) rfl rfl (fun _ => by kernel_rfl) rfl (by decide) rfl rfl rfl ?_
          intro gt41
          first
            | refine LX.appendT 0 F.el76 rfl rfl rfl rfl rfl rfl rfl (by first | omega | (dsimp only; omega)) (by first | omega | (dsimp only; omega)) rfl rfl rfl ?_
            | refine LX.appendT 1 F.el76 rfl rfl rfl rfl rfl rfl rfl (by first | omega | (dsimp only; omega)) (by first | omega | (dsimp only; omega)) rfl rfl rfl ?_
          intro g' cap'
          refine LX.pure (Y.assign rfl) rfl rfl rfl ?_
          refine LX.sub (l' := [(0, _), (3, _), (8, _), (9, _)]) ⟨rfl, rfl, rfl, rfl, trivial⟩ ?_
          refine LX.next ?_
          refine PX.blockN ?_
          refine PX.blockN ?_
          refine PX.thenN ?_
          refine CX.region ?_
          first
            | refine LX.pure (Y.addN rfl rfl (by first | omega | (simp only []; omega) | (simp; done) | (simp; omega))) rfl rfl rfl ?_
            | refine LX.pure (Y.add rfl rfl (by first | omega | (simp only []; omega) | (simp; done) | (simp; omega))) rfl rfl rfl ?_
          refine LX.pure (Y.move rfl) rfl rfl rfl ?_
          refine LX.sub (l' := [(0, _), (3, _), (8, _), (9, _)]) ⟨rfl, rfl, rfl, rfl, trivial⟩ ?_
          refine LX.next ?_
          have qn := (qb_next hkl).trans (congrArg (qb s k ++ ·) (quoteC_q hb2 hb3 hb5))
          exact PX.again (L := (fun t : Nat × Option Nat × Nat => [(0, str s), (3, rv t.2.1 (qb s t.1).length t.2.2), (8, .int .i64 (s.length : Int)), (9, .int .i64 (t.1 : Int))])) (WW := (fun (t : Nat × Option Nat × Nat) w => t.1 ≤ s.length ∧ WA w0 base (.row t.2.1 t.2.2 (qb s t.1).length 5 1 ((qb s t.1).map b8) :: fr) w)) (μ := fun t => s.length - t.1) (i := (k, g, c)) (k + 1, g', cap') (by show s.length - (k + 1) < s.length - k; omega) ⟨rfl, by show _ = some (rv g' (qb s (k + 1)).length cap'); rw [qn]; simp only [List.length_append]; rfl, rfl, rfl, trivial⟩ (fun w hw => ⟨by show k + 1 ≤ _; omega, by show WA w0 base (.row g' cap' (qb s (k + 1)).length 5 1 ((qb s (k + 1)).map b8) :: fr) w; rw [qn, List.length_append, List.map_append]; exact hw⟩)
        · try simp at hb5
          refine CX.seq ?_
          refine CX.region ?_
          refine LX.pure (Y.move rfl) rfl rfl rfl ?_
          first
            | refine LX.pure (Y.ltN rfl rfl) rfl rfl rfl ?_
            | refine LX.pure (Y.ltI rfl rfl) rfl rfl rfl ?_
          refine LX.pure (Y.move rfl) rfl rfl rfl ?_
          refine LX.sub (l' := [(0, _), (3, _), (5, _), (8, _), (9, _), (45, _)]) ⟨rfl, rfl, rfl, rfl, rfl, rfl, trivial⟩ ?_
          apply LX.joinOr 3 48 45 rfl
          · intro hb6
            have hb6p := hb6
            try simp at hb6p
            refine LX.gF rfl rfl rfl hb6 rfl rfl ?_
            refine LX.gF rfl rfl rfl hb6 rfl rfl ?_
            refine LX.pure (Y.pickT rfl hb6 rfl) rfl rfl rfl ?_
            exact LX.left ⟨rfl, rfl, rfl, rfl, rfl, rfl, rfl, trivial⟩
          · intro hb6
            have hb6p := hb6
            try simp at hb6p
            refine LX.gT rfl rfl rfl hb6 (Y.move rfl) rfl rfl ?_
            first
              | refine LX.gT rfl rfl rfl hb6 (Y.eqN rfl rfl) rfl rfl ?_
              | refine LX.gT rfl rfl rfl hb6 (Y.eqI rfl rfl) rfl rfl ?_
            refine LX.pure (Y.pickF rfl hb6 rfl) rfl rfl rfl ?_
            exact LX.left ⟨rfl, rfl, rfl, rfl, rfl, rfl, rfl, trivial⟩
          refine LX.pure (Y.assign rfl) rfl rfl rfl ?_
          refine LX.sub (l' := [(0, _), (3, _), (5, _), (8, _), (9, _), (42, _)]) ⟨rfl, rfl, rfl, rfl, rfl, rfl, trivial⟩ ?_
          refine LX.next ?_
          refine PX.thenN ?_
          refine CX.cond rfl (fun hb7 => ?_) (fun hb7 => ?_)
          · try simp at hb7
            refine CX.regionM [(0, .anywhere), (1, .anywhere), (2, .anywhere), (3, .anywhere), (4, .anywhere), (5, .anywhere), (6, .anywhere), (7, .alone), (8, .alone), (9, .anywhere)] rfl (by kernel_rfl) ?_
            refine MX.lift0 (i := 0) rfl (Y.move rfl) rfl rfl rfl ?_
            refine MX.lift0 (i := 1) rfl (Y.move rfl) rfl rfl rfl ?_
            refine MX.lift0 (i := 2) rfl (Y.shr8 rfl rfl (by decide)) rfl rfl rfl ?_
            refine MX.lift0 (i := 3) rfl (Y.index rfl rfl F.un9 (show bt s k / 2 ^ 4 < 16 by omega)) rfl rfl rfl ?_
            refine MX.lift0 (i := 4) rfl (Y.move rfl) rfl rfl rfl ?_
            refine MX.lift0 (i := 5) rfl (show Y _ _ _ _ _ (.int .u8 ((bt s k % 16 : Nat) : Int)) from by rw [← and15]; exact Y.and8 rfl rfl (bt_lt _ _) (by decide)) rfl rfl rfl ?_
            refine MX.lift0 (i := 6) rfl (Y.index rfl rfl F.un9 (show bt s k % 16 < 16 by omega)) rfl rfl rfl ?_
            refine MX.force (i := 7) rfl ?_
            refine LX.buildSlice (e := 5) (size := 1) rfl rfl (fun _ => by kernel_rfl) rfl (by decide) rfl rfl rfl ?_
            intro gt61
            refine LX.nextM [] (by kernel_rfl) (fun h => absurd rfl h) ?_
            refine MX.force (i := 8) rfl ?_
            first
              | refine LX.appendT 0 F.el76 rfl rfl rfl rfl rfl rfl rfl (by first | omega | (dsimp only; omega)) (by first | omega | (dsimp only; omega)) rfl rfl rfl ?_
              | refine LX.appendT 1 F.el76 rfl rfl rfl rfl rfl rfl rfl (by first | omega | (dsimp only; omega)) (by first | omega | (dsimp only; omega)) rfl rfl rfl ?_
            intro g' cap'
            refine LX.nextM [] (by kernel_rfl) (fun h => absurd rfl h) ?_
            refine MX.lift0 (i := 9) rfl (Y.assign rfl) rfl rfl rfl ?_
            refine MX.sub (l' := [(0, _), (3, _), (8, _), (9, _)]) ⟨rfl, rfl, rfl, rfl, trivial⟩ ?_
            refine MX.done ?_
            refine PX.blockN ?_
            refine PX.blockN ?_
            refine PX.thenN ?_
            refine CX.region ?_
            first
              | refine LX.pure (Y.addN rfl rfl (by first | omega | (simp only []; omega) | (simp; done) | (simp; omega))) rfl rfl rfl ?_
              | refine LX.pure (Y.add rfl rfl (by first | omega | (simp only []; omega) | (simp; done) | (simp; omega))) rfl rfl rfl ?_
            refine LX.pure (Y.move rfl) rfl rfl rfl ?_
            refine LX.sub (l' := [(0, _), (3, _), (8, _), (9, _)]) ⟨rfl, rfl, rfl, rfl, trivial⟩ ?_
            refine LX.next ?_
            have qn := (qb_next hkl).trans (congrArg (qb s k ++ ·) (quoteC_x hb2 hb3 (fun h => h.elim hb5.1 hb5.2) hb7))
            exact PX.again (L := (fun t : Nat × Option Nat × Nat => [(0, str s), (3, rv t.2.1 (qb s t.1).length t.2.2), (8, .int .i64 (s.length : Int)), (9, .int .i64 (t.1 : Int))])) (WW := (fun (t : Nat × Option Nat × Nat) w => t.1 ≤ s.length ∧ WA w0 base (.row t.2.1 t.2.2 (qb s t.1).length 5 1 ((qb s t.1).map b8) :: fr) w)) (μ := fun t => s.length - t.1) (i := (k, g, c)) (k + 1, g', cap') (by show s.length - (k + 1) < s.length - k; omega) ⟨rfl, by show _ = some (rv g' (qb s (k + 1)).length cap'); rw [qn]; simp only [List.length_append]; rfl, rfl, rfl, trivial⟩ (fun w hw => ⟨by show k + 1 ≤ _; omega, by show WA w0 base (.row g' cap' (qb s (k + 1)).length 5 1 ((qb s (k + 1)).map b8) :: fr) w; rw [qn, List.length_append, List.map_append]; exact hw⟩)
          · try simp at hb7
            refine CX.region ?_
            refine LX.pure (Y.move rfl) rfl rfl rfl ?_
            refine LX.pure (Y.move rfl) rfl rfl rfl ?_
            refine LX.buildSlice (e := 5) (size := 1) rfl rfl (fun _ => by kernel_rfl) rfl (by decide) rfl rfl rfl ?_
            intro gt68
            first
              | refine LX.appendT 0 F.el76 rfl rfl rfl rfl rfl rfl rfl (by first | omega | (dsimp only; omega)) (by first | omega | (dsimp only; omega)) rfl rfl rfl ?_
              | refine LX.appendT 1 F.el76 rfl rfl rfl rfl rfl rfl rfl (by first | omega | (dsimp only; omega)) (by first | omega | (dsimp only; omega)) rfl rfl rfl ?_
            intro g' cap'
            refine LX.pure (Y.assign rfl) rfl rfl rfl ?_
            refine LX.sub (l' := [(0, _), (3, _), (8, _), (9, _)]) ⟨rfl, rfl, rfl, rfl, trivial⟩ ?_
            refine LX.next ?_
            refine PX.blockN ?_
            refine PX.blockN ?_
            refine PX.thenN ?_
            refine CX.region ?_
            first
              | refine LX.pure (Y.addN rfl rfl (by first | omega | (simp only []; omega) | (simp; done) | (simp; omega))) rfl rfl rfl ?_
              | refine LX.pure (Y.add rfl rfl (by first | omega | (simp only []; omega) | (simp; done) | (simp; omega))) rfl rfl rfl ?_
            refine LX.pure (Y.move rfl) rfl rfl rfl ?_
            refine LX.sub (l' := [(0, _), (3, _), (8, _), (9, _)]) ⟨rfl, rfl, rfl, rfl, trivial⟩ ?_
            refine LX.next ?_
            have qn := (qb_next hkl).trans (congrArg (qb s k ++ ·) (quoteC_c hb2 hb3 (fun h => h.elim hb5.1 hb5.2) (fun h => h.elim (fun h => absurd h (Nat.not_lt.2 hb7.1)) hb7.2)))
            exact PX.again (L := (fun t : Nat × Option Nat × Nat => [(0, str s), (3, rv t.2.1 (qb s t.1).length t.2.2), (8, .int .i64 (s.length : Int)), (9, .int .i64 (t.1 : Int))])) (WW := (fun (t : Nat × Option Nat × Nat) w => t.1 ≤ s.length ∧ WA w0 base (.row t.2.1 t.2.2 (qb s t.1).length 5 1 ((qb s t.1).map b8) :: fr) w)) (μ := fun t => s.length - t.1) (i := (k, g, c)) (k + 1, g', cap') (by show s.length - (k + 1) < s.length - k; omega) ⟨rfl, by show _ = some (rv g' (qb s (k + 1)).length cap'); rw [qn]; simp only [List.length_append]; rfl, rfl, rfl, trivial⟩ (fun w hw => ⟨by show k + 1 ≤ _; omega, by show WA w0 base (.row g' cap' (qb s (k + 1)).length 5 1 ((qb s (k + 1)).map b8) :: fr) w; rw [qn, List.length_append, List.map_append]; exact hw⟩)
  · try simp at hb1
    have hkl : k = s.length := by omega
    subst hkl
    refine CX.exit ?_
    refine PX.thenE ?_
    refine PX.thenE ?_
    refine PX.blockE ?_
    refine PX.thenN ?_
    refine CX.seq ?_
    refine CX.region ?_
    refine LX.pure (Y.move rfl) rfl rfl rfl ?_
    refine LX.buildSlice (e := 5) (size := 1) rfl rfl (fun _ => by kernel_rfl) rfl (by decide) rfl rfl rfl ?_
    intro gt74
    first
      | refine LX.appendT 0 F.el76 rfl rfl rfl rfl rfl rfl rfl (by first | omega | (dsimp only; omega)) (by first | omega | (dsimp only; omega)) rfl rfl rfl ?_
      | refine LX.appendT 1 F.el76 rfl rfl rfl rfl rfl rfl rfl (by first | omega | (dsimp only; omega)) (by first | omega | (dsimp only; omega)) rfl rfl rfl ?_
    intro g' cap'
    refine LX.world (W' := WA w0 base (.row g' cap' ((qb s s.length).length + 1) 5 1 ((qb s s.length ++ [34]).map b8) :: fr)) (fun w hw => by rw [List.map_append]; exact hw) ?_
    first
      | refine LX.pure (Y.str 0 rfl rfl F.un76 F.un5 F.un9) rfl rfl rfl ?_
      | refine LX.pure (Y.str 1 rfl rfl F.un76 F.un5 F.un9) rfl rfl rfl ?_
    refine LX.pure (Y.assign rfl) rfl rfl rfl ?_
    refine LX.sub (l' := [(2, _)]) ⟨rfl, trivial⟩ ?_
    refine LX.next ?_
    refine PX.thenN ?_
    refine CX.ret ?_
    refine PX.ret1 (by simp) Tryd.results23 rfl ?_
    exact fun w hw => ⟨(), by rw [← qb_all], hw.drop (List.sublist_cons_self _ _)⟩

theorem quotes_c {w0 : World} {base : Nat} {fr : List It} {eLex eLim : Value} (hE : EnvLex w0 base eLex) (hM : EnvLim w0 base eLim) (s t : List UInt8) : FnC Tryd.prog 9 #[str s, str t] (WA w0 base fr) (fun _ : Unit => .bool true) (fun _ => WA w0 base fr) := by
  refine FnC.of_body (fn := Tryd.f9) [(0, _), (1, _)] Tryd.func9 rfl Tryd.ntmps9 rfl ⟨rfl, rfl, trivial⟩ ?_
  refine CX.seq ?_
  refine CX.region ?_
  refine LX.pure (Y.assign rfl) rfl rfl rfl ?_
  refine LX.sub (l' := [(0, _), (1, _), (4, _)]) ⟨rfl, rfl, rfl, trivial⟩ ?_
  refine LX.next ?_
  refine PX.thenN ?_
  refine CX.seq ?_
  refine CX.region ?_
  refine LX.call (first_c hE hM) F.en19 rfl rfl rfl rfl rfl ?_
  intro _
  refine LX.pure (Y.assign rfl) rfl rfl rfl ?_
  refine LX.sub (l' := [(0, _), (1, _), (4, _), (5, _)]) ⟨rfl, rfl, rfl, rfl, trivial⟩ ?_
  refine LX.next ?_
  refine PX.thenN ?_
  refine CX.seq ?_
  refine CX.seq ?_
  refine CX.region ?_
  refine LX.pure (Y.move rfl) rfl rfl rfl ?_
  refine LX.pure (Y.not rfl) rfl rfl rfl ?_
  refine LX.sub (l' := [(0, _), (1, _), (4, _), (5, _), (10, _)]) ⟨rfl, rfl, rfl, rfl, rfl, trivial⟩ ?_
  refine LX.next ?_
  refine PX.thenN ?_
  refine CX.cond rfl (fun hb1 => ?_) (fun hb1 => ?_)
  · try simp at hb1
    first | done | cases hb1
  · try simp at hb1
    refine CX.skip ?_
    refine PX.thenN ?_
    refine CX.seq ?_
    refine CX.seq ?_
    refine CX.region ?_
    refine LX.pure (Y.move rfl) rfl rfl rfl ?_
    refine LX.pure (Y.lenStr rfl F.un9 rfl) rfl rfl rfl ?_
    first
      | refine LX.pure (Y.gtN rfl rfl) rfl rfl rfl ?_
      | refine LX.pure (Y.gtI rfl rfl) rfl rfl rfl ?_
    refine LX.pure (Y.move rfl) rfl rfl rfl ?_
    refine LX.sub (l' := [(0, _), (1, _), (4, _), (5, _), (14, _)]) ⟨rfl, rfl, rfl, rfl, rfl, trivial⟩ ?_
    apply LX.joinOr 4 18 14 rfl
    · intro hb2
      have hb2p := hb2
      try simp at hb2p
      refine LX.gF rfl rfl rfl hb2 rfl rfl ?_
      refine LX.gF rfl rfl rfl hb2 rfl rfl ?_
      refine LX.gF rfl rfl rfl hb2 rfl rfl ?_
      refine LX.pure (Y.pickT rfl hb2 rfl) rfl rfl rfl ?_
      exact LX.left ⟨rfl, rfl, rfl, rfl, rfl, rfl, trivial⟩
    · intro hb2
      have hb2p := hb2
      try simp at hb2p
      refine LX.gT rfl rfl rfl hb2 (Y.move rfl) rfl rfl ?_
      refine LX.gT rfl rfl rfl hb2 (Y.lenStr rfl F.un9 rfl) rfl rfl ?_
      first
        | refine LX.gT rfl rfl rfl hb2 (Y.gtN rfl rfl) rfl rfl ?_
        | refine LX.gT rfl rfl rfl hb2 (Y.gtI rfl rfl) rfl rfl ?_
      refine LX.pure (Y.pickF rfl hb2 rfl) rfl rfl rfl ?_
      exact LX.left ⟨rfl, rfl, rfl, rfl, rfl, rfl, trivial⟩
    refine LX.pure (Y.move rfl) rfl rfl rfl ?_
    refine LX.sub (l' := [(0, _), (1, _), (4, _), (5, _), (19, _)]) ⟨rfl, rfl, rfl, rfl, rfl, trivial⟩ ?_
    apply LX.joinOr 3 22 19 rfl
    · intro hb3
      have hb3p := hb3
      try simp at hb3p
      refine LX.gF rfl rfl rfl hb3 rfl rfl ?_
      refine LX.gF rfl rfl rfl hb3 rfl rfl ?_
      refine LX.pure (Y.pickT rfl hb3 rfl) rfl rfl rfl ?_
      exact LX.left ⟨rfl, rfl, rfl, rfl, rfl, rfl, trivial⟩
    · intro hb3
      have hb3p := hb3
      try simp at hb3p
      refine LX.gT rfl rfl rfl hb3 (Y.move rfl) rfl rfl ?_
      refine LX.gT rfl rfl rfl hb3 (Y.not rfl) rfl rfl ?_
      refine LX.pure (Y.pickF rfl hb3 rfl) rfl rfl rfl ?_
      exact LX.left ⟨rfl, rfl, rfl, rfl, rfl, rfl, trivial⟩
    refine LX.sub (l' := [(0, _), (1, _), (4, _), (5, _), (22, _)]) ⟨rfl, rfl, rfl, rfl, rfl, trivial⟩ ?_
    refine LX.next ?_
    refine PX.thenN ?_
    refine CX.cond rfl (fun hb4 => ?_) (fun hb4 => ?_)
    · try simp at hb4
      refine CX.seq ?_
      refine CX.region ?_
      refine LX.pure (Y.move rfl) rfl rfl rfl ?_
      refine LX.pure (Y.assign rfl) rfl rfl rfl ?_
      refine LX.sub (l' := [(0, _), (1, _), (4, _)]) ⟨rfl, rfl, rfl, trivial⟩ ?_
      refine LX.next ?_
      refine PX.thenN ?_
      refine CX.ret ?_
      refine PX.thenR ?_
      refine PX.ret1 (by simp) Tryd.results9 rfl ?_
      exact fun w hw => ⟨(), rfl, hw⟩
    · try simp at hb4
      have hq1 := quoteL_len s
      have hq2 := quoteL_len t
      have hst : s.length ≤ 200 ∧ t.length ≤ 200 := by simpa using hb4
      refine CX.skip ?_
      refine PX.thenN ?_
      refine CX.seq ?_
      refine CX.region ?_
      refine LX.pure (Y.move rfl) rfl rfl rfl ?_
      refine LX.call (quote_c _ (by omega)) F.en23 rfl rfl rfl rfl rfl ?_
      intro _
      first
        | refine LX.pure (Y.addS rfl rfl (by simp only [List.length_append, List.length_cons, List.length_nil]; omega)) rfl rfl rfl ?_
        | refine LX.pure (Y.addS rfl rfl (by first | omega | (simp only []; omega) | (simp; done) | (simp; omega))) rfl rfl rfl ?_
      first
        | refine LX.pure (Y.addS rfl rfl (by simp only [List.length_append, List.length_cons, List.length_nil]; omega)) rfl rfl rfl ?_
        | refine LX.pure (Y.addS rfl rfl (by first | omega | (simp only []; omega) | (simp; done) | (simp; omega))) rfl rfl rfl ?_
      refine LX.pure (Y.move rfl) rfl rfl rfl ?_
      refine LX.call (quote_c _ (by omega)) F.en23 rfl rfl rfl rfl rfl ?_
      intro _
      first
        | refine LX.pure (Y.addS rfl rfl (by simp only [List.length_append, List.length_cons, List.length_nil]; omega)) rfl rfl rfl ?_
        | refine LX.pure (Y.addS rfl rfl (by first | omega | (simp only []; omega) | (simp; done) | (simp; omega))) rfl rfl rfl ?_
      first
        | refine LX.pure (Y.addS rfl rfl (by simp only [List.length_append, List.length_cons, List.length_nil]; omega)) rfl rfl rfl ?_
        | refine LX.pure (Y.addS rfl rfl (by first | omega | (simp only []; omega) | (simp; done) | (simp; omega))) rfl rfl rfl ?_
      refine LX.call (scan_ok_c hE hM (s := quoT s t) (ts := quoR s t) (by simp [quoT]; omega) (quotes_law s t)) F.en20 rfl rfl rfl rfl rfl ?_
      rintro ⟨g, c⟩
      refine LX.pure (Y.move rfl) rfl rfl rfl ?_
      refine LX.pure (Y.extract rfl rfl) rfl rfl rfl ?_
      refine LX.pure (Y.extract rfl rfl) rfl rfl rfl ?_
      refine LX.pure (Y.assign rfl) rfl rfl rfl ?_
      refine LX.pure (Y.assign rfl) rfl rfl rfl ?_
      refine LX.sub (l' := [(0, _), (1, _), (4, _), (6, _), (7, _)]) ⟨rfl, rfl, rfl, rfl, rfl, trivial⟩ ?_
      refine LX.next ?_
      refine PX.thenN ?_
      refine CX.seq ?_
      refine CX.seq ?_
      refine CX.region ?_
      refine LX.pure (Y.move rfl) rfl rfl rfl ?_
      first
        | refine LX.pure (Y.neNil F.un29 rfl rfl) rfl rfl rfl ?_
        | refine LX.pure (Y.neNilNil F.un29 rfl) rfl rfl rfl ?_
      refine LX.pure (Y.move rfl) rfl rfl rfl ?_
      refine LX.sub (l' := [(0, _), (1, _), (4, _), (6, _), (38, _)]) ⟨rfl, rfl, rfl, rfl, rfl, trivial⟩ ?_
      apply LX.joinOr 4 42 38 rfl
      · intro hb5
        cases hb5
      · intro hb5
        have hb5p := hb5
        try simp at hb5p
        refine LX.gT rfl rfl rfl hb5 (Y.move rfl) rfl rfl ?_
        refine LX.gT rfl rfl rfl hb5 (Y.lenSl rfl F.un38 rfl) rfl rfl ?_
        first
          | refine LX.gT rfl rfl rfl hb5 (Y.neN rfl rfl) rfl rfl ?_
          | refine LX.gT rfl rfl rfl hb5 (Y.neI rfl rfl) rfl rfl ?_
        refine LX.pure (Y.pickF rfl hb5 rfl) rfl rfl rfl ?_
        exact LX.left ⟨rfl, rfl, rfl, rfl, rfl, rfl, trivial⟩
      refine LX.sub (l' := [(0, _), (1, _), (4, _), (6, _), (42, _)]) ⟨rfl, rfl, rfl, rfl, rfl, trivial⟩ ?_
      refine LX.next ?_
      refine PX.thenN ?_
      refine CX.cond rfl (fun hb6 => ?_) (fun hb6 => ?_)
      · try simp at hb6
        first | done | (exfalso; revert hb6; simp [quoR])
      · try simp at hb6
        refine CX.skip ?_
        refine PX.thenN ?_
        refine CX.seq ?_
        refine CX.region ?_
        refine LX.pure (Y.move rfl) rfl rfl rfl ?_
        first
          | refine LX.pure (Y.idxR 0 F.un38 F.sz46 rfl rfl rfl (by show _ < 7; decide)) rfl rfl rfl ?_
          | refine LX.pure (Y.idxR 1 F.un38 F.sz46 rfl rfl rfl (by show _ < 7; decide)) rfl rfl rfl ?_
          | refine LX.pure (Y.idx F.un38 F.sz46 rfl rfl (by show _ < 7; decide)) rfl rfl rfl ?_
        first
          | refine LX.pure (Y.fieldAddr0 F.fo46_0 rfl) rfl rfl rfl ?_
          | refine LX.pure (Y.fieldAddr F.fo46_0 rfl) rfl rfl rfl ?_
        refine LX.pure (Y.ldR 0 (v := natV 3) F.one3 rfl rfl rfl) rfl rfl rfl ?_
        first
          | refine LX.pure (Y.eqN rfl rfl) rfl rfl rfl ?_
          | refine LX.pure (Y.eqI rfl rfl) rfl rfl rfl ?_
        refine LX.pure (Y.move rfl) rfl rfl rfl ?_
        refine LX.sub (l' := [(0, _), (1, _), (4, _), (6, _), (48, _)]) ⟨rfl, rfl, rfl, rfl, rfl, trivial⟩ ?_
        apply LX.joinAnd 7 55 48 rfl
        · intro hb7
          have hb7p := hb7
          try simp at hb7p
          refine LX.gT rfl rfl rfl hb7 (Y.move rfl) rfl rfl ?_
          first
            | refine LX.gT rfl rfl rfl hb7 (Y.idxR 0 F.un38 F.sz46 rfl rfl rfl (by show _ < 7; decide)) rfl rfl ?_
            | refine LX.gT rfl rfl rfl hb7 (Y.idxR 1 F.un38 F.sz46 rfl rfl rfl (by show _ < 7; decide)) rfl rfl ?_
            | refine LX.gT rfl rfl rfl hb7 (Y.idx F.un38 F.sz46 rfl rfl (by show _ < 7; decide)) rfl rfl ?_
          first
            | refine LX.gT rfl rfl rfl hb7 (Y.fieldAddr0 F.fo46_1 rfl) rfl rfl ?_
            | refine LX.gT rfl rfl rfl hb7 (Y.fieldAddr F.fo46_1 rfl) rfl rfl ?_
          refine LX.gT rfl rfl rfl hb7 (Y.ldR 0 (v := str s) F.one9 rfl rfl rfl) rfl rfl ?_
          refine LX.gT rfl rfl rfl hb7 (Y.move rfl) rfl rfl ?_
          refine LX.gT rfl rfl rfl hb7 (Y.eqS rfl rfl) rfl rfl ?_
          refine LX.pure (Y.pickT rfl hb7 rfl) rfl rfl rfl ?_
          exact LX.left ⟨rfl, rfl, rfl, rfl, rfl, rfl, trivial⟩
        · intro hb7
          exfalso; revert hb7; simp [natV]
        refine LX.pure (Y.move rfl) rfl rfl rfl ?_
        refine LX.sub (l' := [(1, _), (4, _), (6, _), (56, _)]) ⟨rfl, rfl, rfl, rfl, trivial⟩ ?_
        apply LX.joinAnd 6 62 56 rfl
        · intro hb8
          have hb8p := hb8
          try simp at hb8p
          refine LX.gT rfl rfl rfl hb8 (Y.move rfl) rfl rfl ?_
          first
            | refine LX.gT rfl rfl rfl hb8 (Y.idxR 0 F.un38 F.sz46 rfl rfl rfl (by show _ < 7; decide)) rfl rfl ?_
            | refine LX.gT rfl rfl rfl hb8 (Y.idxR 1 F.un38 F.sz46 rfl rfl rfl (by show _ < 7; decide)) rfl rfl ?_
            | refine LX.gT rfl rfl rfl hb8 (Y.idx F.un38 F.sz46 rfl rfl (by show _ < 7; decide)) rfl rfl ?_
          first
            | refine LX.gT rfl rfl rfl hb8 (Y.fieldAddr0 F.fo46_2 rfl) rfl rfl ?_
            | refine LX.gT rfl rfl rfl hb8 (Y.fieldAddr F.fo46_2 rfl) rfl rfl ?_
          refine LX.gT rfl rfl rfl hb8 (Y.ldR 0 (v := natV 1) F.one3 rfl rfl rfl) rfl rfl ?_
          first
            | refine LX.gT rfl rfl rfl hb8 (Y.eqN rfl rfl) rfl rfl ?_
            | refine LX.gT rfl rfl rfl hb8 (Y.eqI rfl rfl) rfl rfl ?_
          refine LX.pure (Y.pickT rfl hb8 rfl) rfl rfl rfl ?_
          exact LX.left ⟨rfl, rfl, rfl, rfl, rfl, trivial⟩
        · intro hb8
          exfalso; revert hb8; simp [natV]
        refine LX.pure (Y.move rfl) rfl rfl rfl ?_
        refine LX.sub (l' := [(1, _), (4, _), (6, _), (63, _)]) ⟨rfl, rfl, rfl, rfl, trivial⟩ ?_
        apply LX.joinAnd 6 69 63 rfl
        · intro hb9
          have hb9p := hb9
          try simp at hb9p
          refine LX.gT rfl rfl rfl hb9 (Y.move rfl) rfl rfl ?_
          first
            | refine LX.gT rfl rfl rfl hb9 (Y.idxR 0 F.un38 F.sz46 rfl rfl rfl (by show _ < 7; decide)) rfl rfl ?_
            | refine LX.gT rfl rfl rfl hb9 (Y.idxR 1 F.un38 F.sz46 rfl rfl rfl (by show _ < 7; decide)) rfl rfl ?_
            | refine LX.gT rfl rfl rfl hb9 (Y.idx F.un38 F.sz46 rfl rfl (by show _ < 7; decide)) rfl rfl ?_
          first
            | refine LX.gT rfl rfl rfl hb9 (Y.fieldAddr0 F.fo46_0 rfl) rfl rfl ?_
            | refine LX.gT rfl rfl rfl hb9 (Y.fieldAddr F.fo46_0 rfl) rfl rfl ?_
          refine LX.gT rfl rfl rfl hb9 (Y.ldR 0 (v := natV 3) F.one3 rfl rfl rfl) rfl rfl ?_
          first
            | refine LX.gT rfl rfl rfl hb9 (Y.eqN rfl rfl) rfl rfl ?_
            | refine LX.gT rfl rfl rfl hb9 (Y.eqI rfl rfl) rfl rfl ?_
          refine LX.pure (Y.pickT rfl hb9 rfl) rfl rfl rfl ?_
          exact LX.left ⟨rfl, rfl, rfl, rfl, rfl, trivial⟩
        · intro hb9
          exfalso; revert hb9; simp [natV]
        refine LX.pure (Y.move rfl) rfl rfl rfl ?_
        refine LX.sub (l' := [(1, _), (4, _), (6, _), (70, _)]) ⟨rfl, rfl, rfl, rfl, trivial⟩ ?_
        apply LX.joinAnd 7 77 70 rfl
        · intro hb10
          have hb10p := hb10
          try simp at hb10p
          refine LX.gT rfl rfl rfl hb10 (Y.move rfl) rfl rfl ?_
          first
            | refine LX.gT rfl rfl rfl hb10 (Y.idxR 0 F.un38 F.sz46 rfl rfl rfl (by show _ < 7; decide)) rfl rfl ?_
            | refine LX.gT rfl rfl rfl hb10 (Y.idxR 1 F.un38 F.sz46 rfl rfl rfl (by show _ < 7; decide)) rfl rfl ?_
            | refine LX.gT rfl rfl rfl hb10 (Y.idx F.un38 F.sz46 rfl rfl (by show _ < 7; decide)) rfl rfl ?_
          first
            | refine LX.gT rfl rfl rfl hb10 (Y.fieldAddr0 F.fo46_1 rfl) rfl rfl ?_
            | refine LX.gT rfl rfl rfl hb10 (Y.fieldAddr F.fo46_1 rfl) rfl rfl ?_
          refine LX.gT rfl rfl rfl hb10 (Y.ldR 0 (v := str t) F.one9 rfl rfl rfl) rfl rfl ?_
          refine LX.gT rfl rfl rfl hb10 (Y.move rfl) rfl rfl ?_
          refine LX.gT rfl rfl rfl hb10 (Y.eqS rfl rfl) rfl rfl ?_
          refine LX.pure (Y.pickT rfl hb10 rfl) rfl rfl rfl ?_
          exact LX.left ⟨rfl, rfl, rfl, rfl, rfl, trivial⟩
        · intro hb10
          exfalso; revert hb10; simp [natV]
        refine LX.pure (Y.move rfl) rfl rfl rfl ?_
        refine LX.sub (l' := [(4, _), (6, _), (78, _)]) ⟨rfl, rfl, rfl, trivial⟩ ?_
        apply LX.joinAnd 6 84 78 rfl
        · intro hb11
          have hb11p := hb11
          try simp at hb11p
          refine LX.gT rfl rfl rfl hb11 (Y.move rfl) rfl rfl ?_
          first
            | refine LX.gT rfl rfl rfl hb11 (Y.idxR 0 F.un38 F.sz46 rfl rfl rfl (by show _ < 7; decide)) rfl rfl ?_
            | refine LX.gT rfl rfl rfl hb11 (Y.idxR 1 F.un38 F.sz46 rfl rfl rfl (by show _ < 7; decide)) rfl rfl ?_
            | refine LX.gT rfl rfl rfl hb11 (Y.idx F.un38 F.sz46 rfl rfl (by show _ < 7; decide)) rfl rfl ?_
          first
            | refine LX.gT rfl rfl rfl hb11 (Y.fieldAddr0 F.fo46_0 rfl) rfl rfl ?_
            | refine LX.gT rfl rfl rfl hb11 (Y.fieldAddr F.fo46_0 rfl) rfl rfl ?_
          refine LX.gT rfl rfl rfl hb11 (Y.ldR 0 (v := natV 5) F.one3 rfl rfl rfl) rfl rfl ?_
          first
            | refine LX.gT rfl rfl rfl hb11 (Y.eqN rfl rfl) rfl rfl ?_
            | refine LX.gT rfl rfl rfl hb11 (Y.eqI rfl rfl) rfl rfl ?_
          refine LX.pure (Y.pickT rfl hb11 rfl) rfl rfl rfl ?_
          exact LX.left ⟨rfl, rfl, rfl, rfl, trivial⟩
        · intro hb11
          exfalso; revert hb11; simp [natV]
        refine LX.pure (Y.move rfl) rfl rfl rfl ?_
        refine LX.sub (l' := [(4, _), (6, _), (85, _)]) ⟨rfl, rfl, rfl, trivial⟩ ?_
        apply LX.joinAnd 6 91 85 rfl
        · intro hb12
          have hb12p := hb12
          try simp at hb12p
          refine LX.gT rfl rfl rfl hb12 (Y.move rfl) rfl rfl ?_
          first
            | refine LX.gT rfl rfl rfl hb12 (Y.idxR 0 F.un38 F.sz46 rfl rfl rfl (by show _ < 7; decide)) rfl rfl ?_
            | refine LX.gT rfl rfl rfl hb12 (Y.idxR 1 F.un38 F.sz46 rfl rfl rfl (by show _ < 7; decide)) rfl rfl ?_
            | refine LX.gT rfl rfl rfl hb12 (Y.idx F.un38 F.sz46 rfl rfl (by show _ < 7; decide)) rfl rfl ?_
          first
            | refine LX.gT rfl rfl rfl hb12 (Y.fieldAddr0 F.fo46_0 rfl) rfl rfl ?_
            | refine LX.gT rfl rfl rfl hb12 (Y.fieldAddr F.fo46_0 rfl) rfl rfl ?_
          refine LX.gT rfl rfl rfl hb12 (Y.ldR 0 (v := natV 8) F.one3 rfl rfl rfl) rfl rfl ?_
          first
            | refine LX.gT rfl rfl rfl hb12 (Y.eqN rfl rfl) rfl rfl ?_
            | refine LX.gT rfl rfl rfl hb12 (Y.eqI rfl rfl) rfl rfl ?_
          refine LX.pure (Y.pickT rfl hb12 rfl) rfl rfl rfl ?_
          exact LX.left ⟨rfl, rfl, rfl, rfl, trivial⟩
        · intro hb12
          exfalso; revert hb12; simp [natV]
        refine LX.pure (Y.assign rfl) rfl rfl rfl ?_
        refine LX.sub (l' := [(4, _)]) ⟨rfl, trivial⟩ ?_
        refine LX.next ?_
        refine PX.thenN ?_
        refine CX.ret ?_
        refine PX.ret1 (by simp) Tryd.results9 rfl ?_
        exact fun w hw => ⟨(), by simp [natV], hw.drop (List.sublist_cons_self _ _)⟩

end Go.Proofs.YtggoogbloaennaaDoor
