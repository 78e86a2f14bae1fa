/-
  Proved here: chapter 4's statements' walks.
-/
import Derived.Test.YtggoogbloaennaaDoorFb
import Derived.Test.YtggoogbloaennaaDoorLawP
namespace Go.Proofs.YtggoogbloaennaaDoor
open Go.SX Go.RowKit Go.Lex
theorem first_c {w0 : World} {base : Nat} {fr : List It} {eLex eLim : Value} (hE : EnvLex w0 base eLex) (hM : EnvLim w0 base eLim) : FnC Tryd.prog 19 #[] (WA w0 base fr) (fun _ : Unit => .bool true) (fun _ => WA w0 base fr) := by
  refine FnC.of_body (fn := Tryd.f19) [] Tryd.func19 rfl Tryd.ntmps19 rfl trivial ?_
  refine CX.seq ?_
  refine CX.region ?_
  refine LX.pure (Y.assign rfl) rfl rfl rfl ?_
  refine LX.sub (l' := [(0, _)]) ⟨rfl, trivial⟩ ?_
  refine LX.next ?_
  refine PX.thenN ?_
  refine CX.seq ?_
  refine CX.region ?_
  refine LX.call (scan_ok_c hE hM (s := firstText) (ts := firstToks) (by decide) first_scan) F.en20 rfl rfl rfl rfl rfl ?_
  rintro ⟨g, c⟩
  refine LX.pure (Y.move rfl) rfl rfl rfl ?_
  refine LX.pure (Y.extract rfl rfl) rfl rfl rfl ?_
  refine LX.pure (Y.extract rfl rfl) rfl rfl rfl ?_
  refine LX.pure (Y.assign rfl) rfl rfl rfl ?_
  refine LX.pure (Y.assign rfl) rfl rfl rfl ?_
  refine LX.sub (l' := [(0, _), (1, _), (2, _)]) ⟨rfl, rfl, rfl, trivial⟩ ?_
  refine LX.next ?_
  refine PX.thenN ?_
  refine CX.seq ?_
  refine CX.seq ?_
  refine CX.region ?_
  refine LX.pure (Y.move rfl) rfl rfl rfl ?_
  first
    | refine LX.pure (Y.neNil F.un29 rfl rfl) rfl rfl rfl ?_
    | refine LX.pure (Y.neNilNil F.un29 rfl) rfl rfl rfl ?_
  refine LX.pure (Y.move rfl) rfl rfl rfl ?_
  refine LX.sub (l' := [(0, _), (1, _), (11, _)]) ⟨rfl, rfl, rfl, trivial⟩ ?_
  apply LX.joinOr 4 15 11 rfl
  · intro hb1
    cases hb1
  · intro hb1
    have hb1p := hb1
    try simp at hb1p
    refine LX.gT rfl rfl rfl hb1 (Y.move rfl) rfl rfl ?_
    refine LX.gT rfl rfl rfl hb1 (Y.lenSl rfl F.un38 rfl) rfl rfl ?_
    first
      | refine LX.gT rfl rfl rfl hb1 (Y.neN rfl rfl) rfl rfl ?_
      | refine LX.gT rfl rfl rfl hb1 (Y.neI rfl rfl) rfl rfl ?_
    refine LX.pure (Y.pickF rfl hb1 rfl) rfl rfl rfl ?_
    exact LX.left ⟨rfl, rfl, rfl, rfl, trivial⟩
  refine LX.sub (l' := [(0, _), (1, _), (15, _)]) ⟨rfl, rfl, rfl, trivial⟩ ?_
  refine LX.next ?_
  refine PX.thenN ?_
  refine CX.cond rfl (fun hb2 => ?_) (fun hb2 => ?_)
  · try simp at hb2
    first | done | (exfalso; revert hb2; decide)
  · try simp at hb2
    refine CX.skip ?_
    refine PX.thenN ?_
    refine CX.seq ?_
    refine CX.region ?_
    refine LX.buildSlice (e := 3) (size := 1) rfl rfl (fun _ => by kernel_rfl) rfl (by decide) rfl rfl rfl ?_
    intro gt14
    refine LX.pure (Y.assign rfl) rfl rfl rfl ?_
    refine LX.sub (l' := [(0, _), (1, _), (3, _)]) ⟨rfl, rfl, rfl, trivial⟩ ?_
    refine LX.next ?_
    refine PX.thenN ?_
    refine CX.seq ?_
    refine CX.seq ?_
    refine CX.region ?_
    refine LX.pure (Y.assign rfl) rfl rfl rfl ?_
    refine LX.sub (l' := [(0, _), (1, _), (3, _), (4, _)]) ⟨rfl, rfl, rfl, rfl, trivial⟩ ?_
    refine LX.next ?_
    refine PX.thenN ?_
    refine CX.block ?_
    refine CX.loop (τ := Nat) (fun k => [(1, rv g firstToks.length c), (3, .slice (some ⟨gt14, 0, none⟩) 9 9), (4, .int .i64 (k : Int))]) (fun k w => k ≤ 9 ∧ WA w0 base (.row (some gt14) 9 9 3 1 (wantL.map natV) :: .row g c firstToks.length 46 3 (firstToks.flatMap tokC) :: fr) w) (fun k => 9 - k) 0 ⟨rfl, rfl, rfl, trivial⟩ (fun w hw => ⟨Nat.zero_le _, hw⟩) ?_
    intro k
    refine CX.have fun hk => ?_
    refine CX.seq ?_
    refine CX.seq ?_
    refine CX.region ?_
    refine LX.pure (Y.move rfl) rfl rfl rfl ?_
    refine LX.pure (Y.move rfl) rfl rfl rfl ?_
    refine LX.pure (Y.lenSl rfl F.un38 rfl) rfl rfl rfl ?_
    first
      | refine LX.pure (Y.ltN rfl rfl) rfl rfl rfl ?_
      | refine LX.pure (Y.ltI rfl rfl) rfl rfl rfl ?_
    refine LX.sub (l' := [(1, _), (3, _), (4, _), (20, _)]) ⟨rfl, rfl, rfl, rfl, trivial⟩ ?_
    refine LX.next ?_
    refine PX.thenN ?_
    refine CX.cond rfl (fun hb3 => ?_) (fun hb3 => ?_)
    · try simp at hb3
      have hk9 : k < 9 := hb3
      refine CX.skip ?_
      refine PX.thenN ?_
      refine CX.seq ?_
      refine CX.block ?_
      refine CX.seq ?_
      refine CX.regionQ rfl (by kernel_rfl) ?_
      refine LX.pure (Y.move rfl) rfl rfl rfl ?_
      refine LX.pure (Y.move rfl) rfl rfl rfl ?_
      first
        | refine LX.pure (Y.idxR 0 F.un38 F.sz46 rfl rfl rfl (by first | omega | exact hk9)) rfl rfl rfl ?_
        | refine LX.pure (Y.idxR 1 F.un38 F.sz46 rfl rfl rfl (by first | omega | exact hk9)) rfl rfl rfl ?_
        | refine LX.pure (Y.idx F.un38 F.sz46 rfl rfl (by first | omega | exact hk9)) rfl rfl rfl ?_
      first
        | refine LX.pure (Y.fieldAddr0 F.fo46_0 rfl) rfl rfl rfl ?_
        | refine LX.pure (Y.fieldAddr F.fo46_0 rfl) rfl rfl rfl ?_
      refine LX.pure (Y.ldR 1 (v := natV (firstToks.getD k tok0).kind) F.one3 rfl rfl (tok_cell0 (ts := firstToks) hk9)) rfl rfl rfl ?_
      refine LX.pure (Y.move rfl) rfl rfl rfl ?_
      refine LX.pure (Y.move rfl) rfl rfl rfl ?_
      first
        | refine LX.pure (Y.idxR 0 F.un25 F.sz3 rfl rfl rfl (by first | omega | exact hk9)) rfl rfl rfl ?_
        | refine LX.pure (Y.idxR 1 F.un25 F.sz3 rfl rfl rfl (by first | omega | exact hk9)) rfl rfl rfl ?_
        | refine LX.pure (Y.idx F.un25 F.sz3 rfl rfl (by first | omega | exact hk9)) rfl rfl rfl ?_
      refine LX.pure (Y.ldR 0 (v := natV (wantL.getD k 0)) F.one3 rfl rfl (want_cell hk9)) rfl rfl rfl ?_
      first
        | refine LX.pure (Y.neN rfl rfl) rfl rfl rfl ?_
        | refine LX.pure (Y.neI rfl rfl) rfl rfl rfl ?_
      refine LX.sub (l' := [(1, _), (3, _), (4, _), (32, _)]) ⟨rfl, rfl, rfl, rfl, trivial⟩ ?_
      refine LX.nextQ ?_
      refine PX.thenN ?_
      refine CX.cond rfl (fun hb4 => ?_) (fun hb4 => ?_)
      · try simp at hb4
        first | done | exact absurd (want_eq k hk9) (by simpa using hb4)
      · try simp at hb4
        refine CX.skip ?_
        refine PX.blockN ?_
        refine PX.thenN ?_
        refine CX.region ?_
        refine LX.pure (Y.move rfl) rfl rfl rfl ?_
        first
          | refine LX.pure (Y.addN rfl rfl (by first | omega | (simp only []; omega) | (simp; done) | (simp; omega))) rfl rfl rfl ?_
          | refine LX.pure (Y.add rfl rfl (by first | omega | (simp only []; omega) | (simp; done) | (simp; omega))) rfl rfl rfl ?_
        refine LX.pure (Y.assign rfl) rfl rfl rfl ?_
        refine LX.sub (l' := [(1, _), (3, _), (4, _)]) ⟨rfl, rfl, rfl, trivial⟩ ?_
        refine LX.next ?_
        exact PX.again (k + 1) (by show 9 - (k + 1) < 9 - k; omega) ⟨rfl, rfl, rfl, trivial⟩ (fun w hw => ⟨by omega, hw⟩)
    · try simp at hb3
      refine CX.exit ?_
      refine PX.thenE ?_
      refine PX.thenE ?_
      refine PX.blockE ?_
      refine PX.thenN ?_
      refine CX.seq ?_
      refine CX.region ?_
      refine LX.pure (Y.assign rfl) rfl rfl rfl ?_
      refine LX.sub (l' := [(0, _)]) ⟨rfl, trivial⟩ ?_
      refine LX.next ?_
      refine PX.thenN ?_
      refine CX.ret ?_
      refine PX.ret1 (by simp) Tryd.results19 rfl ?_
      exact fun w hw => ⟨(), rfl, hw.drop ((List.sublist_cons_self _ _).cons _)⟩

/-- an argument: a slice of integers, read where it lies -/
structure IntsAt (w0 : World) (base : Nat) (av : Option Addr) (n : Nat) (zs : List Int) : Prop where
  at_ : ∀ i, i < n → ∃ a, av = some a ∧ (a.add (i * 1)).block < base ∧ w0.cell? (a.add (i * 1)) = some (.int .i64 (zs.getD i 0))

theorem blocks_c {w0 : World} {base : Nat} {fr : List It} {eLex eLim : Value} (hE : EnvLex w0 base eLex) (hM : EnvLim w0 base eLim) {av : Option Addr} {n : Nat} (c : Nat) {zs : List Int} (hA : IntsAt w0 base av n zs) : FnC Tryd.prog 6 #[.slice av n c] (WA w0 base fr) (fun _ : Unit => .bool true) (fun _ => WA w0 base fr) := by
  refine FnC.of_body (fn := Tryd.f6) [(0, _)] Tryd.func6 rfl Tryd.ntmps6 rfl ⟨rfl, trivial⟩ ?_
  refine CX.seq ?_
  refine CX.region ?_
  refine LX.pure (Y.assign rfl) rfl rfl rfl ?_
  refine LX.sub (l' := [(0, _), (2, _)]) ⟨rfl, rfl, trivial⟩ ?_
  refine LX.next ?_
  refine PX.thenN ?_
  refine CX.seq ?_
  refine CX.region ?_
  refine LX.call (first_c hE hM) F.en19 rfl rfl rfl rfl rfl ?_
  intro _
  refine LX.pure (Y.assign rfl) rfl rfl rfl ?_
  refine LX.sub (l' := [(0, _), (2, _), (3, _)]) ⟨rfl, rfl, rfl, trivial⟩ ?_
  refine LX.next ?_
  refine PX.thenN ?_
  refine CX.seq ?_
  refine CX.seq ?_
  refine CX.region ?_
  refine LX.pure (Y.move rfl) rfl rfl rfl ?_
  refine LX.pure (Y.not rfl) rfl rfl rfl ?_
  refine LX.sub (l' := [(0, _), (2, _), (3, _), (18, _)]) ⟨rfl, rfl, rfl, rfl, trivial⟩ ?_
  refine LX.next ?_
  refine PX.thenN ?_
  refine CX.cond rfl (fun hb1 => ?_) (fun hb1 => ?_)
  · try simp at hb1
    first | done | cases hb1
  · try simp at hb1
    refine CX.skip ?_
    refine PX.thenN ?_
    refine CX.seq ?_
    refine CX.seq ?_
    refine CX.region ?_
    refine LX.pure (Y.move rfl) rfl rfl rfl ?_
    refine LX.pure (Y.lenSl rfl F.un25 rfl) rfl rfl rfl ?_
    first
      | refine LX.pure (Y.gtN rfl rfl) rfl rfl rfl ?_
      | refine LX.pure (Y.gtI rfl rfl) rfl rfl rfl ?_
    refine LX.pure (Y.move rfl) rfl rfl rfl ?_
    refine LX.sub (l' := [(0, _), (2, _), (3, _), (22, _)]) ⟨rfl, rfl, rfl, rfl, trivial⟩ ?_
    apply LX.joinOr 3 25 22 rfl
    · intro hb2
      have hb2p := hb2
      try simp at hb2p
      refine LX.gF rfl rfl rfl hb2 rfl rfl ?_
      refine LX.gF rfl rfl rfl hb2 rfl rfl ?_
      refine LX.pure (Y.pickT rfl hb2 rfl) rfl rfl rfl ?_
      exact LX.left ⟨rfl, rfl, rfl, rfl, rfl, trivial⟩
    · intro hb2
      have hb2p := hb2
      try simp at hb2p
      refine LX.gT rfl rfl rfl hb2 (Y.move rfl) rfl rfl ?_
      refine LX.gT rfl rfl rfl hb2 (Y.not rfl) rfl rfl ?_
      refine LX.pure (Y.pickF rfl hb2 rfl) rfl rfl rfl ?_
      exact LX.left ⟨rfl, rfl, rfl, rfl, rfl, trivial⟩
    refine LX.sub (l' := [(0, _), (2, _), (3, _), (25, _)]) ⟨rfl, rfl, rfl, rfl, trivial⟩ ?_
    refine LX.next ?_
    refine PX.thenN ?_
    refine CX.cond rfl (fun hb3 => ?_) (fun hb3 => ?_)
    · try simp at hb3
      refine CX.seq ?_
      refine CX.region ?_
      refine LX.pure (Y.move rfl) rfl rfl rfl ?_
      refine LX.pure (Y.assign rfl) rfl rfl rfl ?_
      refine LX.sub (l' := [(0, _), (2, _)]) ⟨rfl, rfl, trivial⟩ ?_
      refine LX.next ?_
      refine PX.thenN ?_
      refine CX.ret ?_
      refine PX.thenR ?_
      refine PX.ret1 (by simp) Tryd.results6 rfl ?_
      exact fun w hw => ⟨(), rfl, hw⟩
    · try simp at hb3
      obtain ⟨ns, hns⟩ : ∃ ns, ns = zs.map nOf := ⟨_, rfl⟩
      have h6 : ∀ k, ns.getD k 0 < 6 := by intro k; rw [hns, nOf_getD]; exact nOf_lt _
      have hn40 : n ≤ 40 := hb3
      obtain ⟨ts, hts, hwalk⟩ := blocks_law h6 hn40
      have hIn := stB_inv h6 n hn40
      have hlen := scan_len hts
      have htx := hIn.text
      refine CX.skip ?_
      refine PX.thenN ?_
      refine CX.seq ?_
      refine CX.region ?_
      refine LX.pure (Y.assign rfl) rfl rfl rfl ?_
      refine LX.sub (l' := [(0, _), (2, _), (4, _)]) ⟨rfl, rfl, rfl, trivial⟩ ?_
      refine LX.next ?_
      refine PX.thenN ?_
      refine CX.seq ?_
      refine CX.region ?_
      refine LX.pure (Y.assign rfl) rfl rfl rfl ?_
      refine LX.sub (l' := [(0, _), (2, _), (4, _), (5, _)]) ⟨rfl, rfl, rfl, rfl, trivial⟩ ?_
      refine LX.next ?_
      refine PX.thenN ?_
      refine CX.seq ?_
      refine CX.region ?_
      refine LX.world (fun w hw => hw.nilRow 3 1) ?_
      refine LX.pure (Y.move rfl) rfl rfl rfl ?_
      refine LX.buildSlice (e := 3) (size := 1) rfl rfl (fun _ => by kernel_rfl) rfl (by decide) rfl rfl rfl ?_
      intro gt18
      first
        | refine LX.appendT 0 F.el25 rfl rfl rfl rfl rfl rfl rfl (by first | omega | (dsimp only; omega)) (by first | omega | (dsimp only; omega)) rfl rfl rfl ?_
        | refine LX.appendT 1 F.el25 rfl rfl rfl rfl rfl rfl rfl (by first | omega | (dsimp only; omega)) (by first | omega | (dsimp only; omega)) rfl rfl rfl ?_
        | refine LX.appendT 2 F.el25 rfl rfl rfl rfl rfl rfl rfl (by first | omega | (dsimp only; omega)) (by first | omega | (dsimp only; omega)) rfl rfl rfl ?_
      intro g' cap'
      refine LX.pure (Y.assign rfl) rfl rfl rfl ?_
      refine LX.sub (l' := [(0, _), (2, _), (4, _), (5, _)]) ⟨rfl, rfl, rfl, rfl, trivial⟩ ?_
      refine LX.next ?_
      refine PX.thenN ?_
      refine CX.seq ?_
      refine CX.region ?_
      refine LX.buildSlice (e := 3) (size := 1) rfl rfl (fun _ => by kernel_rfl) rfl (by decide) rfl rfl rfl ?_
      intro gt21
      refine LX.pure (Y.assign rfl) rfl rfl rfl ?_
      refine LX.sub (l' := [(0, _), (2, _), (4, _), (5, _), (6, _)]) ⟨rfl, rfl, rfl, rfl, rfl, trivial⟩ ?_
      refine LX.next ?_
      refine PX.thenN ?_
      refine CX.seq ?_
      refine CX.seq ?_
      refine CX.region ?_
      refine LX.pure (Y.assign rfl) rfl rfl rfl ?_
      refine LX.sub (l' := [(0, _), (2, _), (4, _), (5, _), (6, _), (7, _)]) ⟨rfl, rfl, rfl, rfl, rfl, rfl, trivial⟩ ?_
      refine LX.next ?_
      refine PX.thenN ?_
      refine CX.block ?_
      refine CX.loop (τ := Nat × (Option Nat × Nat) × (Option Nat × Nat)) (fun t : Nat × (Option Nat × Nat) × (Option Nat × Nat) => [(0, .slice av n c), (4, str (stB ns t.1).text), (5, rv t.2.1.1 (stB ns t.1).op.length t.2.1.2), (6, rv t.2.2.1 (stB ns t.1).dep.length t.2.2.2), (7, .int .i64 (t.1 : Int))]) (fun (t : Nat × (Option Nat × Nat) × (Option Nat × Nat)) w => t.1 ≤ n ∧ WA w0 base (nrow t.2.1.1 t.2.1.2 (stB ns t.1).op :: nrow t.2.2.1 t.2.2.2 (stB ns t.1).dep :: fr) w) (fun t => n - t.1) (0, (g', cap'), (some gt21, 0)) ⟨rfl, rfl, rfl, rfl, rfl, trivial⟩ (fun w hw => ⟨Nat.zero_le _, hw.perm (.swap _ _ _)⟩) ?_
      rintro ⟨k, ⟨go, co⟩, ⟨gd, cd⟩⟩
      refine CX.have fun hk => ?_
      dsimp only at hk ⊢
      refine CX.seq ?_
      refine CX.seq ?_
      refine CX.region ?_
      refine LX.pure (Y.move rfl) rfl rfl rfl ?_
      refine LX.pure (Y.move rfl) rfl rfl rfl ?_
      refine LX.pure (Y.lenSl rfl F.un25 rfl) rfl rfl rfl ?_
      first
        | refine LX.pure (Y.ltN rfl rfl) rfl rfl rfl ?_
        | refine LX.pure (Y.ltI rfl rfl) rfl rfl rfl ?_
      refine LX.sub (l' := [(0, _), (4, _), (5, _), (6, _), (7, _), (34, _)]) ⟨rfl, rfl, rfl, rfl, rfl, rfl, trivial⟩ ?_
      refine LX.next ?_
      refine PX.thenN ?_
      refine CX.cond rfl (fun hb4 => ?_) (fun hb4 => ?_)
      · try simp at hb4
        have hkn : k < n := hb4
        obtain ⟨a, hav, hab, hac⟩ := hA.at_ k hkn
        have hIB := stB_inv h6 k (by omega)
        have hs0 := hIB.ok.some
        have hd0 := hIB.deep
        have hla := hIB.last
        have hdp := hIB.dep
        have htk := hIB.text
        have h6k := h6 k
        refine CX.skip ?_
        refine PX.thenN ?_
        refine CX.seq ?_
        refine CX.block ?_
        refine CX.seq ?_
        refine CX.region ?_
        refine LX.pure (Y.move (v := .slice (some a) n c) (congrArg (fun v => some (Value.slice v n c)) hav)) rfl rfl rfl ?_
        refine LX.pure (Y.move rfl) rfl rfl rfl ?_
        refine LX.pure (Y.idxA F.un25 F.sz3 rfl rfl hkn) rfl rfl rfl ?_
        refine LX.pure (Y.ldO F.one3 rfl hac hab) rfl rfl rfl ?_
        first
          | refine LX.pure (Y.remN rfl rfl (by first | omega | (simp only []; omega) | (simp; done) | (simp; omega))) rfl rfl rfl ?_
          | refine LX.pure (Y.rem rfl rfl (by decide)) rfl rfl rfl ?_
        refine LX.pure (Y.add (a := Int.tmod (zs.getD k 0) 6) (b := 6) rfl rfl (by have := tmod_bd (zs.getD k 0); omega)) rfl rfl rfl ?_
        first
          | refine LX.pure (Y.remN rfl rfl (by first | omega | (simp only []; omega) | (simp; done) | (simp; omega))) rfl rfl rfl ?_
          | refine LX.pure (Y.rem rfl rfl (by decide)) rfl rfl rfl ?_
        refine LX.pure (Y.assign (v := .int .i64 ((ns.getD k 0 : Nat) : Int)) (congrArg (fun z => some (Value.int .i64 z)) ((nOf_eq (zs.getD k 0)).trans (by rw [hns, nOf_getD])))) rfl rfl rfl ?_
        refine LX.sub (l' := [(0, _), (4, _), (5, _), (6, _), (7, _), (8, _)]) ⟨rfl, rfl, rfl, rfl, rfl, rfl, trivial⟩ ?_
        refine LX.next ?_
        refine PX.thenN ?_
        refine CX.seq ?_
        refine CX.region ?_
        refine LX.pure (Y.move rfl) rfl rfl rfl ?_
        refine LX.pure (Y.move rfl) rfl rfl rfl ?_
        refine LX.pure (Y.lenSl rfl F.un25 rfl) rfl rfl rfl ?_
        first
          | refine LX.pure (Y.subN rfl rfl (by first | omega | (simp only []; omega) | (simp; done) | (simp; omega)) (by first | omega | (simp only []; omega) | (simp; done) | (simp; omega))) rfl rfl rfl ?_
          | refine LX.pure (Y.sub rfl rfl (by first | omega | (simp only []; omega) | (simp; done) | (simp; omega))) rfl rfl rfl ?_
        first
          | refine LX.pure (Y.idxR 0 F.un25 F.sz3 rfl rfl rfl (by first | omega | (simp only []; omega) | (simp; done) | (simp; omega))) rfl rfl rfl ?_
          | refine LX.pure (Y.idxR 1 F.un25 F.sz3 rfl rfl rfl (by first | omega | (simp only []; omega) | (simp; done) | (simp; omega))) rfl rfl rfl ?_
          | refine LX.pure (Y.idxR 2 F.un25 F.sz3 rfl rfl rfl (by first | omega | (simp only []; omega) | (simp; done) | (simp; omega))) rfl rfl rfl ?_
          | refine LX.pure (Y.idx F.un25 F.sz3 rfl rfl (by first | omega | (simp only []; omega) | (simp; done) | (simp; omega))) rfl rfl rfl ?_
        refine LX.pure (Y.ldR 0 (v := natV ((stB ns k).op.getLastD 0)) F.one3 rfl rfl (row_last hIB.ok.some)) rfl rfl rfl ?_
        refine LX.pure (Y.assign rfl) rfl rfl rfl ?_
        refine LX.sub (l' := [(0, _), (4, _), (5, _), (6, _), (7, _), (8, _), (9, _)]) ⟨rfl, rfl, rfl, rfl, rfl, rfl, rfl, trivial⟩ ?_
        refine LX.next ?_
        refine PX.thenN ?_
        refine CX.seqM (τ := List Nat × Option Nat × Nat) (fun t : List Nat × Option Nat × Nat => [(0, .slice av n c), (4, str (stB ns k).text), (5, rv t.2.1 t.1.length t.2.2), (6, rv gd (stB ns k).dep.length cd), (7, .int .i64 (k : Int))]) (fun (t : List Nat × Option Nat × Nat) w => t.1 = (op1B (stB ns k).op (ns.getD k 0)) ∧ WA w0 base (nrow t.2.1 t.2.2 t.1 :: nrow gd cd (stB ns k).dep :: fr) w) ?_ ?_
        ·
          refine CX.block ?_
          refine CX.seq ?_
          refine CX.region ?_
          refine LX.pure (Y.move rfl) rfl rfl rfl ?_
          first
            | refine LX.pure (Y.geN rfl rfl) rfl rfl rfl ?_
            | refine LX.pure (Y.geI rfl rfl) rfl rfl rfl ?_
          refine LX.pure (Y.assign rfl) rfl rfl rfl ?_
          refine LX.sub (l' := [(0, _), (4, _), (5, _), (6, _), (7, _), (8, _), (9, _), (50, _)]) ⟨rfl, rfl, rfl, rfl, rfl, rfl, rfl, rfl, trivial⟩ ?_
          refine LX.next ?_
          refine PX.thenN ?_
          refine CX.cond rfl (fun hb5 => ?_) (fun hb5 => ?_)
          · try simp at hb5
            refine CX.region ?_
            refine LX.pure (Y.move rfl) rfl rfl rfl ?_
            refine LX.pure (Y.move rfl) rfl rfl rfl ?_
            refine LX.pure (Y.move rfl) rfl rfl rfl ?_
            first
              | refine LX.pure (Y.addN rfl rfl (by first | omega | (simp only []; omega) | (simp; done) | (simp; omega))) rfl rfl rfl ?_
              | refine LX.pure (Y.add rfl rfl (by first | omega | (simp only []; omega) | (simp; done) | (simp; omega))) rfl rfl rfl ?_
            first
              | refine LX.pure (Y.subN rfl rfl (by first | omega | (simp only []; omega) | (simp; done) | (simp; omega)) (by first | omega | (simp only []; omega) | (simp; done) | (simp; omega))) rfl rfl rfl ?_
              | refine LX.pure (Y.sub rfl rfl (by first | omega | (simp only []; omega) | (simp; done) | (simp; omega))) rfl rfl rfl ?_
            refine LX.buildSlice (e := 3) (size := 1) rfl rfl (fun _ => by kernel_rfl) rfl (by decide) rfl rfl rfl ?_
            intro gt51
            first
              | refine LX.appendT 0 F.el25 rfl rfl rfl rfl rfl rfl rfl (by first | omega | (dsimp only; omega)) (by first | omega | (dsimp only; omega)) rfl rfl rfl ?_
              | refine LX.appendT 1 F.el25 rfl rfl rfl rfl rfl rfl rfl (by first | omega | (dsimp only; omega)) (by first | omega | (dsimp only; omega)) rfl rfl rfl ?_
              | refine LX.appendT 2 F.el25 rfl rfl rfl rfl rfl rfl rfl (by first | omega | (dsimp only; omega)) (by first | omega | (dsimp only; omega)) rfl rfl rfl ?_
            intro g' cap'
            refine LX.pure (Y.assign rfl) rfl rfl rfl ?_
            refine LX.sub (l' := [(0, _), (4, _), (5, _), (6, _), (7, _)]) ⟨rfl, rfl, rfl, rfl, rfl, trivial⟩ ?_
            refine LX.next ?_
            refine PX.blockN ?_
            exact PX.seam (L := (fun t : List Nat × Option Nat × Nat => [(0, .slice av n c), (4, str (stB ns k).text), (5, rv t.2.1 t.1.length t.2.2), (6, rv gd (stB ns k).dep.length cd), (7, .int .i64 (k : Int))])) (WW := (fun (t : List Nat × Option Nat × Nat) w => t.1 = (op1B (stB ns k).op (ns.getD k 0)) ∧ WA w0 base (nrow t.2.1 t.2.2 t.1 :: nrow gd cd (stB ns k).dep :: fr) w)) ((stB ns k).op ++ [(stB ns k).op.getLastD 0 + ns.getD k 0 - 3], g', cap') ⟨rfl, rfl, by simp only [List.length_append, List.length_singleton]; rfl, rfl, rfl, trivial⟩ (fun w hw => ⟨(op1B_in (by simpa using hb5)).symm, by simpa [nrow, flat, Value.cells, natV] using hw⟩)
          · try simp at hb5
            refine CX.seq ?_
            refine CX.region ?_
            refine LX.pure (Y.move rfl) rfl rfl rfl ?_
            first
              | refine LX.pure (Y.gtN rfl rfl) rfl rfl rfl ?_
              | refine LX.pure (Y.gtI rfl rfl) rfl rfl rfl ?_
            refine LX.pure (Y.move rfl) rfl rfl rfl ?_
            refine LX.sub (l' := [(0, _), (4, _), (5, _), (6, _), (7, _), (8, _), (63, _)]) ⟨rfl, rfl, rfl, rfl, rfl, rfl, rfl, trivial⟩ ?_
            apply LX.joinAnd 4 67 63 rfl
            · intro hb6
              have hb6p := hb6
              try simp at hb6p
              refine LX.gT rfl rfl rfl hb6 (Y.move rfl) rfl rfl ?_
              refine LX.gT rfl rfl rfl hb6 (Y.lenSl rfl F.un25 rfl) rfl rfl ?_
              first
                | refine LX.gT rfl rfl rfl hb6 (Y.gtN rfl rfl) rfl rfl ?_
                | refine LX.gT rfl rfl rfl hb6 (Y.gtI rfl rfl) rfl rfl ?_
              refine LX.pure (Y.pickT rfl hb6 rfl) rfl rfl rfl ?_
              exact LX.left ⟨rfl, rfl, rfl, rfl, rfl, rfl, rfl, rfl, trivial⟩
            · intro hb6
              have hb6p := hb6
              try simp at hb6p
              refine LX.gF rfl rfl rfl hb6 rfl rfl ?_
              refine LX.gF rfl rfl rfl hb6 rfl rfl ?_
              refine LX.gF rfl rfl rfl hb6 rfl rfl ?_
              refine LX.pure (Y.pickF rfl hb6 rfl) rfl rfl rfl ?_
              exact LX.left ⟨rfl, rfl, rfl, rfl, rfl, rfl, rfl, rfl, trivial⟩
            refine LX.pure (Y.assign rfl) rfl rfl rfl ?_
            refine LX.sub (l' := [(0, _), (4, _), (5, _), (6, _), (7, _), (8, _), (60, _)]) ⟨rfl, rfl, rfl, rfl, rfl, rfl, rfl, trivial⟩ ?_
            refine LX.next ?_
            refine PX.thenN ?_
            refine CX.cond rfl (fun hb7 => ?_) (fun hb7 => ?_)
            · try simp at hb7
              refine CX.region ?_
              refine LX.pure (Y.move rfl) rfl rfl rfl ?_
              refine LX.pure (Y.move rfl) rfl rfl rfl ?_
              refine LX.pure (Y.lenSl rfl F.un25 rfl) rfl rfl rfl ?_
              refine LX.pure (Y.move rfl) rfl rfl rfl ?_
              first
                | refine LX.pure (Y.subN rfl rfl (by first | omega | (simp only []; omega) | (simp; done) | (simp; omega)) (by first | omega | (simp only []; omega) | (simp; done) | (simp; omega))) rfl rfl rfl ?_
                | refine LX.pure (Y.sub rfl rfl (by first | omega | (simp only []; omega) | (simp; done) | (simp; omega))) rfl rfl rfl ?_
              refine LX.pure (show Y _ _ _ _ _ (.int .i64 ((max 1 ((stB ns k).op.length - ns.getD k 0) : Nat) : Int)) from by rw [← max_cut]; exact Y.max2 rfl rfl) rfl rfl rfl ?_
              first
                | refine LX.pure (Y.cutR 0 F.un25 F.sz3 rfl rfl rfl (by first | omega | (simp only []; omega) | (simp; done) | (simp; omega))) rfl rfl rfl ?_
                | refine LX.pure (Y.cutR 1 F.un25 F.sz3 rfl rfl rfl (by first | omega | (simp only []; omega) | (simp; done) | (simp; omega))) rfl rfl rfl ?_
                | refine LX.pure (Y.cutR 2 F.un25 F.sz3 rfl rfl rfl (by first | omega | (simp only []; omega) | (simp; done) | (simp; omega))) rfl rfl rfl ?_
                | refine LX.pure (Y.cutHi F.un25 F.sz3 rfl rfl (by first | omega | (simp only []; omega) | (simp; done) | (simp; omega))) rfl rfl rfl ?_
              refine LX.pure (Y.assign rfl) rfl rfl rfl ?_
              refine LX.sub (l' := [(0, _), (4, _), (5, _), (6, _), (7, _)]) ⟨rfl, rfl, rfl, rfl, rfl, trivial⟩ ?_
              refine LX.next ?_
              refine PX.blockN ?_
              exact PX.seam (L := (fun t : List Nat × Option Nat × Nat => [(0, .slice av n c), (4, str (stB ns k).text), (5, rv t.2.1 t.1.length t.2.2), (6, rv gd (stB ns k).dep.length cd), (7, .int .i64 (k : Int))])) (WW := (fun (t : List Nat × Option Nat × Nat) w => t.1 = (op1B (stB ns k).op (ns.getD k 0)) ∧ WA w0 base (nrow t.2.1 t.2.2 t.1 :: nrow gd cd (stB ns k).dep :: fr) w)) ((stB ns k).op.take (max 1 ((stB ns k).op.length - ns.getD k 0)), go, co) ⟨rfl, rfl, by rw [List.length_take, Nat.min_eq_left (by omega)]; rfl, rfl, rfl, trivial⟩ (fun w hw => ⟨(op1B_out (by simpa using hb5) (by simpa using hb7.1) hb7.2).symm, nrow_cut hw (by omega)⟩)
            · try simp at hb7
              refine CX.skip ?_
              refine PX.blockN ?_
              exact PX.seam (L := (fun t : List Nat × Option Nat × Nat => [(0, .slice av n c), (4, str (stB ns k).text), (5, rv t.2.1 t.1.length t.2.2), (6, rv gd (stB ns k).dep.length cd), (7, .int .i64 (k : Int))])) (WW := (fun (t : List Nat × Option Nat × Nat) w => t.1 = (op1B (stB ns k).op (ns.getD k 0)) ∧ WA w0 base (nrow t.2.1 t.2.2 t.1 :: nrow gd cd (stB ns k).dep :: fr) w)) ((stB ns k).op, go, co) ⟨rfl, rfl, rfl, rfl, rfl, trivial⟩ (fun w hw => ⟨(op1B_same (by simpa using hb5) (by simpa using hb7)).symm, hw⟩)
        ·
          rintro ⟨op1, go1, co1⟩
          refine CX.have fun h => ?_
          subst h
          dsimp only
          have hok1 : OkB (op1B (stB ns k).op (ns.getD k 0)) := by obtain ⟨_, hg⟩ := op1B_go2 hIB.ok (ns.getD k 0); exact hg.ok hIB.ok
          have hl1 := hok1.some
          refine CX.seqM (τ := List Nat × Option Nat × Nat) (fun t : List Nat × Option Nat × Nat => [(0, .slice av n c), (4, str (stB ns k).text), (5, rv t.2.1 t.1.length t.2.2), (6, rv gd (stB ns k).dep.length cd), (7, .int .i64 (k : Int))]) (fun (t : List Nat × Option Nat × Nat) w => t.1 = (op2B (stB ns k) (ns.getD k 0)) ∧ WA w0 base (nrow t.2.1 t.2.2 t.1 :: nrow gd cd (stB ns k).dep :: fr) w) ?_ ?_
          ·
            refine CX.seq ?_
            refine CX.region ?_
            refine LX.pure (Y.move rfl) rfl rfl rfl ?_
            first
              | refine LX.pure (Y.eqN rfl rfl) rfl rfl rfl ?_
              | refine LX.pure (Y.eqI rfl rfl) rfl rfl rfl ?_
            refine LX.sub (l' := [(0, _), (4, _), (5, _), (6, _), (7, _), (76, _)]) ⟨rfl, rfl, rfl, rfl, rfl, rfl, trivial⟩ ?_
            refine LX.next ?_
            refine PX.thenN ?_
            refine CX.cond rfl (fun hb8 => ?_) (fun hb8 => ?_)
            · try simp at hb8
              refine CX.region ?_
              refine LX.pure (Y.move rfl) rfl rfl rfl ?_
              first
                | refine LX.pure (Y.cutR 0 F.un25 F.sz3 rfl rfl rfl (by first | omega | (simp only []; omega) | (simp; done) | (simp; omega))) rfl rfl rfl ?_
                | refine LX.pure (Y.cutR 1 F.un25 F.sz3 rfl rfl rfl (by first | omega | (simp only []; omega) | (simp; done) | (simp; omega))) rfl rfl rfl ?_
                | refine LX.pure (Y.cutR 2 F.un25 F.sz3 rfl rfl rfl (by first | omega | (simp only []; omega) | (simp; done) | (simp; omega))) rfl rfl rfl ?_
                | refine LX.pure (Y.cutHi F.un25 F.sz3 rfl rfl (by first | omega | (simp only []; omega) | (simp; done) | (simp; omega))) rfl rfl rfl ?_
              refine LX.pure (Y.assign rfl) rfl rfl rfl ?_
              refine LX.sub (l' := [(0, _), (4, _), (5, _), (6, _), (7, _)]) ⟨rfl, rfl, rfl, rfl, rfl, trivial⟩ ?_
              refine LX.next ?_
              exact PX.seam (L := (fun t : List Nat × Option Nat × Nat => [(0, .slice av n c), (4, str (stB ns k).text), (5, rv t.2.1 t.1.length t.2.2), (6, rv gd (stB ns k).dep.length cd), (7, .int .i64 (k : Int))])) (WW := (fun (t : List Nat × Option Nat × Nat) w => t.1 = (op2B (stB ns k) (ns.getD k 0)) ∧ WA w0 base (nrow t.2.1 t.2.2 t.1 :: nrow gd cd (stB ns k).dep :: fr) w)) ((op1B (stB ns k).op (ns.getD k 0)).take 1, go1, co1) ⟨rfl, rfl, by rw [List.length_take, Nat.min_eq_left (by omega)]; rfl, rfl, rfl, trivial⟩ (fun w hw => ⟨(op2B_first (by rw [hIB.dep]; exact hb8)).symm, nrow_cut hw (by omega)⟩)
            · try simp at hb8
              refine CX.skip ?_
              exact PX.seam (L := (fun t : List Nat × Option Nat × Nat => [(0, .slice av n c), (4, str (stB ns k).text), (5, rv t.2.1 t.1.length t.2.2), (6, rv gd (stB ns k).dep.length cd), (7, .int .i64 (k : Int))])) (WW := (fun (t : List Nat × Option Nat × Nat) w => t.1 = (op2B (stB ns k) (ns.getD k 0)) ∧ WA w0 base (nrow t.2.1 t.2.2 t.1 :: nrow gd cd (stB ns k).dep :: fr) w)) ((op1B (stB ns k).op (ns.getD k 0)), go1, co1) ⟨rfl, rfl, rfl, rfl, rfl, trivial⟩ (fun w hw => ⟨(op2B_later (by rw [hIB.dep]; exact hb8)).symm, hw⟩)
          ·
            rintro ⟨op2, go2, co2⟩
            refine CX.have fun h => ?_
            subst h
            dsimp only
            have hok2 : OkB (op2B (stB ns k) (ns.getD k 0)) := by obtain ⟨_, hg⟩ := op2B_go2 hIB.ok (ns.getD k 0); exact hg.ok hIB.ok
            have hl2 := hok2.some
            have htop : (op2B (stB ns k) (ns.getD k 0)).getLastD 0 ≤ 2 * (k + 1) := (stB_inv h6 (k + 1) (by omega)).last
            have hdo2 : (op2B (stB ns k) (ns.getD k 0)).length ≤ k + 1 + 1 := (stB_inv h6 (k + 1) (by omega)).deep
            have htk2 : ((stB ns k).text ++ List.replicate ((op2B (stB ns k) (ns.getD k 0)).getLastD 0) 32 ++ [120, 10]).length ≤ (k + 1) * 82 := (stB_inv h6 (k + 1) (by omega)).text
            refine CX.seq ?_
            refine CX.seq ?_
            refine CX.region ?_
            refine LX.pure (Y.assign rfl) rfl rfl rfl ?_
            refine LX.sub (l' := [(0, _), (4, _), (5, _), (6, _), (7, _), (10, _)]) ⟨rfl, rfl, rfl, rfl, rfl, rfl, trivial⟩ ?_
            refine LX.next ?_
            refine PX.thenN ?_
            refine CX.block ?_
            refine CX.loop (τ := Nat) (fun j => [(0, .slice av n c), (4, str ((stB ns k).text ++ List.replicate j 32)), (5, rv go2 (op2B (stB ns k) (ns.getD k 0)).length co2), (6, rv gd (stB ns k).dep.length cd), (7, .int .i64 (k : Int)), (10, .int .i64 (j : Int))]) (fun j w => j ≤ (op2B (stB ns k) (ns.getD k 0)).getLastD 0 ∧ WA w0 base (nrow go2 co2 (op2B (stB ns k) (ns.getD k 0)) :: nrow gd cd (stB ns k).dep :: fr) w) (fun j => (op2B (stB ns k) (ns.getD k 0)).getLastD 0 - j) 0 ⟨rfl, by simp; rfl, rfl, rfl, rfl, rfl, trivial⟩ (fun w hw => ⟨Nat.zero_le _, hw⟩) ?_
            intro j
            refine CX.have fun hj => ?_
            refine CX.seq ?_
            refine CX.seq ?_
            refine CX.region ?_
            refine LX.pure (Y.move rfl) rfl rfl rfl ?_
            refine LX.pure (Y.move rfl) rfl rfl rfl ?_
            refine LX.pure (Y.move rfl) rfl rfl rfl ?_
            refine LX.pure (Y.lenSl rfl F.un25 rfl) rfl rfl rfl ?_
            first
              | refine LX.pure (Y.subN rfl rfl (by first | omega | (simp only []; omega) | (simp; done) | (simp; omega)) (by first | omega | (simp only []; omega) | (simp; done) | (simp; omega))) rfl rfl rfl ?_
              | refine LX.pure (Y.sub rfl rfl (by first | omega | (simp only []; omega) | (simp; done) | (simp; omega))) rfl rfl rfl ?_
            first
              | refine LX.pure (Y.idxR 0 F.un25 F.sz3 rfl rfl rfl (by first | omega | (simp only []; omega) | (simp; done) | (simp; omega))) rfl rfl rfl ?_
              | refine LX.pure (Y.idxR 1 F.un25 F.sz3 rfl rfl rfl (by first | omega | (simp only []; omega) | (simp; done) | (simp; omega))) rfl rfl rfl ?_
              | refine LX.pure (Y.idxR 2 F.un25 F.sz3 rfl rfl rfl (by first | omega | (simp only []; omega) | (simp; done) | (simp; omega))) rfl rfl rfl ?_
              | refine LX.pure (Y.idx F.un25 F.sz3 rfl rfl (by first | omega | (simp only []; omega) | (simp; done) | (simp; omega))) rfl rfl rfl ?_
            refine LX.pure (Y.ldR 0 (v := natV ((op2B (stB ns k) (ns.getD k 0)).getLastD 0)) F.one3 rfl rfl (row_last hok2.some)) rfl rfl rfl ?_
            first
              | refine LX.pure (Y.ltN rfl rfl) rfl rfl rfl ?_
              | refine LX.pure (Y.ltI rfl rfl) rfl rfl rfl ?_
            refine LX.sub (l' := [(0, _), (4, _), (5, _), (6, _), (7, _), (10, _), (86, _)]) ⟨rfl, rfl, rfl, rfl, rfl, rfl, rfl, trivial⟩ ?_
            refine LX.next ?_
            refine PX.thenN ?_
            refine CX.cond rfl (fun hb9 => ?_) (fun hb9 => ?_)
            · try simp at hb9
              have hj9 : j < (op2B (stB ns k) (ns.getD k 0)).getLastD 0 := by simpa using hb9
              refine CX.skip ?_
              refine PX.thenN ?_
              refine CX.seq ?_
              refine CX.block ?_
              refine CX.region ?_
              refine LX.pure (Y.move rfl) rfl rfl rfl ?_
              first
                | refine LX.pure (Y.addS rfl rfl (by simp only [List.length_append, List.length_cons, List.length_nil]; omega)) rfl rfl rfl ?_
                | refine LX.pure (Y.addS rfl rfl (by first | omega | (simp only []; omega) | (simp; done) | (simp; omega))) rfl rfl rfl ?_
              refine LX.pure (Y.assign rfl) rfl rfl rfl ?_
              refine LX.sub (l' := [(0, _), (4, _), (5, _), (6, _), (7, _), (10, _)]) ⟨rfl, rfl, rfl, rfl, rfl, rfl, trivial⟩ ?_
              refine LX.next ?_
              refine PX.blockN ?_
              refine PX.thenN ?_
              refine CX.region ?_
              refine LX.pure (Y.move rfl) rfl rfl rfl ?_
              first
                | refine LX.pure (Y.addN rfl rfl (by first | omega | (simp only []; omega) | (simp; done) | (simp; omega))) rfl rfl rfl ?_
                | refine LX.pure (Y.add rfl rfl (by first | omega | (simp only []; omega) | (simp; done) | (simp; omega))) rfl rfl rfl ?_
              refine LX.pure (Y.assign rfl) rfl rfl rfl ?_
              refine LX.sub (l' := [(0, _), (4, _), (5, _), (6, _), (7, _), (10, _)]) ⟨rfl, rfl, rfl, rfl, rfl, rfl, trivial⟩ ?_
              refine LX.next ?_
              exact PX.again (j + 1) (by show (op2B (stB ns k) (ns.getD k 0)).getLastD 0 - (j + 1) < (op2B (stB ns k) (ns.getD k 0)).getLastD 0 - j; omega) ⟨rfl, by rw [List.replicate_succ', ← List.append_assoc]; rfl, rfl, rfl, rfl, rfl, trivial⟩ (fun w hw => ⟨by omega, hw⟩)
            · try simp at hb9
              have hj9 : j = (op2B (stB ns k) (ns.getD k 0)).getLastD 0 := Nat.le_antisymm hj (by simpa using hb9)
              subst hj9
              refine CX.exit ?_
              refine PX.thenE ?_
              refine PX.thenE ?_
              refine PX.blockE ?_
              refine PX.thenN ?_
              refine CX.seq ?_
              refine CX.region ?_
              refine LX.pure (Y.move rfl) rfl rfl rfl ?_
              first
                | refine LX.pure (Y.addS rfl rfl (by simp only [List.length_append, List.length_cons, List.length_nil]; omega)) rfl rfl rfl ?_
                | refine LX.pure (Y.addS rfl rfl (by first | omega | (simp only []; omega) | (simp; done) | (simp; omega))) rfl rfl rfl ?_
              refine LX.pure (Y.assign rfl) rfl rfl rfl ?_
              refine LX.sub (l' := [(0, _), (4, _), (5, _), (6, _), (7, _)]) ⟨rfl, rfl, rfl, rfl, rfl, trivial⟩ ?_
              refine LX.next ?_
              refine PX.thenN ?_
              refine CX.region ?_
              refine LX.pure (Y.move rfl) rfl rfl rfl ?_
              refine LX.pure (Y.move rfl) rfl rfl rfl ?_
              refine LX.pure (Y.lenSl rfl F.un25 rfl) rfl rfl rfl ?_
              first
                | refine LX.pure (Y.subN rfl rfl (by first | omega | (simp only []; omega) | (simp; done) | (simp; omega)) (by first | omega | (simp only []; omega) | (simp; done) | (simp; omega))) rfl rfl rfl ?_
                | refine LX.pure (Y.sub rfl rfl (by first | omega | (simp only []; omega) | (simp; done) | (simp; omega))) rfl rfl rfl ?_
              refine LX.buildSlice (e := 3) (size := 1) rfl rfl (fun _ => by kernel_rfl) rfl (by decide) rfl rfl rfl ?_
              intro gt98
              first
                | refine LX.appendT 0 F.el25 rfl rfl rfl rfl rfl rfl rfl (by first | omega | (dsimp only; omega)) (by first | omega | (dsimp only; omega)) rfl rfl rfl ?_
                | refine LX.appendT 1 F.el25 rfl rfl rfl rfl rfl rfl rfl (by first | omega | (dsimp only; omega)) (by first | omega | (dsimp only; omega)) rfl rfl rfl ?_
                | refine LX.appendT 2 F.el25 rfl rfl rfl rfl rfl rfl rfl (by first | omega | (dsimp only; omega)) (by first | omega | (dsimp only; omega)) rfl rfl rfl ?_
              intro g' cap'
              refine LX.pure (Y.assign rfl) rfl rfl rfl ?_
              refine LX.sub (l' := [(0, _), (4, _), (5, _), (6, _), (7, _)]) ⟨rfl, rfl, rfl, rfl, rfl, trivial⟩ ?_
              refine LX.next ?_
              refine PX.blockN ?_
              refine PX.thenN ?_
              refine CX.region ?_
              refine LX.pure (Y.move rfl) rfl rfl rfl ?_
              first
                | refine LX.pure (Y.addN rfl rfl (by first | omega | (simp only []; omega) | (simp; done) | (simp; omega))) rfl rfl rfl ?_
                | refine LX.pure (Y.add rfl rfl (by first | omega | (simp only []; omega) | (simp; done) | (simp; omega))) rfl rfl rfl ?_
              refine LX.pure (Y.assign rfl) rfl rfl rfl ?_
              refine LX.sub (l' := [(0, _), (4, _), (5, _), (6, _), (7, _)]) ⟨rfl, rfl, rfl, rfl, rfl, trivial⟩ ?_
              refine LX.next ?_
              exact PX.again (L := (fun t : Nat × (Option Nat × Nat) × (Option Nat × Nat) => [(0, .slice av n c), (4, str (stB ns t.1).text), (5, rv t.2.1.1 (stB ns t.1).op.length t.2.1.2), (6, rv t.2.2.1 (stB ns t.1).dep.length t.2.2.2), (7, .int .i64 (t.1 : Int))])) (WW := (fun (t : Nat × (Option Nat × Nat) × (Option Nat × Nat)) w => t.1 ≤ n ∧ WA w0 base (nrow t.2.1.1 t.2.1.2 (stB ns t.1).op :: nrow t.2.2.1 t.2.2.2 (stB ns t.1).dep :: fr) w)) (μ := fun t => n - t.1) (i := (k, (go, co), (gd, cd))) (k + 1, (go2, co2), (g', cap')) (by show n - (k + 1) < n - k; omega) ⟨rfl, rfl, rfl, by show _ = some (rv g' ((stB ns k).dep ++ [_]).length cap'); rw [List.length_append]; rfl, rfl, trivial⟩ (fun w hw => ⟨by show k + 1 ≤ n; omega, by simpa [nrow, stB, stepB, flat, Value.cells, natV] using hw⟩)
      · try simp at hb4
        have hkn : n = k := by omega
        subst hkn
        refine CX.exit ?_
        refine PX.thenE ?_
        refine PX.thenE ?_
        refine PX.blockE ?_
        refine PX.thenN ?_
        refine CX.seq ?_
        refine CX.region ?_
        refine LX.pure (Y.move rfl) rfl rfl rfl ?_
        refine LX.call (scan_ok_c hE hM (s := (stB ns n).text) (ts := ts) (by have := hIn.text; omega) hts) F.en20 rfl rfl rfl rfl rfl ?_
        rintro ⟨gt, ct⟩
        refine LX.pure (Y.move rfl) rfl rfl rfl ?_
        refine LX.pure (Y.extract rfl rfl) rfl rfl rfl ?_
        refine LX.pure (Y.extract rfl rfl) rfl rfl rfl ?_
        refine LX.pure (Y.assign rfl) rfl rfl rfl ?_
        refine LX.pure (Y.assign rfl) rfl rfl rfl ?_
        refine LX.sub (l' := [(0, _), (6, _), (11, _), (12, _)]) ⟨rfl, rfl, rfl, rfl, trivial⟩ ?_
        refine LX.next ?_
        refine PX.thenN ?_
        refine CX.seq ?_
        refine CX.seq ?_
        refine CX.region ?_
        refine LX.pure (Y.move rfl) rfl rfl rfl ?_
        first
          | refine LX.pure (Y.neNil F.un29 rfl rfl) rfl rfl rfl ?_
          | refine LX.pure (Y.neNilNil F.un29 rfl) rfl rfl rfl ?_
        refine LX.sub (l' := [(0, _), (6, _), (11, _), (105, _)]) ⟨rfl, rfl, rfl, rfl, trivial⟩ ?_
        refine LX.next ?_
        refine PX.thenN ?_
        refine CX.cond rfl (fun hb10 => ?_) (fun hb10 => ?_)
        · try simp at hb10
          first | done | cases hb10
        · try simp at hb10
          refine CX.skip ?_
          refine PX.thenN ?_
          refine CX.seq ?_
          refine CX.region ?_
          refine LX.pure (Y.assign rfl) rfl rfl rfl ?_
          refine LX.sub (l' := [(0, _), (6, _), (11, _), (13, _)]) ⟨rfl, rfl, rfl, rfl, trivial⟩ ?_
          refine LX.next ?_
          refine PX.thenN ?_
          refine CX.seq ?_
          refine CX.region ?_
          refine LX.pure (Y.assign rfl) rfl rfl rfl ?_
          refine LX.sub (l' := [(0, _), (6, _), (11, _), (13, _), (14, _)]) ⟨rfl, rfl, rfl, rfl, rfl, trivial⟩ ?_
          refine LX.next ?_
          refine PX.thenN ?_
          refine CX.seq ?_
          refine CX.seq ?_
          refine CX.region ?_
          refine LX.pure (Y.assign rfl) rfl rfl rfl ?_
          refine LX.sub (l' := [(0, _), (6, _), (11, _), (13, _), (14, _), (15, _)]) ⟨rfl, rfl, rfl, rfl, rfl, rfl, trivial⟩ ?_
          refine LX.next ?_
          refine PX.thenN ?_
          refine CX.block ?_
          refine CX.loop (τ := Nat × Int × Nat) (fun t : Nat × Int × Nat => [(0, .slice av n c), (6, rv gd (stB ns n).dep.length cd), (11, rv gt ts.length ct), (13, .int .i64 t.2.1), (14, .int .i64 (t.2.2 : Int)), (15, .int .i64 (t.1 : Int))]) (fun (t : Nat × Int × Nat) w => (t.1 ≤ ts.length ∧ (-(t.1 : Int) ≤ t.2.1 ∧ t.2.1 ≤ t.1) ∧ t.2.2 ≤ t.1 ∧ walkB (stB ns n).dep ((ts.map (·.kind)).drop t.1) t.2.1 t.2.2 = some (0, n)) ∧ WA w0 base (.row gt ct ts.length 46 3 (ts.flatMap tokC) :: nrow go co (stB ns n).op :: nrow gd cd (stB ns n).dep :: fr) w) (fun t => ts.length - t.1) (0, 0, 0) ⟨rfl, rfl, rfl, rfl, rfl, rfl, trivial⟩ (fun w hw => ⟨⟨Nat.zero_le _, ⟨Int.le_refl _, Int.le_refl _⟩, Nat.le_refl _, hwalk⟩, hw⟩) ?_
          rintro ⟨k, now, line⟩
          refine CX.have fun ⟨hk, hnow, hline, hwk⟩ => ?_
          dsimp only at hk hnow hline hwk ⊢
          refine CX.seq ?_
          refine CX.seq ?_
          refine CX.region ?_
          refine LX.pure (Y.move rfl) rfl rfl rfl ?_
          refine LX.pure (Y.move rfl) rfl rfl rfl ?_
          refine LX.pure (Y.lenSl rfl F.un38 rfl) rfl rfl rfl ?_
          first
            | refine LX.pure (Y.ltN rfl rfl) rfl rfl rfl ?_
            | refine LX.pure (Y.ltI rfl rfl) rfl rfl rfl ?_
          refine LX.sub (l' := [(0, _), (6, _), (11, _), (13, _), (14, _), (15, _), (109, _)]) ⟨rfl, rfl, rfl, rfl, rfl, rfl, rfl, trivial⟩ ?_
          refine LX.next ?_
          refine PX.thenN ?_
          refine CX.cond rfl (fun hb11 => ?_) (fun hb11 => ?_)
          · try simp at hb11
            have hk3 : k < ts.length := hb11
            rw [walkB_at (by simpa using hk3), kd_map] at hwk
            refine CX.skip ?_
            refine PX.thenN ?_
            refine CX.seq ?_
            refine CX.block ?_
            refine CX.seq ?_
            refine CX.region ?_
            refine LX.pure (Y.move rfl) rfl rfl rfl ?_
            refine LX.pure (Y.move rfl) rfl rfl rfl ?_
            first
              | refine LX.pure (Y.idxR 0 F.un38 F.sz46 rfl rfl rfl (by first | omega | (simp only []; omega) | (simp; done) | (simp; omega))) rfl rfl rfl ?_
              | refine LX.pure (Y.idxR 1 F.un38 F.sz46 rfl rfl rfl (by first | omega | (simp only []; omega) | (simp; done) | (simp; omega))) rfl rfl rfl ?_
              | refine LX.pure (Y.idxR 2 F.un38 F.sz46 rfl rfl rfl (by first | omega | (simp only []; omega) | (simp; done) | (simp; omega))) rfl rfl rfl ?_
              | refine LX.pure (Y.idx F.un38 F.sz46 rfl rfl (by first | omega | (simp only []; omega) | (simp; done) | (simp; omega))) rfl rfl rfl ?_
            first
              | refine LX.pure (Y.fieldAddr0 F.fo46_0 rfl) rfl rfl rfl ?_
              | refine LX.pure (Y.fieldAddr F.fo46_0 rfl) rfl rfl rfl ?_
            refine LX.pure (Y.ldR 0 (v := natV (kd ts k)) F.one3 rfl rfl (tok_cell0 hk3)) rfl rfl rfl ?_
            refine LX.sub (l' := [(0, _), (6, _), (11, _), (13, _), (14, _), (15, _), (116, _)]) ⟨rfl, rfl, rfl, rfl, rfl, rfl, rfl, trivial⟩ ?_
            refine LX.next ?_
            refine PX.thenN ?_
            refine CX.block ?_
            refine CX.seq ?_
            refine CX.region ?_
            first
              | refine LX.pure (Y.eqN rfl rfl) rfl rfl rfl ?_
              | refine LX.pure (Y.eqI rfl rfl) rfl rfl rfl ?_
            refine LX.pure (Y.assign rfl) rfl rfl rfl ?_
            refine LX.sub (l' := [(0, _), (6, _), (11, _), (13, _), (14, _), (15, _), (116, _), (117, _)]) ⟨rfl, rfl, rfl, rfl, rfl, rfl, rfl, rfl, trivial⟩ ?_
            refine LX.next ?_
            refine PX.thenN ?_
            refine CX.cond rfl (fun hb12 => ?_) (fun hb12 => ?_)
            · try simp at hb12
              refine CX.region ?_
              refine LX.pure (Y.move rfl) rfl rfl rfl ?_
              first
                | refine LX.pure (Y.addN rfl rfl (by first | omega | (simp only []; omega) | (simp; done) | (simp; omega))) rfl rfl rfl ?_
                | refine LX.pure (Y.add rfl rfl (by first | omega | (simp only []; omega) | (simp; done) | (simp; omega))) rfl rfl rfl ?_
              refine LX.pure (Y.assign rfl) rfl rfl rfl ?_
              refine LX.sub (l' := [(0, _), (6, _), (11, _), (13, _), (14, _), (15, _)]) ⟨rfl, rfl, rfl, rfl, rfl, rfl, trivial⟩ ?_
              refine LX.next ?_
              refine PX.blockN ?_
              refine PX.blockN ?_
              refine PX.thenN ?_
              refine CX.region ?_
              refine LX.pure (Y.move rfl) rfl rfl rfl ?_
              first
                | refine LX.pure (Y.addN rfl rfl (by first | omega | (simp only []; omega) | (simp; done) | (simp; omega))) rfl rfl rfl ?_
                | refine LX.pure (Y.add rfl rfl (by first | omega | (simp only []; omega) | (simp; done) | (simp; omega))) rfl rfl rfl ?_
              refine LX.pure (Y.assign rfl) rfl rfl rfl ?_
              refine LX.sub (l' := [(0, _), (6, _), (11, _), (13, _), (14, _), (15, _)]) ⟨rfl, rfl, rfl, rfl, rfl, rfl, trivial⟩ ?_
              refine LX.next ?_
              exact PX.again (L := (fun t : Nat × Int × Nat => [(0, .slice av n c), (6, rv gd (stB ns n).dep.length cd), (11, rv gt ts.length ct), (13, .int .i64 t.2.1), (14, .int .i64 (t.2.2 : Int)), (15, .int .i64 (t.1 : Int))])) (WW := (fun (t : Nat × Int × Nat) w => (t.1 ≤ ts.length ∧ (-(t.1 : Int) ≤ t.2.1 ∧ t.2.1 ≤ t.1) ∧ t.2.2 ≤ t.1 ∧ walkB (stB ns n).dep ((ts.map (·.kind)).drop t.1) t.2.1 t.2.2 = some (0, n)) ∧ WA w0 base (.row gt ct ts.length 46 3 (ts.flatMap tokC) :: nrow go co (stB ns n).op :: nrow gd cd (stB ns n).dep :: fr) w)) (μ := fun t => ts.length - t.1) (i := (k, now, line)) (k + 1, now + 1, line) (by show ts.length - (k + 1) < ts.length - k; omega) ⟨rfl, rfl, rfl, rfl, rfl, rfl, trivial⟩ (fun w hw => ⟨⟨by show k + 1 ≤ _; omega, ⟨by show _ ≤ _; dsimp only; omega, by show _ ≤ _; dsimp only; omega⟩, by dsimp only; omega, by dsimp only; rw [if_pos hb12] at hwk; exact hwk⟩, hw⟩)
            · try simp at hb12
              refine CX.seq ?_
              refine CX.region ?_
              first
                | refine LX.pure (Y.eqN rfl rfl) rfl rfl rfl ?_
                | refine LX.pure (Y.eqI rfl rfl) rfl rfl rfl ?_
              refine LX.pure (Y.assign rfl) rfl rfl rfl ?_
              refine LX.sub (l' := [(0, _), (6, _), (11, _), (13, _), (14, _), (15, _), (116, _), (121, _)]) ⟨rfl, rfl, rfl, rfl, rfl, rfl, rfl, rfl, trivial⟩ ?_
              refine LX.next ?_
              refine PX.thenN ?_
              refine CX.cond rfl (fun hb13 => ?_) (fun hb13 => ?_)
              · try simp at hb13
                refine CX.region ?_
                refine LX.pure (Y.move rfl) rfl rfl rfl ?_
                first
                  | refine LX.pure (Y.subN rfl rfl (by first | omega | (simp only []; omega) | (simp; done) | (simp; omega)) (by first | omega | (simp only []; omega) | (simp; done) | (simp; omega))) rfl rfl rfl ?_
                  | refine LX.pure (Y.sub rfl rfl (by first | omega | (simp only []; omega) | (simp; done) | (simp; omega))) rfl rfl rfl ?_
                refine LX.pure (Y.assign rfl) rfl rfl rfl ?_
                refine LX.sub (l' := [(0, _), (6, _), (11, _), (13, _), (14, _), (15, _)]) ⟨rfl, rfl, rfl, rfl, rfl, rfl, trivial⟩ ?_
                refine LX.next ?_
                refine PX.blockN ?_
                refine PX.blockN ?_
                refine PX.thenN ?_
                refine CX.region ?_
                refine LX.pure (Y.move rfl) rfl rfl rfl ?_
                first
                  | refine LX.pure (Y.addN rfl rfl (by first | omega | (simp only []; omega) | (simp; done) | (simp; omega))) rfl rfl rfl ?_
                  | refine LX.pure (Y.add rfl rfl (by first | omega | (simp only []; omega) | (simp; done) | (simp; omega))) rfl rfl rfl ?_
                refine LX.pure (Y.assign rfl) rfl rfl rfl ?_
                refine LX.sub (l' := [(0, _), (6, _), (11, _), (13, _), (14, _), (15, _)]) ⟨rfl, rfl, rfl, rfl, rfl, rfl, trivial⟩ ?_
                refine LX.next ?_
                exact PX.again (L := (fun t : Nat × Int × Nat => [(0, .slice av n c), (6, rv gd (stB ns n).dep.length cd), (11, rv gt ts.length ct), (13, .int .i64 t.2.1), (14, .int .i64 (t.2.2 : Int)), (15, .int .i64 (t.1 : Int))])) (WW := (fun (t : Nat × Int × Nat) w => (t.1 ≤ ts.length ∧ (-(t.1 : Int) ≤ t.2.1 ∧ t.2.1 ≤ t.1) ∧ t.2.2 ≤ t.1 ∧ walkB (stB ns n).dep ((ts.map (·.kind)).drop t.1) t.2.1 t.2.2 = some (0, n)) ∧ WA w0 base (.row gt ct ts.length 46 3 (ts.flatMap tokC) :: nrow go co (stB ns n).op :: nrow gd cd (stB ns n).dep :: fr) w)) (μ := fun t => ts.length - t.1) (i := (k, now, line)) (k + 1, now - 1, line) (by show ts.length - (k + 1) < ts.length - k; omega) ⟨rfl, rfl, rfl, rfl, rfl, rfl, trivial⟩ (fun w hw => ⟨⟨by show k + 1 ≤ _; omega, ⟨by show _ ≤ _; dsimp only; omega, by show _ ≤ _; dsimp only; omega⟩, by dsimp only; omega, by dsimp only; rw [if_neg hb12, if_pos hb13] at hwk; exact hwk⟩, hw⟩)
              · try simp at hb13
                refine CX.seq ?_
                refine CX.region ?_
                first
                  | refine LX.pure (Y.eqN rfl rfl) rfl rfl rfl ?_
                  | refine LX.pure (Y.eqI rfl rfl) rfl rfl rfl ?_
                refine LX.pure (Y.assign rfl) rfl rfl rfl ?_
                refine LX.sub (l' := [(0, _), (6, _), (11, _), (13, _), (14, _), (15, _), (125, _)]) ⟨rfl, rfl, rfl, rfl, rfl, rfl, rfl, trivial⟩ ?_
                refine LX.next ?_
                refine PX.thenN ?_
                refine CX.cond rfl (fun hb14 => ?_) (fun hb14 => ?_)
                · try simp at hb14
                  refine CX.seq ?_
                  refine CX.seq ?_
                  refine CX.region ?_
                  refine LX.pure (Y.move rfl) rfl rfl rfl ?_
                  refine LX.pure (Y.move rfl) rfl rfl rfl ?_
                  refine LX.pure (Y.lenSl rfl F.un25 rfl) rfl rfl rfl ?_
                  first
                    | refine LX.pure (Y.geN rfl rfl) rfl rfl rfl ?_
                    | refine LX.pure (Y.geI rfl rfl) rfl rfl rfl ?_
                  refine LX.pure (Y.move rfl) rfl rfl rfl ?_
                  refine LX.sub (l' := [(0, _), (6, _), (11, _), (13, _), (14, _), (15, _), (131, _)]) ⟨rfl, rfl, rfl, rfl, rfl, rfl, rfl, trivial⟩ ?_
                  apply LX.joinOr 7 138 131 rfl
                  · intro hb15
                    have hb15p := hb15
                    try simp at hb15p
                    refine LX.gF rfl rfl rfl hb15 rfl rfl ?_
                    refine LX.gF rfl rfl rfl hb15 rfl rfl ?_
                    refine LX.gF rfl rfl rfl hb15 rfl rfl ?_
                    refine LX.gF rfl rfl rfl hb15 rfl rfl ?_
                    refine LX.gF rfl rfl rfl hb15 rfl rfl ?_
                    refine LX.gF rfl rfl rfl hb15 rfl rfl ?_
                    refine LX.pure (Y.pickT rfl hb15 rfl) rfl rfl rfl ?_
                    exact LX.left ⟨rfl, rfl, rfl, rfl, rfl, rfl, rfl, rfl, trivial⟩
                  · intro hb15
                    have hb15p := hb15
                    try simp at hb15p
                    refine LX.gT rfl rfl rfl hb15 (Y.move rfl) rfl rfl ?_
                    refine LX.gT rfl rfl rfl hb15 (Y.move rfl) rfl rfl ?_
                    first
                      | refine LX.gT rfl rfl rfl hb15 (Y.idxR 0 F.un25 F.sz3 rfl rfl rfl (by first | omega | (simp only []; omega) | (simp; done) | (simp; omega))) rfl rfl ?_
                      | refine LX.gT rfl rfl rfl hb15 (Y.idxR 1 F.un25 F.sz3 rfl rfl rfl (by first | omega | (simp only []; omega) | (simp; done) | (simp; omega))) rfl rfl ?_
                      | refine LX.gT rfl rfl rfl hb15 (Y.idxR 2 F.un25 F.sz3 rfl rfl rfl (by first | omega | (simp only []; omega) | (simp; done) | (simp; omega))) rfl rfl ?_
                      | refine LX.gT rfl rfl rfl hb15 (Y.idx F.un25 F.sz3 rfl rfl (by first | omega | (simp only []; omega) | (simp; done) | (simp; omega))) rfl rfl ?_
                    refine LX.gT rfl rfl rfl hb15 (Y.ldR 2 (v := natV ((stB ns n).dep.getD line 0)) F.one3 rfl rfl (int_cell (by omega))) rfl rfl ?_
                    refine LX.gT rfl rfl rfl hb15 (Y.move rfl) rfl rfl ?_
                    first
                      | refine LX.gT rfl rfl rfl hb15 (Y.neN rfl rfl) rfl rfl ?_
                      | refine LX.gT rfl rfl rfl hb15 (Y.neI rfl rfl) rfl rfl ?_
                    refine LX.pure (Y.pickF rfl hb15 rfl) rfl rfl rfl ?_
                    exact LX.left ⟨rfl, rfl, rfl, rfl, rfl, rfl, rfl, rfl, trivial⟩
                  refine LX.sub (l' := [(0, _), (6, _), (11, _), (13, _), (14, _), (15, _), (138, _)]) ⟨rfl, rfl, rfl, rfl, rfl, rfl, rfl, trivial⟩ ?_
                  refine LX.next ?_
                  refine PX.thenN ?_
                  refine CX.cond rfl (fun hb16 => ?_) (fun hb16 => ?_)
                  · try simp at hb16
                    exfalso; rw [if_neg hb12, if_neg hb13, if_pos hb14, if_pos (by simpa using hb16)] at hwk; cases hwk
                  · try simp at hb16
                    refine CX.skip ?_
                    refine PX.thenN ?_
                    refine CX.region ?_
                    refine LX.pure (Y.move rfl) rfl rfl rfl ?_
                    first
                      | refine LX.pure (Y.addN rfl rfl (by first | omega | (simp only []; omega) | (simp; done) | (simp; omega))) rfl rfl rfl ?_
                      | refine LX.pure (Y.add rfl rfl (by first | omega | (simp only []; omega) | (simp; done) | (simp; omega))) rfl rfl rfl ?_
                    refine LX.pure (Y.assign rfl) rfl rfl rfl ?_
                    refine LX.sub (l' := [(0, _), (6, _), (11, _), (13, _), (14, _), (15, _)]) ⟨rfl, rfl, rfl, rfl, rfl, rfl, trivial⟩ ?_
                    refine LX.next ?_
                    refine PX.blockN ?_
                    refine PX.blockN ?_
                    refine PX.thenN ?_
                    refine CX.region ?_
                    refine LX.pure (Y.move rfl) rfl rfl rfl ?_
                    first
                      | refine LX.pure (Y.addN rfl rfl (by first | omega | (simp only []; omega) | (simp; done) | (simp; omega))) rfl rfl rfl ?_
                      | refine LX.pure (Y.add rfl rfl (by first | omega | (simp only []; omega) | (simp; done) | (simp; omega))) rfl rfl rfl ?_
                    refine LX.pure (Y.assign rfl) rfl rfl rfl ?_
                    refine LX.sub (l' := [(0, _), (6, _), (11, _), (13, _), (14, _), (15, _)]) ⟨rfl, rfl, rfl, rfl, rfl, rfl, trivial⟩ ?_
                    refine LX.next ?_
                    exact PX.again (L := (fun t : Nat × Int × Nat => [(0, .slice av n c), (6, rv gd (stB ns n).dep.length cd), (11, rv gt ts.length ct), (13, .int .i64 t.2.1), (14, .int .i64 (t.2.2 : Int)), (15, .int .i64 (t.1 : Int))])) (WW := (fun (t : Nat × Int × Nat) w => (t.1 ≤ ts.length ∧ (-(t.1 : Int) ≤ t.2.1 ∧ t.2.1 ≤ t.1) ∧ t.2.2 ≤ t.1 ∧ walkB (stB ns n).dep ((ts.map (·.kind)).drop t.1) t.2.1 t.2.2 = some (0, n)) ∧ WA w0 base (.row gt ct ts.length 46 3 (ts.flatMap tokC) :: nrow go co (stB ns n).op :: nrow gd cd (stB ns n).dep :: fr) w)) (μ := fun t => ts.length - t.1) (i := (k, now, line)) (k + 1, now, line + 1) (by show ts.length - (k + 1) < ts.length - k; omega) ⟨rfl, rfl, rfl, rfl, rfl, rfl, trivial⟩ (fun w hw => ⟨⟨by show k + 1 ≤ _; omega, ⟨by show _ ≤ _; dsimp only; omega, by show _ ≤ _; dsimp only; omega⟩, by dsimp only; omega, by dsimp only; rw [if_neg hb12, if_neg hb13, if_pos hb14, if_neg (by simpa using hb16)] at hwk; exact hwk⟩, hw⟩)
                · try simp at hb14
                  refine CX.skip ?_
                  refine PX.blockN ?_
                  refine PX.blockN ?_
                  refine PX.thenN ?_
                  refine CX.region ?_
                  refine LX.pure (Y.move rfl) rfl rfl rfl ?_
                  first
                    | refine LX.pure (Y.addN rfl rfl (by first | omega | (simp only []; omega) | (simp; done) | (simp; omega))) rfl rfl rfl ?_
                    | refine LX.pure (Y.add rfl rfl (by first | omega | (simp only []; omega) | (simp; done) | (simp; omega))) rfl rfl rfl ?_
                  refine LX.pure (Y.assign rfl) rfl rfl rfl ?_
                  refine LX.sub (l' := [(0, _), (6, _), (11, _), (13, _), (14, _), (15, _)]) ⟨rfl, rfl, rfl, rfl, rfl, rfl, trivial⟩ ?_
                  refine LX.next ?_
                  exact PX.again (L := (fun t : Nat × Int × Nat => [(0, .slice av n c), (6, rv gd (stB ns n).dep.length cd), (11, rv gt ts.length ct), (13, .int .i64 t.2.1), (14, .int .i64 (t.2.2 : Int)), (15, .int .i64 (t.1 : Int))])) (WW := (fun (t : Nat × Int × Nat) w => (t.1 ≤ ts.length ∧ (-(t.1 : Int) ≤ t.2.1 ∧ t.2.1 ≤ t.1) ∧ t.2.2 ≤ t.1 ∧ walkB (stB ns n).dep ((ts.map (·.kind)).drop t.1) t.2.1 t.2.2 = some (0, n)) ∧ WA w0 base (.row gt ct ts.length 46 3 (ts.flatMap tokC) :: nrow go co (stB ns n).op :: nrow gd cd (stB ns n).dep :: fr) w)) (μ := fun t => ts.length - t.1) (i := (k, now, line)) (k + 1, now, line) (by show ts.length - (k + 1) < ts.length - k; omega) ⟨rfl, rfl, rfl, rfl, rfl, rfl, trivial⟩ (fun w hw => ⟨⟨by show k + 1 ≤ _; omega, ⟨by show _ ≤ _; dsimp only; omega, by show _ ≤ _; dsimp only; omega⟩, by dsimp only; omega, by dsimp only; rw [if_neg hb12, if_neg hb13, if_neg hb14] at hwk; exact hwk⟩, hw⟩)
          · try simp at hb11
            have hk4 : k = ts.length := by omega
            subst hk4
            rw [List.drop_of_length_le (by simp), walkB] at hwk
            obtain ⟨h0w, hlw⟩ : now = 0 ∧ line = n := by simpa using hwk
            have hlw2 := hlw.symm
            subst h0w hlw2
            refine CX.exit ?_
            refine PX.thenE ?_
            refine PX.thenE ?_
            refine PX.blockE ?_
            refine PX.thenN ?_
            refine CX.seq ?_
            refine CX.region ?_
            refine LX.pure (Y.move rfl) rfl rfl rfl ?_
            first
              | refine LX.pure (Y.eqN rfl rfl) rfl rfl rfl ?_
              | refine LX.pure (Y.eqI rfl rfl) rfl rfl rfl ?_
            refine LX.pure (Y.move rfl) rfl rfl rfl ?_
            refine LX.sub (l' := [(0, _), (14, _), (143, _)]) ⟨rfl, rfl, rfl, trivial⟩ ?_
            apply LX.joinAnd 5 148 143 rfl
            · intro hb17
              have hb17p := hb17
              try simp at hb17p
              refine LX.gT rfl rfl rfl hb17 (Y.move rfl) rfl rfl ?_
              refine LX.gT rfl rfl rfl hb17 (Y.move rfl) rfl rfl ?_
              refine LX.gT rfl rfl rfl hb17 (Y.lenSl rfl F.un25 rfl) rfl rfl ?_
              first
                | refine LX.gT rfl rfl rfl hb17 (Y.eqN rfl rfl) rfl rfl ?_
                | refine LX.gT rfl rfl rfl hb17 (Y.eqI rfl rfl) rfl rfl ?_
              refine LX.pure (Y.pickT rfl hb17 rfl) rfl rfl rfl ?_
              exact LX.left ⟨rfl, rfl, rfl, rfl, trivial⟩
            · intro hb17
              exact absurd hb17 (by decide)
            refine LX.pure (Y.assign rfl) rfl rfl rfl ?_
            refine LX.sub (l' := [(2, _)]) ⟨rfl, trivial⟩ ?_
            refine LX.next ?_
            refine PX.thenN ?_
            refine CX.ret ?_
            refine PX.ret1 (by simp) Tryd.results6 rfl ?_
            exact fun w hw => ⟨(), by simp, hw.drop ((((List.Sublist.refl fr).cons _).cons _).cons _)⟩

end Go.Proofs.YtggoogbloaennaaDoor
