/-
  Proved here: the walk of the statement LexBrackets.
-/
import Derived.Test.YtggoogbloaennaaDoorFk
import Derived.Test.YtggoogbloaennaaDoorLawA
import Derived.Test.YtggoogbloaennaaDoorSee
import Derived.Test.YtggoogbloaennaaDoorBrkP
namespace Go.Proofs.YtggoogbloaennaaDoor
open Go.SX Go.RowKit Go.Lex
theorem brackets_c {w0 : World} {base : Nat} {fr : List It} {aE : Nat → Addr} {eLim : Value} (hE : EnvLex w0 base (errV (aE 0))) (hM : EnvLim w0 base eLim) (hS : EnvS w0 base aE) {av : Option Addr} {n : Nat} (c : Nat) {zs : List Int} (hA : IntsAt w0 base av n zs) (bend : Int) : FnC Tryd.prog 8 #[.slice av n c, .int .i64 bend] (WA w0 base fr) (fun _ : Unit => .bool true) (fun _ => WA w0 base fr) := by
  refine FnC.of_body (fn := Tryd.f8) [(0, _), (1, _)] Tryd.func8 rfl Tryd.ntmps8 rfl ⟨rfl, rfl, trivial⟩ ?_
  refine CX.seq ?_
  refine CX.region ?_
  refine LX.pure (Y.assign rfl) rfl rfl rfl ?_
  refine LX.sub (l' := [(0, _), (1, _), (4, _)]) ⟨rfl, rfl, rfl, trivial⟩ ?_
  refine LX.next ?_
  refine PX.thenN ?_
  refine CX.seq ?_
  refine CX.region ?_
  refine LX.call (first_c hE hM) F.en19 rfl rfl rfl rfl rfl ?_
  intro _
  refine LX.pure (Y.assign rfl) rfl rfl rfl ?_
  refine LX.sub (l' := [(0, _), (1, _), (4, _), (5, _)]) ⟨rfl, rfl, rfl, rfl, trivial⟩ ?_
  refine LX.next ?_
  refine PX.thenN ?_
  refine CX.seq ?_
  refine CX.seq ?_
  refine CX.region ?_
  refine LX.pure (Y.move rfl) rfl rfl rfl ?_
  refine LX.pure (Y.not rfl) rfl rfl rfl ?_
  refine LX.sub (l' := [(0, _), (1, _), (4, _), (5, _), (26, _)]) ⟨rfl, rfl, rfl, rfl, rfl, trivial⟩ ?_
  refine LX.next ?_
  refine PX.thenN ?_
  refine CX.cond rfl (fun hb1 => ?_) (fun hb1 => ?_)
  · try simp at hb1
    first | done | cases hb1
  · try simp at hb1
    refine CX.skip ?_
    refine PX.thenN ?_
    refine CX.seq ?_
    refine CX.seq ?_
    refine CX.region ?_
    refine LX.pure (Y.move rfl) rfl rfl rfl ?_
    refine LX.pure (Y.lenSl rfl F.un25 rfl) rfl rfl rfl ?_
    first
      | refine LX.pure (Y.gtN rfl rfl) rfl rfl rfl ?_
      | refine LX.pure (Y.gtI rfl rfl) rfl rfl rfl ?_
    refine LX.pure (Y.move rfl) rfl rfl rfl ?_
    refine LX.sub (l' := [(0, _), (1, _), (4, _), (5, _), (30, _)]) ⟨rfl, rfl, rfl, rfl, rfl, trivial⟩ ?_
    apply LX.joinOr 3 33 30 rfl
    · intro hb2
      have hb2p := hb2
      try simp at hb2p
      refine LX.gF rfl rfl rfl hb2 rfl rfl ?_
      refine LX.gF rfl rfl rfl hb2 rfl rfl ?_
      refine LX.pure (Y.pickT rfl hb2 rfl) rfl rfl rfl ?_
      exact LX.left ⟨rfl, rfl, rfl, rfl, rfl, rfl, trivial⟩
    · intro hb2
      have hb2p := hb2
      try simp at hb2p
      refine LX.gT rfl rfl rfl hb2 (Y.move rfl) rfl rfl ?_
      refine LX.gT rfl rfl rfl hb2 (Y.not rfl) rfl rfl ?_
      refine LX.pure (Y.pickF rfl hb2 rfl) rfl rfl rfl ?_
      exact LX.left ⟨rfl, rfl, rfl, rfl, rfl, rfl, trivial⟩
    refine LX.sub (l' := [(0, _), (1, _), (4, _), (5, _), (33, _)]) ⟨rfl, rfl, rfl, rfl, rfl, trivial⟩ ?_
    refine LX.next ?_
    refine PX.thenN ?_
    refine CX.cond rfl (fun hb3 => ?_) (fun hb3 => ?_)
    · try simp at hb3
      refine CX.seq ?_
      refine CX.region ?_
      refine LX.pure (Y.move rfl) rfl rfl rfl ?_
      refine LX.pure (Y.assign rfl) rfl rfl rfl ?_
      refine LX.sub (l' := [(0, _), (1, _), (4, _)]) ⟨rfl, rfl, rfl, trivial⟩ ?_
      refine LX.next ?_
      refine PX.thenN ?_
      refine CX.ret ?_
      refine PX.thenR ?_
      refine PX.ret1 (by simp) Tryd.results8 rfl ?_
      exact fun w hw => ⟨(), rfl, hw⟩
    · try simp at hb3
      have hn40 : n ≤ 40 := hb3
      refine CX.skip ?_
      refine PX.thenN ?_
      refine CX.seq ?_
      refine CX.region ?_
      refine LX.pure (Y.assign rfl) rfl rfl rfl ?_
      refine LX.sub (l' := [(0, _), (1, _), (4, _), (6, _)]) ⟨rfl, rfl, rfl, rfl, trivial⟩ ?_
      refine LX.next ?_
      refine PX.thenN ?_
      refine CX.seq ?_
      refine CX.region ?_
      refine LX.pure (Y.assign rfl) rfl rfl rfl ?_
      refine LX.sub (l' := [(0, _), (1, _), (4, _), (6, _), (7, _)]) ⟨rfl, rfl, rfl, rfl, rfl, trivial⟩ ?_
      refine LX.next ?_
      refine PX.thenN ?_
      refine CX.seq ?_
      refine CX.region ?_
      refine LX.pure (Y.assign rfl) rfl rfl rfl ?_
      refine LX.sub (l' := [(0, _), (1, _), (4, _), (6, _), (7, _), (8, _)]) ⟨rfl, rfl, rfl, rfl, rfl, rfl, trivial⟩ ?_
      refine LX.next ?_
      refine PX.thenN ?_
      refine CX.seq ?_
      refine CX.region ?_
      refine LX.pure (Y.assign rfl) rfl rfl rfl ?_
      refine LX.sub (l' := [(0, _), (1, _), (4, _), (6, _), (7, _), (8, _), (9, _)]) ⟨rfl, rfl, rfl, rfl, rfl, rfl, rfl, trivial⟩ ?_
      refine LX.next ?_
      refine PX.thenN ?_
      refine CX.seq ?_
      refine CX.seq ?_
      refine CX.region ?_
      refine LX.world (fun w hw => hw.nilRow 3 1) ?_
      refine LX.pure (Y.assign rfl) rfl rfl rfl ?_
      refine LX.sub (l' := [(0, _), (1, _), (4, _), (6, _), (7, _), (8, _), (9, _), (10, _)]) ⟨rfl, rfl, rfl, rfl, rfl, rfl, rfl, rfl, trivial⟩ ?_
      refine LX.next ?_
      refine PX.thenN ?_
      refine CX.block ?_
      refine CX.loop (τ := Nat × Option Nat × Nat) (fun t : Nat × Option Nat × Nat => [(0, .slice av n c), (1, .int .i64 bend), (6, str [40, 91, 123]), (7, str [41, 93, 125]), (8, str (stK zs t.1).text), (9, rv t.2.1 (stK zs t.1).op.length t.2.2), (10, .int .i64 (t.1 : Int))]) (fun (t : Nat × Option Nat × Nat) w => t.1 ≤ n ∧ WA w0 base (nrow t.2.1 t.2.2 (stK zs t.1).op :: fr) w) (fun t => n - t.1) (0, none, 0) ⟨rfl, rfl, rfl, rfl, rfl, rfl, rfl, trivial⟩ (fun w hw => ⟨Nat.zero_le _, hw⟩) ?_
      rintro ⟨k, go, co⟩
      refine CX.have fun hk => ?_
      dsimp only at hk ⊢
      have hI := stK_inv zs k
      have hdp := hI.deep
      have hln := hI.len
      have hsub := hI.sub
      have hz3 := nOf3_lt (zs.getD k 0)
      refine CX.seq ?_
      refine CX.seq ?_
      refine CX.region ?_
      refine LX.pure (Y.move rfl) rfl rfl rfl ?_
      refine LX.pure (Y.move rfl) rfl rfl rfl ?_
      refine LX.pure (Y.lenSl rfl F.un25 rfl) rfl rfl rfl ?_
      first
        | refine LX.pure (Y.ltN rfl rfl) rfl rfl rfl ?_
        | refine LX.pure (Y.ltI rfl rfl) rfl rfl rfl ?_
      refine LX.sub (l' := [(0, _), (1, _), (6, _), (7, _), (8, _), (9, _), (10, _), (38, _)]) ⟨rfl, rfl, rfl, rfl, rfl, rfl, rfl, rfl, trivial⟩ ?_
      refine LX.next ?_
      refine PX.thenN ?_
      refine CX.cond rfl (fun hb4 => ?_) (fun hb4 => ?_)
      · try simp at hb4
        have hkn : k < n := hb4
        obtain ⟨a, hav, hab, hac⟩ := hA.at_ k hkn
        refine CX.skip ?_
        refine PX.thenN ?_
        refine CX.seq ?_
        refine CX.block ?_
        refine CX.seq ?_
        refine CX.region ?_
        refine LX.pure (Y.move (v := .slice (some a) n c) (congrArg (fun v => some (Value.slice v n c)) hav)) rfl rfl rfl ?_
        refine LX.pure (Y.move rfl) rfl rfl rfl ?_
        refine LX.pure (Y.idxA F.un25 F.sz3 rfl rfl hkn) rfl rfl rfl ?_
        refine LX.pure (Y.ldO F.one3 rfl hac hab) rfl rfl rfl ?_
        first
          | refine LX.pure (Y.remN rfl rfl (by first | omega | (simp only []; omega) | (simp; done) | (simp; omega))) rfl rfl rfl ?_
          | refine LX.pure (Y.rem rfl rfl (by decide)) rfl rfl rfl ?_
        refine LX.pure (Y.add (a := Int.tmod (zs.getD k 0) 3) (b := 3) rfl rfl (by have := tmod_bd' (zs.getD k 0) (m := 3) (by decide); omega)) rfl rfl rfl ?_
        first
          | refine LX.pure (Y.remN rfl rfl (by first | omega | (simp only []; omega) | (simp; done) | (simp; omega))) rfl rfl rfl ?_
          | refine LX.pure (Y.rem rfl rfl (by decide)) rfl rfl rfl ?_
        refine LX.pure (Y.assign (v := .int .i64 ((nOf3 (zs.getD k 0) : Nat) : Int)) (congrArg (fun z => some (Value.int .i64 z)) (nOf3_eq (zs.getD k 0)))) rfl rfl rfl ?_
        refine LX.sub (l' := [(0, _), (1, _), (6, _), (7, _), (8, _), (9, _), (10, _), (11, _)]) ⟨rfl, rfl, rfl, rfl, rfl, rfl, rfl, rfl, trivial⟩ ?_
        refine LX.next ?_
        refine PX.thenN ?_
        refine CX.seq ?_
        refine CX.seq ?_
        refine CX.region ?_
        refine LX.pure (Y.move rfl) rfl rfl rfl ?_
        refine LX.pure (Y.lenSl rfl F.un25 rfl) rfl rfl rfl ?_
        first
          | refine LX.pure (Y.gtN rfl rfl) rfl rfl rfl ?_
          | refine LX.pure (Y.gtI rfl rfl) rfl rfl rfl ?_
        refine LX.pure (Y.move rfl) rfl rfl rfl ?_
        refine LX.sub (l' := [(0, _), (1, _), (6, _), (7, _), (8, _), (9, _), (10, _), (11, _), (51, _)]) ⟨rfl, rfl, rfl, rfl, rfl, rfl, rfl, rfl, rfl, trivial⟩ ?_
        apply LX.joinAnd 7 58 51 rfl
        · intro hb5
          have hb5p := hb5
          try simp at hb5p
          refine LX.gT rfl rfl rfl hb5 (Y.move (v := .slice (some a) n c) (congrArg (fun v => some (Value.slice v n c)) hav)) rfl rfl ?_
          refine LX.gT rfl rfl rfl hb5 (Y.move rfl) rfl rfl ?_
          refine LX.gT rfl rfl rfl hb5 (Y.idxA F.un25 F.sz3 rfl rfl hkn) rfl rfl ?_
          refine LX.gT rfl rfl rfl hb5 (Y.ldO F.one3 rfl hac hab) rfl rfl ?_
          refine LX.gT rfl rfl rfl hb5 (Y.andI rfl rfl) rfl rfl ?_
          first
            | refine LX.gT rfl rfl rfl hb5 (Y.neN rfl rfl) rfl rfl ?_
            | refine LX.gT rfl rfl rfl hb5 (Y.neI rfl rfl) rfl rfl ?_
          refine LX.pure (Y.pickT rfl hb5 rfl) rfl rfl rfl ?_
          exact LX.left ⟨rfl, rfl, rfl, rfl, rfl, rfl, rfl, rfl, rfl, rfl, trivial⟩
        · intro hb5
          have hb5p := hb5
          try simp at hb5p
          refine LX.gF rfl rfl rfl hb5 rfl rfl ?_
          refine LX.gF rfl rfl rfl hb5 rfl rfl ?_
          refine LX.gF rfl rfl rfl hb5 rfl rfl ?_
          refine LX.gF rfl rfl rfl hb5 rfl rfl ?_
          refine LX.gF rfl rfl rfl hb5 rfl rfl ?_
          refine LX.gF rfl rfl rfl hb5 rfl rfl ?_
          refine LX.pure (Y.pickF rfl hb5 rfl) rfl rfl rfl ?_
          exact LX.left ⟨rfl, rfl, rfl, rfl, rfl, rfl, rfl, rfl, rfl, rfl, trivial⟩
        refine LX.sub (l' := [(0, _), (1, _), (6, _), (7, _), (8, _), (9, _), (10, _), (11, _), (58, _)]) ⟨rfl, rfl, rfl, rfl, rfl, rfl, rfl, rfl, rfl, trivial⟩ ?_
        refine LX.next ?_
        refine PX.thenN ?_
        refine CX.cond rfl (fun hb6 => ?_) (fun hb6 => ?_)
        · try simp at hb6
          have hc : 0 < (stK zs k).op.length ∧ bitB (zs.getD k 0) 4 = true := by simpa [bitB] using hb6
          have hc1 := hc.1
          have hl3 := hsub _ (lastD_mem hc1)
          refine CX.seq ?_
          refine CX.region ?_
          refine LX.pure (Y.move rfl) rfl rfl rfl ?_
          refine LX.pure (Y.move rfl) rfl rfl rfl ?_
          refine LX.pure (Y.lenSl rfl F.un25 rfl) rfl rfl rfl ?_
          first
            | refine LX.pure (Y.subN rfl rfl (by first | omega | (simp only []; omega) | (simp; done) | (simp; omega)) (by first | omega | (simp only []; omega) | (simp; done) | (simp; omega))) rfl rfl rfl ?_
            | refine LX.pure (Y.sub rfl rfl (by first | omega | (simp only []; omega) | (simp; done) | (simp; omega))) rfl rfl rfl ?_
          first
            | refine LX.pure (Y.idxR 0 F.un25 F.sz3 rfl rfl rfl (by first | omega | (simp only []; omega) | (simp; done) | (simp; omega))) rfl rfl rfl ?_
            | refine LX.pure (Y.idxR 1 F.un25 F.sz3 rfl rfl rfl (by first | omega | (simp only []; omega) | (simp; done) | (simp; omega))) rfl rfl rfl ?_
            | refine LX.pure (Y.idxR 2 F.un25 F.sz3 rfl rfl rfl (by first | omega | (simp only []; omega) | (simp; done) | (simp; omega))) rfl rfl rfl ?_
            | refine LX.pure (Y.idxR 3 F.un25 F.sz3 rfl rfl rfl (by first | omega | (simp only []; omega) | (simp; done) | (simp; omega))) rfl rfl rfl ?_
            | refine LX.pure (Y.idx F.un25 F.sz3 rfl rfl (by first | omega | (simp only []; omega) | (simp; done) | (simp; omega))) rfl rfl rfl ?_
          refine LX.pure (Y.ldR 0 (v := natV ((stK zs k).op.getLastD 0)) F.one3 rfl rfl (row_last hc.1)) rfl rfl rfl ?_
          refine LX.pure (Y.assign (v := .int .i64 (((stK zs k).op.getLastD 0 : Nat) : Int)) rfl) rfl rfl rfl ?_
          refine LX.sub (l' := [(0, _), (1, _), (6, _), (7, _), (8, _), (9, _), (10, _), (11, _), (12, _)]) ⟨rfl, rfl, rfl, rfl, rfl, rfl, rfl, rfl, rfl, trivial⟩ ?_
          refine LX.next ?_
          refine PX.thenN ?_
          refine CX.seq ?_
          refine CX.region ?_
          refine LX.pure (Y.move rfl) rfl rfl rfl ?_
          refine LX.pure (Y.move rfl) rfl rfl rfl ?_
          refine LX.pure (Y.lenSl rfl F.un25 rfl) rfl rfl rfl ?_
          first
            | refine LX.pure (Y.subN rfl rfl (by first | omega | (simp only []; omega) | (simp; done) | (simp; omega)) (by first | omega | (simp only []; omega) | (simp; done) | (simp; omega))) rfl rfl rfl ?_
            | refine LX.pure (Y.sub rfl rfl (by first | omega | (simp only []; omega) | (simp; done) | (simp; omega))) rfl rfl rfl ?_
          first
            | refine LX.pure (Y.cutR 0 F.un25 F.sz3 rfl rfl rfl (by first | omega | (simp only []; omega) | (simp; done) | (simp; omega))) rfl rfl rfl ?_
            | refine LX.pure (Y.cutR 1 F.un25 F.sz3 rfl rfl rfl (by first | omega | (simp only []; omega) | (simp; done) | (simp; omega))) rfl rfl rfl ?_
            | refine LX.pure (Y.cutR 2 F.un25 F.sz3 rfl rfl rfl (by first | omega | (simp only []; omega) | (simp; done) | (simp; omega))) rfl rfl rfl ?_
            | refine LX.pure (Y.cutR 3 F.un25 F.sz3 rfl rfl rfl (by first | omega | (simp only []; omega) | (simp; done) | (simp; omega))) rfl rfl rfl ?_
            | refine LX.pure (Y.cutHi F.un25 F.sz3 rfl rfl (by first | omega | (simp only []; omega) | (simp; done) | (simp; omega))) rfl rfl rfl ?_
          refine LX.pure (Y.assign rfl) rfl rfl rfl ?_
          refine LX.sub (l' := [(0, _), (1, _), (6, _), (7, _), (8, _), (9, _), (10, _), (11, _), (12, _)]) ⟨rfl, rfl, rfl, rfl, rfl, rfl, rfl, rfl, rfl, trivial⟩ ?_
          refine LX.next ?_
          refine PX.thenN ?_
          refine CX.seq ?_
          refine CX.region ?_
          refine LX.pure (Y.move rfl) rfl rfl rfl ?_
          refine LX.pure (Y.move rfl) rfl rfl rfl ?_
          refine LX.pure (Y.move rfl) rfl rfl rfl ?_
          refine LX.pure (Y.move rfl) rfl rfl rfl ?_
          first
            | refine LX.pure (Y.addN rfl rfl (by first | omega | (simp only []; omega) | (simp; done) | (simp; omega))) rfl rfl rfl ?_
            | refine LX.pure (Y.add rfl rfl (by first | omega | (simp only []; omega) | (simp; done) | (simp; omega))) rfl rfl rfl ?_
          refine LX.pure (show Y _ _ _ _ _ (str [clC ((stK zs k).op.getLastD 0)]) from by rw [← cl_slice _ hl3]; exact Y.slice rfl rfl rfl F.un9 (by omega) (by show _ + 1 ≤ 3; omega)) rfl rfl rfl ?_
          first
            | refine LX.pure (Y.addS rfl rfl (by simp only [List.length_append, List.length_cons, List.length_nil]; omega)) rfl rfl rfl ?_
            | refine LX.pure (Y.addS rfl rfl (by first | omega | (simp only []; omega) | (simp; done) | (simp; omega))) rfl rfl rfl ?_
          first
            | refine LX.pure (Y.addS rfl rfl (by simp only [List.length_append, List.length_cons, List.length_nil]; omega)) rfl rfl rfl ?_
            | refine LX.pure (Y.addS rfl rfl (by first | omega | (simp only []; omega) | (simp; done) | (simp; omega))) rfl rfl rfl ?_
          refine LX.pure (Y.assign rfl) rfl rfl rfl ?_
          refine LX.sub (l' := [(0, _), (1, _), (6, _), (7, _), (8, _), (9, _), (10, _), (11, _)]) ⟨rfl, rfl, rfl, rfl, rfl, rfl, rfl, rfl, trivial⟩ ?_
          refine LX.next ?_
          refine PX.thenN ?_
          refine CX.seq ?_
          refine CX.seq ?_
          refine CX.region ?_
          refine LX.pure (Y.move rfl) rfl rfl rfl ?_
          refine LX.pure (Y.lenSl rfl F.un25 rfl) rfl rfl rfl ?_
          first
            | refine LX.pure (Y.eqN rfl rfl) rfl rfl rfl ?_
            | refine LX.pure (Y.eqI rfl rfl) rfl rfl rfl ?_
          refine LX.sub (l' := [(0, _), (1, _), (6, _), (7, _), (8, _), (9, _), (10, _), (11, _), (80, _)]) ⟨rfl, rfl, rfl, rfl, rfl, rfl, rfl, rfl, rfl, trivial⟩ ?_
          refine LX.next ?_
          refine PX.thenN ?_
          refine CX.cond rfl (fun hb7 => ?_) (fun hb7 => ?_)
          · try simp at hb7
            refine CX.region ?_
            refine LX.pure (Y.move rfl) rfl rfl rfl ?_
            refine LX.pure (Y.move rfl) rfl rfl rfl ?_
            refine LX.pure (Y.lenStr rfl F.un9 rfl) rfl rfl rfl ?_
            first
              | refine LX.pure (Y.subN rfl rfl (by first | omega | (simp only []; omega) | (simp; done) | (simp; omega)) (by first | omega | (simp only []; omega) | (simp; done) | (simp; omega))) rfl rfl rfl ?_
              | refine LX.pure (Y.sub rfl rfl (by first | omega | (simp only []; omega) | (simp; done) | (simp; omega))) rfl rfl rfl ?_
            refine LX.pure (Y.sliceHi rfl rfl F.un9 (by first | omega | (simp only []; omega) | (simp; done) | (simp; omega))) rfl rfl rfl ?_
            refine LX.pure (Y.assign rfl) rfl rfl rfl ?_
            refine LX.sub (l' := [(0, _), (1, _), (6, _), (7, _), (8, _), (9, _), (10, _), (11, _)]) ⟨rfl, rfl, rfl, rfl, rfl, rfl, rfl, rfl, trivial⟩ ?_
            refine LX.next ?_
            refine PX.thenN ?_
            refine CX.exit ?_
            refine PX.thenE ?_
            refine PX.blockE ?_
            refine PX.thenN ?_
            refine CX.region ?_
            refine LX.pure (Y.move rfl) rfl rfl rfl ?_
            first
              | refine LX.pure (Y.addN rfl rfl (by first | omega | (simp only []; omega) | (simp; done) | (simp; omega))) rfl rfl rfl ?_
              | refine LX.pure (Y.add rfl rfl (by first | omega | (simp only []; omega) | (simp; done) | (simp; omega))) rfl rfl rfl ?_
            refine LX.pure (Y.assign rfl) rfl rfl rfl ?_
            refine LX.sub (l' := [(0, _), (1, _), (6, _), (7, _), (8, _), (9, _), (10, _)]) ⟨rfl, rfl, rfl, rfl, rfl, rfl, rfl, trivial⟩ ?_
            refine LX.next ?_
            exact PX.again (L := (fun t : Nat × Option Nat × Nat => [(0, .slice av n c), (1, .int .i64 bend), (6, str [40, 91, 123]), (7, str [41, 93, 125]), (8, str (stK zs t.1).text), (9, rv t.2.1 (stK zs t.1).op.length t.2.2), (10, .int .i64 (t.1 : Int))])) (WW := (fun (t : Nat × Option Nat × Nat) w => t.1 ≤ n ∧ WA w0 base (nrow t.2.1 t.2.2 (stK zs t.1).op :: fr) w)) (μ := fun t => n - t.1) (i := (k, go, co)) (k + 1, go, co) (by show n - (k + 1) < n - k; omega) ⟨rfl, rfl, rfl, rfl, by show _ = some (str (stK zs (k + 1)).text); rw [stK_c1 hc hb7]; rfl, by show _ = some (rv _ (stK zs (k + 1)).op.length _); rw [stK_cl hc]; rfl, rfl, trivial⟩ (fun w hw => ⟨by show k + 1 ≤ n; omega, by show WA w0 base (nrow _ _ (stK zs (k + 1)).op :: fr) w; rw [stK_co hc]; exact nrow_cut hw (by omega)⟩)
          · try simp at hb7
            refine CX.skip ?_
            refine PX.thenN ?_
            refine CX.exit ?_
            refine PX.thenE ?_
            refine PX.blockE ?_
            refine PX.thenN ?_
            refine CX.region ?_
            refine LX.pure (Y.move rfl) rfl rfl rfl ?_
            first
              | refine LX.pure (Y.addN rfl rfl (by first | omega | (simp only []; omega) | (simp; done) | (simp; omega))) rfl rfl rfl ?_
              | refine LX.pure (Y.add rfl rfl (by first | omega | (simp only []; omega) | (simp; done) | (simp; omega))) rfl rfl rfl ?_
            refine LX.pure (Y.assign rfl) rfl rfl rfl ?_
            refine LX.sub (l' := [(0, _), (1, _), (6, _), (7, _), (8, _), (9, _), (10, _)]) ⟨rfl, rfl, rfl, rfl, rfl, rfl, rfl, trivial⟩ ?_
            refine LX.next ?_
            exact PX.again (L := (fun t : Nat × Option Nat × Nat => [(0, .slice av n c), (1, .int .i64 bend), (6, str [40, 91, 123]), (7, str [41, 93, 125]), (8, str (stK zs t.1).text), (9, rv t.2.1 (stK zs t.1).op.length t.2.2), (10, .int .i64 (t.1 : Int))])) (WW := (fun (t : Nat × Option Nat × Nat) w => t.1 ≤ n ∧ WA w0 base (nrow t.2.1 t.2.2 (stK zs t.1).op :: fr) w)) (μ := fun t => n - t.1) (i := (k, go, co)) (k + 1, go, co) (by show n - (k + 1) < n - k; omega) ⟨rfl, rfl, rfl, rfl, by show _ = some (str (stK zs (k + 1)).text); rw [stK_c2 hc hb7]; rfl, by show _ = some (rv _ (stK zs (k + 1)).op.length _); rw [stK_cl hc]; rfl, rfl, trivial⟩ (fun w hw => ⟨by show k + 1 ≤ n; omega, by show WA w0 base (nrow _ _ (stK zs (k + 1)).op :: fr) w; rw [stK_co hc]; exact nrow_cut hw (by omega)⟩)
        · try simp at hb6
          have hc : ¬ (0 < (stK zs k).op.length ∧ bitB (zs.getD k 0) 4 = true) := by simpa [bitB] using hb6
          refine CX.skip ?_
          refine PX.thenN ?_
          refine CX.seq ?_
          refine CX.region ?_
          refine LX.pure (Y.move rfl) rfl rfl rfl ?_
          refine LX.pure (Y.move rfl) rfl rfl rfl ?_
          refine LX.pure (Y.move rfl) rfl rfl rfl ?_
          refine LX.pure (Y.move rfl) rfl rfl rfl ?_
          first
            | refine LX.pure (Y.addN rfl rfl (by first | omega | (simp only []; omega) | (simp; done) | (simp; omega))) rfl rfl rfl ?_
            | refine LX.pure (Y.add rfl rfl (by first | omega | (simp only []; omega) | (simp; done) | (simp; omega))) rfl rfl rfl ?_
          refine LX.pure (show Y _ _ _ _ _ (str [opC (nOf3 (zs.getD k 0))]) from by rw [← op_slice _ hz3]; exact Y.slice rfl rfl rfl F.un9 (by omega) (by show _ + 1 ≤ 3; omega)) rfl rfl rfl ?_
          first
            | refine LX.pure (Y.addS rfl rfl (by simp only [List.length_append, List.length_cons, List.length_nil]; omega)) rfl rfl rfl ?_
            | refine LX.pure (Y.addS rfl rfl (by first | omega | (simp only []; omega) | (simp; done) | (simp; omega))) rfl rfl rfl ?_
          refine LX.pure (Y.assign rfl) rfl rfl rfl ?_
          refine LX.sub (l' := [(0, _), (1, _), (6, _), (7, _), (8, _), (9, _), (10, _), (11, _)]) ⟨rfl, rfl, rfl, rfl, rfl, rfl, rfl, rfl, trivial⟩ ?_
          refine LX.next ?_
          refine PX.thenN ?_
          refine CX.seq ?_
          refine CX.region ?_
          refine LX.pure (Y.move rfl) rfl rfl rfl ?_
          refine LX.pure (Y.move rfl) rfl rfl rfl ?_
          refine LX.buildSlice (e := 3) (size := 1) rfl rfl (fun _ => by kernel_rfl) rfl (by decide) rfl rfl rfl ?_
          intro gt91
          first
            | refine LX.appendT 0 F.el25 rfl rfl rfl rfl rfl rfl rfl (by first | omega | (dsimp only; omega)) (by first | omega | (dsimp only; omega)) rfl rfl rfl ?_
            | refine LX.appendT 1 F.el25 rfl rfl rfl rfl rfl rfl rfl (by first | omega | (dsimp only; omega)) (by first | omega | (dsimp only; omega)) rfl rfl rfl ?_
            | refine LX.appendT 2 F.el25 rfl rfl rfl rfl rfl rfl rfl (by first | omega | (dsimp only; omega)) (by first | omega | (dsimp only; omega)) rfl rfl rfl ?_
            | refine LX.appendT 3 F.el25 rfl rfl rfl rfl rfl rfl rfl (by first | omega | (dsimp only; omega)) (by first | omega | (dsimp only; omega)) rfl rfl rfl ?_
          intro g' cap'
          refine LX.pure (Y.assign rfl) rfl rfl rfl ?_
          refine LX.sub (l' := [(0, _), (1, _), (6, _), (7, _), (8, _), (9, _), (10, _)]) ⟨rfl, rfl, rfl, rfl, rfl, rfl, rfl, trivial⟩ ?_
          refine LX.next ?_
          refine PX.thenN ?_
          refine CX.seq ?_
          refine CX.region ?_
          refine LX.pure (Y.move (v := .slice (some a) n c) (congrArg (fun v => some (Value.slice v n c)) hav)) rfl rfl rfl ?_
          refine LX.pure (Y.move rfl) rfl rfl rfl ?_
          refine LX.pure (Y.idxA F.un25 F.sz3 rfl rfl hkn) rfl rfl rfl ?_
          refine LX.pure (Y.ldO F.one3 rfl hac hab) rfl rfl rfl ?_
          refine LX.pure (Y.andI rfl rfl) rfl rfl rfl ?_
          first
            | refine LX.pure (Y.neN rfl rfl) rfl rfl rfl ?_
            | refine LX.pure (Y.neI rfl rfl) rfl rfl rfl ?_
          refine LX.sub (l' := [(0, _), (1, _), (6, _), (7, _), (8, _), (9, _), (10, _), (102, _)]) ⟨rfl, rfl, rfl, rfl, rfl, rfl, rfl, rfl, trivial⟩ ?_
          refine LX.next ?_
          refine PX.thenN ?_
          refine CX.cond rfl (fun hb8 => ?_) (fun hb8 => ?_)
          · try simp at hb8
            refine CX.region ?_
            refine LX.pure (Y.move rfl) rfl rfl rfl ?_
            first
              | refine LX.pure (Y.addS rfl rfl (by simp only [List.length_append, List.length_cons, List.length_nil]; omega)) rfl rfl rfl ?_
              | refine LX.pure (Y.addS rfl rfl (by first | omega | (simp only []; omega) | (simp; done) | (simp; omega))) rfl rfl rfl ?_
            refine LX.pure (Y.assign rfl) rfl rfl rfl ?_
            refine LX.sub (l' := [(0, _), (1, _), (6, _), (7, _), (8, _), (9, _), (10, _)]) ⟨rfl, rfl, rfl, rfl, rfl, rfl, rfl, trivial⟩ ?_
            refine LX.next ?_
            refine PX.blockN ?_
            refine PX.thenN ?_
            refine CX.region ?_
            refine LX.pure (Y.move rfl) rfl rfl rfl ?_
            first
              | refine LX.pure (Y.addN rfl rfl (by first | omega | (simp only []; omega) | (simp; done) | (simp; omega))) rfl rfl rfl ?_
              | refine LX.pure (Y.add rfl rfl (by first | omega | (simp only []; omega) | (simp; done) | (simp; omega))) rfl rfl rfl ?_
            refine LX.pure (Y.assign rfl) rfl rfl rfl ?_
            refine LX.sub (l' := [(0, _), (1, _), (6, _), (7, _), (8, _), (9, _), (10, _)]) ⟨rfl, rfl, rfl, rfl, rfl, rfl, rfl, trivial⟩ ?_
            refine LX.next ?_
            exact PX.again (L := (fun t : Nat × Option Nat × Nat => [(0, .slice av n c), (1, .int .i64 bend), (6, str [40, 91, 123]), (7, str [41, 93, 125]), (8, str (stK zs t.1).text), (9, rv t.2.1 (stK zs t.1).op.length t.2.2), (10, .int .i64 (t.1 : Int))])) (WW := (fun (t : Nat × Option Nat × Nat) w => t.1 ≤ n ∧ WA w0 base (nrow t.2.1 t.2.2 (stK zs t.1).op :: fr) w)) (μ := fun t => n - t.1) (i := (k, go, co)) (k + 1, g', cap') (by show n - (k + 1) < n - k; omega) ⟨rfl, rfl, rfl, rfl, by show _ = some (str (stK zs (k + 1)).text); rw [stK_o1 hc (by simpa [bitB] using hb8)]; rfl, by show _ = some (rv _ (stK zs (k + 1)).op.length _); rw [stK_oo hc, List.length_append]; rfl, rfl, trivial⟩ (fun w hw => ⟨by show k + 1 ≤ n; omega, by show WA w0 base (nrow _ _ (stK zs (k + 1)).op :: fr) w; rw [stK_oo hc]; simpa [nrow, flat, Value.cells, natV] using hw⟩)
          · try simp at hb8
            refine CX.skip ?_
            refine PX.blockN ?_
            refine PX.thenN ?_
            refine CX.region ?_
            refine LX.pure (Y.move rfl) rfl rfl rfl ?_
            first
              | refine LX.pure (Y.addN rfl rfl (by first | omega | (simp only []; omega) | (simp; done) | (simp; omega))) rfl rfl rfl ?_
              | refine LX.pure (Y.add rfl rfl (by first | omega | (simp only []; omega) | (simp; done) | (simp; omega))) rfl rfl rfl ?_
            refine LX.pure (Y.assign rfl) rfl rfl rfl ?_
            refine LX.sub (l' := [(0, _), (1, _), (6, _), (7, _), (8, _), (9, _), (10, _)]) ⟨rfl, rfl, rfl, rfl, rfl, rfl, rfl, trivial⟩ ?_
            refine LX.next ?_
            exact PX.again (L := (fun t : Nat × Option Nat × Nat => [(0, .slice av n c), (1, .int .i64 bend), (6, str [40, 91, 123]), (7, str [41, 93, 125]), (8, str (stK zs t.1).text), (9, rv t.2.1 (stK zs t.1).op.length t.2.2), (10, .int .i64 (t.1 : Int))])) (WW := (fun (t : Nat × Option Nat × Nat) w => t.1 ≤ n ∧ WA w0 base (nrow t.2.1 t.2.2 (stK zs t.1).op :: fr) w)) (μ := fun t => n - t.1) (i := (k, go, co)) (k + 1, g', cap') (by show n - (k + 1) < n - k; omega) ⟨rfl, rfl, rfl, rfl, by show _ = some (str (stK zs (k + 1)).text); rw [stK_o2 hc (by simpa [bitB] using hb8)]; rfl, by show _ = some (rv _ (stK zs (k + 1)).op.length _); rw [stK_oo hc, List.length_append]; rfl, rfl, trivial⟩ (fun w hw => ⟨by show k + 1 ≤ n; omega, by show WA w0 base (nrow _ _ (stK zs (k + 1)).op :: fr) w; rw [stK_oo hc]; simpa [nrow, flat, Value.cells, natV] using hw⟩)
      · try simp at hb4
        have hkn : n = k := by omega
        subst hkn
        obtain ⟨ts, hts, hnl⟩ := whole_law zs hn40
        have hlen := scan_len hts
        refine CX.exit ?_
        refine PX.thenE ?_
        refine PX.thenE ?_
        refine PX.blockE ?_
        refine PX.thenN ?_
        refine CX.seq ?_
        refine CX.region ?_
        refine LX.pure (Y.move rfl) rfl rfl rfl ?_
        refine LX.pure (Y.assign rfl) rfl rfl rfl ?_
        refine LX.sub (l' := [(0, _), (1, _), (7, _), (8, _), (9, _), (13, _)]) ⟨rfl, rfl, rfl, rfl, rfl, rfl, trivial⟩ ?_
        refine LX.next ?_
        refine PX.thenN ?_
        refine CX.seq ?_
        refine CX.seq ?_
        refine CX.region ?_
        refine LX.pure (Y.move rfl) rfl rfl rfl ?_
        refine LX.pure (Y.lenSl rfl F.un25 rfl) rfl rfl rfl ?_
        refine LX.pure (Y.sub (a := ((stK zs n).op.length : Int)) (b := 1) rfl rfl (by omega)) rfl rfl rfl ?_
        refine LX.pure (Y.assign rfl) rfl rfl rfl ?_
        refine LX.sub (l' := [(0, _), (1, _), (7, _), (8, _), (9, _), (13, _), (14, _)]) ⟨rfl, rfl, rfl, rfl, rfl, rfl, rfl, trivial⟩ ?_
        refine LX.next ?_
        refine PX.thenN ?_
        refine CX.block ?_
        refine CX.loop (τ := Nat) (fun m : Nat => [(0, .slice av n c), (1, .int .i64 bend), (7, str [41, 93, 125]), (8, str (stK zs n).text), (9, rv go (stK zs n).op.length co), (13, str (closedK (stK zs n) m)), (14, .int .i64 ((m : Int) - 1))]) (fun m w => m ≤ (stK zs n).op.length ∧ WA w0 base (nrow go co (stK zs n).op :: fr) w) (fun m => m) (stK zs n).op.length ⟨rfl, rfl, rfl, rfl, rfl, by rw [closedK_start]; rfl, rfl, trivial⟩ (fun w hw => ⟨Nat.le_refl _, hw⟩) ?_
        intro m
        refine CX.have fun hm => ?_
        have hcl := closedK_len (stK zs n) m
        refine CX.seq ?_
        refine CX.seq ?_
        refine CX.region ?_
        refine LX.pure (Y.move rfl) rfl rfl rfl ?_
        first
          | refine LX.pure (Y.geN rfl rfl) rfl rfl rfl ?_
          | refine LX.pure (Y.geI rfl rfl) rfl rfl rfl ?_
        refine LX.sub (l' := [(0, _), (1, _), (7, _), (8, _), (9, _), (13, _), (14, _), (110, _)]) ⟨rfl, rfl, rfl, rfl, rfl, rfl, rfl, rfl, trivial⟩ ?_
        refine LX.next ?_
        refine PX.thenN ?_
        refine CX.cond rfl (fun hb9 => ?_) (fun hb9 => ?_)
        · try simp at hb9
          obtain ⟨q, rfl⟩ : ∃ q, m = q + 1 := ⟨m - 1, by omega⟩
          rw [show (((q + 1 : Nat) : Int) - 1) = (q : Int) by omega]
          have hq : q < (stK zs n).op.length := by omega
          have hq3 : (stK zs n).op.getD q 0 < 3 := hsub _ (by simp [List.getD, hq])
          refine CX.skip ?_
          refine PX.thenN ?_
          refine CX.seq ?_
          refine CX.block ?_
          refine CX.regionQ rfl (by kernel_rfl) ?_
          refine LX.pure (Y.move rfl) rfl rfl rfl ?_
          refine LX.pure (Y.move rfl) rfl rfl rfl ?_
          refine LX.pure (Y.move rfl) rfl rfl rfl ?_
          refine LX.pure (Y.move rfl) rfl rfl rfl ?_
          first
            | refine LX.pure (Y.idxR 0 F.un25 F.sz3 rfl rfl rfl (by first | omega | (simp only []; omega) | (simp; done) | (simp; omega))) rfl rfl rfl ?_
            | refine LX.pure (Y.idxR 1 F.un25 F.sz3 rfl rfl rfl (by first | omega | (simp only []; omega) | (simp; done) | (simp; omega))) rfl rfl rfl ?_
            | refine LX.pure (Y.idxR 2 F.un25 F.sz3 rfl rfl rfl (by first | omega | (simp only []; omega) | (simp; done) | (simp; omega))) rfl rfl rfl ?_
            | refine LX.pure (Y.idxR 3 F.un25 F.sz3 rfl rfl rfl (by first | omega | (simp only []; omega) | (simp; done) | (simp; omega))) rfl rfl rfl ?_
            | refine LX.pure (Y.idx F.un25 F.sz3 rfl rfl (by first | omega | (simp only []; omega) | (simp; done) | (simp; omega))) rfl rfl rfl ?_
          refine LX.pure (Y.ldR 0 (v := natV ((stK zs n).op.getD q 0)) F.one3 rfl rfl (int_cell hq)) rfl rfl rfl ?_
          refine LX.pure (Y.move rfl) rfl rfl rfl ?_
          refine LX.pure (Y.move rfl) rfl rfl rfl ?_
          first
            | refine LX.pure (Y.idxR 0 F.un25 F.sz3 rfl rfl rfl (by first | omega | (simp only []; omega) | (simp; done) | (simp; omega))) rfl rfl rfl ?_
            | refine LX.pure (Y.idxR 1 F.un25 F.sz3 rfl rfl rfl (by first | omega | (simp only []; omega) | (simp; done) | (simp; omega))) rfl rfl rfl ?_
            | refine LX.pure (Y.idxR 2 F.un25 F.sz3 rfl rfl rfl (by first | omega | (simp only []; omega) | (simp; done) | (simp; omega))) rfl rfl rfl ?_
            | refine LX.pure (Y.idxR 3 F.un25 F.sz3 rfl rfl rfl (by first | omega | (simp only []; omega) | (simp; done) | (simp; omega))) rfl rfl rfl ?_
            | refine LX.pure (Y.idx F.un25 F.sz3 rfl rfl (by first | omega | (simp only []; omega) | (simp; done) | (simp; omega))) rfl rfl rfl ?_
          refine LX.pure (Y.ldR 0 (v := .int .i64 (((stK zs n).op.getD q 0 : Nat) : Int)) F.one3 rfl rfl (int_cell hq)) rfl rfl rfl ?_
          first
            | refine LX.pure (Y.addN rfl rfl (by first | omega | (simp only []; omega) | (simp; done) | (simp; omega))) rfl rfl rfl ?_
            | refine LX.pure (Y.add rfl rfl (by first | omega | (simp only []; omega) | (simp; done) | (simp; omega))) rfl rfl rfl ?_
          refine LX.pure (show Y _ _ _ _ _ (str [clC ((stK zs n).op.getD q 0)]) from by rw [← cl_slice _ hq3]; exact Y.slice rfl rfl rfl F.un9 (by omega) (by show _ + 1 ≤ 3; omega)) rfl rfl rfl ?_
          first
            | refine LX.pure (Y.addS rfl rfl (by simp only [List.length_append, List.length_cons, List.length_nil]; omega)) rfl rfl rfl ?_
            | refine LX.pure (Y.addS rfl rfl (by first | omega | (simp only []; omega) | (simp; done) | (simp; omega))) rfl rfl rfl ?_
          refine LX.pure (Y.assign rfl) rfl rfl rfl ?_
          refine LX.sub (l' := [(0, _), (1, _), (7, _), (8, _), (9, _), (13, _), (14, _)]) ⟨rfl, rfl, rfl, rfl, rfl, rfl, rfl, trivial⟩ ?_
          refine LX.nextQ ?_
          refine PX.blockN ?_
          refine PX.thenN ?_
          refine CX.region ?_
          refine LX.pure (Y.move rfl) rfl rfl rfl ?_
          first
            | refine LX.pure (Y.subN rfl rfl (by first | omega | (simp only []; omega) | (simp; done) | (simp; omega)) (by first | omega | (simp only []; omega) | (simp; done) | (simp; omega))) rfl rfl rfl ?_
            | refine LX.pure (Y.sub rfl rfl (by first | omega | (simp only []; omega) | (simp; done) | (simp; omega))) rfl rfl rfl ?_
          refine LX.pure (Y.assign rfl) rfl rfl rfl ?_
          refine LX.sub (l' := [(0, _), (1, _), (7, _), (8, _), (9, _), (13, _), (14, _)]) ⟨rfl, rfl, rfl, rfl, rfl, rfl, rfl, trivial⟩ ?_
          refine LX.next ?_
          exact PX.again q (Nat.lt_succ_self q) ⟨rfl, rfl, rfl, rfl, rfl, by rw [← closedK_next hq]; rfl, rfl, trivial⟩ (fun w hw => ⟨by omega, hw⟩)
        · try simp at hb9
          have hm0 : m = 0 := by omega
          subst hm0
          rw [closedK_zero] at hcl ⊢
          refine CX.exit ?_
          refine PX.thenE ?_
          refine PX.thenE ?_
          refine PX.blockE ?_
          refine PX.thenN ?_
          refine CX.seq ?_
          refine CX.region ?_
          refine LX.pure (Y.move rfl) rfl rfl rfl ?_
          refine LX.call (scan_ok_c hE hM (s := wholeK (stK zs n)) (ts := ts) (by have := closedK_len (stK zs n) 0; have := closedK_zero (stK zs n); simp_all; omega) hts) F.en20 rfl rfl rfl rfl rfl ?_
          rintro ⟨ga, ca⟩
          refine LX.pure (Y.move rfl) rfl rfl rfl ?_
          refine LX.pure (Y.extract rfl rfl) rfl rfl rfl ?_
          refine LX.pure (Y.extract rfl rfl) rfl rfl rfl ?_
          refine LX.pure (Y.assign rfl) rfl rfl rfl ?_
          refine LX.pure (Y.assign rfl) rfl rfl rfl ?_
          refine LX.sub (l' := [(0, _), (1, _), (7, _), (8, _), (9, _), (15, _), (16, _)]) ⟨rfl, rfl, rfl, rfl, rfl, rfl, rfl, trivial⟩ ?_
          refine LX.next ?_
          refine PX.thenN ?_
          refine CX.seq ?_
          refine CX.seq ?_
          refine CX.region ?_
          refine LX.pure (Y.move rfl) rfl rfl rfl ?_
          first
            | refine LX.pure (Y.neNil F.un29 rfl rfl) rfl rfl rfl ?_
            | refine LX.pure (Y.neNilNil F.un29 rfl) rfl rfl rfl ?_
          refine LX.sub (l' := [(0, _), (1, _), (7, _), (8, _), (9, _), (15, _), (132, _)]) ⟨rfl, rfl, rfl, rfl, rfl, rfl, rfl, trivial⟩ ?_
          refine LX.next ?_
          refine PX.thenN ?_
          refine CX.cond rfl (fun hb10 => ?_) (fun hb10 => ?_)
          · try simp at hb10
            first | done | cases hb10
          · try simp at hb10
            refine CX.skip ?_
            refine PX.thenN ?_
            refine CX.seq ?_
            refine CX.region ?_
            refine LX.pure (Y.assign rfl) rfl rfl rfl ?_
            refine LX.sub (l' := [(0, _), (1, _), (7, _), (8, _), (9, _), (15, _), (17, _)]) ⟨rfl, rfl, rfl, rfl, rfl, rfl, rfl, trivial⟩ ?_
            refine LX.next ?_
            refine PX.thenN ?_
            refine CX.seq ?_
            refine CX.seq ?_
            refine CX.region ?_
            refine LX.pure (Y.assign rfl) rfl rfl rfl ?_
            refine LX.sub (l' := [(0, _), (1, _), (7, _), (8, _), (9, _), (15, _), (17, _), (18, _)]) ⟨rfl, rfl, rfl, rfl, rfl, rfl, rfl, rfl, trivial⟩ ?_
            refine LX.next ?_
            refine PX.thenN ?_
            refine CX.block ?_
            refine CX.loop (τ := Nat × Nat) (fun t : Nat × Nat => [(0, .slice av n c), (1, .int .i64 bend), (7, str [41, 93, 125]), (8, str (stK zs n).text), (9, rv go (stK zs n).op.length co), (15, rv ga ts.length ca), (17, .int .i64 (t.2 : Int)), (18, .int .i64 (t.1 : Int))]) (fun (t : Nat × Nat) w => (t.1 ≤ ts.length ∧ t.2 ≤ t.1 ∧ t.2 + nlC ((ts.map (·.kind)).drop t.1) = if n = 0 then 0 else 1) ∧ WA w0 base (.row ga ca ts.length 46 3 (ts.flatMap tokC) :: nrow go co (stK zs n).op :: fr) w) (fun t => ts.length - t.1) (0, 0) ⟨rfl, rfl, rfl, rfl, rfl, rfl, rfl, rfl, trivial⟩ (fun w hw => ⟨⟨Nat.zero_le _, Nat.le_refl _, by show 0 + nlC _ = _; rw [Nat.zero_add]; exact hnl⟩, hw⟩) ?_
            rintro ⟨k, cnt⟩
            refine CX.have fun ⟨hk, hcn, hcl⟩ => ?_
            dsimp only at hk hcn hcl ⊢
            refine CX.seq ?_
            refine CX.seq ?_
            refine CX.region ?_
            refine LX.pure (Y.move rfl) rfl rfl rfl ?_
            refine LX.pure (Y.move rfl) rfl rfl rfl ?_
            refine LX.pure (Y.lenSl rfl F.un38 rfl) rfl rfl rfl ?_
            first
              | refine LX.pure (Y.ltN rfl rfl) rfl rfl rfl ?_
              | refine LX.pure (Y.ltI rfl rfl) rfl rfl rfl ?_
            refine LX.sub (l' := [(0, _), (1, _), (7, _), (8, _), (9, _), (15, _), (17, _), (18, _), (136, _)]) ⟨rfl, rfl, rfl, rfl, rfl, rfl, rfl, rfl, rfl, trivial⟩ ?_
            refine LX.next ?_
            refine PX.thenN ?_
            refine CX.cond rfl (fun hb11 => ?_) (fun hb11 => ?_)
            · try simp at hb11
              have hk3 : k < ts.length := hb11
              rw [nlC_at (by simpa using hk3), kd_map] at hcl
              refine CX.skip ?_
              refine PX.thenN ?_
              refine CX.seq ?_
              refine CX.block ?_
              refine CX.seq ?_
              refine CX.region ?_
              refine LX.pure (Y.move rfl) rfl rfl rfl ?_
              refine LX.pure (Y.move rfl) rfl rfl rfl ?_
              first
                | refine LX.pure (Y.idxR 0 F.un38 F.sz46 rfl rfl rfl (by first | omega | (simp only []; omega) | (simp; done) | (simp; omega))) rfl rfl rfl ?_
                | refine LX.pure (Y.idxR 1 F.un38 F.sz46 rfl rfl rfl (by first | omega | (simp only []; omega) | (simp; done) | (simp; omega))) rfl rfl rfl ?_
                | refine LX.pure (Y.idxR 2 F.un38 F.sz46 rfl rfl rfl (by first | omega | (simp only []; omega) | (simp; done) | (simp; omega))) rfl rfl rfl ?_
                | refine LX.pure (Y.idxR 3 F.un38 F.sz46 rfl rfl rfl (by first | omega | (simp only []; omega) | (simp; done) | (simp; omega))) rfl rfl rfl ?_
                | refine LX.pure (Y.idx F.un38 F.sz46 rfl rfl (by first | omega | (simp only []; omega) | (simp; done) | (simp; omega))) rfl rfl rfl ?_
              first
                | refine LX.pure (Y.fieldAddr0 F.fo46_0 rfl) rfl rfl rfl ?_
                | refine LX.pure (Y.fieldAddr F.fo46_0 rfl) rfl rfl rfl ?_
              refine LX.pure (Y.ldR 0 (v := natV (kd ts k)) F.one3 rfl rfl (tok_cell0 hk3)) rfl rfl rfl ?_
              first
                | refine LX.pure (Y.eqN rfl rfl) rfl rfl rfl ?_
                | refine LX.pure (Y.eqI rfl rfl) rfl rfl rfl ?_
              refine LX.sub (l' := [(0, _), (1, _), (7, _), (8, _), (9, _), (15, _), (17, _), (18, _), (144, _)]) ⟨rfl, rfl, rfl, rfl, rfl, rfl, rfl, rfl, rfl, trivial⟩ ?_
              refine LX.next ?_
              refine PX.thenN ?_
              refine CX.cond rfl (fun hb12 => ?_) (fun hb12 => ?_)
              · try simp at hb12
                refine CX.region ?_
                refine LX.pure (Y.move rfl) rfl rfl rfl ?_
                first
                  | refine LX.pure (Y.addN rfl rfl (by first | omega | (simp only []; omega) | (simp; done) | (simp; omega))) rfl rfl rfl ?_
                  | refine LX.pure (Y.add rfl rfl (by first | omega | (simp only []; omega) | (simp; done) | (simp; omega))) rfl rfl rfl ?_
                refine LX.pure (Y.assign rfl) rfl rfl rfl ?_
                refine LX.sub (l' := [(0, _), (1, _), (7, _), (8, _), (9, _), (15, _), (17, _), (18, _)]) ⟨rfl, rfl, rfl, rfl, rfl, rfl, rfl, rfl, trivial⟩ ?_
                refine LX.next ?_
                refine PX.blockN ?_
                refine PX.thenN ?_
                refine CX.region ?_
                refine LX.pure (Y.move rfl) rfl rfl rfl ?_
                first
                  | refine LX.pure (Y.addN rfl rfl (by first | omega | (simp only []; omega) | (simp; done) | (simp; omega))) rfl rfl rfl ?_
                  | refine LX.pure (Y.add rfl rfl (by first | omega | (simp only []; omega) | (simp; done) | (simp; omega))) rfl rfl rfl ?_
                refine LX.pure (Y.assign rfl) rfl rfl rfl ?_
                refine LX.sub (l' := [(0, _), (1, _), (7, _), (8, _), (9, _), (15, _), (17, _), (18, _)]) ⟨rfl, rfl, rfl, rfl, rfl, rfl, rfl, rfl, trivial⟩ ?_
                refine LX.next ?_
                exact PX.again (L := (fun t : Nat × Nat => [(0, .slice av n c), (1, .int .i64 bend), (7, str [41, 93, 125]), (8, str (stK zs n).text), (9, rv go (stK zs n).op.length co), (15, rv ga ts.length ca), (17, .int .i64 (t.2 : Int)), (18, .int .i64 (t.1 : Int))])) (WW := (fun (t : Nat × Nat) w => (t.1 ≤ ts.length ∧ t.2 ≤ t.1 ∧ t.2 + nlC ((ts.map (·.kind)).drop t.1) = if n = 0 then 0 else 1) ∧ WA w0 base (.row ga ca ts.length 46 3 (ts.flatMap tokC) :: nrow go co (stK zs n).op :: fr) w)) (μ := fun t => ts.length - t.1) (i := (k, cnt)) (k + 1, cnt + 1) (by show ts.length - (k + 1) < ts.length - k; omega) ⟨rfl, rfl, rfl, rfl, rfl, rfl, rfl, rfl, trivial⟩ (fun w hw => ⟨⟨by show k + 1 ≤ _; omega, by dsimp only; omega, by dsimp only; rw [if_pos hb12] at hcl; omega⟩, hw⟩)
              · try simp at hb12
                refine CX.skip ?_
                refine PX.blockN ?_
                refine PX.thenN ?_
                refine CX.region ?_
                refine LX.pure (Y.move rfl) rfl rfl rfl ?_
                first
                  | refine LX.pure (Y.addN rfl rfl (by first | omega | (simp only []; omega) | (simp; done) | (simp; omega))) rfl rfl rfl ?_
                  | refine LX.pure (Y.add rfl rfl (by first | omega | (simp only []; omega) | (simp; done) | (simp; omega))) rfl rfl rfl ?_
                refine LX.pure (Y.assign rfl) rfl rfl rfl ?_
                refine LX.sub (l' := [(0, _), (1, _), (7, _), (8, _), (9, _), (15, _), (17, _), (18, _)]) ⟨rfl, rfl, rfl, rfl, rfl, rfl, rfl, rfl, trivial⟩ ?_
                refine LX.next ?_
                exact PX.again (L := (fun t : Nat × Nat => [(0, .slice av n c), (1, .int .i64 bend), (7, str [41, 93, 125]), (8, str (stK zs n).text), (9, rv go (stK zs n).op.length co), (15, rv ga ts.length ca), (17, .int .i64 (t.2 : Int)), (18, .int .i64 (t.1 : Int))])) (WW := (fun (t : Nat × Nat) w => (t.1 ≤ ts.length ∧ t.2 ≤ t.1 ∧ t.2 + nlC ((ts.map (·.kind)).drop t.1) = if n = 0 then 0 else 1) ∧ WA w0 base (.row ga ca ts.length 46 3 (ts.flatMap tokC) :: nrow go co (stK zs n).op :: fr) w)) (μ := fun t => ts.length - t.1) (i := (k, cnt)) (k + 1, cnt) (by show ts.length - (k + 1) < ts.length - k; omega) ⟨rfl, rfl, rfl, rfl, rfl, rfl, rfl, rfl, trivial⟩ (fun w hw => ⟨⟨by show k + 1 ≤ _; omega, by dsimp only; omega, by dsimp only; rw [if_neg hb12] at hcl; omega⟩, hw⟩)
            · try simp at hb11
              have hk4 : k = ts.length := by omega
              subst hk4
              rw [nlC_end (by simp)] at hcl
              refine CX.exit ?_
              refine PX.thenE ?_
              refine PX.thenE ?_
              refine PX.blockE ?_
              refine PX.thenN ?_
              refine CX.seq ?_
              refine CX.seq ?_
              refine CX.region ?_
              refine LX.pure (Y.move rfl) rfl rfl rfl ?_
              first
                | refine LX.pure (Y.gtN rfl rfl) rfl rfl rfl ?_
                | refine LX.pure (Y.gtI rfl rfl) rfl rfl rfl ?_
              refine LX.pure (Y.move rfl) rfl rfl rfl ?_
              refine LX.sub (l' := [(0, _), (1, _), (7, _), (8, _), (9, _), (17, _), (149, _)]) ⟨rfl, rfl, rfl, rfl, rfl, rfl, rfl, trivial⟩ ?_
              apply LX.joinOr 6 155 149 rfl
              · intro hb13
                have hb13p := hb13
                try simp at hb13p
                refine LX.gF rfl rfl rfl hb13 rfl rfl ?_
                refine LX.gF rfl rfl rfl hb13 rfl rfl ?_
                refine LX.gF rfl rfl rfl hb13 rfl rfl ?_
                refine LX.gF rfl rfl rfl hb13 rfl rfl ?_
                refine LX.gF rfl rfl rfl hb13 rfl rfl ?_
                refine LX.pure (Y.pickT rfl hb13 rfl) rfl rfl rfl ?_
                exact LX.left ⟨rfl, rfl, rfl, rfl, rfl, rfl, rfl, rfl, trivial⟩
              · intro hb13
                have hb13p := hb13
                try simp at hb13p
                refine LX.gT rfl rfl rfl hb13 (Y.move rfl) rfl rfl ?_
                refine LX.gT rfl rfl rfl hb13 (Y.move rfl) rfl rfl ?_
                refine LX.gT rfl rfl rfl hb13 (Y.lenSl rfl F.un25 rfl) rfl rfl ?_
                refine LX.gT rfl rfl rfl hb13 (show Y _ _ _ _ _ (.int .i64 ((min n 1 : Nat) : Int)) from by rw [← min_one]; exact Y.min2 rfl rfl) rfl rfl ?_
                first
                  | refine LX.gT rfl rfl rfl hb13 (Y.neN rfl rfl) rfl rfl ?_
                  | refine LX.gT rfl rfl rfl hb13 (Y.neI rfl rfl) rfl rfl ?_
                refine LX.pure (Y.pickF rfl hb13 rfl) rfl rfl rfl ?_
                exact LX.left ⟨rfl, rfl, rfl, rfl, rfl, rfl, rfl, rfl, trivial⟩
              refine LX.sub (l' := [(1, _), (7, _), (8, _), (9, _), (155, _)]) ⟨rfl, rfl, rfl, rfl, rfl, trivial⟩ ?_
              refine LX.next ?_
              refine PX.thenN ?_
              refine CX.cond rfl (fun hb14 => ?_) (fun hb14 => ?_)
              · try simp at hb14
                exfalso; rcases hb14 with h | h <;> (revert h; split at hcl <;> omega)
              · try simp at hb14
                refine CX.skip ?_
                refine PX.thenN ?_
                refine CX.seq ?_
                refine CX.seq ?_
                refine CX.region ?_
                refine LX.pure (Y.move rfl) rfl rfl rfl ?_
                refine LX.pure (Y.lenSl rfl F.un25 rfl) rfl rfl rfl ?_
                first
                  | refine LX.pure (Y.eqN rfl rfl) rfl rfl rfl ?_
                  | refine LX.pure (Y.eqI rfl rfl) rfl rfl rfl ?_
                refine LX.sub (l' := [(1, _), (7, _), (8, _), (9, _), (158, _)]) ⟨rfl, rfl, rfl, rfl, rfl, trivial⟩ ?_
                refine LX.next ?_
                refine PX.thenN ?_
                refine CX.cond rfl (fun hb15 => ?_) (fun hb15 => ?_)
                · try simp at hb15
                  have hop0 : (stK zs n).op.length = 0 := by rw [hb15]; rfl
                  refine CX.seq ?_
                  refine CX.region ?_
                  refine LX.pure (Y.assign rfl) rfl rfl rfl ?_
                  refine LX.sub (l' := [(1, _), (4, _), (7, _), (8, _), (9, _)]) ⟨rfl, rfl, rfl, rfl, rfl, trivial⟩ ?_
                  refine LX.next ?_
                  refine PX.thenN ?_
                  refine CX.ret ?_
                  refine PX.thenR ?_
                  refine PX.ret1 (by simp) Tryd.results8 rfl ?_
                  exact fun w hw => ⟨(), rfl, hw.drop ((((List.Sublist.refl fr).cons _).cons _))⟩
                · try simp at hb15
                  have hop : (stK zs n).op ≠ [] := hb15
                  have hop0 : 0 < (stK zs n).op.length := List.length_pos_iff.2 hop
                  have hl3 := hsub _ (lastD_mem hop0)
                  have hb2 := nOf2_lt bend
                  have hk3 : ((stK zs n).op.getLastD 0 + 1 + nOf2 bend) % 3 < 3 := Nat.mod_lt _ (by decide)
                  have hk4 : ((stK zs n).op.getLastD 0 + 1 + nOf2 bend) % 3 ≠ (stK zs n).op.getLastD 0 := by omega
                  refine CX.skip ?_
                  refine PX.thenN ?_
                  refine CX.seq ?_
                  refine CX.region ?_
                  refine LX.pure (Y.move rfl) rfl rfl rfl ?_
                  refine LX.call (scan_bad_c hE hM (s := (stK zs n).text) (by omega) (open_law zs hn40 hop)) F.en20 rfl rfl rfl rfl rfl ?_
                  intro bE
                  refine LX.pure (Y.move rfl) rfl rfl rfl ?_
                  refine LX.pure (Y.extract rfl rfl) rfl rfl rfl ?_
                  refine LX.pure (Y.extract rfl rfl) rfl rfl rfl ?_
                  refine LX.pure (Y.assign rfl) rfl rfl rfl ?_
                  refine LX.pure (Y.assign rfl) rfl rfl rfl ?_
                  refine LX.sub (l' := [(1, _), (7, _), (8, _), (9, _), (20, _)]) ⟨rfl, rfl, rfl, rfl, rfl, trivial⟩ ?_
                  refine LX.next ?_
                  refine PX.thenN ?_
                  refine CX.seq ?_
                  refine CX.region ?_
                  refine LX.pure (Y.move rfl) rfl rfl rfl ?_
                  refine LX.pure (Y.move rfl) rfl rfl rfl ?_
                  refine LX.pure (Y.lenSl rfl F.un25 rfl) rfl rfl rfl ?_
                  first
                    | refine LX.pure (Y.subN rfl rfl (by first | omega | (simp only []; omega) | (simp; done) | (simp; omega)) (by first | omega | (simp only []; omega) | (simp; done) | (simp; omega))) rfl rfl rfl ?_
                    | refine LX.pure (Y.sub rfl rfl (by first | omega | (simp only []; omega) | (simp; done) | (simp; omega))) rfl rfl rfl ?_
                  refine LX.pure (Y.idxR 2 F.un25 F.sz3 rfl rfl rfl (Nat.sub_lt hop0 (by decide))) rfl rfl rfl ?_
                  first
                    | refine LX.pure (Y.ldR 1 (v := .int .i64 (((stK zs n).op.getLastD 0 : Nat) : Int)) F.one3 rfl rfl (row_last hop0)) rfl rfl rfl ?_
                    | refine LX.pure (Y.ldR 2 (v := .int .i64 (((stK zs n).op.getLastD 0 : Nat) : Int)) F.one3 rfl rfl (row_last hop0)) rfl rfl rfl ?_
                  first
                    | refine LX.pure (Y.addN rfl rfl (by first | omega | (simp only []; omega) | (simp; done) | (simp; omega))) rfl rfl rfl ?_
                    | refine LX.pure (Y.add rfl rfl (by first | omega | (simp only []; omega) | (simp; done) | (simp; omega))) rfl rfl rfl ?_
                  refine LX.pure (Y.move rfl) rfl rfl rfl ?_
                  first
                    | refine LX.pure (Y.remN rfl rfl (by first | omega | (simp only []; omega) | (simp; done) | (simp; omega))) rfl rfl rfl ?_
                    | refine LX.pure (Y.rem rfl rfl (by decide)) rfl rfl rfl ?_
                  refine LX.pure (Y.add (a := Int.tmod bend 2) (b := 2) rfl rfl (by have := tmod_bd' bend (m := 2) (by decide); omega)) rfl rfl rfl ?_
                  refine LX.pure (show Y _ _ _ _ _ (.int .i64 ((nOf2 bend : Nat) : Int)) from by rw [← nOf2_eq]; exact Y.rem rfl rfl (by decide)) rfl rfl rfl ?_
                  first
                    | refine LX.pure (Y.addN rfl rfl (by first | omega | (simp only []; omega) | (simp; done) | (simp; omega))) rfl rfl rfl ?_
                    | refine LX.pure (Y.add rfl rfl (by first | omega | (simp only []; omega) | (simp; done) | (simp; omega))) rfl rfl rfl ?_
                  first
                    | refine LX.pure (Y.remN rfl rfl (by first | omega | (simp only []; omega) | (simp; done) | (simp; omega))) rfl rfl rfl ?_
                    | refine LX.pure (Y.rem rfl rfl (by decide)) rfl rfl rfl ?_
                  refine LX.pure (Y.assign rfl) rfl rfl rfl ?_
                  refine LX.sub (l' := [(7, _), (8, _), (20, _), (21, _)]) ⟨rfl, rfl, rfl, rfl, trivial⟩ ?_
                  refine LX.next ?_
                  refine PX.thenN ?_
                  refine CX.seq ?_
                  refine CX.region ?_
                  refine LX.pure (Y.move rfl) rfl rfl rfl ?_
                  refine LX.pure (Y.move rfl) rfl rfl rfl ?_
                  refine LX.pure (Y.move rfl) rfl rfl rfl ?_
                  refine LX.pure (Y.move rfl) rfl rfl rfl ?_
                  first
                    | refine LX.pure (Y.addN rfl rfl (by first | omega | (simp only []; omega) | (simp; done) | (simp; omega))) rfl rfl rfl ?_
                    | refine LX.pure (Y.add rfl rfl (by first | omega | (simp only []; omega) | (simp; done) | (simp; omega))) rfl rfl rfl ?_
                  refine LX.pure (show Y _ _ _ _ _ (str [clC (((stK zs n).op.getLastD 0 + 1 + nOf2 bend) % 3)]) from by rw [← cl_slice _ hk3]; exact Y.slice rfl rfl rfl F.un9 (by omega) (by show _ + 1 ≤ 3; omega)) rfl rfl rfl ?_
                  first
                    | refine LX.pure (Y.addS rfl rfl (by simp only [List.length_append, List.length_cons, List.length_nil]; omega)) rfl rfl rfl ?_
                    | refine LX.pure (Y.addS rfl rfl (by first | omega | (simp only []; omega) | (simp; done) | (simp; omega))) rfl rfl rfl ?_
                  refine LX.call (scan_bad_c hE hM (s := (stK zs n).text ++ [clC (((stK zs n).op.getLastD 0 + 1 + nOf2 bend) % 3)]) (by simp; omega) (wrong_law zs hn40 hop0 hk3 hk4)) F.en20 rfl rfl rfl rfl rfl ?_
                  intro bF
                  refine LX.pure (Y.move rfl) rfl rfl rfl ?_
                  refine LX.pure (Y.extract rfl rfl) rfl rfl rfl ?_
                  refine LX.pure (Y.extract rfl rfl) rfl rfl rfl ?_
                  refine LX.pure (Y.assign rfl) rfl rfl rfl ?_
                  refine LX.pure (Y.assign rfl) rfl rfl rfl ?_
                  refine LX.sub (l' := [(8, _), (20, _), (23, _)]) ⟨rfl, rfl, rfl, trivial⟩ ?_
                  refine LX.next ?_
                  refine PX.thenN ?_
                  refine CX.seq ?_
                  refine CX.region ?_
                  refine LX.pure (Y.move rfl) rfl rfl rfl ?_
                  refine LX.pure (Y.move rfl) rfl rfl rfl ?_
                  refine LX.pure (Y.lenStr rfl F.un9 rfl) rfl rfl rfl ?_
                  refine LX.call (placedR_c 101 (stK zs n).text.length (by decide)) Fk.en18 rfl rfl rfl rfl rfl ?_
                  intro _
                  refine LX.world (W' := WA w0 base (atI bE (stK zs n).text.length (errV (aE 0)) :: atI bF (stK zs n).text.length (errV (aE 0)) :: .row ga ca ts.length 46 3 (ts.flatMap tokC) :: nrow go co (stK zs n).op :: fr)) (fun w hw => hw.perm (.swap _ _ _)) ?_
                  refine LX.call (sameAt_c hS (i := 0) (by decide) bE (stK zs n).text.length ⟨101, true, (stK zs n).text.length, false, []⟩) Fk.en17 rfl rfl rfl rfl rfl ?_
                  intro _
                  refine LX.world (W' := WA w0 base (atI bF (stK zs n).text.length (errV (aE 0)) :: atI bE (stK zs n).text.length (errV (aE 0)) :: .row ga ca ts.length 46 3 (ts.flatMap tokC) :: nrow go co (stK zs n).op :: fr)) (fun w hw => hw.perm (.swap _ _ _)) ?_
                  refine LX.pure (Y.move rfl) rfl rfl rfl ?_
                  refine LX.sub (l' := [(8, _), (23, _), (193, _)]) ⟨rfl, rfl, rfl, trivial⟩ ?_
                  apply LX.joinAnd 6 199 193 rfl
                  · intro hb16
                    have hb16p := hb16
                    try simp at hb16p
                    refine LX.gT rfl rfl rfl hb16 (Y.move rfl) rfl rfl ?_
                    refine LX.gT rfl rfl rfl hb16 (Y.move rfl) rfl rfl ?_
                    refine LX.gT rfl rfl rfl hb16 (Y.lenStr rfl F.un9 rfl) rfl rfl ?_
                    refine LX.callT rfl rfl rfl hb16 (placedR_c 101 (stK zs n).text.length (by decide)) Fk.en18 rfl rfl rfl rfl ?_
                    intro _
                    refine LX.callT rfl rfl rfl hb16 (sameAt_c hS (i := 0) (by decide) bF (stK zs n).text.length ⟨101, true, (stK zs n).text.length, false, []⟩) Fk.en17 rfl rfl rfl rfl ?_
                    intro _
                    refine LX.pure (Y.pickT rfl hb16 rfl) rfl rfl rfl ?_
                    first
                    | exact LX.left ⟨rfl, rfl, rfl, rfl, trivial⟩
                    | exact LX.leftP ⟨rfl, rfl, rfl, rfl, trivial⟩
                  · intro hb16
                    exfalso; simp at hb16
                  refine LX.pure (Y.assign rfl) rfl rfl rfl ?_
                  refine LX.sub (l' := [(4, _)]) ⟨rfl, trivial⟩ ?_
                  refine LX.next ?_
                  refine PX.thenN ?_
                  refine CX.ret ?_
                  refine PX.ret1 (by simp) Tryd.results8 rfl ?_
                  exact fun w hw => ⟨(), by simp, hw.drop ((((((List.Sublist.refl fr).cons _).cons _).cons _).cons _))⟩

end Go.Proofs.YtggoogbloaennaaDoor
