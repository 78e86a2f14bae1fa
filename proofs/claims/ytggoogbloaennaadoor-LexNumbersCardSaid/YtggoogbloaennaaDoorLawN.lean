/-
  Proved here: the walk of the statement LexNumbers.
-/
import Derived.Test.YtggoogbloaennaaDoorFn
import Derived.Test.YtggoogbloaennaaDoorLawA
import Derived.Test.YtggoogbloaennaaDoorSee
import Derived.Test.YtggoogbloaennaaDoorNumP
namespace Go.Proofs.YtggoogbloaennaaDoor
open Go.SX Go.RowKit Go.Lex
theorem numbers_c {w0 : World} {base : Nat} {fr : List It} {aE : Nat → Addr} {eLim : Value} (hE : EnvLex w0 base (errV (aE 0))) (hM : EnvLim w0 base eLim) (hS : EnvS w0 base aE) (z : Int) (zr lt : Bool) : FnC Tryd.prog 7 #[.int .i64 z, .bool zr, .bool lt] (WA w0 base fr) (fun _ : Unit => .bool true) (fun _ => WA w0 base fr) := by
  refine FnC.of_body (fn := Tryd.f7) [(0, _), (1, _), (2, _)] Tryd.func7 rfl Tryd.ntmps7 rfl ⟨rfl, rfl, rfl, trivial⟩ ?_
  refine CX.seq ?_
  refine CX.region ?_
  refine LX.pure (Y.assign rfl) rfl rfl rfl ?_
  refine LX.sub (l' := [(0, _), (1, _), (2, _), (6, _)]) ⟨rfl, rfl, rfl, rfl, trivial⟩ ?_
  refine LX.next ?_
  refine PX.thenN ?_
  refine CX.seq ?_
  refine CX.region ?_
  refine LX.call (first_c hE hM) F.en19 rfl rfl rfl rfl rfl ?_
  intro _
  refine LX.pure (Y.assign rfl) rfl rfl rfl ?_
  refine LX.sub (l' := [(0, _), (1, _), (2, _), (6, _), (7, _)]) ⟨rfl, rfl, rfl, rfl, rfl, trivial⟩ ?_
  refine LX.next ?_
  refine PX.thenN ?_
  refine CX.seq ?_
  refine CX.seq ?_
  refine CX.region ?_
  refine LX.pure (Y.move rfl) rfl rfl rfl ?_
  refine LX.pure (Y.not rfl) rfl rfl rfl ?_
  refine LX.sub (l' := [(0, _), (1, _), (2, _), (6, _), (7, _), (16, _)]) ⟨rfl, rfl, rfl, rfl, rfl, rfl, trivial⟩ ?_
  refine LX.next ?_
  refine PX.thenN ?_
  refine CX.cond rfl (fun hb1 => ?_) (fun hb1 => ?_)
  · try simp at hb1
    first | done | cases hb1
  · try simp at hb1
    refine CX.skip ?_
    refine PX.thenN ?_
    refine CX.seq ?_
    refine CX.region ?_
    refine LX.pure (Y.move rfl) rfl rfl rfl ?_
    first
      | refine LX.pure (Y.remN rfl rfl (by first | omega | (simp only []; omega) | (simp; done) | (simp; omega) | (have := numD_len zr (nOf7 z); have := nOf7_lt z; cases zr <;> simp at * <;> omega))) rfl rfl rfl ?_
      | refine LX.pure (Y.rem rfl rfl (by decide)) rfl rfl rfl ?_
    refine LX.pure (Y.add (a := Int.tmod z 700) (b := 700) rfl rfl (by have := tmod7_bd z; omega)) rfl rfl rfl ?_
    first
      | refine LX.pure (Y.remN rfl rfl (by first | omega | (simp only []; omega) | (simp; done) | (simp; omega) | (have := numD_len zr (nOf7 z); have := nOf7_lt z; cases zr <;> simp at * <;> omega))) rfl rfl rfl ?_
      | refine LX.pure (Y.rem rfl rfl (by decide)) rfl rfl rfl ?_
    refine LX.pure (Y.assign (v := .int .i64 ((nOf7 z : Nat) : Int)) (congrArg (fun z => some (Value.int .i64 z)) (nOf7_eq z))) rfl rfl rfl ?_
    refine LX.sub (l' := [(0, _), (1, _), (2, _), (6, _), (7, _)]) ⟨rfl, rfl, rfl, rfl, rfl, trivial⟩ ?_
    refine LX.next ?_
    refine PX.thenN ?_
    refine CX.seq ?_
    refine CX.region ?_
    refine LX.pure (Y.assign rfl) rfl rfl rfl ?_
    refine LX.sub (l' := [(0, _), (1, _), (2, _), (6, _), (7, _), (8, _)]) ⟨rfl, rfl, rfl, rfl, rfl, rfl, trivial⟩ ?_
    refine LX.next ?_
    refine PX.thenN ?_
    refine CX.seq ?_
    refine CX.seq ?_
    refine CX.region ?_
    refine LX.pure (Y.assign rfl) rfl rfl rfl ?_
    refine LX.sub (l' := [(0, _), (1, _), (2, _), (6, _), (7, _), (8, _), (9, _)]) ⟨rfl, rfl, rfl, rfl, rfl, rfl, rfl, trivial⟩ ?_
    refine LX.next ?_
    refine PX.thenN ?_
    refine CX.block ?_
    refine CX.loop (τ := Nat) (fun k => [(0, .int .i64 ((nOf7 z : Nat) : Int)), (1, .bool zr), (2, .bool lt), (7, .bool true), (8, str (List.replicate k 55)), (9, .int .i64 (k : Int))]) (fun k w => k ≤ nOf7 z ∧ WA w0 base fr w) (fun k => nOf7 z - k) 0 ⟨rfl, rfl, rfl, rfl, rfl, rfl, trivial⟩ (fun w hw => ⟨Nat.zero_le _, hw⟩) ?_
    intro k
    refine CX.have fun hk => ?_
    have h7 := nOf7_lt z
    refine CX.seq ?_
    refine CX.seq ?_
    refine CX.region ?_
    refine LX.pure (Y.move rfl) rfl rfl rfl ?_
    refine LX.pure (Y.move rfl) rfl rfl rfl ?_
    first
      | refine LX.pure (Y.ltN rfl rfl) rfl rfl rfl ?_
      | refine LX.pure (Y.ltI rfl rfl) rfl rfl rfl ?_
    refine LX.sub (l' := [(0, _), (1, _), (2, _), (7, _), (8, _), (9, _), (23, _)]) ⟨rfl, rfl, rfl, rfl, rfl, rfl, rfl, trivial⟩ ?_
    refine LX.next ?_
    refine PX.thenN ?_
    refine CX.cond rfl (fun hb2 => ?_) (fun hb2 => ?_)
    · try simp at hb2
      refine CX.skip ?_
      refine PX.thenN ?_
      refine CX.seq ?_
      refine CX.block ?_
      refine CX.region ?_
      refine LX.pure (Y.move rfl) rfl rfl rfl ?_
      first
        | refine LX.pure (Y.addS rfl rfl (by simp only [List.length_append, List.length_cons, List.length_nil]; omega)) rfl rfl rfl ?_
        | refine LX.pure (Y.addS rfl rfl (by first | omega | (simp only []; omega) | (simp; done) | (simp; omega) | (have := numD_len zr (nOf7 z); have := nOf7_lt z; cases zr <;> simp at * <;> omega))) rfl rfl rfl ?_
      refine LX.pure (Y.assign rfl) rfl rfl rfl ?_
      refine LX.sub (l' := [(0, _), (1, _), (2, _), (7, _), (8, _), (9, _)]) ⟨rfl, rfl, rfl, rfl, rfl, rfl, trivial⟩ ?_
      refine LX.next ?_
      refine PX.blockN ?_
      refine PX.thenN ?_
      refine CX.region ?_
      refine LX.pure (Y.move rfl) rfl rfl rfl ?_
      first
        | refine LX.pure (Y.addN rfl rfl (by first | omega | (simp only []; omega) | (simp; done) | (simp; omega) | (have := numD_len zr (nOf7 z); have := nOf7_lt z; cases zr <;> simp at * <;> omega))) rfl rfl rfl ?_
        | refine LX.pure (Y.add rfl rfl (by first | omega | (simp only []; omega) | (simp; done) | (simp; omega) | (have := numD_len zr (nOf7 z); have := nOf7_lt z; cases zr <;> simp at * <;> omega))) rfl rfl rfl ?_
      refine LX.pure (Y.assign rfl) rfl rfl rfl ?_
      refine LX.sub (l' := [(0, _), (1, _), (2, _), (7, _), (8, _), (9, _)]) ⟨rfl, rfl, rfl, rfl, rfl, rfl, trivial⟩ ?_
      refine LX.next ?_
      exact PX.again (k + 1) (by show nOf7 z - (k + 1) < nOf7 z - k; omega) ⟨rfl, rfl, rfl, rfl, by rw [List.replicate_succ']; rfl, rfl, trivial⟩ (fun w hw => ⟨by omega, hw⟩)
    · try simp at hb2
      have hk7 : k = nOf7 z := by omega
      subst hk7
      refine CX.exit ?_
      refine PX.thenE ?_
      refine PX.thenE ?_
      refine PX.blockE ?_
      refine PX.thenN ?_
      refine CX.seqM (τ := List UInt8) (fun t : List UInt8 => [(0, .int .i64 ((nOf7 z : Nat) : Int)), (1, .bool zr), (2, .bool lt), (7, .bool true), (8, str t)]) (fun (t : List UInt8) w => t = numD zr (nOf7 z) ∧ WA w0 base fr w) ?_ ?_
      ·
        refine CX.seq ?_
        refine CX.region ?_
        refine LX.pure (Y.move rfl) rfl rfl rfl ?_
        refine LX.sub (l' := [(0, _), (1, _), (2, _), (7, _), (8, _), (28, _)]) ⟨rfl, rfl, rfl, rfl, rfl, rfl, trivial⟩ ?_
        refine LX.next ?_
        refine PX.thenN ?_
        refine CX.cond rfl (fun hb3 => ?_) (fun hb3 => ?_)
        · try simp at hb3
          refine CX.region ?_
          refine LX.pure (Y.move rfl) rfl rfl rfl ?_
          first
            | refine LX.pure (Y.addS rfl rfl (by simp only [List.length_append, List.length_cons, List.length_nil]; omega)) rfl rfl rfl ?_
            | refine LX.pure (Y.addS rfl rfl (by first | omega | (simp only []; omega) | (simp; done) | (simp; omega) | (have := numD_len zr (nOf7 z); have := nOf7_lt z; cases zr <;> simp at * <;> omega))) rfl rfl rfl ?_
          refine LX.pure (Y.assign rfl) rfl rfl rfl ?_
          refine LX.sub (l' := [(0, _), (1, _), (2, _), (7, _), (8, _)]) ⟨rfl, rfl, rfl, rfl, rfl, trivial⟩ ?_
          refine LX.next ?_
          exact PX.seam (L := (fun t : List UInt8 => [(0, .int .i64 ((nOf7 z : Nat) : Int)), (1, .bool zr), (2, .bool lt), (7, .bool true), (8, str t)])) (WW := (fun (t : List UInt8) w => t = numD zr (nOf7 z) ∧ WA w0 base fr w)) (numD zr (nOf7 z)) ⟨rfl, rfl, rfl, rfl, by rw [hb3]; rfl, trivial⟩ (fun w hw => ⟨rfl, hw⟩)
        · try simp at hb3
          refine CX.skip ?_
          exact PX.seam (L := (fun t : List UInt8 => [(0, .int .i64 ((nOf7 z : Nat) : Int)), (1, .bool zr), (2, .bool lt), (7, .bool true), (8, str t)])) (WW := (fun (t : List UInt8) w => t = numD zr (nOf7 z) ∧ WA w0 base fr w)) (numD zr (nOf7 z)) ⟨rfl, rfl, rfl, rfl, by rw [hb3]; rfl, trivial⟩ (fun w hw => ⟨rfl, hw⟩)
      ·
        intro sx
        refine CX.have fun h => ?_
        subst h
        have h7 := nOf7_lt z
        have hdl := numD_len zr (nOf7 z)
        refine CX.seq ?_
        refine CX.seq ?_
        refine CX.region ?_
        refine LX.pure (Y.move rfl) rfl rfl rfl ?_
        refine LX.pure (Y.eqS rfl rfl) rfl rfl rfl ?_
        refine LX.sub (l' := [(0, _), (1, _), (2, _), (7, _), (8, _), (32, _)]) ⟨rfl, rfl, rfl, rfl, rfl, rfl, trivial⟩ ?_
        refine LX.next ?_
        refine PX.thenN ?_
        refine CX.cond rfl (fun hb4 => ?_) (fun hb4 => ?_)
        · try simp at hb4
          refine CX.seq ?_
          refine CX.region ?_
          refine LX.pure (Y.move rfl) rfl rfl rfl ?_
          refine LX.pure (Y.assign rfl) rfl rfl rfl ?_
          refine LX.sub (l' := [(0, _), (1, _), (2, _), (6, _), (7, _), (8, _)]) ⟨rfl, rfl, rfl, rfl, rfl, rfl, trivial⟩ ?_
          refine LX.next ?_
          refine PX.thenN ?_
          refine CX.ret ?_
          refine PX.thenR ?_
          refine PX.ret1 (by simp) Tryd.results7 rfl ?_
          exact fun w hw => ⟨(), rfl, hw⟩
        · try simp at hb4
          refine CX.skip ?_
          refine PX.thenN ?_
          refine CX.seq ?_
          refine CX.region ?_
          refine LX.pure (Y.move rfl) rfl rfl rfl ?_
          first
            | refine LX.pure (Y.addS rfl rfl (by simp only [List.length_append, List.length_cons, List.length_nil]; omega)) rfl rfl rfl ?_
            | refine LX.pure (Y.addS rfl rfl (by first | omega | (simp only []; omega) | (simp; done) | (simp; omega) | (have := numD_len zr (nOf7 z); have := nOf7_lt z; cases zr <;> simp at * <;> omega))) rfl rfl rfl ?_
          refine LX.pure (Y.assign rfl) rfl rfl rfl ?_
          refine LX.sub (l' := [(0, _), (1, _), (2, _), (7, _), (8, _), (10, _)]) ⟨rfl, rfl, rfl, rfl, rfl, rfl, trivial⟩ ?_
          refine LX.next ?_
          refine PX.thenN ?_
          refine CX.seqM (τ := Unit) (fun _ : Unit => [(0, .int .i64 ((nOf7 z : Nat) : Int)), (1, .bool zr), (2, .bool lt), (7, .bool true), (8, str (numD zr (nOf7 z))), (10, str (numT (numD zr (nOf7 z)) lt))]) (fun (_ : Unit) w => True ∧ WA w0 base fr w) ?_ ?_
          ·
            refine CX.seq ?_
            refine CX.region ?_
            refine LX.pure (Y.move rfl) rfl rfl rfl ?_
            refine LX.sub (l' := [(0, _), (1, _), (2, _), (7, _), (8, _), (10, _), (36, _)]) ⟨rfl, rfl, rfl, rfl, rfl, rfl, rfl, trivial⟩ ?_
            refine LX.next ?_
            refine PX.thenN ?_
            refine CX.cond rfl (fun hb5 => ?_) (fun hb5 => ?_)
            · try simp at hb5
              refine CX.region ?_
              refine LX.pure (Y.move rfl) rfl rfl rfl ?_
              first
                | refine LX.pure (Y.addS rfl rfl (by simp only [List.length_append, List.length_cons, List.length_nil]; omega)) rfl rfl rfl ?_
                | refine LX.pure (Y.addS rfl rfl (by first | omega | (simp only []; omega) | (simp; done) | (simp; omega) | (have := numD_len zr (nOf7 z); have := nOf7_lt z; cases zr <;> simp at * <;> omega))) rfl rfl rfl ?_
              refine LX.pure (Y.assign rfl) rfl rfl rfl ?_
              refine LX.sub (l' := [(0, _), (1, _), (2, _), (7, _), (8, _), (10, _)]) ⟨rfl, rfl, rfl, rfl, rfl, rfl, trivial⟩ ?_
              refine LX.next ?_
              exact PX.seam (L := (fun _ : Unit => [(0, .int .i64 ((nOf7 z : Nat) : Int)), (1, .bool zr), (2, .bool lt), (7, .bool true), (8, str (numD zr (nOf7 z))), (10, str (numT (numD zr (nOf7 z)) lt))])) (WW := (fun (_ : Unit) w => True ∧ WA w0 base fr w)) () ⟨rfl, rfl, rfl, rfl, rfl, by rw [hb5]; simp [numT]; rfl, trivial⟩ (fun w hw => ⟨trivial, hw⟩)
            · try simp at hb5
              refine CX.skip ?_
              exact PX.seam (L := (fun _ : Unit => [(0, .int .i64 ((nOf7 z : Nat) : Int)), (1, .bool zr), (2, .bool lt), (7, .bool true), (8, str (numD zr (nOf7 z))), (10, str (numT (numD zr (nOf7 z)) lt))])) (WW := (fun (_ : Unit) w => True ∧ WA w0 base fr w)) () ⟨rfl, rfl, rfl, rfl, rfl, by rw [hb5]; simp [numT]; rfl, trivial⟩ (fun w hw => ⟨trivial, hw⟩)
          ·
            intro _
            refine CX.have fun _ => ?_
            by_cases hbad : lt = true ∨ (zr = true ∧ 0 < nOf7 z) ∨ 600 < nOf7 z
            ·
              refine CX.seq ?_
              refine CX.region ?_
              refine LX.pure (Y.move rfl) rfl rfl rfl ?_
              refine LX.call (scan_bad_c hE hM (s := numT (numD zr (nOf7 z)) lt) (by simp [numT]; cases zr <;> cases lt <;> simp_all <;> omega) (numD_bad hb4 hbad)) F.en20 rfl rfl rfl rfl rfl ?_
              intro bE
              refine LX.pure (Y.move rfl) rfl rfl rfl ?_
              refine LX.pure (Y.extract rfl rfl) rfl rfl rfl ?_
              refine LX.pure (Y.extract rfl rfl) rfl rfl rfl ?_
              refine LX.pure (Y.assign rfl) rfl rfl rfl ?_
              refine LX.pure (Y.assign rfl) rfl rfl rfl ?_
              refine LX.sub (l' := [(0, _), (1, _), (2, _), (7, _), (8, _), (11, _), (12, _)]) ⟨rfl, rfl, rfl, rfl, rfl, rfl, rfl, trivial⟩ ?_
              refine LX.next ?_
              refine PX.thenN ?_
              refine CX.seq ?_
              refine CX.region ?_
              refine LX.pure (Y.move rfl) rfl rfl rfl ?_
              refine LX.pure (Y.move rfl) rfl rfl rfl ?_
              refine LX.sub (l' := [(0, _), (1, _), (7, _), (8, _), (11, _), (12, _), (45, _)]) ⟨rfl, rfl, rfl, rfl, rfl, rfl, rfl, trivial⟩ ?_
              apply LX.joinOr 6 51 45 rfl
              · intro hb6
                have hb6p := hb6
                try simp at hb6p
                refine LX.gF rfl rfl rfl hb6 rfl rfl ?_
                refine LX.gF rfl rfl rfl hb6 rfl rfl ?_
                refine LX.gU rfl rfl rfl rfl rfl ?_
                refine LX.gU rfl rfl rfl rfl rfl ?_
                refine LX.gF rfl rfl rfl hb6 rfl rfl ?_
                refine LX.pure (Y.pickT rfl hb6 rfl) rfl rfl rfl ?_
                exact LX.left ⟨rfl, rfl, rfl, rfl, rfl, rfl, rfl, rfl, trivial⟩
              · intro hb6
                have hb6p := hb6
                try simp at hb6p
                refine LX.gT rfl rfl rfl hb6 (Y.move rfl) rfl rfl ?_
                refine LX.gT rfl rfl rfl hb6 (Y.move rfl) rfl rfl ?_
                refine LX.sub (l' := [(0, _), (1, _), (7, _), (8, _), (11, _), (12, _), (45, _), (47, _)]) ⟨rfl, rfl, rfl, rfl, rfl, rfl, rfl, rfl, trivial⟩ ?_
                apply LX.joinAnd 3 50 47 rfl
                · intro hb7
                  have hb7p := hb7
                  try simp at hb7p
                  refine LX.gT rfl rfl rfl hb7 (Y.move rfl) rfl rfl ?_
                  first
                    | refine LX.gT rfl rfl rfl hb7 (Y.gtN rfl rfl) rfl rfl ?_
                    | refine LX.gT rfl rfl rfl hb7 (Y.gtI rfl rfl) rfl rfl ?_
                  refine LX.gT rfl rfl rfl hb6 (Y.pickT rfl hb7 rfl) rfl rfl ?_
                  exact LX.left ⟨rfl, rfl, rfl, rfl, rfl, rfl, rfl, rfl, rfl, trivial⟩
                · intro hb7
                  have hb7p := hb7
                  try simp at hb7p
                  refine LX.gF rfl rfl rfl hb7 rfl rfl ?_
                  refine LX.gF rfl rfl rfl hb7 rfl rfl ?_
                  refine LX.gT rfl rfl rfl hb6 (Y.pickF rfl hb7 rfl) rfl rfl ?_
                  exact LX.left ⟨rfl, rfl, rfl, rfl, rfl, rfl, rfl, rfl, rfl, trivial⟩
                refine LX.pure (Y.pickF rfl hb6 rfl) rfl rfl rfl ?_
                exact LX.left ⟨rfl, rfl, rfl, rfl, rfl, rfl, rfl, rfl, trivial⟩
              refine LX.pure (Y.move rfl) rfl rfl rfl ?_
              refine LX.sub (l' := [(0, _), (7, _), (8, _), (11, _), (12, _), (52, _)]) ⟨rfl, rfl, rfl, rfl, rfl, rfl, trivial⟩ ?_
              apply LX.joinOr 3 55 52 rfl
              · intro hb8
                have hb8p := hb8
                try simp at hb8p
                refine LX.gF rfl rfl rfl hb8 rfl rfl ?_
                refine LX.gF rfl rfl rfl hb8 rfl rfl ?_
                refine LX.pure (Y.pickT rfl hb8 rfl) rfl rfl rfl ?_
                exact LX.left ⟨rfl, rfl, rfl, rfl, rfl, rfl, rfl, trivial⟩
              · intro hb8
                have hb8p := hb8
                try simp at hb8p
                refine LX.gT rfl rfl rfl hb8 (Y.move rfl) rfl rfl ?_
                first
                  | refine LX.gT rfl rfl rfl hb8 (Y.gtN rfl rfl) rfl rfl ?_
                  | refine LX.gT rfl rfl rfl hb8 (Y.gtI rfl rfl) rfl rfl ?_
                refine LX.pure (Y.pickF rfl hb8 rfl) rfl rfl rfl ?_
                exact LX.left ⟨rfl, rfl, rfl, rfl, rfl, rfl, rfl, trivial⟩
              refine LX.pure (Y.assign rfl) rfl rfl rfl ?_
              refine LX.sub (l' := [(7, _), (8, _), (11, _), (12, _), (13, _)]) ⟨rfl, rfl, rfl, rfl, rfl, trivial⟩ ?_
              refine LX.next ?_
              refine PX.thenN ?_
              refine CX.seq ?_
              refine CX.seq ?_
              refine CX.region ?_
              refine LX.pure (Y.move rfl) rfl rfl rfl ?_
              refine LX.sub (l' := [(7, _), (8, _), (11, _), (12, _), (56, _)]) ⟨rfl, rfl, rfl, rfl, rfl, trivial⟩ ?_
              refine LX.next ?_
              refine PX.thenN ?_
              refine CX.cond rfl (fun hb9 => ?_) (fun hb9 => ?_)
              · try simp at hb9
                refine CX.seq ?_
                refine CX.region ?_
                refine LX.pure (Y.move rfl) rfl rfl rfl ?_
                refine LX.pure (Y.move rfl) rfl rfl rfl ?_
                refine LX.sub (l' := [(7, _), (8, _), (11, _), (12, _), (58, _)]) ⟨rfl, rfl, rfl, rfl, rfl, trivial⟩ ?_
                apply LX.joinAnd 4 62 58 rfl
                · intro hb10
                  have hb10p := hb10
                  try simp at hb10p
                  refine LX.gT rfl rfl rfl hb10 (Y.move rfl) rfl rfl ?_
                  refine LX.gT rfl rfl rfl hb10 (Y.lenSl rfl F.un38 rfl) rfl rfl ?_
                  first
                    | refine LX.gT rfl rfl rfl hb10 (Y.eqN rfl rfl) rfl rfl ?_
                    | refine LX.gT rfl rfl rfl hb10 (Y.eqI rfl rfl) rfl rfl ?_
                  refine LX.pure (Y.pickT rfl hb10 rfl) rfl rfl rfl ?_
                  exact LX.left ⟨rfl, rfl, rfl, rfl, rfl, rfl, trivial⟩
                · intro hb10
                  cases hb10
                refine LX.pure (Y.move rfl) rfl rfl rfl ?_
                refine LX.sub (l' := [(7, _), (8, _), (11, _), (12, _), (63, _)]) ⟨rfl, rfl, rfl, rfl, rfl, trivial⟩ ?_
                apply LX.joinAnd 4 67 63 rfl
                · intro hb11
                  have hb11p := hb11
                  try simp at hb11p
                  refine LX.gT rfl rfl rfl hb11 (Y.move rfl) rfl rfl ?_
                  refine LX.callT rfl rfl rfl hb11 (placedR_c 101 4 (by decide)) Fn.en18 rfl rfl rfl rfl ?_
                  intro _
                  refine LX.callT rfl rfl rfl hb11 (sameAt_c hS (i := 0) (by decide) bE 4 ⟨101, true, 4, false, []⟩) Fn.en17 rfl rfl rfl rfl ?_
                  intro _
                  refine LX.pure (Y.pickT rfl hb11 rfl) rfl rfl rfl ?_
                  first
                  | exact LX.left ⟨rfl, rfl, rfl, rfl, rfl, rfl, trivial⟩
                  | exact LX.leftP ⟨rfl, rfl, rfl, rfl, rfl, rfl, trivial⟩
                · intro hb11
                  exact absurd hb11 (by decide)
                refine LX.pure (Y.assign rfl) rfl rfl rfl ?_
                refine LX.sub (l' := [(6, _), (7, _), (8, _), (11, _), (12, _)]) ⟨rfl, rfl, rfl, rfl, rfl, trivial⟩ ?_
                refine LX.next ?_
                refine PX.thenN ?_
                refine CX.ret ?_
                refine PX.thenR ?_
                refine PX.ret1 (by simp) Tryd.results7 rfl ?_
                exact fun w hw => ⟨(), by simp, hw.drop (List.sublist_cons_self _ _)⟩
              · try simp at hb9
                first | done | (exfalso; rcases hbad with h | ⟨h, h2⟩ | h <;> simp_all <;> omega)
            ·
              obtain ⟨rfl, hok⟩ := numD_ok hb4 hbad
              refine CX.seq ?_
              refine CX.region ?_
              refine LX.pure (Y.move rfl) rfl rfl rfl ?_
              refine LX.call (scan_ok_c hE hM (s := numT (numD zr (nOf7 z)) false) (ts := numR (numD zr (nOf7 z))) (by simp [numT]; cases zr <;> simp_all <;> omega) hok) F.en20 rfl rfl rfl rfl rfl ?_
              rintro ⟨g, c⟩
              refine LX.pure (Y.move rfl) rfl rfl rfl ?_
              refine LX.pure (Y.extract rfl rfl) rfl rfl rfl ?_
              refine LX.pure (Y.extract rfl rfl) rfl rfl rfl ?_
              refine LX.pure (Y.assign rfl) rfl rfl rfl ?_
              refine LX.pure (Y.assign rfl) rfl rfl rfl ?_
              refine LX.sub (l' := [(0, _), (1, _), (2, _), (7, _), (8, _), (11, _), (12, _)]) ⟨rfl, rfl, rfl, rfl, rfl, rfl, rfl, trivial⟩ ?_
              refine LX.next ?_
              refine PX.thenN ?_
              refine CX.seq ?_
              refine CX.region ?_
              refine LX.pure (Y.move rfl) rfl rfl rfl ?_
              refine LX.pure (Y.move rfl) rfl rfl rfl ?_
              refine LX.sub (l' := [(0, _), (1, _), (7, _), (8, _), (11, _), (12, _), (45, _)]) ⟨rfl, rfl, rfl, rfl, rfl, rfl, rfl, trivial⟩ ?_
              apply LX.joinOr 6 51 45 rfl
              · intro hb12
                cases hb12
              · intro hb12
                have hb12p := hb12
                try simp at hb12p
                refine LX.gT rfl rfl rfl hb12 (Y.move rfl) rfl rfl ?_
                refine LX.gT rfl rfl rfl hb12 (Y.move rfl) rfl rfl ?_
                refine LX.sub (l' := [(0, _), (1, _), (7, _), (8, _), (11, _), (12, _), (45, _), (47, _)]) ⟨rfl, rfl, rfl, rfl, rfl, rfl, rfl, rfl, trivial⟩ ?_
                apply LX.joinAnd 3 50 47 rfl
                · intro hb13
                  have hb13p := hb13
                  try simp at hb13p
                  refine LX.gT rfl rfl rfl hb13 (Y.move rfl) rfl rfl ?_
                  first
                    | refine LX.gT rfl rfl rfl hb13 (Y.gtN rfl rfl) rfl rfl ?_
                    | refine LX.gT rfl rfl rfl hb13 (Y.gtI rfl rfl) rfl rfl ?_
                  refine LX.gT rfl rfl rfl hb12 (Y.pickT rfl hb13 rfl) rfl rfl ?_
                  exact LX.left ⟨rfl, rfl, rfl, rfl, rfl, rfl, rfl, rfl, rfl, trivial⟩
                · intro hb13
                  have hb13p := hb13
                  try simp at hb13p
                  refine LX.gF rfl rfl rfl hb13 rfl rfl ?_
                  refine LX.gF rfl rfl rfl hb13 rfl rfl ?_
                  refine LX.gT rfl rfl rfl hb12 (Y.pickF rfl hb13 rfl) rfl rfl ?_
                  exact LX.left ⟨rfl, rfl, rfl, rfl, rfl, rfl, rfl, rfl, rfl, trivial⟩
                refine LX.pure (Y.pickF rfl hb12 rfl) rfl rfl rfl ?_
                exact LX.left ⟨rfl, rfl, rfl, rfl, rfl, rfl, rfl, rfl, trivial⟩
              refine LX.pure (Y.move rfl) rfl rfl rfl ?_
              refine LX.sub (l' := [(0, _), (7, _), (8, _), (11, _), (12, _), (52, _)]) ⟨rfl, rfl, rfl, rfl, rfl, rfl, trivial⟩ ?_
              apply LX.joinOr 3 55 52 rfl
              · intro hb14
                have hb14p := hb14
                try simp at hb14p
                refine LX.gF rfl rfl rfl hb14 rfl rfl ?_
                refine LX.gF rfl rfl rfl hb14 rfl rfl ?_
                refine LX.pure (Y.pickT rfl hb14 rfl) rfl rfl rfl ?_
                exact LX.left ⟨rfl, rfl, rfl, rfl, rfl, rfl, rfl, trivial⟩
              · intro hb14
                have hb14p := hb14
                try simp at hb14p
                refine LX.gT rfl rfl rfl hb14 (Y.move rfl) rfl rfl ?_
                first
                  | refine LX.gT rfl rfl rfl hb14 (Y.gtN rfl rfl) rfl rfl ?_
                  | refine LX.gT rfl rfl rfl hb14 (Y.gtI rfl rfl) rfl rfl ?_
                refine LX.pure (Y.pickF rfl hb14 rfl) rfl rfl rfl ?_
                exact LX.left ⟨rfl, rfl, rfl, rfl, rfl, rfl, rfl, trivial⟩
              refine LX.pure (Y.assign rfl) rfl rfl rfl ?_
              refine LX.sub (l' := [(7, _), (8, _), (11, _), (12, _), (13, _)]) ⟨rfl, rfl, rfl, rfl, rfl, trivial⟩ ?_
              refine LX.next ?_
              refine PX.thenN ?_
              refine CX.seq ?_
              refine CX.seq ?_
              refine CX.region ?_
              refine LX.pure (Y.move rfl) rfl rfl rfl ?_
              refine LX.sub (l' := [(7, _), (8, _), (11, _), (12, _), (56, _)]) ⟨rfl, rfl, rfl, rfl, rfl, trivial⟩ ?_
              refine LX.next ?_
              refine PX.thenN ?_
              refine CX.cond rfl (fun hb15 => ?_) (fun hb15 => ?_)
              · try simp at hb15
                first | done | (exfalso; exact hbad (by simp_all))
              · try simp at hb15
                refine CX.skip ?_
                refine PX.thenN ?_
                refine CX.seq ?_
                refine CX.region ?_
                refine LX.pure (Y.move rfl) rfl rfl rfl ?_
                refine LX.pure (Y.move rfl) rfl rfl rfl ?_
                refine LX.sub (l' := [(8, _), (11, _), (12, _), (69, _)]) ⟨rfl, rfl, rfl, rfl, trivial⟩ ?_
                apply LX.joinAnd 3 72 69 rfl
                · intro hb16
                  have hb16p := hb16
                  try simp at hb16p
                  refine LX.gT rfl rfl rfl hb16 (Y.move rfl) rfl rfl ?_
                  first
                    | refine LX.gT rfl rfl rfl hb16 (Y.eqNil F.un29 rfl rfl) rfl rfl ?_
                    | refine LX.gT rfl rfl rfl hb16 (Y.eqNilNil F.un29 rfl) rfl rfl ?_
                  refine LX.pure (Y.pickT rfl hb16 rfl) rfl rfl rfl ?_
                  exact LX.left ⟨rfl, rfl, rfl, rfl, rfl, trivial⟩
                · intro hb16
                  exfalso; revert hb16; simp [numR, natV]
                refine LX.pure (Y.move rfl) rfl rfl rfl ?_
                refine LX.sub (l' := [(8, _), (11, _), (73, _)]) ⟨rfl, rfl, rfl, trivial⟩ ?_
                apply LX.joinAnd 4 77 73 rfl
                · intro hb17
                  have hb17p := hb17
                  try simp at hb17p
                  refine LX.gT rfl rfl rfl hb17 (Y.move rfl) rfl rfl ?_
                  refine LX.gT rfl rfl rfl hb17 (Y.lenSl rfl F.un38 rfl) rfl rfl ?_
                  first
                    | refine LX.gT rfl rfl rfl hb17 (Y.eqN rfl rfl) rfl rfl ?_
                    | refine LX.gT rfl rfl rfl hb17 (Y.eqI rfl rfl) rfl rfl ?_
                  refine LX.pure (Y.pickT rfl hb17 rfl) rfl rfl rfl ?_
                  exact LX.left ⟨rfl, rfl, rfl, rfl, trivial⟩
                · intro hb17
                  exfalso; revert hb17; simp [numR, natV]
                refine LX.pure (Y.move rfl) rfl rfl rfl ?_
                refine LX.sub (l' := [(8, _), (11, _), (78, _)]) ⟨rfl, rfl, rfl, trivial⟩ ?_
                apply LX.joinAnd 6 84 78 rfl
                · intro hb18
                  have hb18p := hb18
                  try simp at hb18p
                  refine LX.gT rfl rfl rfl hb18 (Y.move rfl) rfl rfl ?_
                  first
                    | refine LX.gT rfl rfl rfl hb18 (Y.idxR 0 F.un38 F.sz46 rfl rfl rfl (by first | omega | (simp only []; omega) | (simp; done) | (simp; omega) | (have := numD_len zr (nOf7 z); have := nOf7_lt z; cases zr <;> simp at * <;> omega))) rfl rfl ?_
                    | refine LX.gT rfl rfl rfl hb18 (Y.idxR 1 F.un38 F.sz46 rfl rfl rfl (by first | omega | (simp only []; omega) | (simp; done) | (simp; omega) | (have := numD_len zr (nOf7 z); have := nOf7_lt z; cases zr <;> simp at * <;> omega))) rfl rfl ?_
                    | refine LX.gT rfl rfl rfl hb18 (Y.idx F.un38 F.sz46 rfl rfl (by first | omega | (simp only []; omega) | (simp; done) | (simp; omega) | (have := numD_len zr (nOf7 z); have := nOf7_lt z; cases zr <;> simp at * <;> omega))) rfl rfl ?_
                  first
                    | refine LX.gT rfl rfl rfl hb18 (Y.fieldAddr0 F.fo46_0 rfl) rfl rfl ?_
                    | refine LX.gT rfl rfl rfl hb18 (Y.fieldAddr F.fo46_0 rfl) rfl rfl ?_
                  refine LX.gT rfl rfl rfl hb18 (Y.ldR 0 (v := natV 2) F.one3 rfl rfl rfl) rfl rfl ?_
                  first
                    | refine LX.gT rfl rfl rfl hb18 (Y.eqN rfl rfl) rfl rfl ?_
                    | refine LX.gT rfl rfl rfl hb18 (Y.eqI rfl rfl) rfl rfl ?_
                  refine LX.pure (Y.pickT rfl hb18 rfl) rfl rfl rfl ?_
                  exact LX.left ⟨rfl, rfl, rfl, rfl, trivial⟩
                · intro hb18
                  exfalso; revert hb18; simp [numR, natV]
                refine LX.pure (Y.move rfl) rfl rfl rfl ?_
                refine LX.sub (l' := [(8, _), (11, _), (85, _)]) ⟨rfl, rfl, rfl, trivial⟩ ?_
                apply LX.joinAnd 7 92 85 rfl
                · intro hb19
                  have hb19p := hb19
                  try simp at hb19p
                  refine LX.gT rfl rfl rfl hb19 (Y.move rfl) rfl rfl ?_
                  first
                    | refine LX.gT rfl rfl rfl hb19 (Y.idxR 0 F.un38 F.sz46 rfl rfl rfl (by first | omega | (simp only []; omega) | (simp; done) | (simp; omega) | (have := numD_len zr (nOf7 z); have := nOf7_lt z; cases zr <;> simp at * <;> omega))) rfl rfl ?_
                    | refine LX.gT rfl rfl rfl hb19 (Y.idxR 1 F.un38 F.sz46 rfl rfl rfl (by first | omega | (simp only []; omega) | (simp; done) | (simp; omega) | (have := numD_len zr (nOf7 z); have := nOf7_lt z; cases zr <;> simp at * <;> omega))) rfl rfl ?_
                    | refine LX.gT rfl rfl rfl hb19 (Y.idx F.un38 F.sz46 rfl rfl (by first | omega | (simp only []; omega) | (simp; done) | (simp; omega) | (have := numD_len zr (nOf7 z); have := nOf7_lt z; cases zr <;> simp at * <;> omega))) rfl rfl ?_
                  first
                    | refine LX.gT rfl rfl rfl hb19 (Y.fieldAddr0 Fn.fo46_1 rfl) rfl rfl ?_
                    | refine LX.gT rfl rfl rfl hb19 (Y.fieldAddr Fn.fo46_1 rfl) rfl rfl ?_
                  refine LX.gT rfl rfl rfl hb19 (Y.ldR 0 (v := str (numD zr (nOf7 z))) F.one9 rfl rfl rfl) rfl rfl ?_
                  refine LX.gT rfl rfl rfl hb19 (Y.move rfl) rfl rfl ?_
                  refine LX.gT rfl rfl rfl hb19 (Y.eqS rfl rfl) rfl rfl ?_
                  refine LX.pure (Y.pickT rfl hb19 rfl) rfl rfl rfl ?_
                  exact LX.left ⟨rfl, rfl, rfl, rfl, trivial⟩
                · intro hb19
                  exfalso; revert hb19; simp [numR, natV]
                refine LX.pure (Y.move rfl) rfl rfl rfl ?_
                refine LX.sub (l' := [(11, _), (93, _)]) ⟨rfl, rfl, trivial⟩ ?_
                apply LX.joinAnd 6 99 93 rfl
                · intro hb20
                  have hb20p := hb20
                  try simp at hb20p
                  refine LX.gT rfl rfl rfl hb20 (Y.move rfl) rfl rfl ?_
                  first
                    | refine LX.gT rfl rfl rfl hb20 (Y.idxR 0 F.un38 F.sz46 rfl rfl rfl (by first | omega | (simp only []; omega) | (simp; done) | (simp; omega) | (have := numD_len zr (nOf7 z); have := nOf7_lt z; cases zr <;> simp at * <;> omega))) rfl rfl ?_
                    | refine LX.gT rfl rfl rfl hb20 (Y.idxR 1 F.un38 F.sz46 rfl rfl rfl (by first | omega | (simp only []; omega) | (simp; done) | (simp; omega) | (have := numD_len zr (nOf7 z); have := nOf7_lt z; cases zr <;> simp at * <;> omega))) rfl rfl ?_
                    | refine LX.gT rfl rfl rfl hb20 (Y.idx F.un38 F.sz46 rfl rfl (by first | omega | (simp only []; omega) | (simp; done) | (simp; omega) | (have := numD_len zr (nOf7 z); have := nOf7_lt z; cases zr <;> simp at * <;> omega))) rfl rfl ?_
                  first
                    | refine LX.gT rfl rfl rfl hb20 (Y.fieldAddr0 Fn.fo46_2 rfl) rfl rfl ?_
                    | refine LX.gT rfl rfl rfl hb20 (Y.fieldAddr Fn.fo46_2 rfl) rfl rfl ?_
                  refine LX.gT rfl rfl rfl hb20 (Y.ldR 0 (v := natV 4) F.one3 rfl rfl rfl) rfl rfl ?_
                  first
                    | refine LX.gT rfl rfl rfl hb20 (Y.eqN rfl rfl) rfl rfl ?_
                    | refine LX.gT rfl rfl rfl hb20 (Y.eqI rfl rfl) rfl rfl ?_
                  refine LX.pure (Y.pickT rfl hb20 rfl) rfl rfl rfl ?_
                  exact LX.left ⟨rfl, rfl, rfl, trivial⟩
                · intro hb20
                  exfalso; revert hb20; simp [numR, natV]
                refine LX.pure (Y.assign rfl) rfl rfl rfl ?_
                refine LX.sub (l' := [(6, _)]) ⟨rfl, trivial⟩ ?_
                refine LX.next ?_
                refine PX.thenN ?_
                refine CX.ret ?_
                refine PX.ret1 (by simp) Tryd.results7 rfl ?_
                exact fun w hw => ⟨(), by simp [numR, natV], hw.drop (List.sublist_cons_self _ _)⟩

end Go.Proofs.YtggoogbloaennaaDoor
