/-
  Proved here: the walk of the statement LexScans.
-/
import Derived.Test.YtggoogbloaennaaDoorFx
import Derived.Test.YtggoogbloaennaaDoorRefC
import Derived.Test.YtggoogbloaennaaDoorLawA
namespace Go.Proofs.YtggoogbloaennaaDoor
open Go.SX Go.RowKit Go.Lex
@[reducible] def tokV (t : Tok) : Value := .agg #[.int .i64 (t.kind : Int), str t.text, .int .i64 (t.pos : Int)]
theorem tok_take {ts : List Tok} {k : Nat} (h : k < ts.length) : ((ts.flatMap tokC).drop (k * 3)).take 3 = tokC (ts.getD k tok0) := by
  induction ts generalizing k with
  | nil => cases h
  | cons a r ih =>
    cases k with
    | zero => rfl
    | succ k =>
      have h2 := ih (k := k) (by simpa using h)
      rw [List.flatMap_cons, show (k + 1) * 3 = 3 + k * 3 by omega, ← List.drop_drop]
      exact h2

theorem sameToken_c {w0 : World} {base : Nat} {fr : List It} (x y : Tok) : FnC Tryd.prog 57 #[tokV x, tokV y] (WA w0 base fr) (fun _ : Unit => .bool (decide (x = y))) (fun _ => WA w0 base fr) := by
  refine FnC.of_body (fn := Tryd.f57) [(0, _), (1, _)] Tryd.func57 rfl Tryd.ntmps57 rfl ⟨rfl, rfl, trivial⟩ ?_
  refine CX.seq ?_
  refine CX.region ?_
  refine LX.box rfl rfl rfl rfl rfl ?_
  intro bx0
  refine LX.box rfl rfl rfl rfl rfl ?_
  intro bx1
  refine LX.pure (Y.assign rfl) rfl rfl rfl ?_
  refine LX.sub (l' := [(2, _), (3, _), (4, _)]) ⟨rfl, rfl, rfl, trivial⟩ ?_
  refine LX.next ?_
  refine PX.thenN ?_
  refine CX.seq ?_
  refine CX.region ?_
  first
    | refine LX.pure (Y.fieldAddr0 F.fo46_0 rfl) rfl rfl rfl ?_
    | refine LX.pure (Y.fieldAddr F.fo46_0 rfl) rfl rfl rfl ?_
  first
    | refine LX.pure (Y.ldB 0 F.one3 rfl rfl rfl) rfl rfl rfl ?_
    | refine LX.pure (Y.ldB 1 F.one3 rfl rfl rfl) rfl rfl rfl ?_
  first
    | refine LX.pure (Y.fieldAddr0 F.fo46_0 rfl) rfl rfl rfl ?_
    | refine LX.pure (Y.fieldAddr F.fo46_0 rfl) rfl rfl rfl ?_
  first
    | refine LX.pure (Y.ldB 0 F.one3 rfl rfl rfl) rfl rfl rfl ?_
    | refine LX.pure (Y.ldB 1 F.one3 rfl rfl rfl) rfl rfl rfl ?_
  first
    | refine LX.pure (Y.eqN rfl rfl) rfl rfl rfl ?_
    | refine LX.pure (Y.eqI rfl rfl) rfl rfl rfl ?_
  refine LX.pure (Y.move rfl) rfl rfl rfl ?_
  refine LX.sub (l' := [(2, _), (3, _), (4, _), (10, _)]) ⟨rfl, rfl, rfl, rfl, trivial⟩ ?_
  apply LX.joinAnd 6 16 10 rfl
  · intro hb1
    have hb1p := hb1
    try simp at hb1p
    first
      | refine LX.gT rfl rfl rfl hb1 (Y.fieldAddr0 Fx.fo46_1 rfl) rfl rfl ?_
      | refine LX.gT rfl rfl rfl hb1 (Y.fieldAddr Fx.fo46_1 rfl) rfl rfl ?_
    first
      | refine LX.gT rfl rfl rfl hb1 (Y.ldB 0 F.one9 rfl rfl rfl) rfl rfl ?_
      | refine LX.gT rfl rfl rfl hb1 (Y.ldB 1 F.one9 rfl rfl rfl) rfl rfl ?_
    first
      | refine LX.gT rfl rfl rfl hb1 (Y.fieldAddr0 Fx.fo46_1 rfl) rfl rfl ?_
      | refine LX.gT rfl rfl rfl hb1 (Y.fieldAddr Fx.fo46_1 rfl) rfl rfl ?_
    first
      | refine LX.gT rfl rfl rfl hb1 (Y.ldB 0 F.one9 rfl rfl rfl) rfl rfl ?_
      | refine LX.gT rfl rfl rfl hb1 (Y.ldB 1 F.one9 rfl rfl rfl) rfl rfl ?_
    refine LX.gT rfl rfl rfl hb1 (Y.eqS rfl rfl) rfl rfl ?_
    refine LX.pure (Y.pickT rfl hb1 rfl) rfl rfl rfl ?_
    exact LX.left ⟨rfl, rfl, rfl, rfl, rfl, trivial⟩
  · intro hb1
    have hb1p := hb1
    try simp at hb1p
    refine LX.gF rfl rfl rfl hb1 rfl rfl ?_
    refine LX.gF rfl rfl rfl hb1 rfl rfl ?_
    refine LX.gF rfl rfl rfl hb1 rfl rfl ?_
    refine LX.gF rfl rfl rfl hb1 rfl rfl ?_
    refine LX.gF rfl rfl rfl hb1 rfl rfl ?_
    refine LX.pure (Y.pickF rfl hb1 rfl) rfl rfl rfl ?_
    exact LX.left ⟨rfl, rfl, rfl, rfl, rfl, trivial⟩
  refine LX.pure (Y.move rfl) rfl rfl rfl ?_
  refine LX.sub (l' := [(2, _), (3, _), (4, _), (17, _)]) ⟨rfl, rfl, rfl, rfl, trivial⟩ ?_
  apply LX.joinAnd 6 23 17 rfl
  · intro hb2
    have hb2p := hb2
    try simp at hb2p
    first
      | refine LX.gT rfl rfl rfl hb2 (Y.fieldAddr0 Fx.fo46_2 rfl) rfl rfl ?_
      | refine LX.gT rfl rfl rfl hb2 (Y.fieldAddr Fx.fo46_2 rfl) rfl rfl ?_
    first
      | refine LX.gT rfl rfl rfl hb2 (Y.ldB 0 F.one3 rfl rfl rfl) rfl rfl ?_
      | refine LX.gT rfl rfl rfl hb2 (Y.ldB 1 F.one3 rfl rfl rfl) rfl rfl ?_
    first
      | refine LX.gT rfl rfl rfl hb2 (Y.fieldAddr0 Fx.fo46_2 rfl) rfl rfl ?_
      | refine LX.gT rfl rfl rfl hb2 (Y.fieldAddr Fx.fo46_2 rfl) rfl rfl ?_
    first
      | refine LX.gT rfl rfl rfl hb2 (Y.ldB 0 F.one3 rfl rfl rfl) rfl rfl ?_
      | refine LX.gT rfl rfl rfl hb2 (Y.ldB 1 F.one3 rfl rfl rfl) rfl rfl ?_
    first
      | refine LX.gT rfl rfl rfl hb2 (Y.eqN rfl rfl) rfl rfl ?_
      | refine LX.gT rfl rfl rfl hb2 (Y.eqI rfl rfl) rfl rfl ?_
    refine LX.pure (Y.pickT rfl hb2 rfl) rfl rfl rfl ?_
    exact LX.left ⟨rfl, rfl, rfl, rfl, rfl, trivial⟩
  · intro hb2
    have hb2p := hb2
    try simp at hb2p
    refine LX.gF rfl rfl rfl hb2 rfl rfl ?_
    refine LX.gF rfl rfl rfl hb2 rfl rfl ?_
    refine LX.gF rfl rfl rfl hb2 rfl rfl ?_
    refine LX.gF rfl rfl rfl hb2 rfl rfl ?_
    refine LX.gF rfl rfl rfl hb2 rfl rfl ?_
    refine LX.pure (Y.pickF rfl hb2 rfl) rfl rfl rfl ?_
    exact LX.left ⟨rfl, rfl, rfl, rfl, rfl, trivial⟩
  refine LX.pure (Y.assign rfl) rfl rfl rfl ?_
  refine LX.sub (l' := [(4, _)]) ⟨rfl, trivial⟩ ?_
  refine LX.next ?_
  refine PX.thenN ?_
  refine CX.ret ?_
  refine PX.ret1 (by simp) Tryd.results57 rfl ?_
  exact fun w hw => ⟨(), by obtain ⟨a, b, c⟩ := x; obtain ⟨a', b', c'⟩ := y; simp [Tok.mk.injEq, Bool.and_assoc, Bool.decide_and, Bool.beq_eq_decide_eq], hw.drop ((List.sublist_cons_self _ _).cons _)⟩

theorem sameTokens_c {w0 : World} {base : Nat} {its : List It} {g1 g2 : Option Nat} {c1 c2 : Nat} {ts : List Tok} (i1 i2 : Nat) (hi1 : its[i1]? = some (.row g1 c1 ts.length 46 3 (ts.flatMap tokC))) (hi2 : its[i2]? = some (.row g2 c2 ts.length 46 3 (ts.flatMap tokC))) (hl : ts.length ≤ 1000000) : FnC Tryd.prog 22 #[rv g1 ts.length c1, rv g2 ts.length c2] (WA w0 base its) (fun _ : Unit => .bool true) (fun _ => WA w0 base its) := by
  refine FnC.of_body (fn := Tryd.f22) [(0, _), (1, _)] Tryd.func22 rfl Tryd.ntmps22 rfl ⟨rfl, rfl, trivial⟩ ?_
  refine CX.seq ?_
  refine CX.region ?_
  refine LX.pure (Y.assign rfl) rfl rfl rfl ?_
  refine LX.sub (l' := [(0, _), (1, _), (4, _)]) ⟨rfl, rfl, rfl, trivial⟩ ?_
  refine LX.next ?_
  refine PX.thenN ?_
  refine CX.seq ?_
  refine CX.seq ?_
  refine CX.region ?_
  refine LX.pure (Y.move rfl) rfl rfl rfl ?_
  refine LX.pure (Y.lenSl rfl F.un38 rfl) rfl rfl rfl ?_
  refine LX.pure (Y.move rfl) rfl rfl rfl ?_
  refine LX.pure (Y.lenSl rfl F.un38 rfl) rfl rfl rfl ?_
  first
    | refine LX.pure (Y.neN rfl rfl) rfl rfl rfl ?_
    | refine LX.pure (Y.neI rfl rfl) rfl rfl rfl ?_
  refine LX.sub (l' := [(0, _), (1, _), (4, _), (11, _)]) ⟨rfl, rfl, rfl, rfl, trivial⟩ ?_
  refine LX.next ?_
  refine PX.thenN ?_
  refine CX.cond rfl (fun hb1 => ?_) (fun hb1 => ?_)
  · try simp at hb1
    first | done | (exfalso; simp at hb1; done) | (exfalso; omega)
  · try simp at hb1
    refine CX.skip ?_
    refine PX.thenN ?_
    refine CX.seq ?_
    refine CX.seq ?_
    refine CX.region ?_
    refine LX.pure (Y.assign rfl) rfl rfl rfl ?_
    refine LX.sub (l' := [(0, _), (1, _), (4, _), (5, _)]) ⟨rfl, rfl, rfl, rfl, trivial⟩ ?_
    refine LX.next ?_
    refine PX.thenN ?_
    refine CX.block ?_
    refine CX.loop (τ := Nat) (fun k => [(0, rv g1 ts.length c1), (1, rv g2 ts.length c2), (5, .int .i64 (k : Int))]) (fun k w => k ≤ ts.length ∧ WA w0 base its w) (fun k => ts.length - k) 0 ⟨rfl, rfl, rfl, trivial⟩ (fun w hw => ⟨Nat.zero_le _, hw⟩) ?_
    intro k
    refine CX.have fun hk => ?_
    refine CX.seq ?_
    refine CX.seq ?_
    refine CX.region ?_
    refine LX.pure (Y.move rfl) rfl rfl rfl ?_
    refine LX.pure (Y.move rfl) rfl rfl rfl ?_
    refine LX.pure (Y.lenSl rfl F.un38 rfl) rfl rfl rfl ?_
    first
      | refine LX.pure (Y.ltN rfl rfl) rfl rfl rfl ?_
      | refine LX.pure (Y.ltI rfl rfl) rfl rfl rfl ?_
    refine LX.sub (l' := [(0, _), (1, _), (5, _), (15, _)]) ⟨rfl, rfl, rfl, rfl, trivial⟩ ?_
    refine LX.next ?_
    refine PX.thenN ?_
    refine CX.cond rfl (fun hb2 => ?_) (fun hb2 => ?_)
    · try simp at hb2
      have hkl : k < ts.length := hb2
      refine CX.skip ?_
      refine PX.thenN ?_
      refine CX.seq ?_
      refine CX.block ?_
      refine CX.seq ?_
      refine CX.regionM [(0, .anywhere), (1, .anywhere), (2, .held), (3, .held), (4, .anywhere), (5, .anywhere), (6, .held), (7, .held), (8, .alone), (9, .anywhere)] rfl (by kernel_rfl) ?_
      refine MX.lift0 (i := 0) rfl (Y.move rfl) rfl rfl rfl ?_
      refine MX.lift0 (i := 1) rfl (Y.move rfl) rfl rfl rfl ?_
      refine MX.lift1 (i := 2) (pend' := []) rfl (fun w hw => by first | exact hw | exact hw.1 | exact hw.drop (List.sublist_cons_self _ _) | exact hw.drop ((List.sublist_cons_self _ _).cons _)) (Y.idxR i1 F.un38 F.sz46 rfl rfl hi1 hkl) rfl rfl rfl (by kernel_rfl) ?_
      refine MX.lift1 (i := 3) (pend' := []) rfl (fun w hw => by first | exact hw | exact hw.1 | exact hw.drop (List.sublist_cons_self _ _) | exact hw.drop ((List.sublist_cons_self _ _).cons _)) (Y.ldAggR i1 (vs := tokC (ts.getD k tok0)) Fx.ag46 rfl hi1 (tok_take hkl) rfl) rfl rfl rfl (by kernel_rfl) ?_
      refine MX.lift0 (i := 4) rfl (Y.move rfl) rfl rfl rfl ?_
      refine MX.lift0 (i := 5) rfl (Y.move rfl) rfl rfl rfl ?_
      refine MX.lift1 (i := 6) (pend' := [3]) rfl (fun w hw => by first | exact hw | exact hw.1 | exact hw.drop (List.sublist_cons_self _ _) | exact hw.drop ((List.sublist_cons_self _ _).cons _)) (Y.idxR i2 F.un38 F.sz46 rfl rfl hi2 hkl) rfl rfl rfl (by kernel_rfl) ?_
      refine MX.lift1 (i := 7) (pend' := [3]) rfl (fun w hw => by first | exact hw | exact hw.1 | exact hw.drop (List.sublist_cons_self _ _) | exact hw.drop ((List.sublist_cons_self _ _).cons _)) (Y.ldAggR i2 (vs := tokC (ts.getD k tok0)) Fx.ag46 rfl hi2 (tok_take hkl) rfl) rfl rfl rfl (by kernel_rfl) ?_
      refine MX.force (i := 8) rfl ?_
      refine LX.call (sameToken_c (ts.getD k tok0) (ts.getD k tok0)) Fx.en57 rfl rfl rfl rfl rfl ?_
      intro _
      refine LX.nextM [] (by kernel_rfl) (fun h => absurd rfl h) ?_
      refine MX.lift0 (i := 9) rfl (Y.assign rfl) rfl rfl rfl ?_
      refine MX.sub (l' := [(0, _), (1, _), (5, _), (6, _)]) ⟨rfl, rfl, rfl, rfl, trivial⟩ ?_
      refine MX.done ?_
      refine PX.thenN ?_
      refine CX.seq ?_
      refine CX.region ?_
      refine LX.pure (Y.move rfl) rfl rfl rfl ?_
      refine LX.pure (Y.not rfl) rfl rfl rfl ?_
      refine LX.sub (l' := [(0, _), (1, _), (5, _), (28, _)]) ⟨rfl, rfl, rfl, rfl, trivial⟩ ?_
      refine LX.next ?_
      refine PX.thenN ?_
      refine CX.cond rfl (fun hb3 => ?_) (fun hb3 => ?_)
      · try simp at hb3
        first | done | (exfalso; simp at hb3; done)
      · try simp at hb3
        refine CX.skip ?_
        refine PX.blockN ?_
        refine PX.thenN ?_
        refine CX.region ?_
        refine LX.pure (Y.move rfl) rfl rfl rfl ?_
        first
          | refine LX.pure (Y.addN rfl rfl (by first | omega | (simp only []; omega) | (simp; done) | (simp; omega))) rfl rfl rfl ?_
          | refine LX.pure (Y.add rfl rfl (by first | omega | (simp only []; omega) | (simp; done) | (simp; omega))) rfl rfl rfl ?_
        refine LX.pure (Y.assign rfl) rfl rfl rfl ?_
        refine LX.sub (l' := [(0, _), (1, _), (5, _)]) ⟨rfl, rfl, rfl, trivial⟩ ?_
        refine LX.next ?_
        exact PX.again (k + 1) (by show ts.length - (k + 1) < ts.length - k; omega) ⟨rfl, rfl, rfl, trivial⟩ (fun w hw => ⟨by omega, hw⟩)
    · try simp at hb2
      refine CX.exit ?_
      refine PX.thenE ?_
      refine PX.thenE ?_
      refine PX.blockE ?_
      refine PX.thenN ?_
      refine CX.seq ?_
      refine CX.region ?_
      refine LX.pure (Y.assign rfl) rfl rfl rfl ?_
      refine LX.sub (l' := [(4, _)]) ⟨rfl, trivial⟩ ?_
      refine LX.next ?_
      refine PX.thenN ?_
      refine CX.ret ?_
      refine PX.ret1 (by simp) Tryd.results22 rfl ?_
      exact fun w hw => ⟨(), rfl, hw⟩

theorem scan4_ok_c {w0 : World} {base : Nat} {fr : List It} {s : List UInt8} {ts : List Tok} (hs : s.length ≤ 65536) (h : scan s = .ok ts) : FnC Tryd.prog 21 #[str s] (WA w0 base fr) (fun t : Option Nat × Nat => .tuple #[rv t.1 ts.length t.2, flt0.v]) (fun t => WA w0 base (.row t.1 t.2 ts.length 46 3 (ts.flatMap tokC) :: fr)) := by
  intro w hw
  refine (scan4_c s hs w hw).mono fun e w' ⟨x, he, hx⟩ => ?_
  rcases x with ⟨g, n, c⟩ | q
  · obtain ⟨ts', ⟨h2, h3⟩, h4⟩ := hx
    rw [h] at h2
    cases h2
    simp only at h3 h4
    subst h3
    exact ⟨(g, c), he, h4⟩
  · obtain ⟨h2, _⟩ := hx
    rw [h] at h2; cases h2
theorem scan4_bad_c {w0 : World} {base : Nat} {fr : List It} {s : List UInt8} {q : Nat} (hs : s.length ≤ 65536) (h : scan s = .error q) : FnC Tryd.prog 21 #[str s] (WA w0 base fr) (fun _ : Unit => .tuple #[.slice none 0 0, (⟨101, true, q, false, []⟩ : Flt).v]) (fun _ => WA w0 base fr) := by
  intro w hw
  refine (scan4_c s hs w hw).mono fun e w' ⟨x, he, hx⟩ => ?_
  rcases x with ⟨g, n, c⟩ | q'
  · obtain ⟨ts', ⟨h2, h3⟩, h4⟩ := hx
    rw [h] at h2; cases h2
  · obtain ⟨h2, h3⟩ := hx
    rw [h] at h2
    cases h2
    exact ⟨(), he, h3⟩
theorem sameTokens0_c {w0 : World} {base : Nat} {its : List It} : FnC Tryd.prog 22 #[.slice none 0 0, .slice none 0 0] (WA w0 base its) (fun _ : Unit => .bool true) (fun _ => WA w0 base its) := by
  intro w hw
  have h := (hw.nilRow 46 3)
  exact (sameTokens_c (g1 := none) (g2 := none) (c1 := 0) (c2 := 0) (ts := []) 0 0 rfl rfl (by decide) w h).mono fun e w' ⟨x, he, hx⟩ => ⟨x, he, hx.drop (List.sublist_cons_self _ _)⟩

theorem scans_c {w0 : World} {base : Nat} {fr : List It} {aE : Nat → Addr} {eLim : Value} (hE : EnvLex w0 base (errV (aE 0))) (hM : EnvLim w0 base eLim) (hS : EnvS w0 base aE) (s : List UInt8) : FnC Tryd.prog 4 #[str s] (WA w0 base fr) (fun _ : Unit => .bool true) (fun _ => WA w0 base fr) := by
  refine FnC.of_body (fn := Tryd.f4) [(0, _)] Tryd.func4 rfl Tryd.ntmps4 rfl ⟨rfl, trivial⟩ ?_
  refine CX.seq ?_
  refine CX.region ?_
  refine LX.pure (Y.assign rfl) rfl rfl rfl ?_
  refine LX.sub (l' := [(0, _), (2, _)]) ⟨rfl, rfl, trivial⟩ ?_
  refine LX.next ?_
  refine PX.thenN ?_
  refine CX.seq ?_
  refine CX.region ?_
  refine LX.call (first_c hE hM) F.en19 rfl rfl rfl rfl rfl ?_
  intro _
  refine LX.pure (Y.assign rfl) rfl rfl rfl ?_
  refine LX.sub (l' := [(0, _), (2, _), (3, _)]) ⟨rfl, rfl, rfl, trivial⟩ ?_
  refine LX.next ?_
  refine PX.thenN ?_
  refine CX.seq ?_
  refine CX.seq ?_
  refine CX.region ?_
  refine LX.pure (Y.move rfl) rfl rfl rfl ?_
  refine LX.pure (Y.not rfl) rfl rfl rfl ?_
  refine LX.sub (l' := [(0, _), (2, _), (3, _), (10, _)]) ⟨rfl, rfl, rfl, rfl, trivial⟩ ?_
  refine LX.next ?_
  refine PX.thenN ?_
  refine CX.cond rfl (fun hb1 => ?_) (fun hb1 => ?_)
  · try simp at hb1
    first | done | cases hb1
  · try simp at hb1
    refine CX.skip ?_
    refine PX.thenN ?_
    refine CX.seqM (τ := Unit) (fun _ => [(0, str s)]) (fun _ w => s.length ≤ 3000 ∧ WA w0 base fr w) ?_ ?_
    ·
      refine CX.seq ?_
      refine CX.region ?_
      refine LX.pure (Y.move rfl) rfl rfl rfl ?_
      refine LX.pure (Y.lenStr rfl F.un9 rfl) rfl rfl rfl ?_
      first
        | refine LX.pure (Y.gtN rfl rfl) rfl rfl rfl ?_
        | refine LX.pure (Y.gtI rfl rfl) rfl rfl rfl ?_
      refine LX.pure (Y.move rfl) rfl rfl rfl ?_
      refine LX.sub (l' := [(0, _), (2, _), (3, _), (14, _)]) ⟨rfl, rfl, rfl, rfl, trivial⟩ ?_
      apply LX.joinOr 3 17 14 rfl
      · intro hb2
        have hb2p := hb2
        try simp at hb2p
        refine LX.gF rfl rfl rfl hb2 rfl rfl ?_
        refine LX.gF rfl rfl rfl hb2 rfl rfl ?_
        refine LX.pure (Y.pickT rfl hb2 rfl) rfl rfl rfl ?_
        exact LX.left ⟨rfl, rfl, rfl, rfl, rfl, trivial⟩
      · intro hb2
        have hb2p := hb2
        try simp at hb2p
        refine LX.gT rfl rfl rfl hb2 (Y.move rfl) rfl rfl ?_
        refine LX.gT rfl rfl rfl hb2 (Y.not rfl) rfl rfl ?_
        refine LX.pure (Y.pickF rfl hb2 rfl) rfl rfl rfl ?_
        exact LX.left ⟨rfl, rfl, rfl, rfl, rfl, trivial⟩
      refine LX.sub (l' := [(0, _), (2, _), (3, _), (17, _)]) ⟨rfl, rfl, rfl, rfl, trivial⟩ ?_
      refine LX.next ?_
      refine PX.thenN ?_
      refine CX.cond rfl (fun hb3 => ?_) (fun hb3 => ?_)
      · try simp at hb3
        refine CX.seq ?_
        refine CX.region ?_
        refine LX.pure (Y.move rfl) rfl rfl rfl ?_
        refine LX.pure (Y.assign rfl) rfl rfl rfl ?_
        refine LX.sub (l' := [(0, _), (2, _)]) ⟨rfl, rfl, trivial⟩ ?_
        refine LX.next ?_
        refine PX.thenN ?_
        refine CX.ret ?_
        refine PX.thenR ?_
        refine PX.ret1 (by simp) Tryd.results4 rfl ?_
        exact fun w hw => ⟨(), rfl, hw⟩
      · try simp at hb3
        refine CX.skip ?_
        exact PX.seam () ⟨rfl, trivial⟩ (fun w hw => ⟨hb3, hw⟩)
    ·
      intro _
      refine CX.have fun hs3 => ?_
      rcases hsc : scan s with q | ts
      ·
        refine CX.seq ?_
        refine CX.region ?_
        refine LX.pure (Y.move rfl) rfl rfl rfl ?_
        refine LX.call (scan_bad_c hE hM (s := s) (by omega) hsc) F.en20 rfl rfl rfl rfl rfl ?_
        intro bE
        refine LX.pure (Y.move rfl) rfl rfl rfl ?_
        refine LX.pure (Y.extract rfl rfl) rfl rfl rfl ?_
        refine LX.pure (Y.extract rfl rfl) rfl rfl rfl ?_
        refine LX.pure (Y.assign rfl) rfl rfl rfl ?_
        refine LX.pure (Y.assign rfl) rfl rfl rfl ?_
        refine LX.sub (l' := [(0, _), (4, _), (5, _)]) ⟨rfl, rfl, rfl, trivial⟩ ?_
        refine LX.next ?_
        refine PX.thenN ?_
        refine CX.seq ?_
        refine CX.region ?_
        refine LX.pure (Y.move rfl) rfl rfl rfl ?_
        refine LX.call (scan4_bad_c (by omega) hsc) Fx.en21 rfl rfl rfl rfl rfl ?_
        intro _
        refine LX.pure (Y.move rfl) rfl rfl rfl ?_
        refine LX.pure (Y.extract rfl rfl) rfl rfl rfl ?_
        refine LX.pure (Y.extract rfl rfl) rfl rfl rfl ?_
        refine LX.alloc rfl Fx.zv35 rfl rfl rfl ?_
        intro bx27
        refine LX.pure (Y.assign rfl) rfl rfl rfl ?_
        first
          | refine LX.storeA 0 Fx.ag35 rfl rfl rfl rfl rfl rfl rfl rfl rfl ?_
          | refine LX.storeA 1 Fx.ag35 rfl rfl rfl rfl rfl rfl rfl rfl rfl ?_
          | refine LX.storeA 2 Fx.ag35 rfl rfl rfl rfl rfl rfl rfl rfl rfl ?_
          | refine LX.storeA 3 Fx.ag35 rfl rfl rfl rfl rfl rfl rfl rfl rfl ?_
        refine LX.sub (l' := [(4, _), (5, _), (6, _), (7, _)]) ⟨rfl, rfl, rfl, rfl, trivial⟩ ?_
        refine LX.next ?_
        refine PX.thenN ?_
        refine CX.seq ?_
        refine CX.region ?_
        refine LX.pure (Y.move rfl) rfl rfl rfl ?_
        refine LX.pure (Y.move rfl) rfl rfl rfl ?_
        refine LX.call (sameTokens0_c) Fx.en22 rfl rfl rfl rfl rfl ?_
        intro _
        refine LX.pure (Y.move rfl) rfl rfl rfl ?_
        refine LX.sub (l' := [(5, _), (7, _), (32, _)]) ⟨rfl, rfl, rfl, trivial⟩ ?_
        apply LX.joinAnd 4 36 32 rfl
        · intro hb4
          have hb4p := hb4
          try simp at hb4p
          refine LX.gT rfl rfl rfl hb4 (Y.move rfl) rfl rfl ?_
          first
            | refine LX.gT rfl rfl rfl hb4 (Y.ldAggB 0 Fx.ag35 rfl rfl rfl rfl) rfl rfl ?_
            | refine LX.gT rfl rfl rfl hb4 (Y.ldAggB 1 Fx.ag35 rfl rfl rfl rfl) rfl rfl ?_
            | refine LX.gT rfl rfl rfl hb4 (Y.ldAggB 2 Fx.ag35 rfl rfl rfl rfl) rfl rfl ?_
            | refine LX.gT rfl rfl rfl hb4 (Y.ldAggB 3 Fx.ag35 rfl rfl rfl rfl) rfl rfl ?_
          refine LX.world (W' := WA w0 base (atI bE q (errV (aE 0)) :: fltI bx27 ⟨101, true, q, false, []⟩ :: fr)) (fun w hw => hw.perm (.swap _ _ _)) ?_
          refine LX.callT rfl rfl rfl hb4 (sameAt_c hS (i := 0) (by decide) bE q ⟨101, true, q, false, []⟩) Fx.en17 rfl rfl rfl rfl ?_
          intro _
          refine LX.world (W' := WA w0 base (fltI bx27 ⟨101, true, q, false, []⟩ :: atI bE q (errV (aE 0)) :: fr)) (fun w hw => hw.perm (.swap _ _ _)) ?_
          refine LX.pure (Y.pickT rfl hb4 rfl) rfl rfl rfl ?_
          first
          | exact LX.left ⟨rfl, rfl, rfl, rfl, trivial⟩
          | exact LX.leftP ⟨rfl, rfl, rfl, rfl, trivial⟩
          | exact LX.world (fun w h => h.1) (LX.leftP ⟨rfl, rfl, rfl, rfl, trivial⟩)
        · intro hb4
          cases hb4
        refine LX.pure (Y.assign rfl) rfl rfl rfl ?_
        refine LX.sub (l' := [(2, _)]) ⟨rfl, trivial⟩ ?_
        refine LX.next ?_
        refine PX.thenN ?_
        refine CX.ret ?_
        refine PX.ret1 (by simp) Tryd.results4 rfl ?_
        exact fun w hw => ⟨(), by simp, hw.drop ((List.sublist_cons_self _ _).cons _)⟩
      ·
        have hlt : ts.length ≤ 1000000 := by have := scan_len hsc; omega
        refine CX.seq ?_
        refine CX.region ?_
        refine LX.pure (Y.move rfl) rfl rfl rfl ?_
        refine LX.call (scan_ok_c hE hM (s := s) (by omega) hsc) F.en20 rfl rfl rfl rfl rfl ?_
        rintro ⟨g1, c1⟩
        refine LX.pure (Y.move rfl) rfl rfl rfl ?_
        refine LX.pure (Y.extract rfl rfl) rfl rfl rfl ?_
        refine LX.pure (Y.extract rfl rfl) rfl rfl rfl ?_
        refine LX.pure (Y.assign rfl) rfl rfl rfl ?_
        refine LX.pure (Y.assign rfl) rfl rfl rfl ?_
        refine LX.sub (l' := [(0, _), (4, _), (5, _)]) ⟨rfl, rfl, rfl, trivial⟩ ?_
        refine LX.next ?_
        refine PX.thenN ?_
        refine CX.seq ?_
        refine CX.region ?_
        refine LX.pure (Y.move rfl) rfl rfl rfl ?_
        refine LX.call (scan4_ok_c (by omega) hsc) Fx.en21 rfl rfl rfl rfl rfl ?_
        rintro ⟨g2, c2⟩
        refine LX.pure (Y.move rfl) rfl rfl rfl ?_
        refine LX.pure (Y.extract rfl rfl) rfl rfl rfl ?_
        refine LX.pure (Y.extract rfl rfl) rfl rfl rfl ?_
        refine LX.alloc rfl Fx.zv35 rfl rfl rfl ?_
        intro bx51
        refine LX.pure (Y.assign rfl) rfl rfl rfl ?_
        first
          | refine LX.storeA 0 Fx.ag35 rfl rfl rfl rfl rfl rfl rfl rfl rfl ?_
          | refine LX.storeA 1 Fx.ag35 rfl rfl rfl rfl rfl rfl rfl rfl rfl ?_
          | refine LX.storeA 2 Fx.ag35 rfl rfl rfl rfl rfl rfl rfl rfl rfl ?_
          | refine LX.storeA 3 Fx.ag35 rfl rfl rfl rfl rfl rfl rfl rfl rfl ?_
        refine LX.sub (l' := [(4, _), (5, _), (6, _), (7, _)]) ⟨rfl, rfl, rfl, rfl, trivial⟩ ?_
        refine LX.next ?_
        refine PX.thenN ?_
        refine CX.seq ?_
        refine CX.region ?_
        refine LX.pure (Y.move rfl) rfl rfl rfl ?_
        refine LX.pure (Y.move rfl) rfl rfl rfl ?_
        refine LX.call (sameTokens_c 2 1 rfl rfl hlt) Fx.en22 rfl rfl rfl rfl rfl ?_
        intro _
        refine LX.pure (Y.move rfl) rfl rfl rfl ?_
        refine LX.sub (l' := [(5, _), (7, _), (32, _)]) ⟨rfl, rfl, rfl, trivial⟩ ?_
        apply LX.joinAnd 4 36 32 rfl
        · intro hb5
          have hb5p := hb5
          try simp at hb5p
          refine LX.gT rfl rfl rfl hb5 (Y.move rfl) rfl rfl ?_
          first
            | refine LX.gT rfl rfl rfl hb5 (Y.ldAggB 0 Fx.ag35 rfl rfl rfl rfl) rfl rfl ?_
            | refine LX.gT rfl rfl rfl hb5 (Y.ldAggB 1 Fx.ag35 rfl rfl rfl rfl) rfl rfl ?_
            | refine LX.gT rfl rfl rfl hb5 (Y.ldAggB 2 Fx.ag35 rfl rfl rfl rfl) rfl rfl ?_
            | refine LX.gT rfl rfl rfl hb5 (Y.ldAggB 3 Fx.ag35 rfl rfl rfl rfl) rfl rfl ?_
          refine LX.callT rfl rfl rfl hb5 (sameNil_c flt0) Fx.en17 rfl rfl rfl rfl ?_
          intro _
          refine LX.pure (Y.pickT rfl hb5 rfl) rfl rfl rfl ?_
          first
          | exact LX.left ⟨rfl, rfl, rfl, rfl, trivial⟩
          | exact LX.leftP ⟨rfl, rfl, rfl, rfl, trivial⟩
          | exact LX.world (fun w h => h.1) (LX.leftP ⟨rfl, rfl, rfl, rfl, trivial⟩)
        · intro hb5
          cases hb5
        refine LX.pure (Y.assign rfl) rfl rfl rfl ?_
        refine LX.sub (l' := [(2, _)]) ⟨rfl, trivial⟩ ?_
        refine LX.next ?_
        refine PX.thenN ?_
        refine CX.ret ?_
        refine PX.ret1 (by simp) Tryd.results4 rfl ?_
        exact fun w hw => ⟨(), by simp [flt0], hw.drop (((List.sublist_cons_self _ _).cons _).cons _)⟩

end Go.Proofs.YtggoogbloaennaaDoor
