/-
  Proved here: package lex's scanner: its steps.
-/
import Derived.Test.YtfbenelagdcdgaaDoorLexA
set_option linter.unusedSimpArgs false
namespace Go.Proofs.YtfbenelagdcdgaaDoor.Lx
open Go.SX Go.RowKit Go.Lex

/-- what a step of the scanner hands back: nothing, or an error -/
def resV : Sl ⊕ Nat → Value
  | .inl _ => .nilIface
  | .inr b => atV b
def resW (w0 : World) (base B : Nat) (eLex : Value) (fr : List It) (r : Except Nat Sc) : Sl ⊕ Nat → World → Prop
  | .inl p => fun w => ∃ σ, r = .ok σ ∧ WA w0 base (scI B σ p fr) w
  | .inr b => fun w => ∃ pos, r = .error pos ∧ WA w0 base (atI b pos eLex :: fr) w
/-- behind an error nothing is left of the scanner -/
theorem errW {w0 : World} {base B : Nat} {eLex : Value} {fr : List It} {σ : Sc} {p : Sl} {b pos : Nat} {w : World} (h : WA w0 base (atI b pos eLex :: scI B σ p fr) w) : WA w0 base (atI b pos eLex :: fr) w :=
  h.drop (.cons_cons _ (((((List.Sublist.refl fr).cons _).cons _).cons _).cons _))
theorem errW2 {w0 : World} {base B : Nat} {eLex : Value} {fr : List It} {σ : Sc} {p : Sl} {b pos : Nat} {x : It} {w : World} (h : WA w0 base (atI b pos eLex :: x :: scI B σ p fr) w) : WA w0 base (atI b pos eLex :: fr) w :=
  h.drop (.cons_cons _ ((((((List.Sublist.refl fr).cons _).cons _).cons _).cons _).cons _))

theorem comment_c {w0 : World} {base : Nat} {B : Nat} {σ : Sc} {p : Sl} {fr : List It} {eLex : Value} (hE : EnvLex w0 base eLex) (hs : σ.s.length ≤ 65536) (hp : σ.pos ≤ σ.s.length) : FnC Tryd.prog 27 #[.pointer (some ⟨B, 0, none⟩)] (WA w0 base (scI B σ p fr)) resV (resW w0 base B eLex fr (σ.comment)) := by
  refine FnC.of_body (fn := Tryd.f27) [(0, _)] Tryd.func27 rfl Tryd.ntmps27 rfl ⟨rfl, trivial⟩ ?_
  refine CX.seq <| CX.region <| LX.pure (Y.assign rfl) rfl rfl rfl <| LX.sub (l' := [(0, _), (2, _)]) ⟨rfl, rfl, trivial⟩ <| LX.next <| PX.thenN <| CX.seq <| CX.block <| CX.loop (τ := Nat) (fun k => [(0, .pointer (some ⟨B, 0, none⟩))]) (fun k w => (k ≤ σ.s.length ∧ comL (σ.s.drop k) k = comL (σ.s.drop σ.pos) σ.pos) ∧ WA w0 base (scI B { σ with pos := k } p fr) w) (fun k => σ.s.length - k) σ.pos ⟨rfl, trivial⟩ (fun w hw => ⟨⟨hp, rfl⟩, hw⟩) ?_
  intro k
  refine CX.have fun ⟨hk, hi⟩ => CX.seq <| CX.seq <| CX.regionQ rfl (by kernel_rfl) <| LX.pure (Y.move rfl) rfl rfl rfl <| LX.pure (Y.nilCheck rfl) rfl rfl rfl <| LX.pure (Y.fieldAddr0 F.fo52_1 rfl) rfl rfl rfl <| LX.pure (Y.ldB 0 F.one3 rfl rfl rfl) rfl rfl rfl <| LX.pure (Y.move rfl) rfl rfl rfl <| LX.pure (Y.nilCheck rfl) rfl rfl rfl <| LX.pure (Y.fieldAddr0 F.fo52_0 rfl) rfl rfl rfl <| LX.pure (Y.ldB 0 F.one9 rfl rfl rfl) rfl rfl rfl <| LX.pure (Y.lenStr rfl F.un9 rfl) rfl rfl rfl <| LX.pure (Y.ltN rfl rfl) rfl rfl rfl <| LX.pure (Y.move rfl) rfl rfl rfl <| LX.sub (l' := [(0, _), (14, _)]) ⟨rfl, rfl, trivial⟩ ?_
  apply LX.joinAnd 11 25 14 rfl
  · intro hb1
    have hb1p := hb1
    try simp at hb1p
    refine LX.gT rfl rfl rfl hb1 (Y.move rfl) rfl rfl <| LX.gT rfl rfl rfl hb1 (Y.nilCheck rfl) rfl rfl <| LX.gT rfl rfl rfl hb1 (Y.fieldAddr0 F.fo52_0 rfl) rfl rfl <| LX.gT rfl rfl rfl hb1 (Y.ldB 0 F.one9 rfl rfl rfl) rfl rfl <| LX.gT rfl rfl rfl hb1 (Y.move rfl) rfl rfl <| LX.gT rfl rfl rfl hb1 (Y.nilCheck rfl) rfl rfl <| LX.gT rfl rfl rfl hb1 (Y.fieldAddr0 F.fo52_1 rfl) rfl rfl <| LX.gT rfl rfl rfl hb1 (Y.ldB 0 F.one3 rfl rfl rfl) rfl rfl <| LX.gT rfl rfl rfl hb1 (Y.index rfl rfl F.un9 (by omega)) rfl rfl <| LX.gT rfl rfl rfl hb1 (Y.neN rfl rfl) rfl rfl <| LX.pure (Y.pickT rfl hb1 rfl) rfl rfl rfl ?_
    exact LX.left ⟨rfl, rfl, rfl, trivial⟩
  · intro hb1
    have hb1p := hb1
    try simp at hb1p
    refine LX.gF rfl rfl rfl hb1 rfl rfl <| LX.gF rfl rfl rfl hb1 rfl rfl <| LX.gF rfl rfl rfl hb1 rfl rfl <| LX.gF rfl rfl rfl hb1 rfl rfl <| LX.gF rfl rfl rfl hb1 rfl rfl <| LX.gF rfl rfl rfl hb1 rfl rfl <| LX.gF rfl rfl rfl hb1 rfl rfl <| LX.gF rfl rfl rfl hb1 rfl rfl <| LX.gF rfl rfl rfl hb1 rfl rfl <| LX.gF rfl rfl rfl hb1 rfl rfl <| LX.pure (Y.pickF rfl hb1 rfl) rfl rfl rfl ?_
    exact LX.left ⟨rfl, rfl, rfl, trivial⟩
  refine LX.sub (l' := [(0, _), (25, _)]) ⟨rfl, rfl, trivial⟩ <| LX.nextQ <| PX.thenN ?_
  refine CX.cond rfl (fun hb2 => ?_) (fun hb2 => ?_)
  · try simp at hb2
    refine CX.skip <| PX.thenN <| CX.block <| CX.seq <| CX.seq <| CX.regionQ rfl (by kernel_rfl) <| LX.pure (Y.move rfl) rfl rfl rfl <| LX.pure (Y.nilCheck rfl) rfl rfl rfl <| LX.pure (Y.fieldAddr0 F.fo52_0 rfl) rfl rfl rfl <| LX.pure (Y.ldB 0 F.one9 rfl rfl rfl) rfl rfl rfl <| LX.pure (Y.move rfl) rfl rfl rfl <| LX.pure (Y.nilCheck rfl) rfl rfl rfl <| LX.pure (Y.fieldAddr0 F.fo52_1 rfl) rfl rfl rfl <| LX.pure (Y.ldB 0 F.one3 rfl rfl rfl) rfl rfl rfl <| LX.pure (Y.index rfl rfl F.un9 (by (simp only []; omega))) rfl rfl rfl <| LX.pure (Y.assign rfl) rfl rfl rfl <| LX.sub (l' := [(0, _), (3, _)]) ⟨rfl, rfl, trivial⟩ <| LX.nextQ <| PX.thenN <| CX.seq <| CX.region <| LX.pure (Y.move rfl) rfl rfl rfl <| LX.pure (Y.ltN rfl rfl) rfl rfl rfl <| LX.pure (Y.move rfl) rfl rfl rfl <| LX.sub (l' := [(0, _), (3, _), (37, _)]) ⟨rfl, rfl, rfl, trivial⟩ ?_
    apply LX.joinOr 3 40 37 rfl
    · intro hb3
      have hb3p := hb3
      try simp at hb3p
      refine LX.gF rfl rfl rfl hb3 rfl rfl <| LX.gF rfl rfl rfl hb3 rfl rfl <| LX.pure (Y.pickT rfl hb3 rfl) rfl rfl rfl ?_
      exact LX.left ⟨rfl, rfl, rfl, rfl, trivial⟩
    · intro hb3
      have hb3p := hb3
      try simp at hb3p
      refine LX.gT rfl rfl rfl hb3 (Y.move rfl) rfl rfl <| LX.gT rfl rfl rfl hb3 (Y.eqN rfl rfl) rfl rfl <| LX.pure (Y.pickF rfl hb3 rfl) rfl rfl rfl ?_
      exact LX.left ⟨rfl, rfl, rfl, rfl, trivial⟩
    refine LX.sub (l' := [(0, _), (40, _)]) ⟨rfl, rfl, trivial⟩ <| LX.next <| PX.thenN ?_
    refine CX.cond rfl (fun hb4 => ?_) (fun hb4 => ?_)
    · try simp at hb4
      refine CX.seq <| CX.region <| LX.pure (Y.move rfl) rfl rfl rfl <| LX.pure (Y.nilCheck rfl) rfl rfl rfl <| LX.pure (Y.fieldAddr0 F.fo52_1 rfl) rfl rfl rfl <| LX.pure (Y.ldB 0 F.one3 rfl rfl rfl) rfl rfl rfl <| LX.call (bad_c hE _ (by (dsimp only; omega))) F.en17 rfl rfl rfl rfl rfl ?_
      intro bE
      refine LX.pure (Y.assign rfl) rfl rfl rfl <| LX.sub (l' := [(0, _), (2, _)]) ⟨rfl, rfl, trivial⟩ <| LX.next <| PX.thenN <| CX.ret <| PX.thenR <| PX.blockR <| PX.thenR <| PX.blockR <| PX.thenR <| PX.ret1 (by simp) Tryd.results27 rfl ?_
      exact fun w hw => ⟨.inr _, rfl, _, Sc.comment_bad hi hb2.1 hb2.2 (by omega), errW hw⟩
    try simp at hb4
    refine CX.skip <| PX.thenN <| CX.region <| LX.pure (Y.move rfl) rfl rfl rfl <| LX.pure (Y.nilCheck rfl) rfl rfl rfl <| LX.pure (Y.fieldAddr0 F.fo52_1 rfl) rfl rfl rfl <| LX.pure (Y.ldB 0 F.one3 rfl rfl rfl) rfl rfl rfl <| LX.pure (Y.addN rfl rfl (by (simp only []; omega))) rfl rfl rfl <| LX.pure (Y.nilCheck rfl) rfl rfl rfl <| LX.pure (Y.fieldAddr0 F.fo52_1 rfl) rfl rfl rfl <| LX.storeB 0 F.sz3 rfl rfl rfl rfl rfl rfl rfl rfl <| LX.sub (l' := [(0, _)]) ⟨rfl, trivial⟩ <| LX.next <| PX.blockN ?_
    exact PX.again (k + 1) (by show σ.s.length - (k + 1) < σ.s.length - k; omega) ⟨rfl, trivial⟩ (fun w hw => ⟨⟨by omega, (comL_next hb2.1 hb2.2 (by omega) (by omega)).trans hi⟩, hw⟩)
  try simp at hb2
  refine CX.exit <| PX.thenE <| PX.thenE <| PX.blockE <| PX.thenN <| CX.seq <| CX.region <| LX.pure (Y.assign rfl) rfl rfl rfl <| LX.sub (l' := [(2, _)]) ⟨rfl, trivial⟩ <| LX.next <| PX.thenN <| CX.ret <| PX.ret1 (by simp) Tryd.results27 rfl ?_
  exact fun w hw => ⟨.inl p, rfl, _, Sc.comment_ok hi hb2, hw⟩

theorem newline_c {w0 : World} {base : Nat} {B : Nat} {σ : Sc} {p : Sl} {fr : List It} (ho : σ.out.length ≤ 1000000) : FnC Tryd.prog 18 #[.pointer (some ⟨B, 0, none⟩)] (WA w0 base (scI B σ p fr)) (fun _ : Sl => .tuple #[]) (fun p' => WA w0 base (scI B σ.nl p' fr)) := by
  refine FnC.of_body (fn := Tryd.f18) [(0, _)] Tryd.func18 rfl Tryd.ntmps18 rfl ⟨rfl, trivial⟩ ?_
  refine CX.seq <| CX.seq <| CX.region <| LX.pure (Y.move rfl) rfl rfl rfl <| LX.pure (Y.nilCheck rfl) rfl rfl rfl <| LX.pure (Y.fieldAddr0 F.fo52_5 rfl) rfl rfl rfl <| LX.pure (Y.ldB 0 F.one4 rfl rfl rfl) rfl rfl rfl <| LX.sub (l' := [(0, _), (5, _)]) ⟨rfl, rfl, trivial⟩ <| LX.next <| PX.thenN ?_
  refine CX.cond rfl (fun hb1 => ?_) (fun hb1 => ?_)
  · try simp at hb1
    refine CX.region <| LX.pure (Y.move rfl) rfl rfl rfl <| LX.pure (Y.move rfl) rfl rfl rfl <| LX.pure (Y.nilCheck rfl) rfl rfl rfl <| LX.pure (Y.fieldAddr0 F.fo52_1 rfl) rfl rfl rfl <| LX.pure (Y.ldB 0 F.one3 rfl rfl rfl) rfl rfl rfl <| LX.call (token_c _ _ _ (by omega)) F.en19 rfl rfl rfl rfl rfl ?_
    intro pT
    refine LX.sub (l' := [(0, _)]) ⟨rfl, trivial⟩ <| LX.next <| PX.thenN <| CX.region <| LX.pure (Y.move rfl) rfl rfl rfl <| LX.pure (Y.nilCheck rfl) rfl rfl rfl <| LX.pure (Y.fieldAddr0 F.fo52_5 rfl) rfl rfl rfl <| LX.storeB 0 F.sz4 rfl rfl rfl rfl rfl rfl rfl rfl <| LX.sub (l' := []) trivial <| LX.next <| PX.ret0 (by simp) Tryd.results18 ?_
    exact fun w hw => ⟨pT, rfl, by simpa [Sc.nl, hb1, scI, Sc.tok] using hw⟩
  try simp at hb1
  refine CX.skip <| PX.thenN <| CX.region <| LX.pure (Y.move rfl) rfl rfl rfl <| LX.pure (Y.nilCheck rfl) rfl rfl rfl <| LX.pure (Y.fieldAddr0 F.fo52_5 rfl) rfl rfl rfl <| LX.storeB 0 F.sz4 rfl rfl rfl rfl rfl rfl rfl rfl <| LX.sub (l' := []) trivial <| LX.next <| PX.ret0 (by simp) Tryd.results18 ?_
  exact fun w hw => ⟨p, rfl, by simpa [Sc.nl, hb1, scI] using hw⟩

theorem word_c {w0 : World} {base : Nat} {B : Nat} {σ : Sc} {p : Sl} {fr : List It} (hs : σ.s.length ≤ 65536) (hp : σ.pos ≤ σ.s.length) (ho : σ.out.length ≤ 1000000) : FnC Tryd.prog 30 #[.pointer (some ⟨B, 0, none⟩)] (WA w0 base (scI B σ p fr)) (fun _ : Sl => .tuple #[]) (fun p' => WA w0 base (scI B σ.word p' fr)) := by
  refine FnC.of_body (fn := Tryd.f30) [(0, _)] Tryd.func30 rfl Tryd.ntmps30 rfl ⟨rfl, trivial⟩ ?_
  refine CX.seq <| CX.region <| LX.pure (Y.move rfl) rfl rfl rfl <| LX.pure (Y.nilCheck rfl) rfl rfl rfl <| LX.pure (Y.fieldAddr0 F.fo52_1 rfl) rfl rfl rfl <| LX.pure (Y.ldB 0 F.one3 rfl rfl rfl) rfl rfl rfl <| LX.pure (Y.assign rfl) rfl rfl rfl <| LX.sub (l' := [(0, _), (2, _)]) ⟨rfl, rfl, trivial⟩ <| LX.next <| PX.thenN <| CX.seq <| CX.block <| CX.loop (τ := Nat) (fun k => [(0, .pointer (some ⟨B, 0, none⟩)), (2, .int .i64 (σ.pos : Int))]) (fun k w => (σ.pos ≤ k ∧ k ≤ σ.s.length ∧ k + wordL (σ.s.drop k) = σ.pos + wordL (σ.s.drop σ.pos)) ∧ WA w0 base (scI B { σ with pos := k } p fr) w) (fun k => σ.s.length - k) σ.pos ⟨rfl, rfl, trivial⟩ (fun w hw => ⟨⟨Nat.le_refl _, hp, rfl⟩, hw⟩) ?_
  intro k
  refine CX.have fun ⟨hkp, hk, hi⟩ => CX.seq <| CX.seq <| CX.regionQ rfl (by kernel_rfl) <| LX.pure (Y.move rfl) rfl rfl rfl <| LX.pure (Y.nilCheck rfl) rfl rfl rfl <| LX.pure (Y.fieldAddr0 F.fo52_1 rfl) rfl rfl rfl <| LX.pure (Y.ldB 0 F.one3 rfl rfl rfl) rfl rfl rfl <| LX.pure (Y.move rfl) rfl rfl rfl <| LX.pure (Y.nilCheck rfl) rfl rfl rfl <| LX.pure (Y.fieldAddr0 F.fo52_0 rfl) rfl rfl rfl <| LX.pure (Y.ldB 0 F.one9 rfl rfl rfl) rfl rfl rfl <| LX.pure (Y.lenStr rfl F.un9 rfl) rfl rfl rfl <| LX.pure (Y.ltN rfl rfl) rfl rfl rfl <| LX.pure (Y.move rfl) rfl rfl rfl <| LX.sub (l' := [(0, _), (2, _), (18, _)]) ⟨rfl, rfl, rfl, trivial⟩ ?_
  apply LX.joinAnd 23 41 18 rfl
  · intro hb1
    have hb1p := hb1
    try simp at hb1p
    refine LX.gT rfl rfl rfl hb1 (Y.move rfl) rfl rfl <| LX.gT rfl rfl rfl hb1 (Y.nilCheck rfl) rfl rfl <| LX.gT rfl rfl rfl hb1 (Y.fieldAddr0 F.fo52_0 rfl) rfl rfl <| LX.gT rfl rfl rfl hb1 (Y.ldB 0 F.one9 rfl rfl rfl) rfl rfl <| LX.gT rfl rfl rfl hb1 (Y.move rfl) rfl rfl <| LX.gT rfl rfl rfl hb1 (Y.nilCheck rfl) rfl rfl <| LX.gT rfl rfl rfl hb1 (Y.fieldAddr0 F.fo52_1 rfl) rfl rfl <| LX.gT rfl rfl rfl hb1 (Y.ldB 0 F.one3 rfl rfl rfl) rfl rfl <| LX.gT rfl rfl rfl hb1 (Y.index rfl rfl F.un9 (by omega)) rfl rfl <| LX.callQT rfl rfl rfl hb1 (letter_q _ _) F.en29 rfl rfl rfl rfl <| LX.gT rfl rfl rfl hb1 (Y.move rfl) rfl rfl <| LX.sub (l' := [(0, _), (2, _), (18, _), (29, _)]) ⟨rfl, rfl, rfl, rfl, trivial⟩ ?_
    apply LX.joinOr 11 40 29 rfl
    · intro hb2
      have hb2p := hb2
      try simp at hb2p
      refine LX.gF rfl rfl rfl hb2 rfl rfl <| LX.gF rfl rfl rfl hb2 rfl rfl <| LX.gF rfl rfl rfl hb2 rfl rfl <| LX.gF rfl rfl rfl hb2 rfl rfl <| LX.gF rfl rfl rfl hb2 rfl rfl <| LX.gF rfl rfl rfl hb2 rfl rfl <| LX.gF rfl rfl rfl hb2 rfl rfl <| LX.gF rfl rfl rfl hb2 rfl rfl <| LX.gF rfl rfl rfl hb2 rfl rfl <| LX.gF rfl rfl rfl hb2 rfl rfl <| LX.gT rfl rfl rfl hb1 (Y.pickT rfl hb2 rfl) rfl rfl ?_
      exact LX.left ⟨rfl, rfl, rfl, rfl, rfl, trivial⟩
    · intro hb2
      have hb2p := hb2
      try simp at hb2p
      refine LX.gT rfl rfl rfl hb2 (Y.move rfl) rfl rfl <| LX.gT rfl rfl rfl hb2 (Y.nilCheck rfl) rfl rfl <| LX.gT rfl rfl rfl hb2 (Y.fieldAddr0 F.fo52_0 rfl) rfl rfl <| LX.gT rfl rfl rfl hb2 (Y.ldB 0 F.one9 rfl rfl rfl) rfl rfl <| LX.gT rfl rfl rfl hb2 (Y.move rfl) rfl rfl <| LX.gT rfl rfl rfl hb2 (Y.nilCheck rfl) rfl rfl <| LX.gT rfl rfl rfl hb2 (Y.fieldAddr0 F.fo52_1 rfl) rfl rfl <| LX.gT rfl rfl rfl hb2 (Y.ldB 0 F.one3 rfl rfl rfl) rfl rfl <| LX.gT rfl rfl rfl hb2 (Y.index rfl rfl F.un9 (by omega)) rfl rfl <| LX.callQT rfl rfl rfl hb2 (digit_q _ _) F.en31 rfl rfl rfl rfl <| LX.gT rfl rfl rfl hb1 (Y.pickF rfl hb2 rfl) rfl rfl ?_
      exact LX.left ⟨rfl, rfl, rfl, rfl, rfl, trivial⟩
    refine LX.pure (Y.pickT rfl hb1 rfl) rfl rfl rfl ?_
    exact LX.left ⟨rfl, rfl, rfl, rfl, trivial⟩
  · intro hb1
    have hb1p := hb1
    try simp at hb1p
    refine LX.gF rfl rfl rfl hb1 rfl rfl <| LX.gF rfl rfl rfl hb1 rfl rfl <| LX.gF rfl rfl rfl hb1 rfl rfl <| LX.gF rfl rfl rfl hb1 rfl rfl <| LX.gF rfl rfl rfl hb1 rfl rfl <| LX.gF rfl rfl rfl hb1 rfl rfl <| LX.gF rfl rfl rfl hb1 rfl rfl <| LX.gF rfl rfl rfl hb1 rfl rfl <| LX.gF rfl rfl rfl hb1 rfl rfl <| LX.gF rfl rfl rfl hb1 rfl rfl <| LX.gF rfl rfl rfl hb1 rfl rfl <| LX.gU rfl rfl rfl rfl rfl <| LX.gU rfl rfl rfl rfl rfl <| LX.gU rfl rfl rfl rfl rfl <| LX.gU rfl rfl rfl rfl rfl <| LX.gU rfl rfl rfl rfl rfl <| LX.gU rfl rfl rfl rfl rfl <| LX.gU rfl rfl rfl rfl rfl <| LX.gU rfl rfl rfl rfl rfl <| LX.gU rfl rfl rfl rfl rfl <| LX.gU rfl rfl rfl rfl rfl <| LX.gF rfl rfl rfl hb1 rfl rfl <| LX.pure (Y.pickF rfl hb1 rfl) rfl rfl rfl ?_
    exact LX.left ⟨rfl, rfl, rfl, rfl, trivial⟩
  refine LX.sub (l' := [(0, _), (2, _), (41, _)]) ⟨rfl, rfl, rfl, trivial⟩ <| LX.nextQ <| PX.thenN ?_
  refine CX.cond rfl (fun hb3 => ?_) (fun hb3 => ?_)
  · try simp at hb3
    refine CX.skip <| PX.thenN <| CX.block <| CX.region <| LX.pure (Y.move rfl) rfl rfl rfl <| LX.pure (Y.nilCheck rfl) rfl rfl rfl <| LX.pure (Y.fieldAddr0 F.fo52_1 rfl) rfl rfl rfl <| LX.pure (Y.ldB 0 F.one3 rfl rfl rfl) rfl rfl rfl <| LX.pure (Y.addN rfl rfl (by (simp only []; omega))) rfl rfl rfl <| LX.pure (Y.nilCheck rfl) rfl rfl rfl <| LX.pure (Y.fieldAddr0 F.fo52_1 rfl) rfl rfl rfl <| LX.storeB 0 F.sz3 rfl rfl rfl rfl rfl rfl rfl rfl <| LX.sub (l' := [(0, _), (2, _)]) ⟨rfl, rfl, trivial⟩ <| LX.next <| PX.blockN ?_
    exact PX.again (k + 1) (by show σ.s.length - (k + 1) < σ.s.length - k; omega) ⟨rfl, rfl, trivial⟩ (fun w hw => ⟨⟨by omega, by omega, (wordL_next hb3.1 hb3.2).trans hi⟩, hw⟩)
  try simp at hb3
  refine CX.exit <| PX.thenE <| PX.thenE <| PX.blockE <| PX.thenN <| CX.seq <| CX.regionQ rfl (by kernel_rfl) <| LX.pure (Y.move rfl) rfl rfl rfl <| LX.pure (Y.nilCheck rfl) rfl rfl rfl <| LX.pure (Y.fieldAddr0 F.fo52_0 rfl) rfl rfl rfl <| LX.pure (Y.ldB 0 F.one9 rfl rfl rfl) rfl rfl rfl <| LX.pure (Y.move rfl) rfl rfl rfl <| LX.pure (Y.move rfl) rfl rfl rfl <| LX.pure (Y.nilCheck rfl) rfl rfl rfl <| LX.pure (Y.fieldAddr0 F.fo52_1 rfl) rfl rfl rfl <| LX.pure (Y.ldB 0 F.one3 rfl rfl rfl) rfl rfl rfl <| LX.pure (Y.slice rfl rfl rfl F.un9 (by omega) (by omega)) rfl rfl rfl <| LX.pure (Y.assign rfl) rfl rfl rfl <| LX.sub (l' := [(0, _), (2, _), (3, _)]) ⟨rfl, rfl, rfl, trivial⟩ <| LX.nextQ <| PX.thenN <| CX.seq <| CX.seq <| CX.region <| LX.call (words_c) F.en51 rfl rfl rfl rfl rfl ?_
  intro bw
  refine LX.pure (Y.move rfl) rfl rfl rfl <| LX.callQ (contains_q bw 0 17 wordsList _ (fun w h => h.2) (by decide)) F.en35 rfl rfl rfl rfl rfl <| LX.sub (l' := [(0, _), (2, _), (3, _), (61, _)]) ⟨rfl, rfl, rfl, rfl, trivial⟩ <| LX.next <| PX.thenN ?_
  refine CX.cond rfl (fun hb4 => ?_) (fun hb4 => ?_)
  · try simp at hb4
    refine CX.world (fun w h => h.1) <| CX.seq <| CX.region <| LX.pure (Y.move rfl) rfl rfl rfl <| LX.pure (Y.move rfl) rfl rfl rfl <| LX.pure (Y.move rfl) rfl rfl rfl <| LX.call (token_c _ _ _ (by omega)) F.en19 rfl rfl rfl rfl rfl ?_
    intro pT
    refine LX.sub (l' := [(0, _), (2, _), (3, _)]) ⟨rfl, rfl, rfl, trivial⟩ <| LX.next <| PX.thenN <| CX.ret <| PX.thenR <| PX.ret0 (by simp) Tryd.results30 ?_
    exact fun w hw => ⟨pT, rfl, by rw [← Sc.word_eq hi hb3 4 (by rw [if_pos hb4])]; exact hw⟩
  try simp at hb4
  refine CX.world (fun w h => h.1) <| CX.skip <| PX.thenN <| CX.region <| LX.pure (Y.move rfl) rfl rfl rfl <| LX.pure (Y.move rfl) rfl rfl rfl <| LX.pure (Y.move rfl) rfl rfl rfl <| LX.call (token_c _ _ _ (by omega)) F.en19 rfl rfl rfl rfl rfl ?_
  intro pT
  refine LX.sub (l' := []) trivial <| LX.next <| PX.ret0 (by simp) Tryd.results30 ?_
  exact fun w hw => ⟨pT, rfl, by rw [← Sc.word_eq hi hb3 1 (by rw [if_neg hb4])]; exact hw⟩

theorem number_c {w0 : World} {base : Nat} {B : Nat} {σ : Sc} {p : Sl} {fr : List It} {eLex : Value} (hE : EnvLex w0 base eLex) (hs : σ.s.length ≤ 65536) (hp : σ.pos < σ.s.length) (hd : isDig (bt σ.s σ.pos) = true) (ho : σ.out.length ≤ 1000000) : FnC Tryd.prog 32 #[.pointer (some ⟨B, 0, none⟩)] (WA w0 base (scI B σ p fr)) resV (resW w0 base B eLex fr (σ.number)) := by
  refine FnC.of_body (fn := Tryd.f32) [(0, _)] Tryd.func32 rfl Tryd.ntmps32 rfl ⟨rfl, trivial⟩ ?_
  refine CX.seq <| CX.region <| LX.pure (Y.assign rfl) rfl rfl rfl <| LX.sub (l' := [(0, _), (2, _)]) ⟨rfl, rfl, trivial⟩ <| LX.next <| PX.thenN <| CX.seq <| CX.region <| LX.pure (Y.move rfl) rfl rfl rfl <| LX.pure (Y.nilCheck rfl) rfl rfl rfl <| LX.pure (Y.fieldAddr0 F.fo52_1 rfl) rfl rfl rfl <| LX.pure (Y.ldB 0 F.one3 rfl rfl rfl) rfl rfl rfl <| LX.pure (Y.assign rfl) rfl rfl rfl <| LX.sub (l' := [(0, _), (2, _), (3, _)]) ⟨rfl, rfl, rfl, trivial⟩ <| LX.next <| PX.thenN <| CX.seq <| CX.block <| CX.loop (τ := Nat) (fun k => [(0, .pointer (some ⟨B, 0, none⟩)), (3, .int .i64 (σ.pos : Int))]) (fun k w => (σ.pos ≤ k ∧ k ≤ σ.s.length ∧ numL (σ.s.drop σ.pos) = (numL (σ.s.drop k)).map (· + (k - σ.pos))) ∧ WA w0 base (scI B { σ with pos := k } p fr) w) (fun k => σ.s.length - k) σ.pos ⟨rfl, rfl, trivial⟩ (fun w hw => ⟨⟨Nat.le_refl _, by omega, by simp⟩, hw⟩) ?_
  intro k
  refine CX.have fun ⟨hkp, hk, hi⟩ => CX.seq <| CX.seq <| CX.regionQ rfl (by kernel_rfl) <| LX.pure (Y.move rfl) rfl rfl rfl <| LX.pure (Y.nilCheck rfl) rfl rfl rfl <| LX.pure (Y.fieldAddr0 F.fo52_1 rfl) rfl rfl rfl <| LX.pure (Y.ldB 0 F.one3 rfl rfl rfl) rfl rfl rfl <| LX.pure (Y.move rfl) rfl rfl rfl <| LX.pure (Y.nilCheck rfl) rfl rfl rfl <| LX.pure (Y.fieldAddr0 F.fo52_0 rfl) rfl rfl rfl <| LX.pure (Y.ldB 0 F.one9 rfl rfl rfl) rfl rfl rfl <| LX.pure (Y.lenStr rfl F.un9 rfl) rfl rfl rfl <| LX.pure (Y.ltN rfl rfl) rfl rfl rfl <| LX.pure (Y.move rfl) rfl rfl rfl <| LX.sub (l' := [(0, _), (3, _), (19, _)]) ⟨rfl, rfl, rfl, trivial⟩ ?_
  apply LX.joinAnd 23 42 19 rfl
  · intro hb1
    have hb1p := hb1
    try simp at hb1p
    refine LX.gT rfl rfl rfl hb1 (Y.move rfl) rfl rfl <| LX.gT rfl rfl rfl hb1 (Y.nilCheck rfl) rfl rfl <| LX.gT rfl rfl rfl hb1 (Y.fieldAddr0 F.fo52_0 rfl) rfl rfl <| LX.gT rfl rfl rfl hb1 (Y.ldB 0 F.one9 rfl rfl rfl) rfl rfl <| LX.gT rfl rfl rfl hb1 (Y.move rfl) rfl rfl <| LX.gT rfl rfl rfl hb1 (Y.nilCheck rfl) rfl rfl <| LX.gT rfl rfl rfl hb1 (Y.fieldAddr0 F.fo52_1 rfl) rfl rfl <| LX.gT rfl rfl rfl hb1 (Y.ldB 0 F.one3 rfl rfl rfl) rfl rfl <| LX.gT rfl rfl rfl hb1 (Y.index rfl rfl F.un9 (by omega)) rfl rfl <| LX.callQT rfl rfl rfl hb1 (letter_q _ _) F.en29 rfl rfl rfl rfl <| LX.gT rfl rfl rfl hb1 (Y.move rfl) rfl rfl <| LX.sub (l' := [(0, _), (3, _), (19, _), (30, _)]) ⟨rfl, rfl, rfl, rfl, trivial⟩ ?_
    apply LX.joinOr 11 41 30 rfl
    · intro hb2
      have hb2p := hb2
      try simp at hb2p
      refine LX.gF rfl rfl rfl hb2 rfl rfl <| LX.gF rfl rfl rfl hb2 rfl rfl <| LX.gF rfl rfl rfl hb2 rfl rfl <| LX.gF rfl rfl rfl hb2 rfl rfl <| LX.gF rfl rfl rfl hb2 rfl rfl <| LX.gF rfl rfl rfl hb2 rfl rfl <| LX.gF rfl rfl rfl hb2 rfl rfl <| LX.gF rfl rfl rfl hb2 rfl rfl <| LX.gF rfl rfl rfl hb2 rfl rfl <| LX.gF rfl rfl rfl hb2 rfl rfl <| LX.gT rfl rfl rfl hb1 (Y.pickT rfl hb2 rfl) rfl rfl ?_
      exact LX.left ⟨rfl, rfl, rfl, rfl, rfl, trivial⟩
    · intro hb2
      have hb2p := hb2
      try simp at hb2p
      refine LX.gT rfl rfl rfl hb2 (Y.move rfl) rfl rfl <| LX.gT rfl rfl rfl hb2 (Y.nilCheck rfl) rfl rfl <| LX.gT rfl rfl rfl hb2 (Y.fieldAddr0 F.fo52_0 rfl) rfl rfl <| LX.gT rfl rfl rfl hb2 (Y.ldB 0 F.one9 rfl rfl rfl) rfl rfl <| LX.gT rfl rfl rfl hb2 (Y.move rfl) rfl rfl <| LX.gT rfl rfl rfl hb2 (Y.nilCheck rfl) rfl rfl <| LX.gT rfl rfl rfl hb2 (Y.fieldAddr0 F.fo52_1 rfl) rfl rfl <| LX.gT rfl rfl rfl hb2 (Y.ldB 0 F.one3 rfl rfl rfl) rfl rfl <| LX.gT rfl rfl rfl hb2 (Y.index rfl rfl F.un9 (by omega)) rfl rfl <| LX.callQT rfl rfl rfl hb2 (digit_q _ _) F.en31 rfl rfl rfl rfl <| LX.gT rfl rfl rfl hb1 (Y.pickF rfl hb2 rfl) rfl rfl ?_
      exact LX.left ⟨rfl, rfl, rfl, rfl, rfl, trivial⟩
    refine LX.pure (Y.pickT rfl hb1 rfl) rfl rfl rfl ?_
    exact LX.left ⟨rfl, rfl, rfl, rfl, trivial⟩
  · intro hb1
    have hb1p := hb1
    try simp at hb1p
    refine LX.gF rfl rfl rfl hb1 rfl rfl <| LX.gF rfl rfl rfl hb1 rfl rfl <| LX.gF rfl rfl rfl hb1 rfl rfl <| LX.gF rfl rfl rfl hb1 rfl rfl <| LX.gF rfl rfl rfl hb1 rfl rfl <| LX.gF rfl rfl rfl hb1 rfl rfl <| LX.gF rfl rfl rfl hb1 rfl rfl <| LX.gF rfl rfl rfl hb1 rfl rfl <| LX.gF rfl rfl rfl hb1 rfl rfl <| LX.gF rfl rfl rfl hb1 rfl rfl <| LX.gF rfl rfl rfl hb1 rfl rfl <| LX.gU rfl rfl rfl rfl rfl <| LX.gU rfl rfl rfl rfl rfl <| LX.gU rfl rfl rfl rfl rfl <| LX.gU rfl rfl rfl rfl rfl <| LX.gU rfl rfl rfl rfl rfl <| LX.gU rfl rfl rfl rfl rfl <| LX.gU rfl rfl rfl rfl rfl <| LX.gU rfl rfl rfl rfl rfl <| LX.gU rfl rfl rfl rfl rfl <| LX.gU rfl rfl rfl rfl rfl <| LX.gF rfl rfl rfl hb1 rfl rfl <| LX.pure (Y.pickF rfl hb1 rfl) rfl rfl rfl ?_
    exact LX.left ⟨rfl, rfl, rfl, rfl, trivial⟩
  refine LX.sub (l' := [(0, _), (3, _), (42, _)]) ⟨rfl, rfl, rfl, trivial⟩ <| LX.nextQ <| PX.thenN ?_
  refine CX.cond rfl (fun hb3 => ?_) (fun hb3 => ?_)
  · try simp at hb3
    refine CX.skip <| PX.thenN <| CX.block <| CX.seq <| CX.seq <| CX.regionQ rfl (by kernel_rfl) <| LX.pure (Y.move rfl) rfl rfl rfl <| LX.pure (Y.nilCheck rfl) rfl rfl rfl <| LX.pure (Y.fieldAddr0 F.fo52_0 rfl) rfl rfl rfl <| LX.pure (Y.ldB 0 F.one9 rfl rfl rfl) rfl rfl rfl <| LX.pure (Y.move rfl) rfl rfl rfl <| LX.pure (Y.nilCheck rfl) rfl rfl rfl <| LX.pure (Y.fieldAddr0 F.fo52_1 rfl) rfl rfl rfl <| LX.pure (Y.ldB 0 F.one3 rfl rfl rfl) rfl rfl rfl <| LX.pure (Y.index rfl rfl F.un9 (by (simp; omega))) rfl rfl rfl <| LX.callQ (letter_q _ _) F.en29 rfl rfl rfl rfl rfl <| LX.sub (l' := [(0, _), (3, _), (52, _)]) ⟨rfl, rfl, rfl, trivial⟩ <| LX.nextQ <| PX.thenN ?_
    refine CX.cond rfl (fun hb4 => ?_) (fun hb4 => ?_)
    · try simp at hb4
      refine CX.seq <| CX.region <| LX.pure (Y.move rfl) rfl rfl rfl <| LX.call (bad_c hE _ (by omega)) F.en17 rfl rfl rfl rfl rfl ?_
      intro bE
      refine LX.pure (Y.assign rfl) rfl rfl rfl <| LX.sub (l' := [(0, _), (2, _), (3, _)]) ⟨rfl, rfl, rfl, trivial⟩ <| LX.next <| PX.thenN <| CX.ret <| PX.thenR <| PX.blockR <| PX.thenR <| PX.blockR <| PX.thenR <| PX.ret1 (by simp) Tryd.results32 rfl ?_
      exact fun w hw => ⟨.inr _, rfl, _, Sc.number_bad2 hi hb3.1 hb4, errW hw⟩
    try simp at hb4
    refine CX.skip <| PX.thenN <| CX.region <| LX.pure (Y.move rfl) rfl rfl rfl <| LX.pure (Y.nilCheck rfl) rfl rfl rfl <| LX.pure (Y.fieldAddr0 F.fo52_1 rfl) rfl rfl rfl <| LX.pure (Y.ldB 0 F.one3 rfl rfl rfl) rfl rfl rfl <| LX.pure (Y.addN rfl rfl (by (simp only []; omega))) rfl rfl rfl <| LX.pure (Y.nilCheck rfl) rfl rfl rfl <| LX.pure (Y.fieldAddr0 F.fo52_1 rfl) rfl rfl rfl <| LX.storeB 0 F.sz3 rfl rfl rfl rfl rfl rfl rfl rfl <| LX.sub (l' := [(0, _), (3, _)]) ⟨rfl, rfl, trivial⟩ <| LX.next <| PX.blockN ?_
    exact PX.again (k + 1) (by show σ.s.length - (k + 1) < σ.s.length - k; omega) ⟨rfl, rfl, trivial⟩ (fun w hw => ⟨⟨by omega, by omega, numL_step hkp hi hb3.1 (hb3.2.resolve_left (by simp [hb4])) hb4⟩, hw⟩)
  try simp at hb3
  have hgt : σ.pos < k := by
    rcases Nat.lt_or_eq_of_le hkp with h | h
    · exact h
    · exfalso; have := hb3 (by omega); rw [← h, hd] at this; cases this.2
  refine CX.exit <| PX.thenE <| PX.thenE <| PX.blockE <| PX.thenN <| CX.seq <| CX.regionQ rfl (by kernel_rfl) <| LX.pure (Y.move rfl) rfl rfl rfl <| LX.pure (Y.nilCheck rfl) rfl rfl rfl <| LX.pure (Y.fieldAddr0 F.fo52_0 rfl) rfl rfl rfl <| LX.pure (Y.ldB 0 F.one9 rfl rfl rfl) rfl rfl rfl <| LX.pure (Y.move rfl) rfl rfl rfl <| LX.pure (Y.move rfl) rfl rfl rfl <| LX.pure (Y.nilCheck rfl) rfl rfl rfl <| LX.pure (Y.fieldAddr0 F.fo52_1 rfl) rfl rfl rfl <| LX.pure (Y.ldB 0 F.one3 rfl rfl rfl) rfl rfl rfl <| LX.pure (Y.slice rfl rfl rfl F.un9 (by omega) (by omega)) rfl rfl rfl <| LX.pure (Y.assign rfl) rfl rfl rfl <| LX.sub (l' := [(0, _), (3, _), (4, _)]) ⟨rfl, rfl, rfl, trivial⟩ <| LX.nextQ <| PX.thenN <| CX.seq <| CX.seq <| CX.region <| LX.pure (Y.move rfl) rfl rfl rfl <| LX.pure (Y.lenStr rfl F.un9 rfl) rfl rfl rfl <| LX.pure (Y.gtN rfl rfl) rfl rfl rfl <| LX.pure (Y.move rfl) rfl rfl rfl <| LX.sub (l' := [(0, _), (3, _), (4, _), (75, _)]) ⟨rfl, rfl, rfl, rfl, trivial⟩ ?_
  apply LX.joinOr 9 84 75 rfl
  · intro hb5
    have hb5p := hb5
    try simp at hb5p
    refine LX.gF rfl rfl rfl hb5 rfl rfl <| LX.gF rfl rfl rfl hb5 rfl rfl <| LX.gF rfl rfl rfl hb5 rfl rfl <| LX.gF rfl rfl rfl hb5 rfl rfl <| LX.gU rfl rfl rfl rfl rfl <| LX.gU rfl rfl rfl rfl rfl <| LX.gU rfl rfl rfl rfl rfl <| LX.gF rfl rfl rfl hb5 rfl rfl <| LX.pure (Y.pickT rfl hb5 rfl) rfl rfl rfl ?_
    exact LX.left ⟨rfl, rfl, rfl, rfl, rfl, trivial⟩
  · intro hb5
    have hb5p := hb5
    try simp at hb5p
    refine LX.gT rfl rfl rfl hb5 (Y.move rfl) rfl rfl <| LX.gT rfl rfl rfl hb5 (Y.index rfl rfl F.un9 (by (simp; omega))) rfl rfl <| LX.gT rfl rfl rfl hb5 (Y.eqN rfl rfl) rfl rfl <| LX.gT rfl rfl rfl hb5 (Y.move rfl) rfl rfl <| LX.sub (l' := [(0, _), (3, _), (4, _), (75, _), (79, _)]) ⟨rfl, rfl, rfl, rfl, rfl, trivial⟩ ?_
    apply LX.joinAnd 4 83 79 rfl
    · intro hb6
      have hb6p := hb6
      try simp at hb6p
      refine LX.gT rfl rfl rfl hb6 (Y.move rfl) rfl rfl <| LX.gT rfl rfl rfl hb6 (Y.lenStr rfl F.un9 rfl) rfl rfl <| LX.gT rfl rfl rfl hb6 (Y.gtN rfl rfl) rfl rfl <| LX.gT rfl rfl rfl hb5 (Y.pickT rfl hb6 rfl) rfl rfl ?_
      exact LX.left ⟨rfl, rfl, rfl, rfl, rfl, rfl, trivial⟩
    · intro hb6
      have hb6p := hb6
      try simp at hb6p
      refine LX.gF rfl rfl rfl hb6 rfl rfl <| LX.gF rfl rfl rfl hb6 rfl rfl <| LX.gF rfl rfl rfl hb6 rfl rfl <| LX.gT rfl rfl rfl hb5 (Y.pickF rfl hb6 rfl) rfl rfl ?_
      exact LX.left ⟨rfl, rfl, rfl, rfl, rfl, rfl, trivial⟩
    refine LX.pure (Y.pickF rfl hb5 rfl) rfl rfl rfl ?_
    exact LX.left ⟨rfl, rfl, rfl, rfl, rfl, trivial⟩
  refine LX.sub (l' := [(0, _), (3, _), (4, _), (84, _)]) ⟨rfl, rfl, rfl, rfl, trivial⟩ <| LX.next <| PX.thenN ?_
  refine CX.cond rfl (fun hb7 => ?_) (fun hb7 => ?_)
  · try simp at hb7
    refine CX.seq <| CX.region <| LX.pure (Y.move rfl) rfl rfl rfl <| LX.call (bad_c hE _ (by omega)) F.en17 rfl rfl rfl rfl rfl ?_
    intro bE
    refine LX.pure (Y.assign rfl) rfl rfl rfl <| LX.sub (l' := [(0, _), (2, _), (3, _), (4, _)]) ⟨rfl, rfl, rfl, rfl, trivial⟩ <| LX.next <| PX.thenN <| CX.ret <| PX.thenR <| PX.ret1 (by simp) Tryd.results32 rfl ?_
    exact fun w hw => ⟨.inr _, rfl, _, Sc.number_bad hkp hk hi hb3 (by simpa using hb7), errW hw⟩
  try simp at hb7
  refine CX.skip <| PX.thenN <| CX.seq <| CX.region <| LX.pure (Y.move rfl) rfl rfl rfl <| LX.pure (Y.move rfl) rfl rfl rfl <| LX.pure (Y.move rfl) rfl rfl rfl <| LX.call (token_c _ _ _ (by omega)) F.en19 rfl rfl rfl rfl rfl ?_
  intro pT
  refine LX.sub (l' := []) trivial <| LX.next <| PX.thenN <| CX.seq <| CX.region <| LX.pure (Y.assign rfl) rfl rfl rfl <| LX.sub (l' := [(2, _)]) ⟨rfl, trivial⟩ <| LX.next <| PX.thenN <| CX.ret <| PX.ret1 (by simp) Tryd.results32 rfl ?_
  exact fun w hw => ⟨.inl pT, rfl, _, Sc.number_ok hkp hk hi hb3 (by simpa using hb7), hw⟩

theorem text_c {w0 : World} {base : Nat} {B : Nat} {σ : Sc} {p : Sl} {fr : List It} {eLex : Value} (hE : EnvLex w0 base eLex) (hs : σ.s.length ≤ 65536) (q : Nat) (hp : σ.pos < σ.s.length) (ho : σ.out.length ≤ 1000000) : FnC Tryd.prog 33 #[.pointer (some ⟨B, 0, none⟩), .int .u8 (q : Int)] (WA w0 base (scI B σ p fr)) resV (resW w0 base B eLex fr (σ.text q)) := by
  refine FnC.of_body (fn := Tryd.f33) [(0, _), (1, _)] Tryd.func33 rfl Tryd.ntmps33 rfl ⟨rfl, rfl, trivial⟩ ?_
  refine CX.seq <| CX.region <| LX.pure (Y.assign rfl) rfl rfl rfl <| LX.sub (l' := [(0, _), (1, _), (4, _)]) ⟨rfl, rfl, rfl, trivial⟩ <| LX.next <| PX.thenN <| CX.seq <| CX.regionQ rfl (by kernel_rfl) <| LX.pure (Y.move rfl) rfl rfl rfl <| LX.pure (Y.nilCheck rfl) rfl rfl rfl <| LX.pure (Y.fieldAddr0 F.fo52_1 rfl) rfl rfl rfl <| LX.pure (Y.ldB 0 F.one3 rfl rfl rfl) rfl rfl rfl <| LX.pure (Y.move rfl) rfl rfl rfl <| LX.pure (Y.move rfl) rfl rfl rfl <| LX.callQ (end_q q rd_sc (by omega) (by omega)) F.en52 rfl rfl rfl rfl rfl <| LX.pure (Y.assign rfl) rfl rfl rfl <| LX.pure (Y.assign rfl) rfl rfl rfl <| LX.sub (l' := [(0, _), (4, _), (5, _), (6, _)]) ⟨rfl, rfl, rfl, rfl, trivial⟩ <| LX.nextQ <| PX.thenN <| CX.seq <| CX.seq <| CX.region <| LX.pure (Y.move rfl) rfl rfl rfl <| LX.pure (Y.ltI rfl rfl) rfl rfl rfl <| LX.sub (l' := [(0, _), (4, _), (5, _), (6, _), (20, _)]) ⟨rfl, rfl, rfl, rfl, rfl, trivial⟩ <| LX.next <| PX.thenN ?_
  refine CX.cond rfl (fun hb1 => ?_) (fun hb1 => ?_)
  · try simp at hb1
    cases he : endL q (σ.s.drop (σ.pos + 1)) (σ.pos + 1) with
    | some e => rw [he] at hb1; simp at hb1; omega
    | none =>
    refine CX.seq <| CX.region <| LX.pure (Y.move rfl) rfl rfl rfl <| LX.call (bad_c hE _ (by omega)) F.en17 rfl rfl rfl rfl rfl ?_
    intro bE
    refine LX.pure (Y.assign rfl) rfl rfl rfl <| LX.sub (l' := [(0, _), (4, _), (5, _), (6, _)]) ⟨rfl, rfl, rfl, rfl, trivial⟩ <| LX.next <| PX.thenN <| CX.ret <| PX.thenR <| PX.ret1 (by simp) Tryd.results33 rfl ?_
    exact fun w hw => ⟨.inr _, rfl, _, Sc.text_none he, errW hw⟩
  try simp at hb1
  obtain ⟨e, he⟩ : ∃ e, endL q (σ.s.drop (σ.pos + 1)) (σ.pos + 1) = some e := by
    cases he : endL q (σ.s.drop (σ.pos + 1)) (σ.pos + 1) with
    | some e => exact ⟨e, rfl⟩
    | none => rw [he] at hb1; simp at hb1
  have hbd := endL_bd _ _ _ he
  have hel : e ≤ σ.s.length := by have := hbd.2; simp at this; omega
  clear hb1
  simp only [he]
  refine CX.skip <| PX.thenN <| CX.seq <| CX.region <| LX.pure (Y.assign rfl) rfl rfl rfl <| LX.sub (l' := [(0, _), (4, _), (5, _), (6, _), (7, _)]) ⟨rfl, rfl, rfl, rfl, rfl, trivial⟩ <| LX.next <| PX.thenN <| CX.seq <| CX.seq <| CX.region <| LX.pure (Y.move rfl) rfl rfl rfl <| LX.pure (Y.addN rfl rfl (by (simp only []; omega))) rfl rfl rfl <| LX.pure (Y.assign rfl) rfl rfl rfl <| LX.sub (l' := [(0, _), (4, _), (5, _), (6, _), (7, _), (8, _)]) ⟨rfl, rfl, rfl, rfl, rfl, rfl, trivial⟩ <| LX.next <| PX.thenN <| CX.block <| CX.loop (τ := Nat × List UInt8 × Option Nat × Nat) (fun t => [(0, .pointer (some ⟨B, 0, none⟩)), (5, .int .i64 (σ.pos : Int)), (6, .int .i64 (e : Int)), (7, rv t.2.2.1 t.2.1.length t.2.2.2), (8, .int .i64 (t.1 : Int))]) (fun t w => (σ.pos + 1 ≤ t.1 ∧ t.1 ≤ e - 1 ∧ t.2.1.length ≤ t.1 ∧ txtL ((σ.s.take (e - 1)).drop t.1) t.1 0 t.2.1 = txtL ((σ.s.take (e - 1)).drop (σ.pos + 1)) (σ.pos + 1) 0 []) ∧ WA w0 base (.row t.2.2.1 t.2.2.2 t.2.1.length 5 1 (t.2.1.map b8) :: scI B σ p fr) w) (fun t => e - t.1) (σ.pos + 1, [], none, 0) ⟨rfl, rfl, rfl, rfl, rfl, trivial⟩ (fun w hw => ⟨⟨Nat.le_refl _, by show σ.pos + 1 ≤ e - 1; omega, Nat.zero_le _, rfl⟩, hw.nilRow _ _⟩) ?_
  rintro ⟨k, acc, g, cap⟩
  refine CX.have fun ⟨hk1, hk2, hacc, hi⟩ => ?_
  dsimp only at hk1 hk2 hacc hi ⊢
  refine CX.seq <| CX.seq <| CX.region <| LX.pure (Y.move rfl) rfl rfl rfl <| LX.pure (Y.move rfl) rfl rfl rfl <| LX.pure (Y.subN rfl rfl (by (simp only []; omega)) (by omega)) rfl rfl rfl <| LX.pure (Y.ltN rfl rfl) rfl rfl rfl <| LX.sub (l' := [(0, _), (5, _), (6, _), (7, _), (8, _), (28, _)]) ⟨rfl, rfl, rfl, rfl, rfl, rfl, trivial⟩ <| LX.next <| PX.thenN ?_
  refine CX.cond rfl (fun hb2 => ?_) (fun hb2 => ?_)
  · try simp at hb2
    refine CX.skip <| PX.thenN <| CX.seq <| CX.block <| CX.seq <| CX.region <| LX.pure (Y.move rfl) rfl rfl rfl <| LX.pure (Y.nilCheck rfl) rfl rfl rfl <| LX.pure (Y.fieldAddr0 F.fo52_0 rfl) rfl rfl rfl <| LX.pure (Y.ldB 1 F.one9 rfl rfl rfl) rfl rfl rfl <| LX.pure (Y.move rfl) rfl rfl rfl <| LX.pure (Y.index rfl rfl F.un9 (by omega)) rfl rfl rfl <| LX.pure (Y.assign rfl) rfl rfl rfl <| LX.sub (l' := [(0, _), (5, _), (6, _), (7, _), (8, _), (9, _)]) ⟨rfl, rfl, rfl, rfl, rfl, rfl, trivial⟩ <| LX.next <| PX.thenN <| CX.seq <| CX.seq <| CX.region <| LX.pure (Y.move rfl) rfl rfl rfl <| LX.pure (Y.neN rfl rfl) rfl rfl rfl <| LX.sub (l' := [(0, _), (5, _), (6, _), (7, _), (8, _), (9, _), (38, _)]) ⟨rfl, rfl, rfl, rfl, rfl, rfl, rfl, trivial⟩ <| LX.next <| PX.thenN ?_
    refine CX.cond rfl (fun hb3 => ?_) (fun hb3 => ?_)
    · try simp at hb3
      refine CX.seq <| CX.seq <| CX.region <| LX.pure (Y.move rfl) rfl rfl rfl <| LX.pure (Y.ltN rfl rfl) rfl rfl rfl <| LX.pure (Y.move rfl) rfl rfl rfl <| LX.sub (l' := [(0, _), (5, _), (6, _), (7, _), (8, _), (9, _), (41, _)]) ⟨rfl, rfl, rfl, rfl, rfl, rfl, rfl, trivial⟩ ?_
      apply LX.joinOr 3 44 41 rfl
      · intro hb4
        have hb4p := hb4
        try simp at hb4p
        refine LX.gF rfl rfl rfl hb4 rfl rfl <| LX.gF rfl rfl rfl hb4 rfl rfl <| LX.pure (Y.pickT rfl hb4 rfl) rfl rfl rfl ?_
        exact LX.left ⟨rfl, rfl, rfl, rfl, rfl, rfl, rfl, rfl, trivial⟩
      · intro hb4
        have hb4p := hb4
        try simp at hb4p
        refine LX.gT rfl rfl rfl hb4 (Y.move rfl) rfl rfl <| LX.gT rfl rfl rfl hb4 (Y.eqN rfl rfl) rfl rfl <| LX.pure (Y.pickF rfl hb4 rfl) rfl rfl rfl ?_
        exact LX.left ⟨rfl, rfl, rfl, rfl, rfl, rfl, rfl, rfl, trivial⟩
      refine LX.sub (l' := [(0, _), (5, _), (6, _), (7, _), (8, _), (9, _), (44, _)]) ⟨rfl, rfl, rfl, rfl, rfl, rfl, rfl, trivial⟩ <| LX.next <| PX.thenN ?_
      refine CX.cond rfl (fun hb5 => ?_) (fun hb5 => ?_)
      · try simp at hb5
        refine CX.seq <| CX.region <| LX.pure (Y.move rfl) rfl rfl rfl <| LX.call (bad_c hE _ (by omega)) F.en17 rfl rfl rfl rfl rfl ?_
        intro bE
        refine LX.pure (Y.assign rfl) rfl rfl rfl <| LX.sub (l' := [(0, _), (4, _), (5, _), (6, _), (7, _), (8, _), (9, _)]) ⟨rfl, rfl, rfl, rfl, rfl, rfl, rfl, trivial⟩ <| LX.next <| PX.thenN <| CX.ret <| PX.thenR <| PX.thenR <| PX.blockR <| PX.thenR <| PX.thenR <| PX.blockR <| PX.thenR <| PX.ret1 (by simp) Tryd.results33 rfl ?_
        exact fun w hw => ⟨.inr _, rfl, _, (Sc.text_bad he (hi.symm.trans (txt_bad hb2 (by omega) hb3 hb5))), errW2 hw⟩
      try simp at hb5
      refine CX.skip <| PX.thenN <| CX.seq <| CX.region <| LX.pure (Y.move rfl) rfl rfl rfl <| LX.pure (Y.move rfl) rfl rfl rfl <| LX.buildSlice (e := 5) (size := 1) rfl rfl (fun _ => by kernel_rfl) rfl (by decide) rfl rfl rfl ?_
      intro gt44
      refine LX.appendT 0 F.el50 rfl rfl rfl rfl rfl rfl rfl (by omega) (by omega) rfl rfl rfl ?_
      intro g' cap'
      refine LX.pure (Y.assign rfl) rfl rfl rfl <| LX.sub (l' := [(0, _), (5, _), (6, _), (7, _), (8, _)]) ⟨rfl, rfl, rfl, rfl, rfl, trivial⟩ <| LX.next <| PX.thenN <| CX.exit <| PX.thenE <| PX.blockE <| PX.thenN <| CX.region <| LX.pure (Y.move rfl) rfl rfl rfl <| LX.pure (Y.addN rfl rfl (by (simp only []; omega))) rfl rfl rfl <| LX.pure (Y.assign rfl) rfl rfl rfl <| LX.sub (l' := [(0, _), (5, _), (6, _), (7, _), (8, _)]) ⟨rfl, rfl, rfl, rfl, rfl, trivial⟩ <| LX.next ?_
      exact PX.again (μ := fun t => e - t.1) (i := (k, acc, g, cap)) (k + 1, acc ++ [σ.s.getD k 0], g', cap') (by show e - (k + 1) < e - k; omega) ⟨rfl, rfl, rfl, by simp only [List.length_append, List.length_singleton]; rfl, rfl, trivial⟩ (fun w hw => ⟨⟨by show σ.pos + 1 ≤ k + 1; omega, by show k + 1 ≤ e - 1; omega, by simp; omega, (txt_plain hb2 (by omega) hb3 (by omega)).symm.trans hi⟩, by simpa [flat, Value.cells, b8, bt, List.set] using hw⟩)
    try simp at hb3
    refine CX.skip <| PX.thenN <| CX.seq <| CX.region <| LX.pure (Y.move rfl) rfl rfl rfl <| LX.pure (Y.nilCheck rfl) rfl rfl rfl <| LX.pure (Y.fieldAddr0 F.fo52_0 rfl) rfl rfl rfl <| LX.pure (Y.ldB 1 F.one9 rfl rfl rfl) rfl rfl rfl <| LX.pure (Y.move rfl) rfl rfl rfl <| LX.pure (Y.addN rfl rfl (by (simp only []; omega))) rfl rfl rfl <| LX.pure (Y.move rfl) rfl rfl rfl <| LX.pure (Y.subN rfl rfl (by (simp only []; omega)) (by omega)) rfl rfl rfl <| LX.pure (Y.slice rfl rfl rfl F.un9 (by (simp only []; omega)) (by omega)) rfl rfl rfl <| LX.callQ (piece_q _ (by simp; omega)) F.en53 rfl rfl rfl rfl rfl <| LX.pure (Y.move rfl) rfl rfl rfl <| LX.pure (Y.extract rfl rfl) rfl rfl rfl <| LX.pure (Y.extract rfl rfl) rfl rfl rfl <| LX.pure (Y.assign rfl) rfl rfl rfl <| LX.pure (Y.assign rfl) rfl rfl rfl <| LX.sub (l' := [(0, _), (5, _), (6, _), (7, _), (8, _), (10, _), (11, _)]) ⟨rfl, rfl, rfl, rfl, rfl, rfl, rfl, trivial⟩ <| LX.next <| PX.thenN <| CX.seq <| CX.seq <| CX.region <| LX.pure (Y.move rfl) rfl rfl rfl <| LX.pure (Y.eqN rfl rfl) rfl rfl rfl <| LX.sub (l' := [(0, _), (5, _), (6, _), (7, _), (8, _), (10, _), (11, _), (65, _)]) ⟨rfl, rfl, rfl, rfl, rfl, rfl, rfl, rfl, trivial⟩ <| LX.next <| PX.thenN ?_
    refine CX.cond rfl (fun hb6 => ?_) (fun hb6 => ?_)
    · try simp at hb6
      refine CX.seq <| CX.region <| LX.pure (Y.move rfl) rfl rfl rfl <| LX.call (bad_c hE _ (by omega)) F.en17 rfl rfl rfl rfl rfl ?_
      intro bE
      refine LX.pure (Y.assign rfl) rfl rfl rfl <| LX.sub (l' := [(0, _), (4, _), (5, _), (6, _), (7, _), (8, _), (10, _), (11, _)]) ⟨rfl, rfl, rfl, rfl, rfl, rfl, rfl, rfl, trivial⟩ <| LX.next <| PX.thenN <| CX.ret <| PX.thenR <| PX.blockR <| PX.thenR <| PX.thenR <| PX.blockR <| PX.thenR <| PX.ret1 (by simp) Tryd.results33 rfl ?_
      exact fun w hw => ⟨.inr _, rfl, _, (Sc.text_bad he (hi.symm.trans (txt_esc_bad hb2 (by omega) hb3 hb6))), errW2 hw⟩
    try simp at hb6
    have hpl := txt_esc_lt (s := σ.s) hb2 (show e - 1 ≤ σ.s.length by omega)
    have hplt := pieceL_lt ((σ.s.take (e - 1)).drop (k + 1))
    refine CX.skip <| PX.thenN <| CX.seq <| CX.region <| LX.pure (Y.move rfl) rfl rfl rfl <| LX.pure (Y.move rfl) rfl rfl rfl <| LX.buildSlice (e := 5) (size := 1) rfl rfl (fun _ => by kernel_rfl) rfl (by decide) rfl rfl rfl ?_
    intro gt72
    refine LX.appendT 0 F.el50 rfl rfl rfl rfl rfl rfl rfl (by omega) (by omega) rfl rfl rfl ?_
    intro g' cap'
    refine LX.pure (Y.assign rfl) rfl rfl rfl <| LX.sub (l' := [(0, _), (5, _), (6, _), (7, _), (8, _), (11, _)]) ⟨rfl, rfl, rfl, rfl, rfl, rfl, trivial⟩ <| LX.next <| PX.thenN <| CX.region <| LX.pure (Y.move rfl) rfl rfl rfl <| LX.pure (Y.move rfl) rfl rfl rfl <| LX.pure (Y.addN rfl rfl (by (simp only []; omega))) rfl rfl rfl <| LX.pure (Y.assign rfl) rfl rfl rfl <| LX.sub (l' := [(0, _), (5, _), (6, _), (7, _), (8, _)]) ⟨rfl, rfl, rfl, rfl, rfl, trivial⟩ <| LX.next <| PX.blockN <| PX.thenN <| CX.region <| LX.pure (Y.move rfl) rfl rfl rfl <| LX.pure (Y.addN rfl rfl (by (simp only []; omega))) rfl rfl rfl <| LX.pure (Y.assign rfl) rfl rfl rfl <| LX.sub (l' := [(0, _), (5, _), (6, _), (7, _), (8, _)]) ⟨rfl, rfl, rfl, rfl, rfl, trivial⟩ <| LX.next ?_
    exact PX.again (μ := fun t => e - t.1) (i := (k, acc, g, cap)) (k + (pieceL ((σ.s.take (e - 1)).drop (k + 1))).2 + 1, acc ++ [UInt8.ofNat (pieceL ((σ.s.take (e - 1)).drop (k + 1))).1], g', cap') (by show e - (k + _ + 1) < e - k; omega) ⟨rfl, rfl, rfl, by simp only [List.length_append, List.length_singleton]; rfl, rfl, trivial⟩ (fun w hw => ⟨⟨by show σ.pos + 1 ≤ k + _ + 1; omega, hpl, by simp; omega, (txt_esc hb2 (by omega) hb3 hb6).symm.trans hi⟩, by
      have e8 : b8 (UInt8.ofNat (pieceL ((σ.s.take (e - 1)).drop (k + 1))).1) = .int .u8 (((pieceL ((σ.s.take (e - 1)).drop (k + 1))).1 : Nat) : Int) := by simp [b8, Nat.mod_eq_of_lt hplt]
      rw [List.map_append, List.map_singleton, e8, List.length_append]
      exact hw⟩)
  try simp at hb2
  refine CX.exit <| PX.thenE <| PX.thenE <| PX.blockE <| PX.thenN <| CX.seq <| CX.region <| LX.pure (Y.move rfl) rfl rfl rfl <| LX.pure (Y.move rfl) rfl rfl rfl <| LX.pure (Y.nilCheck rfl) rfl rfl rfl <| LX.pure (Y.fieldAddr0 F.fo52_1 rfl) rfl rfl rfl <| LX.storeB 1 F.sz3 rfl rfl rfl rfl rfl rfl rfl rfl <| LX.sub (l' := [(0, _), (5, _), (7, _)]) ⟨rfl, rfl, rfl, trivial⟩ <| LX.next <| PX.thenN <| CX.seq <| CX.region <| LX.pure (Y.move rfl) rfl rfl rfl <| LX.pure (Y.move rfl) rfl rfl rfl <| LX.pure (Y.str 0 rfl rfl F.un50 F.un5 F.un9) rfl rfl rfl <| LX.pure (Y.move rfl) rfl rfl rfl <| LX.world (W' := WA w0 base (scI B { σ with pos := e } p fr)) (fun w hw => hw.drop (List.sublist_cons_self _ _)) <| LX.call (token_c _ _ _ (by omega)) F.en19 rfl rfl rfl rfl rfl ?_
  intro pT
  refine LX.sub (l' := []) trivial <| LX.next <| PX.thenN <| CX.seq <| CX.region <| LX.pure (Y.assign rfl) rfl rfl rfl <| LX.sub (l' := [(4, _)]) ⟨rfl, trivial⟩ <| LX.next <| PX.thenN <| CX.ret <| PX.ret1 (by simp) Tryd.results33 rfl ?_
  exact fun w hw => ⟨.inl pT, rfl, _, (Sc.text_ok he (hi.symm.trans (txt_end (by omega)))), hw⟩

theorem sign_c {w0 : World} {base : Nat} {B : Nat} {σ : Sc} {p : Sl} {fr : List It} {eLex : Value} (hE : EnvLex w0 base eLex) (hs : σ.s.length ≤ 65536) (hp : σ.pos ≤ σ.s.length) (ho : σ.out.length ≤ 1000000) (hk : σ.brk.length ≤ 1000) : FnC Tryd.prog 34 #[.pointer (some ⟨B, 0, none⟩)] (WA w0 base (scI B σ p fr)) resV (resW w0 base B eLex fr (σ.sign)) := by
  have hxl := signL_len (σ.s.drop σ.pos)
  refine FnC.of_body (fn := Tryd.f34) [(0, _)] Tryd.func34 rfl Tryd.ntmps34 rfl ⟨rfl, trivial⟩ ?_
  refine CX.seq <| CX.region <| LX.pure (Y.assign rfl) rfl rfl rfl <| LX.sub (l' := [(0, _), (2, _)]) ⟨rfl, rfl, trivial⟩ <| LX.next <| PX.thenN <| CX.seq <| CX.region <| LX.pure (Y.move rfl) rfl rfl rfl <| LX.callQ (found_q rd_sc (by omega) (by omega)) F.en54 rfl rfl rfl rfl rfl <| LX.pure (Y.assign rfl) rfl rfl rfl <| LX.sub (l' := [(0, _), (2, _), (3, _)]) ⟨rfl, rfl, rfl, trivial⟩ <| LX.next <| PX.thenN <| CX.seq <| CX.seq <| CX.region <| LX.pure (Y.move rfl) rfl rfl rfl <| LX.pure (Y.eqS rfl rfl) rfl rfl rfl <| LX.sub (l' := [(0, _), (2, _), (3, _), (9, _)]) ⟨rfl, rfl, rfl, rfl, trivial⟩ <| LX.next <| PX.thenN ?_
  refine CX.cond rfl (fun hb1 => ?_) (fun hb1 => ?_)
  · try simp at hb1
    refine CX.seq <| CX.region <| LX.pure (Y.move rfl) rfl rfl rfl <| LX.pure (Y.nilCheck rfl) rfl rfl rfl <| LX.pure (Y.fieldAddr0 F.fo52_1 rfl) rfl rfl rfl <| LX.pure (Y.ldB 0 F.one3 rfl rfl rfl) rfl rfl rfl <| LX.call (bad_c hE _ (by omega)) F.en17 rfl rfl rfl rfl rfl ?_
    intro bE
    refine LX.pure (Y.assign rfl) rfl rfl rfl <| LX.sub (l' := [(0, _), (2, _), (3, _)]) ⟨rfl, rfl, rfl, trivial⟩ <| LX.next <| PX.thenN <| CX.ret <| PX.thenR <| PX.ret1 (by simp) Tryd.results34 rfl ?_
    exact fun w hw => ⟨.inr _, rfl, _, Sc.sign_none hb1, errW hw⟩
  try simp at hb1
  have hx0 := List.length_pos_iff.2 hb1
  refine CX.skip <| PX.thenN <| CX.seq <| CX.seq <| CX.region <| LX.pure (Y.move rfl) rfl rfl rfl <| LX.pure (Y.index rfl rfl F.un9 (by omega)) rfl rfl rfl <| LX.callQ (indexByte_q [40, 91, 123] (bt (signL (σ.s.drop σ.pos)) 0)) F.en55 rfl rfl rfl rfl rfl <| LX.pure (Y.assign rfl) rfl rfl rfl <| LX.sub (l' := [(0, _), (2, _), (3, _), (4, _)]) ⟨rfl, rfl, rfl, rfl, trivial⟩ <| LX.next <| PX.thenN <| CX.seq <| CX.region <| LX.pure (Y.move rfl) rfl rfl rfl <| LX.pure (Y.geI rfl rfl) rfl rfl rfl <| LX.sub (l' := [(0, _), (2, _), (3, _), (4, _), (19, _)]) ⟨rfl, rfl, rfl, rfl, rfl, trivial⟩ <| LX.next <| PX.thenN ?_
  refine CX.cond rfl (fun hb2 => ?_) (fun hb2 => ?_)
  · try simp at hb2
    obtain ⟨kk, hkk, hk3, hko, hkc⟩ := opens_ex _ (bt_lt _ _) hb2
    rw [hkk]
    refine CX.seq <| CX.seq <| CX.region <| LX.pure (Y.move rfl) rfl rfl rfl <| LX.pure (Y.nilCheck rfl) rfl rfl rfl <| LX.pure (Y.fieldAddr0 F.fo52_4 rfl) rfl rfl rfl <| LX.pure (Y.ldB 0 F.one50 rfl rfl rfl) rfl rfl rfl <| LX.pure (Y.lenSl rfl F.un50 rfl) rfl rfl rfl <| LX.pure (Y.geN rfl rfl) rfl rfl rfl <| LX.sub (l' := [(0, _), (2, _), (3, _), (4, _), (25, _)]) ⟨rfl, rfl, rfl, rfl, rfl, trivial⟩ <| LX.next <| PX.thenN ?_
    refine CX.cond rfl (fun hb3 => ?_) (fun hb3 => ?_)
    · try simp at hb3
      refine CX.seq <| CX.region <| LX.pure (Y.move rfl) rfl rfl rfl <| LX.pure (Y.nilCheck rfl) rfl rfl rfl <| LX.pure (Y.fieldAddr0 F.fo52_1 rfl) rfl rfl rfl <| LX.pure (Y.ldB 0 F.one3 rfl rfl rfl) rfl rfl rfl <| LX.call (bad_c hE _ (by omega)) F.en17 rfl rfl rfl rfl rfl ?_
      intro bE
      refine LX.pure (Y.assign rfl) rfl rfl rfl <| LX.sub (l' := [(0, _), (2, _), (3, _), (4, _)]) ⟨rfl, rfl, rfl, rfl, trivial⟩ <| LX.next <| PX.thenN <| CX.ret <| PX.thenR <| PX.thenR <| PX.ret1 (by simp) Tryd.results34 rfl ?_
      exact fun w hw => ⟨.inr _, rfl, _, (Sc.sign_deep hb1 hko hb3), errW hw⟩
    try simp at hb3
    refine CX.skip <| PX.thenN <| CX.regionM [(0, .anywhere), (1, .anywhere), (2, .anywhere), (3, .anywhere), (4, .held), (5, .anywhere), (6, .anywhere), (7, .alone), (8, .alone), (9, .anywhere), (10, .anywhere), (11, .alone)] rfl (by kernel_rfl) <| MX.lift0 (i := 0) rfl (Y.move rfl) rfl rfl rfl <| MX.lift0 (i := 1) rfl (Y.move rfl) rfl rfl rfl <| MX.lift0 (i := 2) rfl (Y.nilCheck rfl) rfl rfl rfl <| MX.lift0 (i := 3) rfl (Y.fieldAddr0 F.fo52_4 rfl) rfl rfl rfl <| MX.lift1 (i := 4) (pend' := []) rfl (fun w hw => by exact hw) (Y.ldB 0 F.one50 rfl rfl rfl) rfl rfl rfl (by kernel_rfl) <| MX.lift0 (i := 5) rfl (Y.move rfl) rfl rfl rfl <| MX.lift0 (i := 6) rfl (Y.index rfl rfl F.un9 (by omega)) rfl rfl rfl <| MX.force (i := 7) rfl <| LX.buildSlice (e := 5) (size := 1) rfl rfl (fun _ => by kernel_rfl) rfl (by decide) rfl rfl rfl ?_
    intro gt37
    refine LX.nextM [4] (by kernel_rfl) (fun _ => (fun w hw => by exact hw.drop (List.sublist_cons_self _ _))) <| MX.force (i := 8) rfl <| LX.appendT 3 F.el50 rfl rfl rfl rfl rfl rfl rfl (by omega) (by omega) rfl rfl rfl ?_
    intro g' cap'
    refine LX.nextM [] (by kernel_rfl) (fun h => absurd rfl h) <| MX.lift0 (i := 9) rfl (Y.nilCheck rfl) rfl rfl rfl <| MX.lift0 (i := 10) rfl (Y.fieldAddr0 F.fo52_4 rfl) rfl rfl rfl <| MX.force (i := 11) rfl <| LX.storeB 0 F.sz50 rfl rfl rfl rfl rfl rfl rfl rfl <| LX.world (W' := WA w0 base (scI B { σ with brk := σ.brk ++ [bt [41, 93, 125] kk] } { p with gk := g', ck := cap' } fr)) (fun w hw => by simpa [scI, flat, Value.cells, natV, bytV] using hw) <| LX.nextM [] (by kernel_rfl) (fun h => absurd rfl h) <| MX.sub (l' := [(0, _), (2, _), (3, _)]) ⟨rfl, rfl, rfl, trivial⟩ <| MX.done <| PX.thenN <| CX.seq <| CX.seq <| CX.region <| LX.pure (Y.move rfl) rfl rfl rfl <| LX.pure (Y.index rfl rfl F.un9 (by omega)) rfl rfl rfl <| LX.callQ (indexByte_q [41, 93, 125] (bt (signL (σ.s.drop σ.pos)) 0)) F.en55 rfl rfl rfl rfl rfl <| LX.pure (Y.geI rfl rfl) rfl rfl rfl <| LX.sub (l' := [(0, _), (2, _), (3, _), (45, _)]) ⟨rfl, rfl, rfl, rfl, trivial⟩ <| LX.next <| PX.thenN ?_
    refine CX.cond rfl (fun hb4 => ?_) (fun hb4 => ?_)
    · try simp at hb4
      exfalso; exact absurd hb4 (Int.not_le.2 hkc)
    try simp at hb4
    refine CX.skip <| PX.thenN <| CX.seq <| CX.region <| LX.pure (Y.move rfl) rfl rfl rfl <| LX.pure (Y.move rfl) rfl rfl rfl <| LX.pure (Y.move rfl) rfl rfl rfl <| LX.pure (Y.nilCheck rfl) rfl rfl rfl <| LX.pure (Y.fieldAddr0 F.fo52_1 rfl) rfl rfl rfl <| LX.pure (Y.ldB 0 F.one3 rfl rfl rfl) rfl rfl rfl <| LX.call (token_c _ _ _ (by omega)) F.en19 rfl rfl rfl rfl rfl ?_
    intro pT
    refine LX.sub (l' := [(0, _), (2, _), (3, _)]) ⟨rfl, rfl, rfl, trivial⟩ <| LX.next <| PX.thenN <| CX.seq <| CX.region <| LX.pure (Y.move rfl) rfl rfl rfl <| LX.pure (Y.nilCheck rfl) rfl rfl rfl <| LX.pure (Y.fieldAddr0 F.fo52_1 rfl) rfl rfl rfl <| LX.pure (Y.ldB 0 F.one3 rfl rfl rfl) rfl rfl rfl <| LX.pure (Y.move rfl) rfl rfl rfl <| LX.pure (Y.lenStr rfl F.un9 rfl) rfl rfl rfl <| LX.pure (Y.addN rfl rfl (by (simp only [Sc.tok]; omega))) rfl rfl rfl <| LX.pure (Y.nilCheck rfl) rfl rfl rfl <| LX.pure (Y.fieldAddr0 F.fo52_1 rfl) rfl rfl rfl <| LX.storeB 0 F.sz3 rfl rfl rfl rfl rfl rfl rfl rfl <| LX.sub (l' := [(2, _)]) ⟨rfl, trivial⟩ <| LX.next <| PX.thenN <| CX.seq <| CX.region <| LX.pure (Y.assign rfl) rfl rfl rfl <| LX.sub (l' := [(2, _)]) ⟨rfl, trivial⟩ <| LX.next <| PX.thenN <| CX.ret <| PX.ret1 (by simp) Tryd.results34 rfl ?_
    exact fun w hw => ⟨.inl pT, rfl, _, (Sc.sign_open hb1 hko (by omega)), hw⟩
  try simp at hb2
  refine CX.skip <| PX.thenN <| CX.seq <| CX.seq <| CX.region <| LX.pure (Y.move rfl) rfl rfl rfl <| LX.pure (Y.index rfl rfl F.un9 (by omega)) rfl rfl rfl <| LX.callQ (indexByte_q [41, 93, 125] (bt (signL (σ.s.drop σ.pos)) 0)) F.en55 rfl rfl rfl rfl rfl <| LX.pure (Y.geI rfl rfl) rfl rfl rfl <| LX.sub (l' := [(0, _), (2, _), (3, _), (45, _)]) ⟨rfl, rfl, rfl, rfl, trivial⟩ <| LX.next <| PX.thenN ?_
  refine CX.cond rfl (fun hb5 => ?_) (fun hb5 => ?_)
  · try simp at hb5
    refine CX.seq <| CX.region <| LX.pure (Y.move rfl) rfl rfl rfl <| LX.pure (Y.nilCheck rfl) rfl rfl rfl <| LX.pure (Y.fieldAddr0 F.fo52_4 rfl) rfl rfl rfl <| LX.pure (Y.ldB 0 F.one50 rfl rfl rfl) rfl rfl rfl <| LX.pure (Y.lenSl rfl F.un50 rfl) rfl rfl rfl <| LX.pure (Y.sub rfl rfl (by omega)) rfl rfl rfl <| LX.pure (Y.assign rfl) rfl rfl rfl <| LX.sub (l' := [(0, _), (2, _), (3, _), (5, _)]) ⟨rfl, rfl, rfl, rfl, trivial⟩ <| LX.next <| PX.thenN <| CX.seq <| CX.seq <| CX.regionQ rfl (by kernel_rfl) <| LX.pure (Y.move rfl) rfl rfl rfl <| LX.pure (Y.ltI rfl rfl) rfl rfl rfl <| LX.pure (Y.move rfl) rfl rfl rfl <| LX.sub (l' := [(0, _), (2, _), (3, _), (5, _), (54, _)]) ⟨rfl, rfl, rfl, rfl, rfl, trivial⟩ ?_
    apply LX.joinOr 11 65 54 rfl
    · intro hb6
      have hb6p := hb6
      try simp at hb6p
      refine LX.gF rfl rfl rfl hb6 rfl rfl <| LX.gF rfl rfl rfl hb6 rfl rfl <| LX.gF rfl rfl rfl hb6 rfl rfl <| LX.gF rfl rfl rfl hb6 rfl rfl <| LX.gF rfl rfl rfl hb6 rfl rfl <| LX.gF rfl rfl rfl hb6 rfl rfl <| LX.gF rfl rfl rfl hb6 rfl rfl <| LX.gF rfl rfl rfl hb6 rfl rfl <| LX.gF rfl rfl rfl hb6 rfl rfl <| LX.gF rfl rfl rfl hb6 rfl rfl <| LX.pure (Y.pickT rfl hb6 rfl) rfl rfl rfl ?_
      exact LX.left ⟨rfl, rfl, rfl, rfl, rfl, rfl, trivial⟩
    · intro hb6
      have hb6p := hb6
      try simp at hb6p
      refine LX.gT rfl rfl rfl hb6 (Y.move rfl) rfl rfl <| LX.gT rfl rfl rfl hb6 (Y.nilCheck rfl) rfl rfl <| LX.gT rfl rfl rfl hb6 (Y.fieldAddr0 F.fo52_4 rfl) rfl rfl <| LX.gT rfl rfl rfl hb6 (Y.ldB 0 F.one50 rfl rfl rfl) rfl rfl <| LX.gT rfl rfl rfl hb6 (Y.move (v := .int .i64 ((σ.brk.length - 1 : Nat) : Int)) (by show some (Value.int .i64 ((σ.brk.length : Int) - 1)) = some (.int .i64 ((σ.brk.length - 1 : Nat) : Int)); congr; omega)) rfl rfl <| LX.gT rfl rfl rfl hb6 (Y.idxR 3 F.un50 F.sz5 rfl rfl rfl (by omega)) rfl rfl ?_
      refine LX.gT rfl rfl rfl hb6 (Y.ldR 3 (v := bytV (σ.brk.getD (σ.brk.length - 1) 0)) F.one5 rfl rfl (by rw [Nat.mul_one, List.getElem?_map, List.getElem?_eq_getElem (show σ.brk.length - 1 < σ.brk.length by omega)]; simp [List.getD, show σ.brk.length - 1 < σ.brk.length by omega])) rfl rfl ?_
      refine LX.gT rfl rfl rfl hb6 (Y.move rfl) rfl rfl <| LX.gT rfl rfl rfl hb6 (Y.index rfl rfl F.un9 (by omega)) rfl rfl <| LX.gT rfl rfl rfl hb6 (Y.neN rfl rfl) rfl rfl <| LX.pure (Y.pickF rfl hb6 rfl) rfl rfl rfl ?_
      exact LX.left ⟨rfl, rfl, rfl, rfl, rfl, rfl, trivial⟩
    refine LX.sub (l' := [(0, _), (2, _), (3, _), (5, _), (65, _)]) ⟨rfl, rfl, rfl, rfl, rfl, trivial⟩ <| LX.nextQ <| PX.thenN ?_
    refine CX.cond rfl (fun hb7 => ?_) (fun hb7 => ?_)
    · try simp at hb7
      refine CX.seq <| CX.region <| LX.pure (Y.move rfl) rfl rfl rfl <| LX.pure (Y.nilCheck rfl) rfl rfl rfl <| LX.pure (Y.fieldAddr0 F.fo52_1 rfl) rfl rfl rfl <| LX.pure (Y.ldB 0 F.one3 rfl rfl rfl) rfl rfl rfl <| LX.call (bad_c hE _ (by omega)) F.en17 rfl rfl rfl rfl rfl ?_
      intro bE
      refine LX.pure (Y.assign rfl) rfl rfl rfl <| LX.sub (l' := [(0, _), (2, _), (3, _), (5, _)]) ⟨rfl, rfl, rfl, rfl, trivial⟩ <| LX.next <| PX.thenN <| CX.ret <| PX.thenR <| PX.thenR <| PX.ret1 (by simp) Tryd.results34 rfl ?_
      exact fun w hw => ⟨.inr _, rfl, _, (Sc.sign_shut hb1 (opens_no _ (bt_lt _ _) hb2) (closes_yes _ (bt_lt _ _) hb5) (shut_of hb7)), errW hw⟩
    try simp at hb7
    have hsl := (shut_no hb7).1
    refine CX.skip <| PX.thenN <| CX.region <| LX.pure (Y.move rfl) rfl rfl rfl <| LX.pure (Y.move rfl) rfl rfl rfl <| LX.pure (Y.nilCheck rfl) rfl rfl rfl <| LX.pure (Y.fieldAddr0 F.fo52_4 rfl) rfl rfl rfl <| LX.pure (Y.ldB 0 F.one50 rfl rfl rfl) rfl rfl rfl <| LX.pure (Y.move (v := .int .i64 ((σ.brk.length - 1 : Nat) : Int)) (by show some (Value.int .i64 ((σ.brk.length : Int) - 1)) = some (.int .i64 ((σ.brk.length - 1 : Nat) : Int)); congr; omega)) rfl rfl rfl <| LX.pure (Y.cutR 3 F.un50 F.sz5 rfl rfl rfl (by omega)) rfl rfl rfl <| LX.pure (Y.nilCheck rfl) rfl rfl rfl <| LX.pure (Y.fieldAddr0 F.fo52_4 rfl) rfl rfl rfl <| LX.storeB 0 F.sz50 rfl rfl rfl rfl rfl rfl rfl rfl ?_
    refine LX.world (W' := WA w0 base (scI B { σ with brk := σ.brk.dropLast } p fr)) (fun w hw => by
      have h1 := hw.cut (i := 3) (k := σ.brk.length - 1) rfl (Nat.sub_le _ _)
      simpa [scI, List.dropLast_eq_take, List.map_take] using h1) ?_
    refine LX.sub (l' := [(0, _), (2, _), (3, _)]) ⟨rfl, rfl, rfl, trivial⟩ <| LX.next <| PX.thenN <| CX.seq <| CX.region <| LX.pure (Y.move rfl) rfl rfl rfl <| LX.pure (Y.move rfl) rfl rfl rfl <| LX.pure (Y.move rfl) rfl rfl rfl <| LX.pure (Y.nilCheck rfl) rfl rfl rfl <| LX.pure (Y.fieldAddr0 F.fo52_1 rfl) rfl rfl rfl <| LX.pure (Y.ldB 0 F.one3 rfl rfl rfl) rfl rfl rfl <| LX.call (token_c _ _ _ (by omega)) F.en19 rfl rfl rfl rfl rfl ?_
    intro pT
    refine LX.sub (l' := [(0, _), (2, _), (3, _)]) ⟨rfl, rfl, rfl, trivial⟩ <| LX.next <| PX.thenN <| CX.seq <| CX.region <| LX.pure (Y.move rfl) rfl rfl rfl <| LX.pure (Y.nilCheck rfl) rfl rfl rfl <| LX.pure (Y.fieldAddr0 F.fo52_1 rfl) rfl rfl rfl <| LX.pure (Y.ldB 0 F.one3 rfl rfl rfl) rfl rfl rfl <| LX.pure (Y.move rfl) rfl rfl rfl <| LX.pure (Y.lenStr rfl F.un9 rfl) rfl rfl rfl <| LX.pure (Y.addN rfl rfl (by (simp only [Sc.tok]; omega))) rfl rfl rfl <| LX.pure (Y.nilCheck rfl) rfl rfl rfl <| LX.pure (Y.fieldAddr0 F.fo52_1 rfl) rfl rfl rfl <| LX.storeB 0 F.sz3 rfl rfl rfl rfl rfl rfl rfl rfl <| LX.sub (l' := [(2, _)]) ⟨rfl, trivial⟩ <| LX.next <| PX.thenN <| CX.seq <| CX.region <| LX.pure (Y.assign rfl) rfl rfl rfl <| LX.sub (l' := [(2, _)]) ⟨rfl, trivial⟩ <| LX.next <| PX.thenN <| CX.ret <| PX.ret1 (by simp) Tryd.results34 rfl ?_
    exact fun w hw => ⟨.inl pT, rfl, _, (Sc.sign_close hb1 (opens_no _ (bt_lt _ _) hb2) (closes_yes _ (bt_lt _ _) hb5) (shut_no hb7).1 (shut_no hb7).2), hw⟩
  try simp at hb5
  refine CX.skip <| PX.thenN <| CX.seq <| CX.region <| LX.pure (Y.move rfl) rfl rfl rfl <| LX.pure (Y.move rfl) rfl rfl rfl <| LX.pure (Y.move rfl) rfl rfl rfl <| LX.pure (Y.nilCheck rfl) rfl rfl rfl <| LX.pure (Y.fieldAddr0 F.fo52_1 rfl) rfl rfl rfl <| LX.pure (Y.ldB 0 F.one3 rfl rfl rfl) rfl rfl rfl <| LX.call (token_c _ _ _ (by omega)) F.en19 rfl rfl rfl rfl rfl ?_
  intro pT
  refine LX.sub (l' := [(0, _), (2, _), (3, _)]) ⟨rfl, rfl, rfl, trivial⟩ <| LX.next <| PX.thenN <| CX.seq <| CX.region <| LX.pure (Y.move rfl) rfl rfl rfl <| LX.pure (Y.nilCheck rfl) rfl rfl rfl <| LX.pure (Y.fieldAddr0 F.fo52_1 rfl) rfl rfl rfl <| LX.pure (Y.ldB 0 F.one3 rfl rfl rfl) rfl rfl rfl <| LX.pure (Y.move rfl) rfl rfl rfl <| LX.pure (Y.lenStr rfl F.un9 rfl) rfl rfl rfl <| LX.pure (Y.addN rfl rfl (by (simp only [Sc.tok]; omega))) rfl rfl rfl <| LX.pure (Y.nilCheck rfl) rfl rfl rfl <| LX.pure (Y.fieldAddr0 F.fo52_1 rfl) rfl rfl rfl <| LX.storeB 0 F.sz3 rfl rfl rfl rfl rfl rfl rfl rfl <| LX.sub (l' := [(2, _)]) ⟨rfl, trivial⟩ <| LX.next <| PX.thenN <| CX.seq <| CX.region <| LX.pure (Y.assign rfl) rfl rfl rfl <| LX.sub (l' := [(2, _)]) ⟨rfl, trivial⟩ <| LX.next <| PX.thenN <| CX.ret <| PX.ret1 (by simp) Tryd.results34 rfl ?_
  exact fun w hw => ⟨.inl pT, rfl, _, (Sc.sign_plain hb1 (opens_no _ (bt_lt _ _) hb2) (closes_no _ (bt_lt _ _) hb5)), hw⟩

theorem row_last {l : List Nat} (h : 0 < l.length) : (l.map natV)[(l.length - 1) * 1]? = some (natV (l.getLastD 0)) := by
  rw [Nat.mul_one, List.getElem?_map, List.getElem?_eq_getElem (show l.length - 1 < l.length by omega), lastD_get h]
  simp [List.getD, show l.length - 1 < l.length by omega]

theorem begin_c {w0 : World} {base : Nat} {B : Nat} {σ : Sc} {p : Sl} {fr : List It} {eLex : Value} (hE : EnvLex w0 base eLex) (hs : σ.s.length ≤ 65536) (hp : σ.pos < σ.s.length) (ho : σ.out.length ≤ 500000) (hl : σ.blocks.length ≤ 1000) (hn : 0 < σ.blocks.length) (hz : σ.blocks.getD 0 0 = 0) : FnC Tryd.prog 28 #[.pointer (some ⟨B, 0, none⟩)] (WA w0 base (scI B σ p fr)) resV (resW w0 base B eLex fr (σ.begin)) := by
  have hcol := Sc.col_eq (σ := σ) (by omega)
  have hlg := lastI_ge (σ.s.take σ.pos) 10 (σ.s.take σ.pos).length
  refine FnC.of_body (fn := Tryd.f28) [(0, _)] Tryd.func28 rfl Tryd.ntmps28 rfl ⟨rfl, trivial⟩ ?_
  refine CX.seq <| CX.region <| LX.pure (Y.assign rfl) rfl rfl rfl <| LX.sub (l' := [(0, _), (2, _)]) ⟨rfl, rfl, trivial⟩ <| LX.next <| PX.thenN <| CX.seq <| CX.seq <| CX.region <| LX.pure (Y.move rfl) rfl rfl rfl <| LX.callQ (show FnQ _ _ _ _ (.bool σ.begins) from begins_q rd_sc hp (by omega)) F.en49 rfl rfl rfl rfl rfl <| LX.pure (Y.not rfl) rfl rfl rfl <| LX.sub (l' := [(0, _), (2, _), (7, _)]) ⟨rfl, rfl, rfl, trivial⟩ <| LX.next <| PX.thenN ?_
  refine CX.cond rfl (fun hb1 => ?_) (fun hb1 => ?_)
  · try simp at hb1
    refine CX.seq <| CX.region <| LX.pure (Y.move rfl) rfl rfl rfl <| LX.pure (Y.nilCheck rfl) rfl rfl rfl <| LX.pure (Y.fieldAddr0 F.fo52_1 rfl) rfl rfl rfl <| LX.pure (Y.ldB 0 F.one3 rfl rfl rfl) rfl rfl rfl <| LX.call (bad_c hE _ (by omega)) F.en17 rfl rfl rfl rfl rfl ?_
    intro bE
    refine LX.pure (Y.assign rfl) rfl rfl rfl <| LX.sub (l' := [(0, _), (2, _)]) ⟨rfl, rfl, trivial⟩ <| LX.next <| PX.thenN <| CX.ret <| PX.thenR <| PX.ret1 (by simp) Tryd.results28 rfl ?_
    exact fun w hw => ⟨.inr _, rfl, _, (Sc.begin_bad hb1), errW hw⟩
  try simp at hb1
  refine CX.skip <| PX.thenN <| CX.seq <| CX.region <| LX.pure (Y.move rfl) rfl rfl rfl <| LX.pure (Y.nilCheck rfl) rfl rfl rfl <| LX.pure (Y.fieldAddr0 F.fo52_5 rfl) rfl rfl rfl <| LX.storeB 0 F.sz4 rfl rfl rfl rfl rfl rfl rfl rfl <| LX.world (W' := WA w0 base (scI B { σ with line := true } p fr)) (fun w hw => by simpa [scI, flat, Value.cells, natV, bytV] using hw) <| LX.sub (l' := [(0, _), (2, _)]) ⟨rfl, rfl, trivial⟩ <| LX.next <| PX.thenN <| CX.seq <| CX.regionQ rfl (by kernel_rfl) <| LX.pure (Y.move rfl) rfl rfl rfl <| LX.pure (Y.nilCheck rfl) rfl rfl rfl <| LX.pure (Y.fieldAddr0 F.fo52_1 rfl) rfl rfl rfl <| LX.pure (Y.ldB 0 F.one3 rfl rfl rfl) rfl rfl rfl <| LX.pure (Y.move rfl) rfl rfl rfl <| LX.pure (Y.nilCheck rfl) rfl rfl rfl <| LX.pure (Y.fieldAddr0 F.fo52_0 rfl) rfl rfl rfl <| LX.pure (Y.ldB 0 F.one9 rfl rfl rfl) rfl rfl rfl <| LX.pure (Y.move rfl) rfl rfl rfl <| LX.pure (Y.nilCheck rfl) rfl rfl rfl <| LX.pure (Y.fieldAddr0 F.fo52_1 rfl) rfl rfl rfl <| LX.pure (Y.ldB 0 F.one3 rfl rfl rfl) rfl rfl rfl <| LX.pure (Y.sliceHi rfl rfl F.un9 (by (simp only [Sc.tok, List.length_append, List.length_singleton]; omega))) rfl rfl rfl <| LX.callQ (lastIndexByte_q _ _ (by simp; omega)) F.en50 rfl rfl rfl rfl rfl <| LX.pure (Y.add rfl rfl (by (simp only [Sc.tok, List.length_append, List.length_singleton]; omega))) rfl rfl rfl <| LX.pure (Y.sub rfl rfl (by (simp only [Sc.tok, List.length_append, List.length_singleton]; omega))) rfl rfl rfl <| LX.pure (Y.assign (v := .int .i64 ((σ.col : Nat) : Int)) (by show some (Value.int .i64 ((σ.pos : Int) - (lastI (σ.s.take σ.pos) 10 (σ.s.take σ.pos).length + 1))) = some (.int .i64 ((σ.col : Nat) : Int)); congr; omega)) rfl rfl rfl <| LX.sub (l' := [(0, _), (2, _), (3, _)]) ⟨rfl, rfl, rfl, trivial⟩ <| LX.nextQ <| PX.thenN <| CX.seq <| CX.regionQ rfl (by kernel_rfl) <| LX.pure (Y.move rfl) rfl rfl rfl <| LX.pure (Y.nilCheck rfl) rfl rfl rfl <| LX.pure (Y.fieldAddr0 F.fo52_3 rfl) rfl rfl rfl <| LX.pure (Y.ldB 0 F.one29 rfl rfl rfl) rfl rfl rfl ?_
  refine LX.pure (Y.move rfl) rfl rfl rfl <| LX.pure (Y.nilCheck rfl) rfl rfl rfl <| LX.pure (Y.fieldAddr0 F.fo52_3 rfl) rfl rfl rfl <| LX.pure (Y.ldB 0 F.one29 rfl rfl rfl) rfl rfl rfl <| LX.pure (Y.lenSl rfl F.un29 rfl) rfl rfl rfl <| LX.pure (Y.subN rfl rfl (by (simp only [Sc.tok, List.length_append, List.length_singleton]; omega)) (by (simp only [Sc.tok, List.length_append, List.length_singleton]; omega))) rfl rfl rfl <| LX.pure (Y.idxR 2 F.un29 F.sz3 rfl rfl rfl (by (simp only [Sc.tok, List.length_append, List.length_singleton]; omega))) rfl rfl rfl <| LX.pure (Y.ldR 2 (v := natV (σ.blocks.getLastD 0)) F.one3 rfl rfl (row_last (by assumption))) rfl rfl rfl <| LX.pure (Y.assign rfl) rfl rfl rfl <| LX.sub (l' := [(0, _), (2, _), (3, _), (4, _)]) ⟨rfl, rfl, rfl, rfl, trivial⟩ <| LX.nextQ <| PX.thenN <| CX.seq <| CX.seq <| CX.region <| LX.pure (Y.move rfl) rfl rfl rfl <| LX.pure (Y.move rfl) rfl rfl rfl <| LX.pure (Y.gtN rfl rfl) rfl rfl rfl <| LX.sub (l' := [(0, _), (2, _), (3, _), (46, _)]) ⟨rfl, rfl, rfl, rfl, trivial⟩ <| LX.next <| PX.thenN ?_
  refine CX.cond rfl (fun hb2 => ?_) (fun hb2 => ?_)
  · try simp at hb2
    refine CX.seq <| CX.seq <| CX.region <| LX.pure (Y.move rfl) rfl rfl rfl <| LX.pure (Y.nilCheck rfl) rfl rfl rfl <| LX.pure (Y.fieldAddr0 F.fo52_3 rfl) rfl rfl rfl <| LX.pure (Y.ldB 0 F.one29 rfl rfl rfl) rfl rfl rfl <| LX.pure (Y.lenSl rfl F.un29 rfl) rfl rfl rfl <| LX.pure (Y.gtN rfl rfl) rfl rfl rfl <| LX.sub (l' := [(0, _), (2, _), (3, _), (52, _)]) ⟨rfl, rfl, rfl, rfl, trivial⟩ <| LX.next <| PX.thenN ?_
    refine CX.cond rfl (fun hb3 => ?_) (fun hb3 => ?_)
    · try simp at hb3
      refine CX.seq <| CX.region <| LX.pure (Y.move rfl) rfl rfl rfl <| LX.pure (Y.nilCheck rfl) rfl rfl rfl <| LX.pure (Y.fieldAddr0 F.fo52_1 rfl) rfl rfl rfl <| LX.pure (Y.ldB 0 F.one3 rfl rfl rfl) rfl rfl rfl <| LX.call (bad_c hE _ (by (dsimp only; omega))) F.en17 rfl rfl rfl rfl rfl ?_
      intro bE
      refine LX.pure (Y.assign rfl) rfl rfl rfl <| LX.sub (l' := [(0, _), (2, _), (3, _)]) ⟨rfl, rfl, rfl, trivial⟩ <| LX.next <| PX.thenN <| CX.ret <| PX.thenR <| PX.thenR <| PX.ret1 (by simp) Tryd.results28 rfl ?_
      exact fun w hw => ⟨.inr _, rfl, _, (Sc.begin_deep hb1 (by simpa using hb2) hb3), errW hw⟩
    try simp at hb3
    refine CX.skip <| PX.thenN <| CX.seq <| CX.region <| LX.pure (Y.move rfl) rfl rfl rfl <| LX.pure (Y.move rfl) rfl rfl rfl <| LX.pure (Y.nilCheck rfl) rfl rfl rfl <| LX.pure (Y.fieldAddr0 F.fo52_3 rfl) rfl rfl rfl <| LX.pure (Y.ldB 0 F.one29 rfl rfl rfl) rfl rfl rfl <| LX.pure (Y.move rfl) rfl rfl rfl <| LX.buildSlice (e := 3) (size := 1) rfl rfl (fun _ => by kernel_rfl) rfl (by decide) rfl rfl rfl ?_
    intro gt65
    refine LX.appendT 2 F.el29 rfl rfl rfl rfl rfl rfl rfl (by (dsimp only; omega)) (by (dsimp only; omega)) rfl rfl rfl ?_
    intro g' cap'
    refine LX.pure (Y.nilCheck rfl) rfl rfl rfl <| LX.pure (Y.fieldAddr0 F.fo52_3 rfl) rfl rfl rfl <| LX.storeB 0 F.sz29 rfl rfl rfl rfl rfl rfl rfl rfl <| LX.world (W' := WA w0 base (scI B { σ with line := true, blocks := σ.blocks ++ [σ.col] } { p with gb := g', cb := cap' } fr)) (fun w hw => by simpa [scI, flat, Value.cells, natV, bytV] using hw) <| LX.sub (l' := [(0, _), (2, _), (3, _)]) ⟨rfl, rfl, rfl, trivial⟩ <| LX.next <| PX.thenN <| CX.region <| LX.pure (Y.move rfl) rfl rfl rfl <| LX.pure (Y.move rfl) rfl rfl rfl <| LX.pure (Y.nilCheck rfl) rfl rfl rfl <| LX.pure (Y.fieldAddr0 F.fo52_1 rfl) rfl rfl rfl <| LX.pure (Y.ldB 0 F.one3 rfl rfl rfl) rfl rfl rfl <| LX.call (token_c _ _ _ (by (dsimp only; omega))) F.en19 rfl rfl rfl rfl rfl ?_
    intro pT
    refine LX.sub (l' := [(0, _), (2, _), (3, _)]) ⟨rfl, rfl, rfl, trivial⟩ <| LX.next <| PX.thenN <| CX.seq <| CX.block <| CX.loop (τ := Unit) (fun _ => [(0, .pointer (some ⟨B, 0, none⟩)), (3, .int .i64 (σ.col : Int))]) (fun _ w => True ∧ WA w0 base (scI B (({ σ with line := true, blocks := σ.blocks ++ [σ.col] } : Sc).tok 6 [] σ.pos) pT fr) w) (fun _ => 0) () ⟨rfl, rfl, trivial⟩ (fun w hw => ⟨trivial, hw⟩) ?_
    intro _
    refine CX.have fun _ => CX.seq <| CX.seq <| CX.regionQ rfl (by kernel_rfl) <| LX.pure (Y.move rfl) rfl rfl rfl <| LX.pure (Y.move rfl) rfl rfl rfl <| LX.pure (Y.nilCheck rfl) rfl rfl rfl <| LX.pure (Y.fieldAddr0 F.fo52_3 rfl) rfl rfl rfl <| LX.pure (Y.ldB 0 F.one29 rfl rfl rfl) rfl rfl rfl <| LX.pure (Y.move rfl) rfl rfl rfl <| LX.pure (Y.nilCheck rfl) rfl rfl rfl <| LX.pure (Y.fieldAddr0 F.fo52_3 rfl) rfl rfl rfl <| LX.pure (Y.ldB 0 F.one29 rfl rfl rfl) rfl rfl rfl <| LX.pure (Y.lenSl rfl F.un29 rfl) rfl rfl rfl <| LX.pure (Y.subN rfl rfl (by (simp only [Sc.tok, List.length_append, List.length_singleton]; omega)) (by (simp only [Sc.tok, List.length_append, List.length_singleton]; omega))) rfl rfl rfl <| LX.pure (Y.idxR 2 F.un29 F.sz3 rfl rfl rfl (by (simp only [Sc.tok, List.length_append, List.length_singleton]; omega))) rfl rfl rfl <| LX.pure (Y.ldR 2 (v := natV ((σ.blocks ++ [σ.col]).getLastD 0)) F.one3 rfl rfl (row_last (l := σ.blocks ++ [σ.col]) (by simp))) rfl rfl rfl <| LX.pure (Y.ltN rfl rfl) rfl rfl rfl <| LX.sub (l' := [(0, _), (3, _), (87, _)]) ⟨rfl, rfl, rfl, trivial⟩ <| LX.nextQ <| PX.thenN ?_
    refine CX.cond rfl (fun hb4 => ?_) (fun hb4 => ?_)
    · try simp at hb4
      done
    try simp at hb4
    refine CX.exit <| PX.thenE <| PX.thenE <| PX.blockE <| PX.thenN <| CX.seq <| CX.seq <| CX.regionQ rfl (by kernel_rfl) <| LX.pure (Y.move rfl) rfl rfl rfl <| LX.pure (Y.move rfl) rfl rfl rfl <| LX.pure (Y.nilCheck rfl) rfl rfl rfl <| LX.pure (Y.fieldAddr0 F.fo52_3 rfl) rfl rfl rfl <| LX.pure (Y.ldB 0 F.one29 rfl rfl rfl) rfl rfl rfl <| LX.pure (Y.move rfl) rfl rfl rfl <| LX.pure (Y.nilCheck rfl) rfl rfl rfl <| LX.pure (Y.fieldAddr0 F.fo52_3 rfl) rfl rfl rfl <| LX.pure (Y.ldB 0 F.one29 rfl rfl rfl) rfl rfl rfl <| LX.pure (Y.lenSl rfl F.un29 rfl) rfl rfl rfl <| LX.pure (Y.subN rfl rfl (by (simp only [Sc.tok, List.length_append, List.length_singleton]; omega)) (by (simp only [Sc.tok, List.length_append, List.length_singleton]; omega))) rfl rfl rfl <| LX.pure (Y.idxR 2 F.un29 F.sz3 rfl rfl rfl (by (simp only [Sc.tok, List.length_append, List.length_singleton]; omega))) rfl rfl rfl <| LX.pure (Y.ldR 2 (v := natV ((σ.blocks ++ [σ.col]).getLastD 0)) F.one3 rfl rfl (row_last (l := σ.blocks ++ [σ.col]) (by simp))) rfl rfl rfl <| LX.pure (Y.neN rfl rfl) rfl rfl rfl <| LX.sub (l' := [(0, _), (121, _)]) ⟨rfl, rfl, trivial⟩ <| LX.nextQ <| PX.thenN ?_
    refine CX.cond rfl (fun hb5 => ?_) (fun hb5 => ?_)
    · try simp at hb5
      done
    try simp at hb5
    refine CX.skip <| PX.thenN <| CX.seq <| CX.region <| LX.pure (Y.assign rfl) rfl rfl rfl <| LX.sub (l' := [(2, _)]) ⟨rfl, trivial⟩ <| LX.next <| PX.thenN <| CX.ret <| PX.ret1 (by simp) Tryd.results28 rfl ?_
    exact fun w hw => ⟨.inl pT, rfl, _, (Sc.begin_in hb1 (by simpa using hb2) hb3), hw⟩
  try simp at hb2
  refine CX.skip <| PX.thenN <| CX.seq <| CX.block <| CX.loop (τ := List Nat × List Tok × Sl) (fun t : List Nat × List Tok × Sl => [(0, .pointer (some ⟨B, 0, none⟩)), (3, .int .i64 (σ.col : Int))]) (fun (t : List Nat × List Tok × Sl) w => (0 < t.1.length ∧ t.1.length ≤ σ.blocks.length ∧ t.1.getD 0 0 = 0 ∧ t.2.1.length + t.1.length = σ.out.length + σ.blocks.length ∧ Sc.outdent σ.col t.1.length { σ with line := true, blocks := t.1, out := t.2.1 } = Sc.outdent σ.col σ.blocks.length { σ with line := true }) ∧ WA w0 base (scI B { σ with line := true, blocks := t.1, out := t.2.1 } t.2.2 fr) w) (fun t => t.1.length) (σ.blocks, σ.out, p) ⟨rfl, rfl, trivial⟩ (fun w hw => ⟨⟨hn, Nat.le_refl _, hz, rfl, rfl⟩, hw⟩) ?_
  rintro ⟨bl, o, p1⟩
  refine CX.have fun ⟨hl0, hl1, hz1, hlen, hi⟩ => ?_
  dsimp only at hl0 hl1 hz1 hlen hi ⊢
  refine CX.seq <| CX.seq <| CX.regionQ rfl (by kernel_rfl) <| LX.pure (Y.move rfl) rfl rfl rfl <| LX.pure (Y.move rfl) rfl rfl rfl <| LX.pure (Y.nilCheck rfl) rfl rfl rfl <| LX.pure (Y.fieldAddr0 F.fo52_3 rfl) rfl rfl rfl <| LX.pure (Y.ldB 0 F.one29 rfl rfl rfl) rfl rfl rfl <| LX.pure (Y.move rfl) rfl rfl rfl <| LX.pure (Y.nilCheck rfl) rfl rfl rfl <| LX.pure (Y.fieldAddr0 F.fo52_3 rfl) rfl rfl rfl <| LX.pure (Y.ldB 0 F.one29 rfl rfl rfl) rfl rfl rfl <| LX.pure (Y.lenSl rfl F.un29 rfl) rfl rfl rfl <| LX.pure (Y.subN rfl rfl (by (simp only [Sc.tok, List.length_append, List.length_singleton]; omega)) (by (simp only [Sc.tok, List.length_append, List.length_singleton]; omega))) rfl rfl rfl <| LX.pure (Y.idxR 2 F.un29 F.sz3 rfl rfl rfl (by (simp only [Sc.tok, List.length_append, List.length_singleton]; omega))) rfl rfl rfl <| LX.pure (Y.ldR 2 (v := natV (bl.getLastD 0)) F.one3 rfl rfl (row_last (by assumption))) rfl rfl rfl <| LX.pure (Y.ltN rfl rfl) rfl rfl rfl <| LX.sub (l' := [(0, _), (3, _), (87, _)]) ⟨rfl, rfl, rfl, trivial⟩ <| LX.nextQ <| PX.thenN ?_
  refine CX.cond rfl (fun hb6 => ?_) (fun hb6 => ?_)
  · try simp at hb6
    refine CX.skip <| PX.thenN <| CX.block <| CX.seq <| CX.regionM [(0, .anywhere), (1, .anywhere), (2, .anywhere), (3, .anywhere), (4, .held), (5, .anywhere), (6, .anywhere), (7, .anywhere), (8, .held), (9, .held), (10, .held), (11, .held), (12, .held), (13, .held), (14, .alone)] rfl (by kernel_rfl) <| MX.lift0 (i := 0) rfl (Y.move rfl) rfl rfl rfl <| MX.lift0 (i := 1) rfl (Y.move rfl) rfl rfl rfl <| MX.lift0 (i := 2) rfl (Y.nilCheck rfl) rfl rfl rfl <| MX.lift0 (i := 3) rfl (Y.fieldAddr0 F.fo52_3 rfl) rfl rfl rfl <| MX.lift1 (i := 4) (pend' := []) rfl (fun w hw => by exact hw) (Y.ldB 0 F.one29 rfl rfl rfl) rfl rfl rfl (by kernel_rfl) <| MX.lift0 (i := 5) rfl (Y.move rfl) rfl rfl rfl <| MX.lift0 (i := 6) rfl (Y.nilCheck rfl) rfl rfl rfl <| MX.lift0 (i := 7) rfl (Y.fieldAddr0 F.fo52_3 rfl) rfl rfl rfl <| MX.lift1 (i := 8) (pend' := [4]) rfl (fun w hw => by exact hw) (Y.ldB 0 F.one29 rfl rfl rfl) rfl rfl rfl (by kernel_rfl) <| MX.lift1 (i := 9) (pend' := [4]) rfl (fun w hw => by exact hw) (Y.lenSl rfl F.un29 rfl) rfl rfl rfl (by kernel_rfl) <| MX.lift1 (i := 10) (pend' := [4]) rfl (fun w hw => by exact hw) (Y.subN rfl rfl (by (simp only [Sc.tok, List.length_append, List.length_singleton]; omega)) (by (simp only [Sc.tok, List.length_append, List.length_singleton]; omega))) rfl rfl rfl (by kernel_rfl) <| MX.lift1 (i := 11) (pend' := []) rfl (fun w hw => by exact hw) (Y.cutR 2 F.un29 F.sz3 rfl rfl rfl (by omega)) rfl rfl rfl (by kernel_rfl) <| MX.lift1 (i := 12) (pend' := []) rfl (fun w hw => by exact hw) (Y.nilCheck rfl) rfl rfl rfl (by kernel_rfl) <| MX.lift1 (i := 13) (pend' := []) rfl (fun w hw => by exact hw) (Y.fieldAddr0 F.fo52_3 rfl) rfl rfl rfl (by kernel_rfl) <| MX.force (i := 14) rfl <| LX.storeB 0 F.sz29 rfl rfl rfl rfl rfl rfl rfl rfl ?_
    refine LX.world (W' := WA w0 base (scI B { σ with line := true, blocks := bl.dropLast, out := o } p1 fr)) (fun w hw => by
      have h1 := hw.cut (i := 2) (k := bl.length - 1) rfl (Nat.sub_le _ _)
      simpa [scI, List.dropLast_eq_take, List.map_take] using h1) ?_
    refine LX.nextM [] (by kernel_rfl) (fun h => absurd rfl h) <| MX.sub (l' := [(0, _), (3, _)]) ⟨rfl, rfl, trivial⟩ <| MX.done <| PX.thenN <| CX.region <| LX.pure (Y.move rfl) rfl rfl rfl <| LX.pure (Y.move rfl) rfl rfl rfl <| LX.pure (Y.nilCheck rfl) rfl rfl rfl <| LX.pure (Y.fieldAddr0 F.fo52_1 rfl) rfl rfl rfl <| LX.pure (Y.ldB 0 F.one3 rfl rfl rfl) rfl rfl rfl <| LX.call (token_c _ _ _ (by (dsimp only; omega))) F.en19 rfl rfl rfl rfl rfl ?_
    intro pT
    refine LX.sub (l' := [(0, _), (3, _)]) ⟨rfl, rfl, trivial⟩ <| LX.next <| PX.blockN ?_
    exact PX.again (μ := fun t => t.1.length) (i := (bl, o, p1)) (bl.dropLast, o ++ [(⟨7, [], σ.pos⟩ : Tok)], pT) (by show bl.dropLast.length < bl.length; rw [List.length_dropLast]; omega) ⟨rfl, rfl, trivial⟩ (fun w hw => ⟨⟨(head_drop hz1 hl0 (by simpa using hb6)).1, by show bl.dropLast.length ≤ _; rw [List.length_dropLast]; omega, (head_drop hz1 hl0 (by simpa using hb6)).2, by show (o ++ [_]).length + bl.dropLast.length = _; rw [List.length_dropLast, List.length_append, List.length_singleton]; omega, by have h := outdent_step (σ := { σ with line := true, blocks := bl, out := o }) hl0 (by simpa using hb6); exact h.symm.trans hi⟩, hw⟩)
  try simp at hb6
  refine CX.exit <| PX.thenE <| PX.thenE <| PX.blockE <| PX.thenN <| CX.seq <| CX.seq <| CX.regionQ rfl (by kernel_rfl) <| LX.pure (Y.move rfl) rfl rfl rfl <| LX.pure (Y.move rfl) rfl rfl rfl <| LX.pure (Y.nilCheck rfl) rfl rfl rfl <| LX.pure (Y.fieldAddr0 F.fo52_3 rfl) rfl rfl rfl <| LX.pure (Y.ldB 0 F.one29 rfl rfl rfl) rfl rfl rfl <| LX.pure (Y.move rfl) rfl rfl rfl <| LX.pure (Y.nilCheck rfl) rfl rfl rfl <| LX.pure (Y.fieldAddr0 F.fo52_3 rfl) rfl rfl rfl <| LX.pure (Y.ldB 0 F.one29 rfl rfl rfl) rfl rfl rfl <| LX.pure (Y.lenSl rfl F.un29 rfl) rfl rfl rfl <| LX.pure (Y.subN rfl rfl (by (simp only [Sc.tok, List.length_append, List.length_singleton]; omega)) (by (simp only [Sc.tok, List.length_append, List.length_singleton]; omega))) rfl rfl rfl <| LX.pure (Y.idxR 2 F.un29 F.sz3 rfl rfl rfl (by (simp only [Sc.tok, List.length_append, List.length_singleton]; omega))) rfl rfl rfl <| LX.pure (Y.ldR 2 (v := natV (bl.getLastD 0)) F.one3 rfl rfl (row_last (by assumption))) rfl rfl rfl <| LX.pure (Y.neN rfl rfl) rfl rfl rfl <| LX.sub (l' := [(0, _), (121, _)]) ⟨rfl, rfl, trivial⟩ <| LX.nextQ <| PX.thenN ?_
  refine CX.cond rfl (fun hb7 => ?_) (fun hb7 => ?_)
  · try simp at hb7
    refine CX.seq <| CX.region <| LX.pure (Y.move rfl) rfl rfl rfl <| LX.pure (Y.nilCheck rfl) rfl rfl rfl <| LX.pure (Y.fieldAddr0 F.fo52_1 rfl) rfl rfl rfl <| LX.pure (Y.ldB 0 F.one3 rfl rfl rfl) rfl rfl rfl <| LX.call (bad_c hE _ (by (dsimp only; omega))) F.en17 rfl rfl rfl rfl rfl ?_
    intro bE
    refine LX.pure (Y.assign rfl) rfl rfl rfl <| LX.sub (l' := [(2, _)]) ⟨rfl, trivial⟩ <| LX.next <| PX.thenN <| CX.ret <| PX.thenR <| PX.ret1 (by simp) Tryd.results28 rfl ?_
    exact fun w hw => ⟨.inr _, rfl, _, (Sc.begin_err hb1 (by simpa using hb2) (hi.symm.trans (outdent_end (by simpa using hb6))) (by simpa using hb7)), errW hw⟩
  try simp at hb7
  refine CX.skip <| PX.thenN <| CX.seq <| CX.region <| LX.pure (Y.assign rfl) rfl rfl rfl <| LX.sub (l' := [(2, _)]) ⟨rfl, trivial⟩ <| LX.next <| PX.thenN <| CX.ret <| PX.ret1 (by simp) Tryd.results28 rfl ?_
  exact fun w hw => ⟨.inl p1, rfl, _, (Sc.begin_out hb1 (by simpa using hb2) (hi.symm.trans (outdent_end (by simpa using hb6))) (by simpa using hb7)), hw⟩

theorem Y.neRes {l : Fr} {W : World → Prop} {r : Sl ⊕ Nat} {x : Operand} {t ty ty2 : TypeId} {ms : Array (String × TypeId)} (h : Tryd.prog.underlying t = some (.interface ms)) (hx : evl l x = some (resV r)) : Y Tryd.prog l W (.binOp .neq t x (.const .nilIface) ty2) ty (.bool r.isRight) := by
  cases r with
  | inl p => exact Y.neNilNil h hx
  | inr b => exact Y.neNil h hx rfl
instance resStab {w0 : World} {base B : Nat} {eLex : Value} {fr : List It} {r : Except Nat Sc} {x : Sl ⊕ Nat} : Stab (resW w0 base B eLex fr r x) where
  st w w' h hb := by
    cases x with
    | inl p => obtain ⟨σ, h1, h2⟩ := h; exact ⟨σ, h1, Stab.st w w' h2 hb⟩
    | inr b => obtain ⟨q, h1, h2⟩ := h; exact ⟨q, h1, Stab.st w w' h2 hb⟩
theorem res_inr {r : Sl ⊕ Nat} (h : r.isRight = true) : ∃ b, r = .inr b := by cases r with
  | inl p => cases h
  | inr b => exact ⟨b, rfl⟩
theorem res_inl {r : Sl ⊕ Nat} (h : r.isRight = false) : ∃ p, r = .inl p := by cases r with
  | inl p => exact ⟨p, rfl⟩
  | inr b => cases h

theorem step_c {w0 : World} {base : Nat} {B : Nat} {σ : Sc} {p : Sl} {fr : List It} {eLex : Value} (hE : EnvLex w0 base eLex) (hs : σ.s.length ≤ 65536) (hp : σ.pos < σ.s.length) (ho : σ.out.length ≤ 400000) (hk : σ.brk.length ≤ 60) (hl : σ.blocks.length ≤ 61) (hn : 0 < σ.blocks.length) (hz : σ.blocks.getD 0 0 = 0) : FnC Tryd.prog 16 #[.pointer (some ⟨B, 0, none⟩)] (WA w0 base (scI B σ p fr)) resV (resW w0 base B eLex fr (σ.step)) := by
  refine FnC.of_body (fn := Tryd.f16) [(0, _)] Tryd.func16 rfl Tryd.ntmps16 rfl ⟨rfl, trivial⟩ ?_
  refine CX.seq <| CX.region <| LX.pure (Y.assign rfl) rfl rfl rfl <| LX.sub (l' := [(0, _), (2, _)]) ⟨rfl, rfl, trivial⟩ <| LX.next <| PX.thenN <| CX.seq <| CX.regionQ rfl (by kernel_rfl) <| LX.pure (Y.move rfl) rfl rfl rfl <| LX.pure (Y.nilCheck rfl) rfl rfl rfl <| LX.pure (Y.fieldAddr0 F.fo52_0 rfl) rfl rfl rfl <| LX.pure (Y.ldB 0 F.one9 rfl rfl rfl) rfl rfl rfl <| LX.pure (Y.move rfl) rfl rfl rfl <| LX.pure (Y.nilCheck rfl) rfl rfl rfl <| LX.pure (Y.fieldAddr0 F.fo52_1 rfl) rfl rfl rfl <| LX.pure (Y.ldB 0 F.one3 rfl rfl rfl) rfl rfl rfl <| LX.pure (Y.index rfl rfl F.un9 (by omega)) rfl rfl rfl <| LX.pure (Y.assign rfl) rfl rfl rfl <| LX.sub (l' := [(0, _), (2, _), (3, _)]) ⟨rfl, rfl, rfl, trivial⟩ <| LX.nextQ <| PX.thenN <| CX.seq <| CX.block <| CX.seq <| CX.region <| LX.pure (Y.move rfl) rfl rfl rfl <| LX.pure (Y.eqN rfl rfl) rfl rfl rfl <| LX.pure (Y.assign rfl) rfl rfl rfl <| LX.sub (l' := [(0, _), (2, _), (3, _), (14, _)]) ⟨rfl, rfl, rfl, rfl, trivial⟩ <| LX.next <| PX.thenN ?_
  refine CX.cond rfl (fun hb1 => ?_) (fun hb1 => ?_)
  · try simp at hb1
    refine CX.seq <| CX.seq <| CX.region <| LX.pure (Y.move rfl) rfl rfl rfl <| LX.pure (Y.nilCheck rfl) rfl rfl rfl <| LX.pure (Y.fieldAddr0 F.fo52_4 rfl) rfl rfl rfl <| LX.pure (Y.ldB 0 F.one50 rfl rfl rfl) rfl rfl rfl <| LX.pure (Y.lenSl rfl F.un50 rfl) rfl rfl rfl <| LX.pure (Y.eqN rfl rfl) rfl rfl rfl <| LX.sub (l' := [(0, _), (2, _), (3, _), (22, _)]) ⟨rfl, rfl, rfl, rfl, trivial⟩ <| LX.next <| PX.thenN ?_
    refine CX.cond rfl (fun hb2 => ?_) (fun hb2 => ?_)
    · try simp at hb2
      refine CX.region <| LX.pure (Y.move rfl) rfl rfl rfl <| LX.call (newline_c (by omega)) F.en18 rfl rfl rfl rfl rfl ?_
      intro pT
      refine LX.sub (l' := [(0, _), (2, _), (3, _)]) ⟨rfl, rfl, rfl, trivial⟩ <| LX.next <| PX.thenN <| CX.seq <| CX.region <| LX.pure (Y.move rfl) rfl rfl rfl <| LX.pure (Y.nilCheck rfl) rfl rfl rfl <| LX.pure (Y.fieldAddr0 F.fo52_1 rfl) rfl rfl rfl <| LX.pure (Y.ldB 0 F.one3 rfl rfl rfl) rfl rfl rfl <| LX.pure (Y.add rfl rfl (by (rw [Sc.nl_pos]; omega))) rfl rfl rfl <| LX.pure (Y.nilCheck rfl) rfl rfl rfl <| LX.pure (Y.fieldAddr0 F.fo52_1 rfl) rfl rfl rfl <| LX.storeB 0 F.sz3 rfl rfl rfl rfl rfl rfl rfl rfl <| LX.sub (l' := [(0, _), (2, _), (3, _)]) ⟨rfl, rfl, rfl, trivial⟩ <| LX.next <| PX.thenN <| CX.seq <| CX.region <| LX.pure (Y.assign rfl) rfl rfl rfl <| LX.sub (l' := [(0, _), (2, _), (3, _)]) ⟨rfl, rfl, rfl, trivial⟩ <| LX.next <| PX.thenN <| CX.ret <| PX.blockR <| PX.thenR <| PX.ret1 (by simp) Tryd.results16 rfl ?_
      exact fun w hw => ⟨.inl pT, rfl, _, (Sc.step_nl hb1 hb2), hw⟩
    try simp at hb2
    refine CX.skip <| PX.thenN <| CX.seq <| CX.region <| LX.pure (Y.move rfl) rfl rfl rfl <| LX.pure (Y.nilCheck rfl) rfl rfl rfl <| LX.pure (Y.fieldAddr0 F.fo52_1 rfl) rfl rfl rfl <| LX.pure (Y.ldB 0 F.one3 rfl rfl rfl) rfl rfl rfl <| LX.pure (Y.addN rfl rfl (by (simp; omega))) rfl rfl rfl <| LX.pure (Y.nilCheck rfl) rfl rfl rfl <| LX.pure (Y.fieldAddr0 F.fo52_1 rfl) rfl rfl rfl <| LX.storeB 0 F.sz3 rfl rfl rfl rfl rfl rfl rfl rfl <| LX.sub (l' := [(0, _), (2, _), (3, _)]) ⟨rfl, rfl, rfl, trivial⟩ <| LX.next <| PX.thenN <| CX.seq <| CX.region <| LX.pure (Y.assign rfl) rfl rfl rfl <| LX.sub (l' := [(0, _), (2, _), (3, _)]) ⟨rfl, rfl, rfl, trivial⟩ <| LX.next <| PX.thenN <| CX.ret <| PX.blockR <| PX.thenR <| PX.ret1 (by simp) Tryd.results16 rfl ?_
    exact fun w hw => ⟨.inl p, rfl, _, (Sc.step_br hb1 hb2), hw⟩
  try simp at hb1
  refine CX.seq <| CX.region <| LX.pure (Y.move rfl) rfl rfl rfl <| LX.pure (Y.eqN rfl rfl) rfl rfl rfl <| LX.pure (Y.assign rfl) rfl rfl rfl <| LX.sub (l' := [(0, _), (2, _), (3, _), (32, _)]) ⟨rfl, rfl, rfl, rfl, trivial⟩ <| LX.next <| PX.thenN ?_
  refine CX.cond rfl (fun hb3 => ?_) (fun hb3 => ?_)
  · try simp at hb3
    refine CX.seq <| CX.region <| LX.pure (Y.move rfl) rfl rfl rfl <| LX.pure (Y.nilCheck rfl) rfl rfl rfl <| LX.pure (Y.fieldAddr0 F.fo52_1 rfl) rfl rfl rfl <| LX.pure (Y.ldB 0 F.one3 rfl rfl rfl) rfl rfl rfl <| LX.pure (Y.addN rfl rfl (by (simp; omega))) rfl rfl rfl <| LX.pure (Y.nilCheck rfl) rfl rfl rfl <| LX.pure (Y.fieldAddr0 F.fo52_1 rfl) rfl rfl rfl <| LX.storeB 0 F.sz3 rfl rfl rfl rfl rfl rfl rfl rfl <| LX.sub (l' := [(0, _), (2, _), (3, _)]) ⟨rfl, rfl, rfl, trivial⟩ <| LX.next <| PX.thenN <| CX.seq <| CX.region <| LX.pure (Y.assign rfl) rfl rfl rfl <| LX.sub (l' := [(0, _), (2, _), (3, _)]) ⟨rfl, rfl, rfl, trivial⟩ <| LX.next <| PX.thenN <| CX.ret <| PX.blockR <| PX.thenR <| PX.ret1 (by simp) Tryd.results16 rfl ?_
    exact fun w hw => ⟨.inl p, rfl, _, (Sc.step_sp hb3), hw⟩
  try simp at hb3
  refine CX.seq <| CX.region <| LX.pure (Y.move rfl) rfl rfl rfl <| LX.pure (Y.eqN rfl rfl) rfl rfl rfl <| LX.pure (Y.assign rfl) rfl rfl rfl <| LX.sub (l' := [(0, _), (2, _), (3, _), (42, _)]) ⟨rfl, rfl, rfl, rfl, trivial⟩ <| LX.next <| PX.thenN ?_
  refine CX.cond rfl (fun hb4 => ?_) (fun hb4 => ?_)
  · try simp at hb4
    refine CX.seq <| CX.region <| LX.pure (Y.move rfl) rfl rfl rfl <| LX.call (comment_c hE hs (by omega)) F.en27 rfl rfl rfl rfl rfl ?_
    intro r
    refine LX.pure (Y.assign rfl) rfl rfl rfl <| LX.sub (l' := [(0, _), (2, _), (3, _)]) ⟨rfl, rfl, rfl, trivial⟩ <| LX.next <| PX.thenN <| CX.ret <| PX.blockR <| PX.thenR <| PX.ret1 (by simp) Tryd.results16 rfl ?_
    exact fun w hw => ⟨r, rfl, by rw [Sc.step_com hb4]; exact hw⟩
  try simp at hb4
  refine CX.skip <| PX.blockN <| PX.thenN <| CX.seq <| CX.seq <| CX.region <| LX.pure (Y.move rfl) rfl rfl rfl <| LX.pure (Y.nilCheck rfl) rfl rfl rfl <| LX.pure (Y.fieldAddr0 F.fo52_5 rfl) rfl rfl rfl <| LX.pure (Y.ldB 0 F.one4 rfl rfl rfl) rfl rfl rfl <| LX.pure (Y.not rfl) rfl rfl rfl <| LX.sub (l' := [(0, _), (2, _), (3, _), (51, _)]) ⟨rfl, rfl, rfl, rfl, trivial⟩ <| LX.next <| PX.thenN ?_
  refine CX.cond rfl (fun hb5 => ?_) (fun hb5 => ?_)
  · try simp at hb5
    refine CX.seq <| CX.region <| LX.pure (Y.move rfl) rfl rfl rfl <| LX.call (begin_c hE hs hp (by omega) (by omega) hn hz) F.en28 rfl rfl rfl rfl rfl ?_
    intro r
    refine LX.pure (Y.assign rfl) rfl rfl rfl <| LX.sub (l' := [(0, _), (2, _), (3, _), (4, _)]) ⟨rfl, rfl, rfl, rfl, trivial⟩ <| LX.next <| PX.thenN <| CX.seq <| CX.region <| LX.pure (Y.move rfl) rfl rfl rfl <| LX.pure (Y.neRes F.un25 rfl) rfl rfl rfl <| LX.sub (l' := [(0, _), (2, _), (3, _), (4, _), (55, _)]) ⟨rfl, rfl, rfl, rfl, rfl, trivial⟩ <| LX.next <| PX.thenN ?_
    refine CX.cond rfl (fun hb6 => ?_) (fun hb6 => ?_)
    · try simp at hb6
      obtain ⟨b, rfl⟩ := res_inr (by simpa using hb6)
      refine CX.seq <| CX.region <| LX.pure (Y.move rfl) rfl rfl rfl <| LX.pure (Y.assign rfl) rfl rfl rfl <| LX.sub (l' := [(0, _), (2, _), (3, _)]) ⟨rfl, rfl, rfl, trivial⟩ <| LX.next <| PX.thenN <| CX.ret <| PX.thenR <| PX.ret1 (by simp) Tryd.results16 rfl ?_
      exact fun w hw => ⟨.inr b, rfl, by obtain ⟨q, h1, h2⟩ := hw; exact ⟨q, Sc.step_err hb1 hb3 hb4 hb5 h1, h2⟩⟩
    try simp at hb6
    obtain ⟨p1, rfl⟩ := res_inl (by simpa using hb6)
    refine CX.ex fun σ1 => CX.have fun hbg => ?_
    have hB := Sc.begin_ok hbg hz hn (by omega) (by omega)
    have h1s : σ1.s = σ.s := hB.1.s
    have h1p : σ1.pos = σ.pos := hB.2.1
    have h1b : σ1.brk.length ≤ 60 := hB.1.brk
    refine CX.skip <| PX.thenN <| CX.seq <| CX.block <| CX.seq <| CX.region <| LX.pure (Y.move rfl) rfl rfl rfl <| LX.callQ (letter_q _ _) F.en29 rfl rfl rfl rfl rfl <| LX.pure (Y.assign rfl) rfl rfl rfl <| LX.sub (l' := [(0, _), (2, _), (3, _), (57, _)]) ⟨rfl, rfl, rfl, rfl, trivial⟩ <| LX.next <| PX.thenN ?_
    refine CX.cond rfl (fun hb7 => ?_) (fun hb7 => ?_)
    · try simp at hb7
      refine CX.seq <| CX.region <| LX.pure (Y.move rfl) rfl rfl rfl <| LX.call (word_c (by (simp only [hB.2.1, hB.1.s]; omega)) (by (simp only [hB.2.1, hB.1.s]; omega)) (by omega)) F.en30 rfl rfl rfl rfl rfl ?_
      intro pT
      refine LX.sub (l' := [(0, _), (2, _)]) ⟨rfl, rfl, trivial⟩ <| LX.next <| PX.thenN <| CX.seq <| CX.region <| LX.pure (Y.assign rfl) rfl rfl rfl <| LX.sub (l' := [(0, _), (2, _)]) ⟨rfl, rfl, trivial⟩ <| LX.next <| PX.thenN <| CX.ret <| PX.blockR <| PX.thenR <| PX.ret1 (by simp) Tryd.results16 rfl ?_
      exact fun w hw => ⟨.inl pT, rfl, _, ((Sc.step_beg hb1 hb3 hb4 hb5 hbg).trans (Sc.token_word hb7)), hw⟩
    try simp at hb7
    refine CX.seq <| CX.region <| LX.pure (Y.move rfl) rfl rfl rfl <| LX.callQ (digit_q _ _) F.en31 rfl rfl rfl rfl rfl <| LX.pure (Y.assign rfl) rfl rfl rfl <| LX.sub (l' := [(0, _), (2, _), (3, _), (62, _)]) ⟨rfl, rfl, rfl, rfl, trivial⟩ <| LX.next <| PX.thenN ?_
    refine CX.cond rfl (fun hb8 => ?_) (fun hb8 => ?_)
    · try simp at hb8
      refine CX.seq <| CX.region <| LX.pure (Y.move rfl) rfl rfl rfl <| LX.call (number_c hE (by (simp only [hB.2.1, hB.1.s]; omega)) (by (simp only [hB.2.1, hB.1.s]; omega)) (by (simp only [hB.2.1, hB.1.s]; omega)) (by omega)) F.en32 rfl rfl rfl rfl rfl ?_
      intro r
      refine LX.pure (Y.assign rfl) rfl rfl rfl <| LX.sub (l' := [(0, _), (2, _)]) ⟨rfl, rfl, trivial⟩ <| LX.next <| PX.thenN <| CX.ret <| PX.blockR <| PX.thenR <| PX.ret1 (by simp) Tryd.results16 rfl ?_
      exact fun w hw => ⟨r, rfl, by rw [((Sc.step_beg hb1 hb3 hb4 hb5 hbg).trans (Sc.token_num hb7 hb8))]; exact hw⟩
    try simp at hb8
    refine CX.seq <| CX.region <| LX.pure (Y.move rfl) rfl rfl rfl <| LX.pure (Y.eqN rfl rfl) rfl rfl rfl <| LX.pure (Y.move rfl) rfl rfl rfl <| LX.sub (l' := [(0, _), (2, _), (3, _), (70, _)]) ⟨rfl, rfl, rfl, rfl, trivial⟩ ?_
    apply LX.joinOr 3 73 70 rfl
    · intro hb9
      have hb9p := hb9
      try simp at hb9p
      refine LX.gF rfl rfl rfl hb9 rfl rfl <| LX.gF rfl rfl rfl hb9 rfl rfl <| LX.pure (Y.pickT rfl hb9 rfl) rfl rfl rfl ?_
      exact LX.left ⟨rfl, rfl, rfl, rfl, rfl, trivial⟩
    · intro hb9
      have hb9p := hb9
      try simp at hb9p
      refine LX.gT rfl rfl rfl hb9 (Y.move rfl) rfl rfl <| LX.gT rfl rfl rfl hb9 (Y.eqN rfl rfl) rfl rfl <| LX.pure (Y.pickF rfl hb9 rfl) rfl rfl rfl ?_
      exact LX.left ⟨rfl, rfl, rfl, rfl, rfl, trivial⟩
    refine LX.pure (Y.assign rfl) rfl rfl rfl <| LX.sub (l' := [(0, _), (2, _), (3, _), (67, _)]) ⟨rfl, rfl, rfl, rfl, trivial⟩ <| LX.next <| PX.thenN ?_
    refine CX.cond rfl (fun hb10 => ?_) (fun hb10 => ?_)
    · try simp at hb10
      refine CX.seq <| CX.region <| LX.pure (Y.move rfl) rfl rfl rfl <| LX.pure (Y.move rfl) rfl rfl rfl <| LX.call (text_c hE (by (simp only [hB.2.1, hB.1.s]; omega)) _ (by (simp only [hB.2.1, hB.1.s]; omega)) (by omega)) F.en33 rfl rfl rfl rfl rfl ?_
      intro r
      refine LX.pure (Y.assign rfl) rfl rfl rfl <| LX.sub (l' := [(0, _), (2, _)]) ⟨rfl, rfl, trivial⟩ <| LX.next <| PX.thenN <| CX.ret <| PX.blockR <| PX.thenR <| PX.ret1 (by simp) Tryd.results16 rfl ?_
      exact fun w hw => ⟨r, rfl, by rw [((Sc.step_beg hb1 hb3 hb4 hb5 hbg).trans (Sc.token_text hb7 hb8 (by simpa using hb10)))]; exact hw⟩
    try simp at hb10
    refine CX.skip <| PX.blockN <| PX.thenN <| CX.seq <| CX.region <| LX.pure (Y.move rfl) rfl rfl rfl <| LX.call (sign_c hE (by (simp only [hB.2.1, hB.1.s]; omega)) (by (simp only [hB.2.1, hB.1.s]; omega)) (by omega) (by omega)) F.en34 rfl rfl rfl rfl rfl ?_
    intro r
    refine LX.pure (Y.assign rfl) rfl rfl rfl <| LX.sub (l' := [(2, _)]) ⟨rfl, trivial⟩ <| LX.next <| PX.thenN <| CX.ret <| PX.ret1 (by simp) Tryd.results16 rfl ?_
    exact fun w hw => ⟨r, rfl, by rw [((Sc.step_beg hb1 hb3 hb4 hb5 hbg).trans (Sc.token_sign hb7 hb8 (by simpa using hb10)))]; exact hw⟩
  try simp at hb5
  refine CX.skip <| PX.thenN <| CX.seq <| CX.block <| CX.seq <| CX.region <| LX.pure (Y.move rfl) rfl rfl rfl <| LX.callQ (letter_q _ _) F.en29 rfl rfl rfl rfl rfl <| LX.pure (Y.assign rfl) rfl rfl rfl <| LX.sub (l' := [(0, _), (2, _), (3, _), (57, _)]) ⟨rfl, rfl, rfl, rfl, trivial⟩ <| LX.next <| PX.thenN ?_
  refine CX.cond rfl (fun hb11 => ?_) (fun hb11 => ?_)
  · try simp at hb11
    refine CX.seq <| CX.region <| LX.pure (Y.move rfl) rfl rfl rfl <| LX.call (word_c (by omega) (by omega) (by omega)) F.en30 rfl rfl rfl rfl rfl ?_
    intro pT
    refine LX.sub (l' := [(0, _), (2, _)]) ⟨rfl, rfl, trivial⟩ <| LX.next <| PX.thenN <| CX.seq <| CX.region <| LX.pure (Y.assign rfl) rfl rfl rfl <| LX.sub (l' := [(0, _), (2, _)]) ⟨rfl, rfl, trivial⟩ <| LX.next <| PX.thenN <| CX.ret <| PX.blockR <| PX.thenR <| PX.ret1 (by simp) Tryd.results16 rfl ?_
    exact fun w hw => ⟨.inl pT, rfl, _, ((Sc.step_line hb1 hb3 hb4 hb5).trans (Sc.token_word hb11)), hw⟩
  try simp at hb11
  refine CX.seq <| CX.region <| LX.pure (Y.move rfl) rfl rfl rfl <| LX.callQ (digit_q _ _) F.en31 rfl rfl rfl rfl rfl <| LX.pure (Y.assign rfl) rfl rfl rfl <| LX.sub (l' := [(0, _), (2, _), (3, _), (62, _)]) ⟨rfl, rfl, rfl, rfl, trivial⟩ <| LX.next <| PX.thenN ?_
  refine CX.cond rfl (fun hb12 => ?_) (fun hb12 => ?_)
  · try simp at hb12
    refine CX.seq <| CX.region <| LX.pure (Y.move rfl) rfl rfl rfl <| LX.call (number_c hE (by omega) (by omega) (by omega) (by omega)) F.en32 rfl rfl rfl rfl rfl ?_
    intro r
    refine LX.pure (Y.assign rfl) rfl rfl rfl <| LX.sub (l' := [(0, _), (2, _)]) ⟨rfl, rfl, trivial⟩ <| LX.next <| PX.thenN <| CX.ret <| PX.blockR <| PX.thenR <| PX.ret1 (by simp) Tryd.results16 rfl ?_
    exact fun w hw => ⟨r, rfl, by rw [((Sc.step_line hb1 hb3 hb4 hb5).trans (Sc.token_num hb11 hb12))]; exact hw⟩
  try simp at hb12
  refine CX.seq <| CX.region <| LX.pure (Y.move rfl) rfl rfl rfl <| LX.pure (Y.eqN rfl rfl) rfl rfl rfl <| LX.pure (Y.move rfl) rfl rfl rfl <| LX.sub (l' := [(0, _), (2, _), (3, _), (70, _)]) ⟨rfl, rfl, rfl, rfl, trivial⟩ ?_
  apply LX.joinOr 3 73 70 rfl
  · intro hb13
    have hb13p := hb13
    try simp at hb13p
    refine LX.gF rfl rfl rfl hb13 rfl rfl <| LX.gF rfl rfl rfl hb13 rfl rfl <| LX.pure (Y.pickT rfl hb13 rfl) rfl rfl rfl ?_
    exact LX.left ⟨rfl, rfl, rfl, rfl, rfl, trivial⟩
  · intro hb13
    have hb13p := hb13
    try simp at hb13p
    refine LX.gT rfl rfl rfl hb13 (Y.move rfl) rfl rfl <| LX.gT rfl rfl rfl hb13 (Y.eqN rfl rfl) rfl rfl <| LX.pure (Y.pickF rfl hb13 rfl) rfl rfl rfl ?_
    exact LX.left ⟨rfl, rfl, rfl, rfl, rfl, trivial⟩
  refine LX.pure (Y.assign rfl) rfl rfl rfl <| LX.sub (l' := [(0, _), (2, _), (3, _), (67, _)]) ⟨rfl, rfl, rfl, rfl, trivial⟩ <| LX.next <| PX.thenN ?_
  refine CX.cond rfl (fun hb14 => ?_) (fun hb14 => ?_)
  · try simp at hb14
    refine CX.seq <| CX.region <| LX.pure (Y.move rfl) rfl rfl rfl <| LX.pure (Y.move rfl) rfl rfl rfl <| LX.call (text_c hE (by omega) _ (by omega) (by omega)) F.en33 rfl rfl rfl rfl rfl ?_
    intro r
    refine LX.pure (Y.assign rfl) rfl rfl rfl <| LX.sub (l' := [(0, _), (2, _)]) ⟨rfl, rfl, trivial⟩ <| LX.next <| PX.thenN <| CX.ret <| PX.blockR <| PX.thenR <| PX.ret1 (by simp) Tryd.results16 rfl ?_
    exact fun w hw => ⟨r, rfl, by rw [((Sc.step_line hb1 hb3 hb4 hb5).trans (Sc.token_text hb11 hb12 (by simpa using hb14)))]; exact hw⟩
  try simp at hb14
  refine CX.skip <| PX.blockN <| PX.thenN <| CX.seq <| CX.region <| LX.pure (Y.move rfl) rfl rfl rfl <| LX.call (sign_c hE (by omega) (by omega) (by omega) (by omega)) F.en34 rfl rfl rfl rfl rfl ?_
  intro r
  refine LX.pure (Y.assign rfl) rfl rfl rfl <| LX.sub (l' := [(2, _)]) ⟨rfl, trivial⟩ <| LX.next <| PX.thenN <| CX.ret <| PX.ret1 (by simp) Tryd.results16 rfl ?_
  exact fun w hw => ⟨r, rfl, by rw [((Sc.step_line hb1 hb3 hb4 hb5).trans (Sc.token_sign hb11 hb12 (by simpa using hb14)))]; exact hw⟩

end Go.Proofs.YtfbenelagdcdgaaDoor.Lx
