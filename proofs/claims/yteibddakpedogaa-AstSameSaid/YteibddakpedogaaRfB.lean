/-
  Proved here: the document's scanner: a line's beginning, numbers, signs, strings.
-/
import Derived.Test.YteibddakpedogaaRfA
set_option linter.unusedSimpArgs false
namespace Go.Proofs.Yteibddakpedogaa
open Go.SX Go.RowKit Go.Lex
theorem begin4_c {w0 : World} {base : Nat} {B : Nat} {σ : Sc} {p : Sl} {fr : List It} (hs : σ.s.length ≤ 65536) (hc : σ.col ≤ 65536) (hp : σ.pos ≤ 65536) (ho : σ.out.length ≤ 500000) (hl : σ.blocks.length ≤ 1000) (hn : 0 < σ.blocks.length) (hz : σ.blocks.getD 0 0 = 0) : FnC Try.prog 24 #[.pointer (some ⟨B, 0, none⟩), .int .i64 (σ.col : Int), .int .i64 (σ.pos : Int)] (WA w0 base (rfI B σ none p fr)) (fun _ : Sc × Option Nat × Sl => .tuple #[]) (fun t w => Ran (σ.begR) t.1 t.2.1 ∧ WA w0 base (rfI B t.1 t.2.1 t.2.2 fr) w) := by
  refine FnC.of_body (fn := Try.f24) [(0, _), (1, _), (2, _)] Try.func24 rfl Try.ntmps24 rfl ⟨rfl, rfl, rfl, trivial⟩ ?_
  refine CX.seq <| CX.regionQ rfl (by kernel_rfl) <| LX.ms 2 rfl <| LX.p (Y.fieldAddr0 Fr.fo58_3 rfl) rfl <| LX.p (Y.ldB 0 Fr.one29 rfl rfl rfl) rfl <| LX.ms 2 rfl <| LX.p (Y.fieldAddr0 Fr.fo58_3 rfl) rfl <| LX.p (Y.ldB 0 Fr.one29 rfl rfl rfl) rfl <| LX.p (Y.lenSl rfl Fr.un29 rfl) rfl <| LX.p (Y.subN rfl rfl (by (simp only [Sc.tok]; omega)) (by omega)) rfl <| LX.p (Y.idxR 2 Fr.un29 Fr.sz3 rfl rfl rfl (by (simp only [Sc.tok]; omega))) rfl <| LX.p (Y.ldR 2 (v := natV (σ.blocks.getLastD 0)) Fr.one3 rfl rfl (row_last as_)) rfl <| LX.mv rfl <| LX.su [0, 1, 2, 6] rfl <| LX.nextQ <| PX.thenN <| CX.seq <| CX.sr <| LX.ms 2 rfl <| LX.p (Y.gtN rfl rfl) rfl <| LX.su [0, 1, 2, 21] rfl <| LX.nt ?_
  refine CX.cond rfl (fun hb1 => ?_) (fun hb1 => ?_)
  · try simp at hb1
    refine CX.seq <| CX.sr <| LX.ms 2 rfl <| LX.p (Y.fieldAddr0 Fr.fo58_3 rfl) rfl <| LX.p (Y.ldB 0 Fr.one29 rfl rfl rfl) rfl <| LX.p (Y.lenSl rfl Fr.un29 rfl) rfl <| LX.p (Y.gtN rfl rfl) rfl <| LX.su [0, 1, 2, 27] rfl <| LX.nt ?_
    refine CX.cond rfl (fun hb2 => ?_) (fun hb2 => ?_)
    · try simp at hb2
      refine CX.sr <| LX.ms 2 rfl <| LX.call (fail4_c _) Fr.en22 rfl rfl rfl rfl rfl ?_
      intro _
      refine LX.su [0, 1, 2] rfl <| LX.nt <| CX.ret <| PX.thenR <| PX.thenR <| PX.ret0 (by simp) Try.results24 ?_
      exact fun w hw => ⟨(σ, some _, p), rfl, ran_err (Sc.begR_deep (by simpa using hb1) hb2), hw⟩
    try simp at hb2
    refine CX.skip <| PX.thenN <| CX.sr <| LX.ms 3 rfl <| LX.p (Y.fieldAddr0 Fr.fo58_3 rfl) rfl <| LX.p (Y.ldB 0 Fr.one29 rfl rfl rfl) rfl <| LX.mv rfl <| LX.buildSlice (e := 3) (size := 1) rfl rfl (fun _ => by kernel_rfl) rfl dc rfl rfl rfl ?_
    intro gt31
    refine LX.appendT 2 Fr.el29 rfl rfl rfl rfl rfl rfl rfl (by omega) (by omega) rfl rfl rfl ?_
    intro g' cap'
    refine LX.mv rfl <| LX.p (Y.fieldAddr0 Fr.fo58_3 rfl) rfl <| LX.storeB 0 Fr.sz29 rfl rfl rfl rfl rfl rfl rfl rfl <| LX.world (W' := WA w0 base (rfI B { σ with blocks := σ.blocks ++ [σ.col] } none { p with gb := g', cb := cap' } fr)) (fun w hw => by simpa [rfI, flat, Value.cells, natV, bytV] using hw) <| LX.su [0, 1, 2] rfl <| LX.nt <| CX.sr <| LX.ms 2 rfl <| LX.call (put4_c _ _ _ (by (dsimp only; omega))) Fr.en21 rfl rfl rfl rfl rfl ?_
    intro pT
    refine LX.su [0, 1, 2] rfl <| LX.nt <| CX.ret <| PX.thenR <| PX.ret0 (by simp) Try.results24 ?_
    exact fun w hw => ⟨(_, none, pT), rfl, ran_ok (Sc.begR_in (by simpa using hb1) (by omega)), hw⟩
  try simp at hb1
  refine CX.skip <| PX.thenN <| CX.seq <| CX.block <| CX.loop (τ := List Nat × List Tok × Sl) (fun t : List Nat × List Tok × Sl => [(0, .pointer (some ⟨B, 0, none⟩)), (1, .int .i64 (σ.col : Int)), (2, .int .i64 (σ.pos : Int))]) (fun (t : List Nat × List Tok × Sl) w => (0 < t.1.length ∧ t.1.length ≤ σ.blocks.length ∧ t.1.getD 0 0 = 0 ∧ t.2.1.length + t.1.length = σ.out.length + σ.blocks.length ∧ Sc.outdent σ.col t.1.length { σ with blocks := t.1, out := t.2.1 } = Sc.outdent σ.col σ.blocks.length σ) ∧ WA w0 base (rfI B { σ with blocks := t.1, out := t.2.1 } none t.2.2 fr) w) (fun t => t.1.length) (σ.blocks, σ.out, p) ⟨rfl, rfl, rfl, trivial⟩ (fun w hw => ⟨⟨hn, Nat.le_refl _, hz, rfl, rfl⟩, hw⟩) ?_
  rintro ⟨bl, o, p1⟩
  refine CX.have fun ⟨hl0, hl1, hz1, hlen, hi⟩ => ?_
  dsimp only at hl0 hl1 hz1 hlen hi ⊢
  refine CX.seq <| CX.seq <| CX.regionQ rfl (by kernel_rfl) <| LX.ms 3 rfl <| LX.p (Y.fieldAddr0 Fr.fo58_3 rfl) rfl <| LX.p (Y.ldB 0 Fr.one29 rfl rfl rfl) rfl <| LX.ms 2 rfl <| LX.p (Y.fieldAddr0 Fr.fo58_3 rfl) rfl <| LX.p (Y.ldB 0 Fr.one29 rfl rfl rfl) rfl <| LX.p (Y.lenSl rfl Fr.un29 rfl) rfl <| LX.p (Y.subN rfl rfl (by (simp only [Sc.tok]; omega)) (by (simp only [Sc.tok]; omega))) rfl <| LX.p (Y.idxR 2 Fr.un29 Fr.sz3 rfl rfl rfl (by (simp only [Sc.tok]; omega))) rfl <| LX.p (Y.ldR 2 (v := natV (bl.getLastD 0)) Fr.one3 rfl rfl (row_last as_)) rfl <| LX.p (Y.ltN rfl rfl) rfl <| LX.su [0, 1, 2, 57] rfl <| LX.nextQ <| PX.thenN ?_
  refine CX.cond rfl (fun hb3 => ?_) (fun hb3 => ?_)
  · try simp at hb3
    refine CX.skip <| PX.thenN <| CX.block <| CX.seq <| CX.regionM [(0, .anywhere), (1, .anywhere), (2, .anywhere), (3, .anywhere), (4, .held), (5, .anywhere), (6, .anywhere), (7, .anywhere), (8, .held), (9, .held), (10, .held), (11, .held), (12, .held), (13, .held), (14, .alone)] rfl (by kernel_rfl) <| MX.lift0 (i := 0) rfl (Y.move rfl) rfl rfl rfl <| MX.lift0 (i := 1) rfl (Y.move rfl) rfl rfl rfl <| MX.lift0 (i := 2) rfl (Y.nilCheck rfl) rfl rfl rfl <| MX.lift0 (i := 3) rfl (Y.fieldAddr0 Fr.fo58_3 rfl) rfl rfl rfl <| MX.lift1 (i := 4) (pend' := []) rfl (fun w hw => by exact hw) (Y.ldB 0 Fr.one29 rfl rfl rfl) rfl rfl rfl (by kernel_rfl) <| MX.lift0 (i := 5) rfl (Y.move rfl) rfl rfl rfl <| MX.lift0 (i := 6) rfl (Y.nilCheck rfl) rfl rfl rfl <| MX.lift0 (i := 7) rfl (Y.fieldAddr0 Fr.fo58_3 rfl) rfl rfl rfl <| MX.lift1 (i := 8) (pend' := [4]) rfl (fun w hw => by exact hw) (Y.ldB 0 Fr.one29 rfl rfl rfl) rfl rfl rfl (by kernel_rfl) <| MX.lift1 (i := 9) (pend' := [4]) rfl (fun w hw => by exact hw) (Y.lenSl rfl Fr.un29 rfl) rfl rfl rfl (by kernel_rfl) <| MX.lift1 (i := 10) (pend' := [4]) rfl (fun w hw => by exact hw) (Y.subN rfl rfl (by (simp only [Sc.tok]; omega)) (by (simp only [Sc.tok]; omega))) rfl rfl rfl (by kernel_rfl) <| MX.lift1 (i := 11) (pend' := []) rfl (fun w hw => by exact hw) (Y.cutR 2 Fr.un29 Fr.sz3 rfl rfl rfl (by omega)) rfl rfl rfl (by kernel_rfl) <| MX.lift1 (i := 12) (pend' := []) rfl (fun w hw => by exact hw) (Y.nilCheck rfl) rfl rfl rfl (by kernel_rfl) <| MX.lift1 (i := 13) (pend' := []) rfl (fun w hw => by exact hw) (Y.fieldAddr0 Fr.fo58_3 rfl) rfl rfl rfl (by kernel_rfl) <| MX.force (i := 14) rfl <| LX.storeB 0 Fr.sz29 rfl rfl rfl rfl rfl rfl rfl rfl ?_
    refine LX.world (W' := WA w0 base (rfI B { σ with blocks := bl.dropLast, out := o } none p1 fr)) (fun w hw => by
      have h1 := hw.cut (i := 2) (k := bl.length - 1) rfl (Nat.sub_le _ _)
      simpa [rfI, List.dropLast_eq_take, List.map_take] using h1) ?_
    refine LX.nextM [] (by kernel_rfl) (fun h => absurd rfl h) <| MX.sub (l' := [(0, _), (1, _), (2, _)]) ⟨rfl, rfl, rfl, trivial⟩ <| MX.done <| PX.thenN <| CX.region <| LX.ms 2 rfl <| LX.call (put4_c _ _ _ (by (dsimp only; omega))) Fr.en21 rfl rfl rfl rfl rfl ?_
    intro pT
    refine LX.su [0, 1, 2] rfl <| LX.next <| PX.blockN ?_
    exact PX.again (i := (bl, o, p1)) (bl.dropLast, o ++ [(⟨7, [], σ.pos⟩ : Tok)], pT) (by show bl.dropLast.length < bl.length; rw [List.length_dropLast]; omega) ⟨rfl, rfl, rfl, trivial⟩ (fun w hw => ⟨⟨(head_drop hz1 hl0 (by simpa using hb3)).1, by show bl.dropLast.length ≤ _; rw [List.length_dropLast]; omega, (head_drop hz1 hl0 (by simpa using hb3)).2, by show (o ++ [_]).length + bl.dropLast.length = _; rw [List.length_dropLast, List.length_append, List.length_singleton]; omega, by have h := outdent_step (σ := { σ with blocks := bl, out := o }) hl0 (by simpa using hb3); exact h.symm.trans hi⟩, hw⟩)
  try simp at hb3
  refine CX.exit <| PX.thenE <| PX.thenE <| PX.blockE <| PX.thenN <| CX.seq <| CX.regionQ rfl (by kernel_rfl) <| LX.ms 3 rfl <| LX.p (Y.fieldAddr0 Fr.fo58_3 rfl) rfl <| LX.p (Y.ldB 0 Fr.one29 rfl rfl rfl) rfl <| LX.ms 2 rfl <| LX.p (Y.fieldAddr0 Fr.fo58_3 rfl) rfl <| LX.p (Y.ldB 0 Fr.one29 rfl rfl rfl) rfl <| LX.p (Y.lenSl rfl Fr.un29 rfl) rfl <| LX.p (Y.subN rfl rfl (by (simp only [Sc.tok]; omega)) (by (simp only [Sc.tok]; omega))) rfl <| LX.p (Y.idxR 2 Fr.un29 Fr.sz3 rfl rfl rfl (by (simp only [Sc.tok]; omega))) rfl <| LX.p (Y.ldR 2 (v := natV (bl.getLastD 0)) Fr.one3 rfl rfl (row_last as_)) rfl <| LX.p (Y.neN rfl rfl) rfl <| LX.su [0, 2, 88] rfl <| LX.nextQ <| PX.thenN ?_
  refine CX.cond rfl (fun hb4 => ?_) (fun hb4 => ?_)
  · try simp at hb4
    refine CX.region <| LX.ms 2 rfl <| LX.call (fail4_c _) Fr.en22 rfl rfl rfl rfl rfl ?_
    intro _
    refine LX.sub (l' := []) trivial <| LX.next <| PX.ret0 (by simp) Try.results24 ?_
    exact fun w hw => ⟨({ σ with blocks := bl, out := o }, some _, p1), rfl, ran_err (Sc.begR_err (by simpa using hb1) (hi.symm.trans (outdent_end (by simpa using hb3))) (by simpa using hb4)), hw⟩
  try simp at hb4
  refine CX.skip <| PX.ret0 (by simp) Try.results24 ?_
  exact fun w hw => ⟨(_, none, p1), rfl, ran_ok (Sc.begR_out (by simpa using hb1) (hi.symm.trans (outdent_end (by simpa using hb3))) (by simpa using hb4)), hw⟩

theorem number4_c {w0 : World} {base : Nat} {B : Nat} {σ : Sc} {p : Sl} {fr : List It} (hs : σ.s.length ≤ 65536) (hp : σ.pos < σ.s.length) (ho : σ.out.length ≤ 1000000) : FnC Try.prog 29 #[.pointer (some ⟨B, 0, none⟩)] (WA w0 base (rfI B σ none p fr)) (fun _ : Sc × Option Nat × Sl => .tuple #[]) (fun t w => Ran (σ.number) t.1 t.2.1 ∧ WA w0 base (rfI B t.1 t.2.1 t.2.2 fr) w) := by
  refine FnC.of_body (fn := Try.f29) [(0, _)] Try.func29 rfl Try.ntmps29 rfl ⟨rfl, trivial⟩ ?_
  refine CX.sr <| LX.ms 2 rfl <| LX.p (Y.fieldAddr0 Fr.fo58_1 rfl) rfl <| LX.p (Y.ldB 0 Fr.one3 rfl rfl rfl) rfl <| LX.mv rfl <| LX.su [0, 2] rfl <| LX.nt <| CX.seq <| CX.block <| CX.loop (τ := Nat) (fun k => [(0, .pointer (some ⟨B, 0, none⟩)), (2, .int .i64 (σ.pos : Int))]) (fun k w => (σ.pos ≤ k ∧ k ≤ σ.s.length ∧ numL (σ.s.drop σ.pos) = (numL (σ.s.drop k)).map (· + (k - σ.pos))) ∧ WA w0 base (rfI B { σ with pos := k } none p fr) w) (fun k => σ.s.length - k) σ.pos ⟨rfl, rfl, trivial⟩ (fun w hw => ⟨⟨Nat.le_refl _, by omega, by simp⟩, hw⟩) ?_
  intro k
  refine CX.have fun ⟨hkp, hk, hi⟩ => CX.seq <| CX.seq <| CX.regionQ rfl (by kernel_rfl) <| LX.ms 2 rfl <| LX.p (Y.fieldAddr0 Fr.fo58_1 rfl) rfl <| LX.p (Y.ldB 0 Fr.one3 rfl rfl rfl) rfl <| LX.ms 2 rfl <| LX.p (Y.fieldAddr0 Fr.fo58_0 rfl) rfl <| LX.p (Y.ldB 0 Fr.one9 rfl rfl rfl) rfl <| LX.p (Y.lenStr rfl Fr.un9 rfl) rfl <| LX.p (Y.ltN rfl rfl) rfl <| LX.mv rfl <| LX.su [0, 2, 19] rfl ?_
  apply LX.joinAnd 11 30 19 rfl
  · intro hb1
    have hb1p := hb1
    try simp at hb1p
    refine LX.gT rfl rfl rfl hb1 (Y.move rfl) rfl rfl <| LX.gT rfl rfl rfl hb1 (Y.nilCheck rfl) rfl rfl <| LX.gT rfl rfl rfl hb1 (Y.fieldAddr0 Fr.fo58_0 rfl) rfl rfl <| LX.gT rfl rfl rfl hb1 (Y.ldB 0 Fr.one9 rfl rfl rfl) rfl rfl <| LX.gT rfl rfl rfl hb1 (Y.move rfl) rfl rfl <| LX.gT rfl rfl rfl hb1 (Y.nilCheck rfl) rfl rfl <| LX.gT rfl rfl rfl hb1 (Y.fieldAddr0 Fr.fo58_1 rfl) rfl rfl <| LX.gT rfl rfl rfl hb1 (Y.ldB 0 Fr.one3 rfl rfl rfl) rfl rfl <| LX.gT rfl rfl rfl hb1 (Y.index rfl rfl Fr.un9 (by omega)) rfl rfl <| LX.callQT rfl rfl rfl hb1 (digit4_q _ _) Fr.en26 rfl rfl rfl rfl <| LX.p (Y.pickT rfl hb1 rfl) rfl ?_
    exact LX.left ⟨rfl, rfl, rfl, rfl, trivial⟩
  · intro hb1
    refine LX.gF rfl rfl rfl hb1 rfl rfl <| LX.gF rfl rfl rfl hb1 rfl rfl <| LX.gF rfl rfl rfl hb1 rfl rfl <| LX.gF rfl rfl rfl hb1 rfl rfl <| LX.gF rfl rfl rfl hb1 rfl rfl <| LX.gF rfl rfl rfl hb1 rfl rfl <| LX.gF rfl rfl rfl hb1 rfl rfl <| LX.gF rfl rfl rfl hb1 rfl rfl <| LX.gF rfl rfl rfl hb1 rfl rfl <| LX.gF rfl rfl rfl hb1 rfl rfl <| LX.p (Y.pickF rfl hb1 rfl) rfl ?_
    exact LX.left ⟨rfl, rfl, rfl, rfl, trivial⟩
  refine LX.su [0, 2, 30] rfl <| LX.nextQ <| PX.thenN ?_
  refine CX.cond rfl (fun hb2 => ?_) (fun hb2 => ?_)
  · try simp at hb2
    refine CX.skip <| PX.thenN <| CX.block <| CX.region <| LX.ms 3 rfl <| LX.p (Y.fieldAddr0 Fr.fo58_1 rfl) rfl <| LX.p (Y.ldB 0 Fr.one3 rfl rfl rfl) rfl <| LX.p (Y.addN rfl rfl (by (simp only []; omega))) rfl <| LX.mv rfl <| LX.p (Y.fieldAddr0 Fr.fo58_1 rfl) rfl <| LX.storeB 0 Fr.sz3 rfl rfl rfl rfl rfl rfl rfl rfl <| LX.su [0, 2] rfl <| LX.next <| PX.blockN ?_
    exact PX.again (k + 1) (by show σ.s.length - (k + 1) < σ.s.length - k; omega) ⟨rfl, rfl, trivial⟩ (fun w hw => ⟨⟨by omega, by omega, numL_step hkp hi hb2.1 hb2.2 (dig_no_let4 hb2.2)⟩, hw⟩)
  try simp at hb2
  refine CX.exit <| PX.thenE <| PX.thenE <| PX.blockE <| PX.thenN <| CX.sr <| LX.ms 2 rfl <| LX.p (Y.fieldAddr0 Fr.fo58_1 rfl) rfl <| LX.p (Y.ldB 0 Fr.one3 rfl rfl rfl) rfl <| LX.mv rfl <| LX.p (Y.subN rfl rfl (by omega) (by (simp only []; omega))) rfl <| LX.mv rfl <| LX.su [0, 2, 3] rfl <| LX.nt <| CX.seq <| CX.regionQ rfl (by kernel_rfl) <| LX.ms 2 rfl <| LX.p (Y.fieldAddr0 Fr.fo58_1 rfl) rfl <| LX.p (Y.ldB 0 Fr.one3 rfl rfl rfl) rfl <| LX.ms 2 rfl <| LX.p (Y.fieldAddr0 Fr.fo58_0 rfl) rfl <| LX.p (Y.ldB 0 Fr.one9 rfl rfl rfl) rfl <| LX.p (Y.lenStr rfl Fr.un9 rfl) rfl <| LX.p (Y.ltN rfl rfl) rfl <| LX.mv rfl <| LX.su [0, 2, 3, 55] rfl ?_
  apply LX.joinAnd 11 66 55 rfl
  · intro hb3
    have hb3p := hb3
    try simp at hb3p
    refine LX.gT rfl rfl rfl hb3 (Y.move rfl) rfl rfl <| LX.gT rfl rfl rfl hb3 (Y.nilCheck rfl) rfl rfl <| LX.gT rfl rfl rfl hb3 (Y.fieldAddr0 Fr.fo58_0 rfl) rfl rfl <| LX.gT rfl rfl rfl hb3 (Y.ldB 0 Fr.one9 rfl rfl rfl) rfl rfl <| LX.gT rfl rfl rfl hb3 (Y.move rfl) rfl rfl <| LX.gT rfl rfl rfl hb3 (Y.nilCheck rfl) rfl rfl <| LX.gT rfl rfl rfl hb3 (Y.fieldAddr0 Fr.fo58_1 rfl) rfl rfl <| LX.gT rfl rfl rfl hb3 (Y.ldB 0 Fr.one3 rfl rfl rfl) rfl rfl <| LX.gT rfl rfl rfl hb3 (Y.index rfl rfl Fr.un9 (by omega)) rfl rfl <| LX.callQT rfl rfl rfl hb3 (letter4_q _ _) Fr.en25 rfl rfl rfl rfl <| LX.p (Y.pickT rfl hb3 rfl) rfl ?_
    exact LX.left ⟨rfl, rfl, rfl, rfl, rfl, trivial⟩
  · intro hb3
    refine LX.gF rfl rfl rfl hb3 rfl rfl <| LX.gF rfl rfl rfl hb3 rfl rfl <| LX.gF rfl rfl rfl hb3 rfl rfl <| LX.gF rfl rfl rfl hb3 rfl rfl <| LX.gF rfl rfl rfl hb3 rfl rfl <| LX.gF rfl rfl rfl hb3 rfl rfl <| LX.gF rfl rfl rfl hb3 rfl rfl <| LX.gF rfl rfl rfl hb3 rfl rfl <| LX.gF rfl rfl rfl hb3 rfl rfl <| LX.gF rfl rfl rfl hb3 rfl rfl <| LX.p (Y.pickF rfl hb3 rfl) rfl ?_
    exact LX.left ⟨rfl, rfl, rfl, rfl, rfl, trivial⟩
  refine LX.mv rfl <| LX.su [0, 2, 3, 4] rfl <| LX.nextQ <| PX.thenN <| CX.seq <| CX.sr <| LX.ms 2 rfl <| LX.su [0, 2, 3, 68] rfl ?_
  apply LX.joinOr 3 71 68 rfl
  · intro hb4
    refine LX.gF rfl rfl rfl hb4 rfl rfl <| LX.gF rfl rfl rfl hb4 rfl rfl <| LX.p (Y.pickT rfl hb4 rfl) rfl ?_
    exact LX.left ⟨rfl, rfl, rfl, rfl, rfl, trivial⟩
  · intro hb4
    refine LX.gT rfl rfl rfl hb4 (Y.move rfl) rfl rfl <| LX.gT rfl rfl rfl hb4 (Y.gtN rfl rfl) rfl rfl <| LX.p (Y.pickF rfl hb4 rfl) rfl ?_
    exact LX.left ⟨rfl, rfl, rfl, rfl, rfl, trivial⟩
  refine LX.mv rfl <| LX.su [0, 2, 3, 72] rfl ?_
  apply LX.joinOr 12 84 72 rfl
  · intro hb5
    refine LX.gF rfl rfl rfl hb5 rfl rfl <| LX.gF rfl rfl rfl hb5 rfl rfl <| LX.gF rfl rfl rfl hb5 rfl rfl <| LX.gU rfl rfl rfl rfl rfl <| LX.gU rfl rfl rfl rfl rfl <| LX.gU rfl rfl rfl rfl rfl <| LX.gU rfl rfl rfl rfl rfl <| LX.gU rfl rfl rfl rfl rfl <| LX.gU rfl rfl rfl rfl rfl <| LX.gU rfl rfl rfl rfl rfl <| LX.gF rfl rfl rfl hb5 rfl rfl <| LX.p (Y.pickT rfl hb5 rfl) rfl ?_
    exact LX.left ⟨rfl, rfl, rfl, rfl, rfl, trivial⟩
  · intro hb5
    refine LX.gT rfl rfl rfl hb5 (Y.move rfl) rfl rfl <| LX.gT rfl rfl rfl hb5 (Y.gtN rfl rfl) rfl rfl <| LX.gT rfl rfl rfl hb5 (Y.move rfl) rfl rfl <| LX.su [0, 2, 3, 72, 75] rfl ?_
    apply LX.joinAnd 8 83 75 rfl
    · intro hb6
      have hb6p := hb6
      try simp at hb6p
      refine LX.gT rfl rfl rfl hb6 (Y.move rfl) rfl rfl <| LX.gT rfl rfl rfl hb6 (Y.nilCheck rfl) rfl rfl <| LX.gT rfl rfl rfl hb6 (Y.fieldAddr0 Fr.fo58_0 rfl) rfl rfl <| LX.gT rfl rfl rfl hb6 (Y.ldB 0 Fr.one9 rfl rfl rfl) rfl rfl <| LX.gT rfl rfl rfl hb6 (Y.move rfl) rfl rfl <| LX.gT rfl rfl rfl hb6 (Y.index rfl rfl Fr.un9 (by omega)) rfl rfl <| LX.gT rfl rfl rfl hb6 (Y.eqN rfl rfl) rfl rfl <| LX.gT rfl rfl rfl hb5 (Y.pickT rfl hb6 rfl) rfl rfl ?_
      exact LX.left ⟨rfl, rfl, rfl, rfl, rfl, rfl, trivial⟩
    · intro hb6
      refine LX.gF rfl rfl rfl hb6 rfl rfl <| LX.gF rfl rfl rfl hb6 rfl rfl <| LX.gF rfl rfl rfl hb6 rfl rfl <| LX.gF rfl rfl rfl hb6 rfl rfl <| LX.gF rfl rfl rfl hb6 rfl rfl <| LX.gF rfl rfl rfl hb6 rfl rfl <| LX.gF rfl rfl rfl hb6 rfl rfl <| LX.gT rfl rfl rfl hb5 (Y.pickF rfl hb6 rfl) rfl rfl ?_
      exact LX.left ⟨rfl, rfl, rfl, rfl, rfl, rfl, trivial⟩
    refine LX.p (Y.pickF rfl hb5 rfl) rfl ?_
    exact LX.left ⟨rfl, rfl, rfl, rfl, rfl, trivial⟩
  refine LX.su [0, 2, 84] rfl <| LX.nt ?_
  refine CX.cond rfl (fun hb7 => ?_) (fun hb7 => ?_)
  · try simp at hb7
    refine CX.region <| LX.ms 2 rfl <| LX.call (fail4_c _) Fr.en22 rfl rfl rfl rfl rfl ?_
    intro _
    refine LX.su [0, 2] rfl <| LX.nt <| CX.regionM [(0, .anywhere), (1, .anywhere), (2, .anywhere), (3, .anywhere), (4, .held), (5, .anywhere), (6, .anywhere), (7, .anywhere), (8, .anywhere), (9, .held), (10, .held), (11, .anywhere), (12, .alone)] rfl (by kernel_rfl) <| MX.lift0 (i := 0) rfl (Y.move rfl) rfl rfl rfl <| MX.lift0 (i := 1) rfl (Y.move rfl) rfl rfl rfl <| MX.lift0 (i := 2) rfl (Y.nilCheck rfl) rfl rfl rfl <| MX.lift0 (i := 3) rfl (Y.fieldAddr0 Fr.fo58_0 rfl) rfl rfl rfl <| MX.lift1 (i := 4) (pend' := []) rfl (fun w hw => by exact hw) (Y.ldB 0 Fr.one9 rfl rfl rfl) rfl rfl rfl (by kernel_rfl) <| MX.lift0 (i := 5) rfl (Y.move rfl) rfl rfl rfl <| MX.lift0 (i := 6) rfl (Y.move rfl) rfl rfl rfl <| MX.lift0 (i := 7) rfl (Y.nilCheck rfl) rfl rfl rfl <| MX.lift0 (i := 8) rfl (Y.fieldAddr0 Fr.fo58_1 rfl) rfl rfl rfl <| MX.lift1 (i := 9) (pend' := [4]) rfl (fun w hw => by exact hw) (Y.ldB 0 Fr.one3 rfl rfl rfl) rfl rfl rfl (by kernel_rfl) <| MX.lift1 (i := 10) (pend' := []) rfl (fun w hw => by exact hw) (Y.slice rfl rfl rfl Fr.un9 (by omega) (by omega)) rfl rfl rfl (by kernel_rfl) <| MX.lift0 (i := 11) rfl (Y.move rfl) rfl rfl rfl <| MX.force (i := 12) rfl <| LX.call (put4_c _ _ _ (by omega)) Fr.en21 rfl rfl rfl rfl rfl ?_
    intro pT
    refine LX.nextM [] (by kernel_rfl) (fun h => absurd rfl h) <| MX.sub (l' := []) trivial <| MX.done <| PX.ret0 (by simp) Try.results29 ?_
    exact fun w hw => ⟨(_, some _, pT), rfl, ran_err (numR_bad hkp hk hi hb2 (by simpa using hb7)), hw⟩
  try simp at hb7
  refine CX.skip <| PX.thenN <| CX.regionM [(0, .anywhere), (1, .anywhere), (2, .anywhere), (3, .anywhere), (4, .held), (5, .anywhere), (6, .anywhere), (7, .anywhere), (8, .anywhere), (9, .held), (10, .held), (11, .anywhere), (12, .alone)] rfl (by kernel_rfl) <| MX.lift0 (i := 0) rfl (Y.move rfl) rfl rfl rfl <| MX.lift0 (i := 1) rfl (Y.move rfl) rfl rfl rfl <| MX.lift0 (i := 2) rfl (Y.nilCheck rfl) rfl rfl rfl <| MX.lift0 (i := 3) rfl (Y.fieldAddr0 Fr.fo58_0 rfl) rfl rfl rfl <| MX.lift1 (i := 4) (pend' := []) rfl (fun w hw => by exact hw) (Y.ldB 0 Fr.one9 rfl rfl rfl) rfl rfl rfl (by kernel_rfl) <| MX.lift0 (i := 5) rfl (Y.move rfl) rfl rfl rfl <| MX.lift0 (i := 6) rfl (Y.move rfl) rfl rfl rfl <| MX.lift0 (i := 7) rfl (Y.nilCheck rfl) rfl rfl rfl <| MX.lift0 (i := 8) rfl (Y.fieldAddr0 Fr.fo58_1 rfl) rfl rfl rfl <| MX.lift1 (i := 9) (pend' := [4]) rfl (fun w hw => by exact hw) (Y.ldB 0 Fr.one3 rfl rfl rfl) rfl rfl rfl (by kernel_rfl) <| MX.lift1 (i := 10) (pend' := []) rfl (fun w hw => by exact hw) (Y.slice rfl rfl rfl Fr.un9 (by omega) (by omega)) rfl rfl rfl (by kernel_rfl) <| MX.lift0 (i := 11) rfl (Y.move rfl) rfl rfl rfl <| MX.force (i := 12) rfl <| LX.call (put4_c _ _ _ (by omega)) Fr.en21 rfl rfl rfl rfl rfl ?_
  intro pT
  refine LX.nextM [] (by kernel_rfl) (fun h => absurd rfl h) <| MX.sub (l' := []) trivial <| MX.done <| PX.ret0 (by simp) Try.results29 ?_
  exact fun w hw => ⟨(_, none, pT), rfl, ran_ok (numR_ok hkp hk hi hb2 (by simpa using hb7)), hw⟩

theorem b8_ofNat {v : Nat} (h : v < 256) : b8 (UInt8.ofNat v) = .int .u8 (v : Int) := by simp [b8, Nat.mod_eq_of_lt h]

theorem sign4_c {w0 : World} {base : Nat} {B : Nat} {σ : Sc} {p : Sl} {fr : List It} (hs : σ.s.length ≤ 65536) (hp : σ.pos < σ.s.length) (ho : σ.out.length ≤ 1000000) (hk : σ.brk.length ≤ 1000) (hcl : ∀ x ∈ σ.brk, closes x = true) : FnC Try.prog 31 #[.pointer (some ⟨B, 0, none⟩)] (WA w0 base (rfI B σ none p fr)) (fun t : Sc × Option Nat × Sl => .bool (decide (signL (σ.s.drop σ.pos) ≠ []))) (fun t w => RanS σ t.1 t.2.1 ∧ WA w0 base (rfI B t.1 t.2.1 t.2.2 fr) w) := by
  refine FnC.of_body (fn := Try.f31) [(0, _)] Try.func31 rfl Try.ntmps31 rfl ⟨rfl, trivial⟩ ?_
  refine CX.sr <| LX.mv rfl <| LX.su [0, 2] rfl <| LX.nt <| CX.sr <| LX.mv rfl <| LX.su [0, 2, 3] rfl <| LX.nt ?_
  refine CX.seqM (τ := Unit) (fun _ => [(0, .pointer (some ⟨B, 0, none⟩)), (3, str (twoR σ.s σ.pos))]) (fun _ w => WA w0 base (rfI B σ none p fr) w) ?_ ?_
  ·
    refine CX.seq <| CX.regionQ rfl (by kernel_rfl) <| LX.ms 2 rfl <| LX.p (Y.fieldAddr0 Fr.fo58_1 rfl) rfl <| LX.p (Y.ldB 0 Fr.one3 rfl rfl rfl) rfl <| LX.p (Y.addN rfl rfl (by (simp only [Sc.tok]; omega))) rfl <| LX.ms 2 rfl <| LX.p (Y.fieldAddr0 Fr.fo58_0 rfl) rfl <| LX.p (Y.ldB 0 Fr.one9 rfl rfl rfl) rfl <| LX.p (Y.lenStr rfl Fr.un9 rfl) rfl <| LX.p (Y.ltN rfl rfl) rfl <| LX.su [0, 2, 3, 17] rfl <| LX.nextQ <| PX.thenN ?_
    refine CX.cond rfl (fun hb1 => ?_) (fun hb1 => ?_)
    · try simp at hb1
      refine CX.regionQ rfl (by kernel_rfl) <| LX.ms 2 rfl <| LX.p (Y.fieldAddr0 Fr.fo58_0 rfl) rfl <| LX.p (Y.ldB 0 Fr.one9 rfl rfl rfl) rfl <| LX.ms 2 rfl <| LX.p (Y.fieldAddr0 Fr.fo58_1 rfl) rfl <| LX.p (Y.ldB 0 Fr.one3 rfl rfl rfl) rfl <| LX.ms 2 rfl <| LX.p (Y.fieldAddr0 Fr.fo58_1 rfl) rfl <| LX.p (Y.ldB 0 Fr.one3 rfl rfl rfl) rfl <| LX.p (Y.addN rfl rfl (by (simp only [Sc.tok]; omega))) rfl <| LX.p (Y.slice rfl rfl rfl Fr.un9 (by omega) (by (simp only [Sc.tok]; omega))) rfl <| LX.mv rfl <| LX.su [0, 2, 3] rfl <| LX.nextQ ?_
      exact PX.seam () ⟨rfl, by unfold twoR; rw [if_pos hb1]; rfl, trivial⟩ (fun w hw => hw)
    try simp at hb1
    refine CX.skip ?_
    exact PX.seam () ⟨rfl, by unfold twoR; rw [if_neg (by omega)]; rfl, trivial⟩ (fun w hw => hw)
  intro _
  refine CX.seq <| CX.sr <| LX.buildSliceW (e := 9) rfl rfl (fun _ => by kernel_rfl) rfl rfl rfl ?_
  intro bt6
  refine LX.mv rfl <| LX.callQ (among_q bt6 0 6 twosL _ (fun w h => h.2) dc) Fr.en27 rfl rfl rfl rfl rfl <| LX.p (Y.geI rfl rfl) rfl <| LX.su [0, 3, 35] rfl <| LX.nt ?_
  refine CX.cond rfl (fun hb2 => ?_) (fun hb2 => ?_)
  · try simp at hb2
    refine CX.world (fun w h => h.1) ?_
    have htw := (idxI_ge _ _ 0).1.1 hb2
    have hrs := ranS_two htw
    refine CX.sr <| LX.ms 4 rfl <| LX.p (Y.fieldAddr0 Fr.fo58_1 rfl) rfl <| LX.p (Y.ldB 0 Fr.one3 rfl rfl rfl) rfl <| LX.call (put4_c _ _ _ (by omega)) Fr.en21 rfl rfl rfl rfl rfl ?_
    intro pT
    refine LX.su [0] rfl <| LX.nt <| CX.sr <| LX.ms 3 rfl <| LX.p (Y.fieldAddr0 Fr.fo58_1 rfl) rfl <| LX.p (Y.ldB 0 Fr.one3 rfl rfl rfl) rfl <| LX.p (Y.addN rfl rfl (by (simp only [Sc.tok]; omega))) rfl <| LX.mv rfl <| LX.p (Y.fieldAddr0 Fr.fo58_1 rfl) rfl <| LX.storeB 0 Fr.sz3 rfl rfl rfl rfl rfl rfl rfl rfl <| LX.su [0] rfl <| LX.nt <| CX.sr <| LX.mv rfl <| LX.su [0, 2] rfl <| LX.nt <| CX.ret <| PX.thenR <| PX.ret1 (by simp) Try.results31 rfl ?_
    exact fun w hw => ⟨(_, _, pT), by rw [decide_eq_true hrs.1], hrs.2, hw⟩
  try simp at hb2
  refine CX.world (fun w h => h.1) ?_
  have htw : twoR σ.s σ.pos ∉ twosL := fun h => absurd ((idxI_ge _ _ 0).1.2 h) (by omega)
  refine CX.skip <| PX.thenN <| CX.seq <| CX.regionQ rfl (by kernel_rfl) <| LX.ms 2 rfl <| LX.p (Y.fieldAddr0 Fr.fo58_0 rfl) rfl <| LX.p (Y.ldB 0 Fr.one9 rfl rfl rfl) rfl <| LX.ms 2 rfl <| LX.p (Y.fieldAddr0 Fr.fo58_1 rfl) rfl <| LX.p (Y.ldB 0 Fr.one3 rfl rfl rfl) rfl <| LX.p (Y.index rfl rfl Fr.un9 (by omega)) rfl <| LX.mv rfl <| LX.su [0, 4] rfl <| LX.nextQ <| PX.thenN <| CX.sr <| LX.mv rfl <| LX.su [0, 4, 5] rfl <| LX.nt <| CX.seq <| CX.sr <| LX.mv rfl <| LX.su [0, 4, 5, 6] rfl <| LX.nt <| CX.block <| CX.loop (τ := Nat) (fun k => [(0, .pointer (some ⟨B, 0, none⟩)), (4, .int .u8 ((bt σ.s σ.pos : Nat) : Int)), (5, str onesL), (6, .int .i64 (k : Int))]) (fun k w => (k ≤ 16 ∧ ∀ i, i < k → bt onesL i ≠ bt σ.s σ.pos) ∧ WA w0 base (rfI B σ none p fr) w) (fun k => 16 - k) 0 ⟨rfl, rfl, rfl, rfl, trivial⟩ (fun w hw => ⟨⟨Nat.zero_le _, fun i hi => absurd hi (Nat.not_lt_zero i)⟩, hw⟩) ?_
  intro k
  refine CX.have fun ⟨hk1, hno⟩ => CX.seq <| CX.sr <| LX.ms 2 rfl <| LX.p (Y.lenStr rfl Fr.un9 rfl) rfl <| LX.p (Y.ltN rfl rfl) rfl <| LX.su [0, 4, 5, 6, 63] rfl <| LX.nt ?_
  refine CX.cond rfl (fun hb3 => ?_) (fun hb3 => ?_)
  · try simp at hb3
    have hk16 : k < 16 := hb3
    refine CX.skip <| PX.thenN <| CX.seq <| CX.block <| CX.sr <| LX.ms 2 rfl <| LX.p (Y.index rfl rfl Fr.un9 (by omega)) rfl <| LX.mv rfl <| LX.p (Y.eqN rfl rfl) rfl <| LX.su [0, 4, 5, 6, 70] rfl <| LX.nt ?_
    refine CX.cond rfl (fun hb4 => ?_) (fun hb4 => ?_)
    · try simp at hb4
      have hmem := ones_mem (bt_lt _ _) hk16 hb4
      have hrs := ranS_brk hp htw hmem
      refine CX.sr <| LX.ms 2 rfl <| LX.call (brack4_c (bt σ.s σ.pos) hk hcl) Fr.en46 rfl rfl rfl rfl rfl ?_
      intro pB
      refine LX.world (W' := WA w0 base (rfI B { σ with brk := (σ.brkR (bt σ.s σ.pos)).1.brk } (σ.brkR (bt σ.s σ.pos)).2 pB fr)) (fun w hw => by rw [brkR_eq] at hw; exact hw) <| LX.su [0, 4, 5, 6] rfl <| LX.nt <| CX.seq <| CX.regionM [(0, .anywhere), (1, .anywhere), (2, .anywhere), (3, .anywhere), (4, .held), (5, .anywhere), (6, .anywhere), (7, .anywhere), (8, .held), (9, .anywhere), (10, .anywhere), (11, .anywhere), (12, .held), (13, .held), (14, .held), (15, .anywhere), (16, .anywhere), (17, .anywhere), (18, .held), (19, .alone)] rfl (by kernel_rfl) <| MX.lift0 (i := 0) rfl (Y.move rfl) rfl rfl rfl <| MX.lift0 (i := 1) rfl (Y.move rfl) rfl rfl rfl <| MX.lift0 (i := 2) rfl (Y.nilCheck rfl) rfl rfl rfl <| MX.lift0 (i := 3) rfl (Y.fieldAddr0 Fr.fo58_0 rfl) rfl rfl rfl <| MX.lift1 (i := 4) (pend' := []) rfl (fun w hw => by exact hw) (Y.ldB 0 Fr.one9 rfl rfl rfl) rfl rfl rfl (by kernel_rfl) <| MX.lift0 (i := 5) rfl (Y.move rfl) rfl rfl rfl <| MX.lift0 (i := 6) rfl (Y.nilCheck rfl) rfl rfl rfl <| MX.lift0 (i := 7) rfl (Y.fieldAddr0 Fr.fo58_1 rfl) rfl rfl rfl <| MX.lift1 (i := 8) (pend' := [4]) rfl (fun w hw => by exact hw) (Y.ldB 0 Fr.one3 rfl rfl rfl) rfl rfl rfl (by kernel_rfl) <| MX.lift0 (i := 9) rfl (Y.move rfl) rfl rfl rfl <| MX.lift0 (i := 10) rfl (Y.nilCheck rfl) rfl rfl rfl <| MX.lift0 (i := 11) rfl (Y.fieldAddr0 Fr.fo58_1 rfl) rfl rfl rfl <| MX.lift1 (i := 12) (pend' := [8, 4]) rfl (fun w hw => by exact hw) (Y.ldB 0 Fr.one3 rfl rfl rfl) rfl rfl rfl (by kernel_rfl) <| MX.lift1 (i := 13) (pend' := [8, 4]) rfl (fun w hw => by exact hw) (Y.addN rfl rfl (by (simp only [Sc.tok]; omega))) rfl rfl rfl (by kernel_rfl) <| MX.lift1 (i := 14) (pend' := []) rfl (fun w hw => by exact hw) (Y.slice rfl rfl rfl Fr.un9 (by omega) (by (simp only [Sc.tok]; omega))) rfl rfl rfl (by kernel_rfl) <| MX.lift0 (i := 15) rfl (Y.move rfl) rfl rfl rfl <| MX.lift0 (i := 16) rfl (Y.nilCheck rfl) rfl rfl rfl <| MX.lift0 (i := 17) rfl (Y.fieldAddr0 Fr.fo58_1 rfl) rfl rfl rfl <| MX.lift1 (i := 18) (pend' := [14]) rfl (fun w hw => by exact hw) (Y.ldB 0 Fr.one3 rfl rfl rfl) rfl rfl rfl (by kernel_rfl) <| MX.force (i := 19) rfl <| LX.call (put4_c _ _ _ (by omega)) Fr.en21 rfl rfl rfl rfl rfl ?_
      intro pT
      refine LX.nextM [] (by kernel_rfl) (fun h => absurd rfl h) <| MX.sub (l' := [(0, _), (4, _), (5, _), (6, _)]) ⟨rfl, rfl, rfl, rfl, trivial⟩ <| MX.done <| PX.thenN <| CX.sr <| LX.ms 3 rfl <| LX.p (Y.fieldAddr0 Fr.fo58_1 rfl) rfl <| LX.p (Y.ldB 0 Fr.one3 rfl rfl rfl) rfl <| LX.p (Y.addN rfl rfl (by (simp only [Sc.tok]; omega))) rfl <| LX.mv rfl <| LX.p (Y.fieldAddr0 Fr.fo58_1 rfl) rfl <| LX.storeB 0 Fr.sz3 rfl rfl rfl rfl rfl rfl rfl rfl <| LX.su [0, 4, 5, 6] rfl <| LX.nt <| CX.sr <| LX.mv rfl <| LX.su [0, 2, 4, 5, 6] rfl <| LX.nt <| CX.ret <| PX.blockR <| PX.thenR <| PX.thenR <| PX.blockR <| PX.thenR <| PX.ret1 (by simp) Try.results31 rfl ?_
      exact fun w hw => ⟨(_, _, pT), by rw [decide_eq_true hrs.1], hrs.2, hw⟩
    try simp at hb4
    have hne : bt onesL k ≠ bt σ.s σ.pos := hb4
    refine CX.skip <| PX.blockN <| PX.thenN <| CX.region <| LX.mv rfl <| LX.p (Y.addN rfl rfl (by (simp only [Sc.tok]; omega))) rfl <| LX.mv rfl <| LX.su [0, 4, 5, 6] rfl <| LX.next ?_
    exact PX.again (k + 1) (by show 16 - (k + 1) < 16 - k; omega) ⟨rfl, rfl, rfl, rfl, trivial⟩ (fun w hw => ⟨⟨by omega, fun i hi => by
      rcases Nat.lt_succ_iff_lt_or_eq.1 hi with h | h
      · exact hno i h
      · rw [h]; exact hne⟩, hw⟩)
  try simp at hb3
  have hk16 : k = 16 := Nat.le_antisymm hk1 hb3
  subst hk16
  have hrs := ranS_none hp htw (ones_none (bt_lt _ _) hno)
  refine CX.exit <| PX.thenE <| PX.thenE <| PX.blockE <| PX.thenN <| CX.sr <| LX.mv rfl <| LX.su [2] rfl <| LX.nt <| CX.ret <| PX.ret1 (by simp) Try.results31 rfl ?_
  exact fun w hw => ⟨(_, _, p), by rw [decide_eq_false (fun h => h hrs.1)], hrs.2, hw⟩

theorem str4_c {w0 : World} {base : Nat} {B : Nat} {σ : Sc} {p : Sl} {fr : List It} (hs : σ.s.length ≤ 65536) (hp : σ.pos < σ.s.length) (ho : σ.out.length ≤ 1000000) (hq : bt σ.s σ.pos = 34 ∨ bt σ.s σ.pos = 39) : FnC Try.prog 30 #[.pointer (some ⟨B, 0, none⟩)] (WA w0 base (rfI B σ none p fr)) (fun _ : Sc × Option Nat × Sl => .tuple #[]) (fun t w => Ran (σ.text (bt σ.s σ.pos)) t.1 t.2.1 ∧ WA w0 base (rfI B t.1 t.2.1 t.2.2 fr) w) := by
  refine FnC.of_body (fn := Try.f30) [(0, _)] Try.func30 rfl Try.ntmps30 rfl ⟨rfl, trivial⟩ ?_
  refine CX.sr <| LX.ms 2 rfl <| LX.p (Y.fieldAddr0 Fr.fo58_1 rfl) rfl <| LX.p (Y.ldB 0 Fr.one3 rfl rfl rfl) rfl <| LX.mv rfl <| LX.su [0, 2] rfl <| LX.nt <| CX.sr <| LX.ms 2 rfl <| LX.p (Y.fieldAddr0 Fr.fo58_0 rfl) rfl <| LX.p (Y.ldB 0 Fr.one9 rfl rfl rfl) rfl <| LX.mv rfl <| LX.p (Y.index rfl rfl Fr.un9 (by omega)) rfl <| LX.mv rfl <| LX.su [0, 2, 3] rfl <| LX.nt <| CX.sr <| LX.ms 3 rfl <| LX.p (Y.fieldAddr0 Fr.fo58_1 rfl) rfl <| LX.p (Y.ldB 0 Fr.one3 rfl rfl rfl) rfl <| LX.p (Y.addN rfl rfl (by (simp only []; omega))) rfl <| LX.mv rfl <| LX.p (Y.fieldAddr0 Fr.fo58_1 rfl) rfl <| LX.storeB 0 Fr.sz3 rfl rfl rfl rfl rfl rfl rfl rfl <| LX.su [0, 2, 3] rfl <| LX.nt <| CX.sr <| LX.ms 2 rfl ?_
  refine LX.p (Y.fieldAddr0 Fr.fo58_1 rfl) rfl <| LX.p (Y.ldB 0 Fr.one3 rfl rfl rfl) rfl <| LX.mv rfl <| LX.su [0, 2, 3, 4] rfl <| LX.nt <| CX.seq <| CX.block <| CX.loop (τ := Nat) (fun k : Nat => [(0, .pointer (some ⟨B, 0, none⟩)), (2, .int .i64 (σ.pos : Int)), (3, .int .u8 ((bt σ.s σ.pos : Nat) : Int)), (4, .int .i64 (k : Int))]) (fun (k : Nat) w => (σ.pos + 1 ≤ k ∧ k ≤ σ.s.length ∧ endL (bt σ.s σ.pos) (σ.s.drop k) k = endL (bt σ.s σ.pos) (σ.s.drop (σ.pos + 1)) (σ.pos + 1)) ∧ WA w0 base (rfI B { σ with pos := σ.pos + 1 } none p fr) w) (fun k => σ.s.length - k) (σ.pos + 1) ⟨rfl, rfl, rfl, rfl, trivial⟩ (fun w hw => ⟨⟨Nat.le_refl _, by omega, rfl⟩, hw⟩) ?_
  intro k
  refine CX.have fun ⟨hk1, hk2, hi⟩ => CX.seq <| CX.sr <| LX.ms 3 rfl <| LX.p (Y.fieldAddr0 Fr.fo58_0 rfl) rfl <| LX.p (Y.ldB 0 Fr.one9 rfl rfl rfl) rfl <| LX.p (Y.lenStr rfl Fr.un9 rfl) rfl <| LX.p (Y.ltN rfl rfl) rfl <| LX.mv rfl <| LX.su [0, 2, 3, 4, 37] rfl ?_
  apply LX.joinAnd 8 45 37 rfl
  · intro hb1
    have hb1p := hb1
    try simp at hb1p
    refine LX.gT rfl rfl rfl hb1 (Y.move rfl) rfl rfl <| LX.gT rfl rfl rfl hb1 (Y.nilCheck rfl) rfl rfl <| LX.gT rfl rfl rfl hb1 (Y.fieldAddr0 Fr.fo58_0 rfl) rfl rfl <| LX.gT rfl rfl rfl hb1 (Y.ldB 0 Fr.one9 rfl rfl rfl) rfl rfl <| LX.gT rfl rfl rfl hb1 (Y.move rfl) rfl rfl <| LX.gT rfl rfl rfl hb1 (Y.index rfl rfl Fr.un9 (by omega)) rfl rfl <| LX.gT rfl rfl rfl hb1 (Y.neN rfl rfl) rfl rfl <| LX.p (Y.pickT rfl hb1 rfl) rfl ?_
    exact LX.left ⟨rfl, rfl, rfl, rfl, rfl, rfl, trivial⟩
  · intro hb1
    refine LX.gF rfl rfl rfl hb1 rfl rfl <| LX.gF rfl rfl rfl hb1 rfl rfl <| LX.gF rfl rfl rfl hb1 rfl rfl <| LX.gF rfl rfl rfl hb1 rfl rfl <| LX.gF rfl rfl rfl hb1 rfl rfl <| LX.gF rfl rfl rfl hb1 rfl rfl <| LX.gF rfl rfl rfl hb1 rfl rfl <| LX.p (Y.pickF rfl hb1 rfl) rfl ?_
    exact LX.left ⟨rfl, rfl, rfl, rfl, rfl, rfl, trivial⟩
  refine LX.mv rfl <| LX.su [0, 2, 3, 4, 46] rfl ?_
  apply LX.joinAnd 9 55 46 rfl
  · intro hb2
    have hb2p := hb2
    try simp at hb2p
    refine LX.gT rfl rfl rfl hb2 (Y.move rfl) rfl rfl <| LX.gT rfl rfl rfl hb2 (Y.nilCheck rfl) rfl rfl <| LX.gT rfl rfl rfl hb2 (Y.fieldAddr0 Fr.fo58_0 rfl) rfl rfl <| LX.gT rfl rfl rfl hb2 (Y.ldB 0 Fr.one9 rfl rfl rfl) rfl rfl <| LX.gT rfl rfl rfl hb2 (Y.move rfl) rfl rfl <| LX.gT rfl rfl rfl hb2 (Y.index rfl rfl Fr.un9 (by (simp only []; omega))) rfl rfl <| LX.gT rfl rfl rfl hb2 (Y.move rfl) rfl rfl <| LX.gT rfl rfl rfl hb2 (Y.neN rfl rfl) rfl rfl <| LX.p (Y.pickT rfl hb2 rfl) rfl ?_
    exact LX.left ⟨rfl, rfl, rfl, rfl, rfl, rfl, trivial⟩
  · intro hb2
    refine LX.gF rfl rfl rfl hb2 rfl rfl <| LX.gF rfl rfl rfl hb2 rfl rfl <| LX.gF rfl rfl rfl hb2 rfl rfl <| LX.gF rfl rfl rfl hb2 rfl rfl <| LX.gF rfl rfl rfl hb2 rfl rfl <| LX.gF rfl rfl rfl hb2 rfl rfl <| LX.gF rfl rfl rfl hb2 rfl rfl <| LX.gF rfl rfl rfl hb2 rfl rfl <| LX.p (Y.pickF rfl hb2 rfl) rfl ?_
    exact LX.left ⟨rfl, rfl, rfl, rfl, rfl, rfl, trivial⟩
  refine LX.su [0, 2, 3, 4, 55] rfl <| LX.nt ?_
  refine CX.cond rfl (fun hb3 => ?_) (fun hb3 => ?_)
  · try simp at hb3
    refine CX.skip <| PX.thenN <| CX.block <| CX.seq <| CX.sr <| LX.ms 2 rfl <| LX.p (Y.fieldAddr0 Fr.fo58_0 rfl) rfl <| LX.p (Y.ldB 0 Fr.one9 rfl rfl rfl) rfl <| LX.mv rfl <| LX.p (Y.index rfl rfl Fr.un9 (by (simp only []; omega))) rfl <| LX.p (Y.eqN rfl rfl) rfl <| LX.mv rfl <| LX.su [0, 2, 3, 4, 63] rfl ?_
    apply LX.joinAnd 9 72 63 rfl
    · intro hb4
      have hb4p := hb4
      try simp at hb4p
      refine LX.gT rfl rfl rfl hb4 (Y.move rfl) rfl rfl <| LX.gT rfl rfl rfl hb4 (Y.addN rfl rfl (by (simp only []; omega))) rfl rfl <| LX.gT rfl rfl rfl hb4 (Y.move rfl) rfl rfl <| LX.gT rfl rfl rfl hb4 (Y.nilCheck rfl) rfl rfl <| LX.gT rfl rfl rfl hb4 (Y.fieldAddr0 Fr.fo58_0 rfl) rfl rfl <| LX.gT rfl rfl rfl hb4 (Y.ldB 0 Fr.one9 rfl rfl rfl) rfl rfl <| LX.gT rfl rfl rfl hb4 (Y.lenStr rfl Fr.un9 rfl) rfl rfl <| LX.gT rfl rfl rfl hb4 (Y.ltN rfl rfl) rfl rfl <| LX.p (Y.pickT rfl hb4 rfl) rfl ?_
      exact LX.left ⟨rfl, rfl, rfl, rfl, rfl, rfl, trivial⟩
    · intro hb4
      refine LX.gF rfl rfl rfl hb4 rfl rfl <| LX.gF rfl rfl rfl hb4 rfl rfl <| LX.gF rfl rfl rfl hb4 rfl rfl <| LX.gF rfl rfl rfl hb4 rfl rfl <| LX.gF rfl rfl rfl hb4 rfl rfl <| LX.gF rfl rfl rfl hb4 rfl rfl <| LX.gF rfl rfl rfl hb4 rfl rfl <| LX.gF rfl rfl rfl hb4 rfl rfl <| LX.p (Y.pickF rfl hb4 rfl) rfl ?_
      exact LX.left ⟨rfl, rfl, rfl, rfl, rfl, rfl, trivial⟩
    refine LX.mv rfl <| LX.su [0, 2, 3, 4, 73] rfl ?_
    apply LX.joinAnd 9 82 73 rfl
    · intro hb5
      have hb5p := hb5
      try simp at hb5p
      refine LX.gT rfl rfl rfl hb5 (Y.move rfl) rfl rfl <| LX.gT rfl rfl rfl hb5 (Y.nilCheck rfl) rfl rfl <| LX.gT rfl rfl rfl hb5 (Y.fieldAddr0 Fr.fo58_0 rfl) rfl rfl <| LX.gT rfl rfl rfl hb5 (Y.ldB 0 Fr.one9 rfl rfl rfl) rfl rfl <| LX.gT rfl rfl rfl hb5 (Y.move rfl) rfl rfl <| LX.gT rfl rfl rfl hb5 (Y.addN rfl rfl (by (simp only []; omega))) rfl rfl <| LX.gT rfl rfl rfl hb5 (Y.index rfl rfl Fr.un9 (by (simp only []; omega))) rfl rfl <| LX.gT rfl rfl rfl hb5 (Y.neN rfl rfl) rfl rfl <| LX.p (Y.pickT rfl hb5 rfl) rfl ?_
      exact LX.left ⟨rfl, rfl, rfl, rfl, rfl, rfl, trivial⟩
    · intro hb5
      refine LX.gF rfl rfl rfl hb5 rfl rfl <| LX.gF rfl rfl rfl hb5 rfl rfl <| LX.gF rfl rfl rfl hb5 rfl rfl <| LX.gF rfl rfl rfl hb5 rfl rfl <| LX.gF rfl rfl rfl hb5 rfl rfl <| LX.gF rfl rfl rfl hb5 rfl rfl <| LX.gF rfl rfl rfl hb5 rfl rfl <| LX.gF rfl rfl rfl hb5 rfl rfl <| LX.p (Y.pickF rfl hb5 rfl) rfl ?_
      exact LX.left ⟨rfl, rfl, rfl, rfl, rfl, rfl, trivial⟩
    refine LX.su [0, 2, 3, 4, 82] rfl <| LX.nt ?_
    refine CX.cond rfl (fun hb6 => ?_) (fun hb6 => ?_)
    · try simp at hb6
      refine CX.region <| LX.mv rfl <| LX.p (Y.addN rfl rfl (by (simp only []; omega))) rfl <| LX.mv rfl <| LX.su [0, 2, 3, 4] rfl <| LX.nt <| CX.region <| LX.mv rfl <| LX.p (Y.addN rfl rfl (by (simp only []; omega))) rfl <| LX.mv rfl <| LX.su [0, 2, 3, 4] rfl <| LX.next <| PX.blockN ?_
      exact PX.again (i := k) (k + 2) (by show σ.s.length - (k + 2) < σ.s.length - k; omega) ⟨rfl, rfl, rfl, rfl, trivial⟩ (fun w hw => ⟨⟨by omega, by omega, (endR_esc hb3.1.1 hb3.1.2 hb3.2 hb6.1.1 hb6.1.2 hb6.2).symm.trans hi⟩, hw⟩)
    try simp at hb6
    refine CX.skip <| PX.thenN <| CX.region <| LX.mv rfl <| LX.p (Y.addN rfl rfl (by (simp only []; omega))) rfl <| LX.mv rfl <| LX.su [0, 2, 3, 4] rfl <| LX.next <| PX.blockN ?_
    exact PX.again (i := k) (k + 1) (by show σ.s.length - (k + 1) < σ.s.length - k; omega) ⟨rfl, rfl, rfl, rfl, trivial⟩ (fun w hw => ⟨⟨by omega, by omega, (endR_next hb3.1.1 hb3.1.2 hb3.2 (fun h => hb6 h.1 h.2.1 |> fun h2 => h.2.2 h2)).symm.trans hi⟩, hw⟩)
  try simp at hb3
  refine CX.exit <| PX.thenE <| PX.thenE <| PX.blockE <| PX.thenN <| CX.seq <| CX.sr <| LX.ms 3 rfl <| LX.p (Y.fieldAddr0 Fr.fo58_0 rfl) rfl <| LX.p (Y.ldB 0 Fr.one9 rfl rfl rfl) rfl <| LX.p (Y.lenStr rfl Fr.un9 rfl) rfl <| LX.p (Y.geN rfl rfl) rfl <| LX.mv rfl <| LX.su [0, 2, 3, 4, 94] rfl ?_
  apply LX.joinOr 9 103 94 rfl
  · intro hb7
    refine LX.gF rfl rfl rfl hb7 rfl rfl <| LX.gF rfl rfl rfl hb7 rfl rfl <| LX.gF rfl rfl rfl hb7 rfl rfl <| LX.gF rfl rfl rfl hb7 rfl rfl <| LX.gF rfl rfl rfl hb7 rfl rfl <| LX.gF rfl rfl rfl hb7 rfl rfl <| LX.gF rfl rfl rfl hb7 rfl rfl <| LX.gF rfl rfl rfl hb7 rfl rfl <| LX.p (Y.pickT rfl hb7 rfl) rfl ?_
    exact LX.left ⟨rfl, rfl, rfl, rfl, rfl, rfl, trivial⟩
  · intro hb7
    have hb7p := hb7
    try simp at hb7p
    refine LX.gT rfl rfl rfl hb7 (Y.move rfl) rfl rfl <| LX.gT rfl rfl rfl hb7 (Y.nilCheck rfl) rfl rfl <| LX.gT rfl rfl rfl hb7 (Y.fieldAddr0 Fr.fo58_0 rfl) rfl rfl <| LX.gT rfl rfl rfl hb7 (Y.ldB 0 Fr.one9 rfl rfl rfl) rfl rfl <| LX.gT rfl rfl rfl hb7 (Y.move rfl) rfl rfl <| LX.gT rfl rfl rfl hb7 (Y.index rfl rfl Fr.un9 (by omega)) rfl rfl <| LX.gT rfl rfl rfl hb7 (Y.move rfl) rfl rfl <| LX.gT rfl rfl rfl hb7 (Y.neN rfl rfl) rfl rfl <| LX.p (Y.pickF rfl hb7 rfl) rfl ?_
    exact LX.left ⟨rfl, rfl, rfl, rfl, rfl, rfl, trivial⟩
  refine LX.su [0, 2, 4, 103] rfl <| LX.nt ?_
  refine CX.cond rfl (fun hb8 => ?_) (fun hb8 => ?_)
  · try simp at hb8
    refine CX.sr <| LX.ms 2 rfl <| LX.call (fail4_c _) Fr.en22 rfl rfl rfl rfl rfl ?_
    intro _
    refine LX.su [0, 2, 4] rfl <| LX.nt <| CX.ret <| PX.thenR <| PX.ret0 (by simp) Try.results30 ?_
    exact fun w hw => ⟨({ σ with pos := σ.pos + 1 }, some _, p), rfl, ran_err (Sc.text_none (hi.symm.trans (endR_none fun h => Classical.byContradiction fun h10 => (hb8.resolve_left (by omega)) (hb3 h h10)))), hw⟩
  try simp at hb8
  have he : endL (bt σ.s σ.pos) (σ.s.drop (σ.pos + 1)) (σ.pos + 1) = some (k + 1) := hi.symm.trans (endR_hit hb8.1 (by omega) hb8.2)
  obtain ⟨e, hek⟩ : ∃ e, e = k := ⟨k, rfl⟩
  subst hek
  refine CX.skip <| PX.thenN <| CX.sr <| LX.mv rfl <| LX.su [0, 2, 4, 5] rfl <| LX.nt <| CX.seq <| CX.block <| CX.loop (τ := Nat × List UInt8 × Option Nat × Nat) (fun t : Nat × List UInt8 × Option Nat × Nat => [(0, .pointer (some ⟨B, 0, none⟩)), (2, .int .i64 (σ.pos : Int)), (4, .int .i64 (e : Int)), (5, rv t.2.2.1 t.2.1.length t.2.2.2)]) (fun (t : Nat × List UInt8 × Option Nat × Nat) w => (σ.pos + 1 ≤ t.1 ∧ t.1 ≤ e ∧ t.2.1.length ≤ t.1 ∧ endL (bt σ.s σ.pos) (σ.s.drop t.1) t.1 = some (e + 1) ∧ txtL ((σ.s.take e).drop t.1) t.1 0 t.2.1 = txtL ((σ.s.take e).drop (σ.pos + 1)) (σ.pos + 1) 0 []) ∧ WA w0 base (rfI B { σ with pos := t.1 } none p (.row t.2.2.1 t.2.2.2 t.2.1.length 5 1 (t.2.1.map b8) :: fr)) w) (fun t => e - t.1) (σ.pos + 1, [], none, 0) ⟨rfl, rfl, rfl, rfl, trivial⟩ (fun w hw => ⟨⟨Nat.le_refl _, hk1, Nat.zero_le _, he, rfl⟩, (hw.nilRow _ _).perm (List.perm_middle (l₁ := [_, _, _, _]))⟩) ?_
  rintro ⟨j, acc, g, cap⟩
  refine CX.have fun ⟨hj1, hj2, hacc, hin, hi2⟩ => ?_
  dsimp only at hj1 hj2 hacc hin hi2 ⊢
  refine CX.seq <| CX.sr <| LX.ms 2 rfl <| LX.p (Y.fieldAddr0 Fr.fo58_1 rfl) rfl <| LX.p (Y.ldB 0 Fr.one3 rfl rfl rfl) rfl <| LX.mv rfl <| LX.p (Y.ltN rfl rfl) rfl <| LX.su [0, 2, 4, 5, 112] rfl <| LX.nt ?_
  refine CX.cond rfl (fun hb9 => ?_) (fun hb9 => ?_)
  · try simp at hb9
    refine CX.skip <| PX.thenN <| CX.block <| CX.seq <| CX.regionQ rfl (by kernel_rfl) <| LX.ms 2 rfl <| LX.p (Y.fieldAddr0 Fr.fo58_0 rfl) rfl <| LX.p (Y.ldB 0 Fr.one9 rfl rfl rfl) rfl <| LX.ms 2 rfl <| LX.p (Y.fieldAddr0 Fr.fo58_1 rfl) rfl <| LX.p (Y.ldB 0 Fr.one3 rfl rfl rfl) rfl <| LX.p (Y.index rfl rfl Fr.un9 (by (simp only []; omega))) rfl <| LX.mv rfl <| LX.su [0, 2, 4, 5, 6] rfl <| LX.nextQ <| PX.thenN <| CX.seq <| CX.sr <| LX.mv rfl <| LX.p (Y.ltN rfl rfl) rfl <| LX.mv rfl <| LX.su [0, 2, 4, 5, 6, 124] rfl ?_
    apply LX.joinOr 3 127 124 rfl
    · intro hb10
      refine LX.gF rfl rfl rfl hb10 rfl rfl <| LX.gF rfl rfl rfl hb10 rfl rfl <| LX.p (Y.pickT rfl hb10 rfl) rfl ?_
      exact LX.left ⟨rfl, rfl, rfl, rfl, rfl, rfl, rfl, trivial⟩
    · intro hb10
      refine LX.gT rfl rfl rfl hb10 (Y.move rfl) rfl rfl <| LX.gT rfl rfl rfl hb10 (Y.eqN rfl rfl) rfl rfl <| LX.p (Y.pickF rfl hb10 rfl) rfl ?_
      exact LX.left ⟨rfl, rfl, rfl, rfl, rfl, rfl, rfl, trivial⟩
    refine LX.su [0, 2, 4, 5, 6, 127] rfl <| LX.nt ?_
    refine CX.cond rfl (fun hb11 => ?_) (fun hb11 => ?_)
    · try simp at hb11
      refine CX.sr <| LX.ms 3 rfl <| LX.p (Y.fieldAddr0 Fr.fo58_1 rfl) rfl <| LX.p (Y.ldB 0 Fr.one3 rfl rfl rfl) rfl <| LX.call (fail4_c _) Fr.en22 rfl rfl rfl rfl rfl ?_
      intro _
      refine LX.su [0, 2, 4, 5, 6] rfl <| LX.nt <| CX.ret <| PX.thenR <| PX.blockR <| PX.thenR <| PX.blockR <| PX.thenR <| PX.ret0 (by simp) Try.results30 ?_
      exact fun w hw => ⟨({ σ with pos := j }, some _, p), rfl, ran_err (Sc.text_bad he (hi2.symm.trans (txt_bad hb9 hk2 (by omega) hb11))), hw.drop (.cons_cons _ (.cons_cons _ (.cons_cons _ (.cons_cons _ (List.sublist_cons_self _ _)))))⟩
    try simp at hb11
    refine CX.skip <| PX.thenN <| CX.seq <| CX.sr <| LX.mv rfl <| LX.p (Y.neN rfl rfl) rfl <| LX.su [0, 2, 4, 5, 6, 135] rfl <| LX.nt ?_
    refine CX.cond rfl (fun hb12 => ?_) (fun hb12 => ?_)
    · try simp at hb12
      refine CX.sr <| LX.ms 2 rfl <| LX.buildSlice (e := 5) (size := 1) rfl rfl (fun _ => by kernel_rfl) rfl dc rfl rfl rfl ?_
      intro gt147
      refine LX.appendT 4 Fr.el56 rfl rfl rfl rfl rfl rfl rfl (by omega) (by omega) rfl rfl rfl ?_
      intro g' cap'
      refine LX.mv rfl <| LX.su [0, 2, 4, 5] rfl <| LX.nt <| CX.sr <| LX.ms 3 rfl <| LX.p (Y.fieldAddr0 Fr.fo58_1 rfl) rfl <| LX.p (Y.ldB 0 Fr.one3 rfl rfl rfl) rfl <| LX.p (Y.addN rfl rfl (by (simp only []; omega))) rfl <| LX.mv rfl <| LX.p (Y.fieldAddr0 Fr.fo58_1 rfl) rfl <| LX.storeB 0 Fr.sz3 rfl rfl rfl rfl rfl rfl rfl rfl <| LX.su [0, 2, 4, 5] rfl <| LX.nt <| CX.exit <| PX.thenE <| PX.blockE ?_
      exact PX.again (i := (j, acc, g, cap)) (j + 1, acc ++ [σ.s.getD j 0], g', cap') (by show e - (j + 1) < e - j; omega) ⟨rfl, rfl, rfl, by simp only [List.length_append, List.length_singleton]; rfl, trivial⟩ (fun w hw => ⟨⟨by show σ.pos + 1 ≤ j + 1; omega, by show j + 1 ≤ e; omega, by simp; omega, inR_plain hin hb9 hb12, (txt_plain hb9 hk2 hb12 (by omega)).symm.trans hi2⟩, by simpa [rfI, flat, Value.cells, b8, bt, List.set] using hw⟩)
    try simp at hb12
    have hesc := inR_esc hin hb9 hb12
    have hj3 := hesc.1
    refine CX.skip <| PX.thenN <| CX.seq <| CX.regionQ rfl (by kernel_rfl) <| LX.ms 2 rfl <| LX.p (Y.fieldAddr0 Fr.fo58_0 rfl) rfl <| LX.p (Y.ldB 0 Fr.one9 rfl rfl rfl) rfl <| LX.ms 2 rfl <| LX.p (Y.fieldAddr0 Fr.fo58_1 rfl) rfl <| LX.p (Y.ldB 0 Fr.one3 rfl rfl rfl) rfl <| LX.p (Y.addN rfl rfl (by (simp only []; omega))) rfl <| LX.p (Y.index rfl rfl Fr.un9 (by (simp only []; omega))) rfl <| LX.mv rfl <| LX.su [0, 2, 4, 5, 6] rfl <| LX.nextQ <| PX.thenN <| CX.sr <| LX.mv rfl <| LX.su [0, 2, 4, 5, 6, 7] rfl <| LX.nt <| CX.seq <| CX.block <| CX.sr <| LX.mv rfl <| LX.p (Y.eqN rfl rfl) rfl <| LX.mv rfl <| LX.su [0, 2, 4, 5, 6, 7, 164] rfl <| LX.nt ?_
    refine CX.cond rfl (fun hb13 => ?_) (fun hb13 => ?_)
    · try simp at hb13
      refine CX.region <| LX.mv rfl <| LX.buildSlice (e := 5) (size := 1) rfl rfl (fun _ => by kernel_rfl) rfl dc rfl rfl rfl ?_
      intro gt175
      refine LX.appendT 4 Fr.el56 rfl rfl rfl rfl rfl rfl rfl (by omega) (by omega) rfl rfl rfl ?_
      intro g' cap'
      refine LX.mv rfl <| LX.su [0, 2, 4, 5, 7] rfl <| LX.next <| PX.blockN <| PX.thenN <| CX.region <| LX.ms 3 rfl <| LX.p (Y.fieldAddr0 Fr.fo58_1 rfl) rfl <| LX.p (Y.ldB 0 Fr.one3 rfl rfl rfl) rfl <| LX.mv rfl <| LX.p (Y.addN rfl rfl (by (simp only []; omega))) rfl <| LX.mv rfl <| LX.p (Y.fieldAddr0 Fr.fo58_1 rfl) rfl <| LX.storeB 0 Fr.sz3 rfl rfl rfl rfl rfl rfl rfl rfl <| LX.su [0, 2, 4, 5] rfl <| LX.next <| PX.blockN ?_
      exact PX.again (i := (j, acc, g, cap)) (j + 2, acc ++ [UInt8.ofNat 10], g', cap') (by show e - (j + 2) < e - j; omega) ⟨rfl, rfl, rfl, by simp only [List.length_append, List.length_singleton]; rfl, trivial⟩ (fun w hw => ⟨⟨by show σ.pos + 1 ≤ j + 2; omega, by show j + 2 ≤ e; omega, by simp; omega, hesc.2, (txtR_esc (n := 1) hb9 hk2 hb12 (pieceR_n hj3 hk2 hb13) dc).symm.trans hi2⟩, by simpa [rfI, flat, Value.cells, b8, List.set] using hw⟩)
    try simp at hb13
    refine CX.sr <| LX.mv rfl <| LX.p (Y.eqN rfl rfl) rfl <| LX.mv rfl <| LX.su [0, 2, 4, 5, 6, 7, 170] rfl <| LX.nt ?_
    refine CX.cond rfl (fun hb14 => ?_) (fun hb14 => ?_)
    · try simp at hb14
      refine CX.region <| LX.mv rfl <| LX.buildSlice (e := 5) (size := 1) rfl rfl (fun _ => by kernel_rfl) rfl dc rfl rfl rfl ?_
      intro gt192
      refine LX.appendT 4 Fr.el56 rfl rfl rfl rfl rfl rfl rfl (by omega) (by omega) rfl rfl rfl ?_
      intro g' cap'
      refine LX.mv rfl <| LX.su [0, 2, 4, 5, 7] rfl <| LX.next <| PX.blockN <| PX.thenN <| CX.region <| LX.ms 3 rfl <| LX.p (Y.fieldAddr0 Fr.fo58_1 rfl) rfl <| LX.p (Y.ldB 0 Fr.one3 rfl rfl rfl) rfl <| LX.mv rfl <| LX.p (Y.addN rfl rfl (by (simp only []; omega))) rfl <| LX.mv rfl <| LX.p (Y.fieldAddr0 Fr.fo58_1 rfl) rfl <| LX.storeB 0 Fr.sz3 rfl rfl rfl rfl rfl rfl rfl rfl <| LX.su [0, 2, 4, 5] rfl <| LX.next <| PX.blockN ?_
      exact PX.again (i := (j, acc, g, cap)) (j + 2, acc ++ [UInt8.ofNat 9], g', cap') (by show e - (j + 2) < e - j; omega) ⟨rfl, rfl, rfl, by simp only [List.length_append, List.length_singleton]; rfl, trivial⟩ (fun w hw => ⟨⟨by show σ.pos + 1 ≤ j + 2; omega, by show j + 2 ≤ e; omega, by simp; omega, hesc.2, (txtR_esc (n := 1) hb9 hk2 hb12 (pieceR_t hj3 hk2 hb14) dc).symm.trans hi2⟩, by simpa [rfI, flat, Value.cells, b8, List.set] using hw⟩)
    try simp at hb14
    refine CX.sr <| LX.mv rfl <| LX.p (Y.eqN rfl rfl) rfl <| LX.mv rfl <| LX.su [0, 2, 4, 5, 6, 7, 179] rfl ?_
    apply LX.joinOr 3 182 179 rfl
    · intro hb15
      refine LX.gF rfl rfl rfl hb15 rfl rfl <| LX.gF rfl rfl rfl hb15 rfl rfl <| LX.p (Y.pickT rfl hb15 rfl) rfl ?_
      exact LX.left ⟨rfl, rfl, rfl, rfl, rfl, rfl, rfl, rfl, trivial⟩
    · intro hb15
      refine LX.gT rfl rfl rfl hb15 (Y.move rfl) rfl rfl <| LX.gT rfl rfl rfl hb15 (Y.eqN rfl rfl) rfl rfl <| LX.p (Y.pickF rfl hb15 rfl) rfl ?_
      exact LX.left ⟨rfl, rfl, rfl, rfl, rfl, rfl, rfl, rfl, trivial⟩
    refine LX.mv rfl <| LX.su [0, 2, 4, 5, 6, 7, 183] rfl ?_
    apply LX.joinOr 3 186 183 rfl
    · intro hb16
      refine LX.gF rfl rfl rfl hb16 rfl rfl <| LX.gF rfl rfl rfl hb16 rfl rfl <| LX.p (Y.pickT rfl hb16 rfl) rfl ?_
      exact LX.left ⟨rfl, rfl, rfl, rfl, rfl, rfl, rfl, rfl, trivial⟩
    · intro hb16
      refine LX.gT rfl rfl rfl hb16 (Y.move rfl) rfl rfl <| LX.gT rfl rfl rfl hb16 (Y.eqN rfl rfl) rfl rfl <| LX.p (Y.pickF rfl hb16 rfl) rfl ?_
      exact LX.left ⟨rfl, rfl, rfl, rfl, rfl, rfl, rfl, rfl, trivial⟩
    refine LX.mv rfl <| LX.su [0, 2, 4, 5, 6, 7, 176] rfl <| LX.nt ?_
    refine CX.cond rfl (fun hb17 => ?_) (fun hb17 => ?_)
    · try simp at hb17
      refine CX.region <| LX.ms 2 rfl <| LX.buildSlice (e := 5) (size := 1) rfl rfl (fun _ => by kernel_rfl) rfl dc rfl rfl rfl ?_
      intro gt220
      refine LX.appendT 4 Fr.el56 rfl rfl rfl rfl rfl rfl rfl (by omega) (by omega) rfl rfl rfl ?_
      intro g' cap'
      refine LX.mv rfl <| LX.su [0, 2, 4, 5, 7] rfl <| LX.next <| PX.blockN <| PX.thenN <| CX.region <| LX.ms 3 rfl <| LX.p (Y.fieldAddr0 Fr.fo58_1 rfl) rfl <| LX.p (Y.ldB 0 Fr.one3 rfl rfl rfl) rfl <| LX.mv rfl <| LX.p (Y.addN rfl rfl (by (simp only []; omega))) rfl <| LX.mv rfl <| LX.p (Y.fieldAddr0 Fr.fo58_1 rfl) rfl <| LX.storeB 0 Fr.sz3 rfl rfl rfl rfl rfl rfl rfl rfl <| LX.su [0, 2, 4, 5] rfl <| LX.next <| PX.blockN ?_
      exact PX.again (i := (j, acc, g, cap)) (j + 2, acc ++ [UInt8.ofNat (bt σ.s (j + 1))], g', cap') (by show e - (j + 2) < e - j; omega) ⟨rfl, rfl, rfl, by simp only [List.length_append, List.length_singleton]; rfl, trivial⟩ (fun w hw => ⟨⟨by show σ.pos + 1 ≤ j + 2; omega, by show j + 2 ≤ e; omega, by simp; omega, hesc.2, (txtR_esc (n := 1) hb9 hk2 hb12 (pieceR_q hj3 hk2 hb17) dc).symm.trans hi2⟩, by rw [List.map_append, List.map_singleton, b8_ofNat (bt_lt _ _), List.length_append]; simpa [rfI, flat, Value.cells, List.set] using hw⟩)
    try simp at hb17
    refine CX.seq <| CX.regionQ rfl (by kernel_rfl) <| LX.mv rfl <| LX.p (Y.eqN rfl rfl) rfl <| LX.mv rfl <| LX.su [0, 2, 4, 5, 7, 194] rfl ?_
    apply LX.joinAnd 8 202 194 rfl
    · intro hb18
      have hb18p := hb18
      try simp at hb18p
      refine LX.gT rfl rfl rfl hb18 (Y.move rfl) rfl rfl <| LX.gT rfl rfl rfl hb18 (Y.nilCheck rfl) rfl rfl <| LX.gT rfl rfl rfl hb18 (Y.fieldAddr0 Fr.fo58_1 rfl) rfl rfl <| LX.gT rfl rfl rfl hb18 (Y.ldB 0 Fr.one3 rfl rfl rfl) rfl rfl <| LX.gT rfl rfl rfl hb18 (Y.addN rfl rfl (by (simp only []; omega))) rfl rfl <| LX.gT rfl rfl rfl hb18 (Y.move rfl) rfl rfl <| LX.gT rfl rfl rfl hb18 (Y.ltN rfl rfl) rfl rfl <| LX.p (Y.pickT rfl hb18 rfl) rfl ?_
      exact LX.left ⟨rfl, rfl, rfl, rfl, rfl, rfl, rfl, trivial⟩
    · intro hb18
      refine LX.gF rfl rfl rfl hb18 rfl rfl <| LX.gF rfl rfl rfl hb18 rfl rfl <| LX.gF rfl rfl rfl hb18 rfl rfl <| LX.gF rfl rfl rfl hb18 rfl rfl <| LX.gF rfl rfl rfl hb18 rfl rfl <| LX.gF rfl rfl rfl hb18 rfl rfl <| LX.gF rfl rfl rfl hb18 rfl rfl <| LX.p (Y.pickF rfl hb18 rfl) rfl ?_
      exact LX.left ⟨rfl, rfl, rfl, rfl, rfl, rfl, rfl, trivial⟩
    refine LX.mv rfl <| LX.su [0, 2, 4, 5, 7, 203] rfl ?_
    apply LX.joinAnd 13 216 203 rfl
    · intro hb19
      have hb19p := hb19
      try simp at hb19p
      refine LX.gT rfl rfl rfl hb19 (Y.move rfl) rfl rfl <| LX.gT rfl rfl rfl hb19 (Y.nilCheck rfl) rfl rfl <| LX.gT rfl rfl rfl hb19 (Y.fieldAddr0 Fr.fo58_0 rfl) rfl rfl <| LX.gT rfl rfl rfl hb19 (Y.ldB 0 Fr.one9 rfl rfl rfl) rfl rfl <| LX.gT rfl rfl rfl hb19 (Y.move rfl) rfl rfl <| LX.gT rfl rfl rfl hb19 (Y.nilCheck rfl) rfl rfl <| LX.gT rfl rfl rfl hb19 (Y.fieldAddr0 Fr.fo58_1 rfl) rfl rfl <| LX.gT rfl rfl rfl hb19 (Y.ldB 0 Fr.one3 rfl rfl rfl) rfl rfl <| LX.gT rfl rfl rfl hb19 (Y.addN rfl rfl (by (simp only []; omega))) rfl rfl <| LX.gT rfl rfl rfl hb19 (Y.index rfl rfl Fr.un9 (by (simp only []; omega))) rfl rfl <| LX.callQT rfl rfl rfl hb19 (hex4_q _ (bt_lt _ _)) Fr.en45 rfl rfl rfl rfl <| LX.gT rfl rfl rfl hb19 (Y.geI rfl rfl) rfl rfl <| LX.p (Y.pickT rfl hb19 rfl) rfl ?_
      exact LX.left ⟨rfl, rfl, rfl, rfl, rfl, rfl, rfl, trivial⟩
    · intro hb19
      refine LX.gF rfl rfl rfl hb19 rfl rfl <| LX.gF rfl rfl rfl hb19 rfl rfl <| LX.gF rfl rfl rfl hb19 rfl rfl <| LX.gF rfl rfl rfl hb19 rfl rfl <| LX.gF rfl rfl rfl hb19 rfl rfl <| LX.gF rfl rfl rfl hb19 rfl rfl <| LX.gF rfl rfl rfl hb19 rfl rfl <| LX.gF rfl rfl rfl hb19 rfl rfl <| LX.gF rfl rfl rfl hb19 rfl rfl <| LX.gF rfl rfl rfl hb19 rfl rfl <| LX.gF rfl rfl rfl hb19 rfl rfl <| LX.gF rfl rfl rfl hb19 rfl rfl <| LX.p (Y.pickF rfl hb19 rfl) rfl ?_
      exact LX.left ⟨rfl, rfl, rfl, rfl, rfl, rfl, rfl, trivial⟩
    refine LX.mv rfl <| LX.su [0, 2, 4, 5, 7, 217] rfl ?_
    apply LX.joinAnd 13 230 217 rfl
    · intro hb20
      have hb20p := hb20
      try simp at hb20p
      refine LX.gT rfl rfl rfl hb20 (Y.move rfl) rfl rfl <| LX.gT rfl rfl rfl hb20 (Y.nilCheck rfl) rfl rfl <| LX.gT rfl rfl rfl hb20 (Y.fieldAddr0 Fr.fo58_0 rfl) rfl rfl <| LX.gT rfl rfl rfl hb20 (Y.ldB 0 Fr.one9 rfl rfl rfl) rfl rfl <| LX.gT rfl rfl rfl hb20 (Y.move rfl) rfl rfl <| LX.gT rfl rfl rfl hb20 (Y.nilCheck rfl) rfl rfl <| LX.gT rfl rfl rfl hb20 (Y.fieldAddr0 Fr.fo58_1 rfl) rfl rfl <| LX.gT rfl rfl rfl hb20 (Y.ldB 0 Fr.one3 rfl rfl rfl) rfl rfl <| LX.gT rfl rfl rfl hb20 (Y.addN rfl rfl (by (simp only []; omega))) rfl rfl <| LX.gT rfl rfl rfl hb20 (Y.index rfl rfl Fr.un9 (by (simp only []; omega))) rfl rfl <| LX.callQT rfl rfl rfl hb20 (hex4_q _ (bt_lt _ _)) Fr.en45 rfl rfl rfl rfl <| LX.gT rfl rfl rfl hb20 (Y.geI rfl rfl) rfl rfl <| LX.p (Y.pickT rfl hb20 rfl) rfl ?_
      exact LX.left ⟨rfl, rfl, rfl, rfl, rfl, rfl, rfl, trivial⟩
    · intro hb20
      refine LX.gF rfl rfl rfl hb20 rfl rfl <| LX.gF rfl rfl rfl hb20 rfl rfl <| LX.gF rfl rfl rfl hb20 rfl rfl <| LX.gF rfl rfl rfl hb20 rfl rfl <| LX.gF rfl rfl rfl hb20 rfl rfl <| LX.gF rfl rfl rfl hb20 rfl rfl <| LX.gF rfl rfl rfl hb20 rfl rfl <| LX.gF rfl rfl rfl hb20 rfl rfl <| LX.gF rfl rfl rfl hb20 rfl rfl <| LX.gF rfl rfl rfl hb20 rfl rfl <| LX.gF rfl rfl rfl hb20 rfl rfl <| LX.gF rfl rfl rfl hb20 rfl rfl <| LX.p (Y.pickF rfl hb20 rfl) rfl ?_
      exact LX.left ⟨rfl, rfl, rfl, rfl, rfl, rfl, rfl, trivial⟩
    refine LX.mv rfl <| LX.su [0, 2, 4, 5, 7, 191] rfl <| LX.nextQ <| PX.thenN ?_
    refine CX.cond rfl (fun hb21 => ?_) (fun hb21 => ?_)
    · try simp at hb21
      obtain ⟨x, hx, hx16, hxe⟩ := hexI_ge hb21.1.2
      obtain ⟨y, hy, hy16, hye⟩ := hexI_ge hb21.2
      have hj4 := hb21.1.1.2
      refine CX.seq <| CX.regionM [(0, .anywhere), (1, .anywhere), (2, .anywhere), (3, .anywhere), (4, .held), (5, .anywhere), (6, .anywhere), (7, .anywhere), (8, .held), (9, .held), (10, .held), (13, .anywhere), (14, .anywhere), (15, .anywhere), (16, .held), (17, .anywhere), (18, .anywhere), (19, .anywhere), (20, .held), (21, .held), (22, .held), (11, .alone), (12, .anywhere), (23, .alone), (24, .anywhere), (25, .anywhere), (26, .alone), (27, .alone), (28, .anywhere)] rfl (by kernel_rfl) <| MX.lift0 (i := 0) rfl (Y.move rfl) rfl rfl rfl <| MX.lift0 (i := 1) rfl (Y.move rfl) rfl rfl rfl <| MX.lift0 (i := 2) rfl (Y.nilCheck rfl) rfl rfl rfl <| MX.lift0 (i := 3) rfl (Y.fieldAddr0 Fr.fo58_0 rfl) rfl rfl rfl <| MX.lift1 (i := 4) (pend' := []) rfl (fun w hw => by exact hw) (Y.ldB 0 Fr.one9 rfl rfl rfl) rfl rfl rfl (by kernel_rfl) <| MX.lift0 (i := 5) rfl (Y.move rfl) rfl rfl rfl <| MX.lift0 (i := 6) rfl (Y.nilCheck rfl) rfl rfl rfl <| MX.lift0 (i := 7) rfl (Y.fieldAddr0 Fr.fo58_1 rfl) rfl rfl rfl <| MX.lift1 (i := 8) (pend' := [4]) rfl (fun w hw => by exact hw) (Y.ldB 0 Fr.one3 rfl rfl rfl) rfl rfl rfl (by kernel_rfl) <| MX.lift1 (i := 9) (pend' := [4]) rfl (fun w hw => by exact hw) (Y.addN rfl rfl (by (simp only []; omega))) rfl rfl rfl (by kernel_rfl) <| MX.lift1 (i := 10) (pend' := []) rfl (fun w hw => by exact hw) (Y.index rfl rfl Fr.un9 (by (simp only []; omega))) rfl rfl rfl (by kernel_rfl) <| MX.lift0 (i := 13) rfl (Y.move rfl) rfl rfl rfl <| MX.lift0 (i := 14) rfl (Y.nilCheck rfl) rfl rfl rfl <| MX.lift0 (i := 15) rfl (Y.fieldAddr0 Fr.fo58_0 rfl) rfl rfl rfl <| MX.lift1 (i := 16) (pend' := [10]) rfl (fun w hw => by exact hw) (Y.ldB 0 Fr.one9 rfl rfl rfl) rfl rfl rfl (by kernel_rfl) <| MX.lift0 (i := 17) rfl (Y.move rfl) rfl rfl rfl <| MX.lift0 (i := 18) rfl (Y.nilCheck rfl) rfl rfl rfl <| MX.lift0 (i := 19) rfl (Y.fieldAddr0 Fr.fo58_1 rfl) rfl rfl rfl <| MX.lift1 (i := 20) (pend' := [16, 10]) rfl (fun w hw => by exact hw) (Y.ldB 0 Fr.one3 rfl rfl rfl) rfl rfl rfl (by kernel_rfl) <| MX.lift1 (i := 21) (pend' := [16, 10]) rfl (fun w hw => by exact hw) (Y.addN rfl rfl (by (simp only []; omega))) rfl rfl rfl (by kernel_rfl) <| MX.lift1 (i := 22) (pend' := [10]) rfl (fun w hw => by exact hw) (Y.index rfl rfl Fr.un9 (by (simp only []; omega))) rfl rfl rfl (by kernel_rfl) <| MX.force (i := 11) rfl <| LX.callQ (show FnQ _ _ _ _ (.int .i64 (x : Int)) from hxe ▸ hex4_q _ (bt_lt _ _)) Fr.en45 rfl rfl rfl rfl rfl <| LX.nextM [22] (by kernel_rfl) (fun _ => (fun w hw => by exact hw)) <| MX.lift0 (i := 12) rfl (Y.mulN (a := 16) (b := x) rfl rfl (by omega)) rfl rfl rfl <| MX.force (i := 23) rfl <| LX.callQ (show FnQ _ _ _ _ (.int .i64 (y : Int)) from hye ▸ hex4_q _ (bt_lt _ _)) Fr.en45 rfl rfl rfl rfl rfl <| LX.nextM [] (by kernel_rfl) (fun h => absurd rfl h) <| MX.lift0 (i := 24) rfl (Y.addN (a := 16 * x) (b := y) rfl rfl (by omega)) rfl rfl rfl <| MX.lift0 (i := 25) rfl (Y.convN rfl Fr.un3 Fr.un5 (wrap_u8 (by omega))) rfl rfl rfl <| MX.force (i := 26) rfl <| LX.buildSlice (e := 5) (size := 1) rfl rfl (fun _ => by kernel_rfl) rfl dc rfl rfl rfl ?_
      intro gt302
      refine LX.nextM [] (by kernel_rfl) (fun h => absurd rfl h) <| MX.force (i := 27) rfl <| LX.appendT 4 Fr.el56 rfl rfl rfl rfl rfl rfl rfl (by omega) (by omega) rfl rfl rfl ?_
      intro g' cap'
      refine LX.nextM [] (by kernel_rfl) (fun h => absurd rfl h) <| MX.lift0 (i := 28) rfl (Y.assign rfl) rfl rfl rfl <| MX.sub (l' := [(0, _), (2, _), (4, _), (5, _), (7, _)]) ⟨rfl, rfl, rfl, rfl, rfl, trivial⟩ <| MX.done <| PX.thenN <| CX.region <| LX.mv rfl <| LX.su [0, 2, 4, 5, 7] rfl <| LX.next <| PX.blockN <| PX.thenN <| CX.region <| LX.ms 3 rfl <| LX.p (Y.fieldAddr0 Fr.fo58_1 rfl) rfl <| LX.p (Y.ldB 0 Fr.one3 rfl rfl rfl) rfl <| LX.mv rfl <| LX.p (Y.addN rfl rfl (by (simp only []; omega))) rfl <| LX.mv rfl <| LX.p (Y.fieldAddr0 Fr.fo58_1 rfl) rfl <| LX.storeB 0 Fr.sz3 rfl rfl rfl rfl rfl rfl rfl rfl <| LX.su [0, 2, 4, 5] rfl <| LX.next <| PX.blockN ?_
      exact PX.again (i := (j, acc, g, cap)) (j + 4, acc ++ [UInt8.ofNat (16 * x + y)], g', cap') (by show e - (j + 4) < e - j; omega) ⟨rfl, rfl, rfl, by simp only [List.length_append, List.length_singleton]; rfl, trivial⟩ (fun w hw => ⟨⟨by show σ.pos + 1 ≤ j + 4; omega, by show j + 4 ≤ e; omega, by simp; omega, inR_hex hesc.2 hb21.1.1.2 hx hy, (txtR_esc (n := 3) hb9 hk2 hb12 (pieceR_x hb21.1.1.2 hk2 hb21.1.1.1 hx hy) dc).symm.trans hi2⟩, by rw [List.map_append, List.map_singleton, b8_ofNat (by omega), List.length_append]; simpa [rfI, flat, Value.cells, List.set] using hw⟩)
    try simp at hb21
    refine CX.sr <| LX.ms 3 rfl <| LX.p (Y.fieldAddr0 Fr.fo58_1 rfl) rfl <| LX.p (Y.ldB 0 Fr.one3 rfl rfl rfl) rfl <| LX.call (fail4_c _) Fr.en22 rfl rfl rfl rfl rfl ?_
    intro _
    refine LX.su [0, 2, 4, 5, 7] rfl <| LX.nt <| CX.ret <| PX.blockR <| PX.thenR <| PX.blockR <| PX.thenR <| PX.blockR <| PX.thenR <| PX.ret0 (by simp) Try.results30 ?_
    exact fun w hw => ⟨({ σ with pos := j }, some _, p), rfl, ran_err (Sc.text_bad he (hi2.symm.trans (txt_esc_bad hb9 hk2 hb12 (pieceR_bad hj3 hk2 hb13 hb14 (by omega) (by simpa using hb21))))), hw.drop (.cons_cons _ (.cons_cons _ (.cons_cons _ (.cons_cons _ (List.sublist_cons_self _ _)))))⟩
  try simp at hb9
  refine CX.exit <| PX.thenE <| PX.thenE <| PX.blockE <| PX.thenN <| CX.sr <| LX.ms 2 rfl <| LX.p (Y.addN rfl rfl (by (simp only []; omega))) rfl <| LX.mv rfl <| LX.p (Y.fieldAddr0 Fr.fo58_1 rfl) rfl <| LX.storeB 0 Fr.sz3 rfl rfl rfl rfl rfl rfl rfl rfl <| LX.wq (rfI B { σ with pos := e + 1 } none p (.row g cap acc.length 5 1 (acc.map b8) :: fr)) rfl <| LX.su [0, 2, 5] rfl <| LX.nt <| CX.region <| LX.ms 2 rfl <| LX.p (Y.str 4 rfl rfl Fr.un56 Fr.un5 Fr.un9) rfl <| LX.mv rfl <| LX.call (put4_c _ _ _ (by omega)) Fr.en21 rfl rfl rfl rfl rfl ?_
  intro pT
  refine LX.sub (l' := []) trivial <| LX.next <| PX.ret0 (by simp) Try.results30 ?_
  exact fun w hw => ⟨(_, none, pT), rfl, ran_ok (Sc.text_ok he (hi2.symm.trans (txt_end (by omega)))), hw.drop (.cons_cons _ (.cons_cons _ (.cons_cons _ (.cons_cons _ (List.sublist_cons_self _ _)))))⟩

end Go.Proofs.Yteibddakpedogaa
