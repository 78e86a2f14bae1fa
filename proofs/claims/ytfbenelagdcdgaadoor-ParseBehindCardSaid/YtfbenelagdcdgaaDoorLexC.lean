/-
  Proved here: package lex: what Scan hands back.
-/
import Derived.Test.YtfbenelagdcdgaaDoorLexB
namespace Go.Proofs.YtfbenelagdcdgaaDoor.Lx
open Go.SX Go.RowKit Go.Lex
theorem sc_perm {a b c d : It} {fr : List It} : List.Perm (a :: b :: c :: d :: fr) (d :: b :: a :: c :: fr) := (List.perm_middle (l₁ := [a, b, c])).trans (.cons d (.swap b a _))
/-- the variable api.ErrLimit -/
structure EnvLim (w0 : World) (base : Nat) (eLim : Value) : Prop where
  lim : w0.cell? ⟨0, 0, none⟩ = some eLim
  lt : 0 < base
/-- what a scan hands back: its tokens; an error with its place; the limit -/
abbrev ScR := (Option Nat × Nat × Nat) ⊕ Option Nat
def scV (eLim : Value) : ScR → Value
  | .inl t => .tuple #[rv t.1 t.2.1 t.2.2, .nilIface]
  | .inr (some b) => .tuple #[.slice none 0 0, atV b]
  | .inr none => .tuple #[.slice none 0 0, eLim]
def scW (w0 : World) (base : Nat) (eLex : Value) (fr : List It) (s : List UInt8) : ScR → World → Prop
  | .inl t => fun w => ∃ ts, (s.length ≤ 65536 ∧ scan s = .ok ts ∧ ts.length = t.2.1) ∧ WA w0 base (.row t.1 t.2.2 t.2.1 57 3 (ts.flatMap tokC) :: fr) w
  | .inr (some b) => fun w => ∃ pos, (s.length ≤ 65536 ∧ scan s = .error pos) ∧ WA w0 base (atI b pos eLex :: fr) w
  | .inr none => fun w => 65536 < s.length ∧ WA w0 base fr w

theorem scan_c {w0 : World} {base : Nat} {fr : List It} {eLex eLim : Value} (hE : EnvLex w0 base eLex) (hM : EnvLim w0 base eLim) (s : List UInt8) (hs63 : s.length < 2 ^ 63) : FnC Tryd.prog 11 #[str s] (WA w0 base fr) (scV eLim) (scW w0 base eLex fr s) := by
  refine FnC.of_body (fn := Tryd.f11) [(0, _)] Tryd.func11 rfl Tryd.ntmps11 rfl ⟨rfl, trivial⟩ ?_
  refine CX.seq <| CX.region <| LX.pure (Y.assign rfl) rfl rfl rfl <| LX.pure (Y.assign rfl) rfl rfl rfl <| LX.sub (l' := [(0, _), (2, _), (3, _)]) ⟨rfl, rfl, rfl, trivial⟩ <| LX.next <| PX.thenN <| CX.seq <| CX.seq <| CX.region <| LX.pure (Y.move rfl) rfl rfl rfl <| LX.pure (Y.lenStr rfl F.un9 rfl) rfl rfl rfl <| LX.pure (Y.gtN rfl rfl) rfl rfl rfl <| LX.sub (l' := [(0, _), (2, _), (3, _), (8, _)]) ⟨rfl, rfl, rfl, rfl, trivial⟩ <| LX.next <| PX.thenN ?_
  refine CX.cond rfl (fun hb1 => ?_) (fun hb1 => ?_)
  · try simp at hb1
    refine CX.seq <| CX.regionQ rfl (by kernel_rfl) <| LX.pure (Y.ldO F.one25 rfl hM.lim hM.lt) rfl rfl rfl <| LX.pure (Y.assign rfl) rfl rfl rfl <| LX.pure (Y.assign rfl) rfl rfl rfl <| LX.sub (l' := [(0, _), (2, _), (3, _)]) ⟨rfl, rfl, rfl, trivial⟩ <| LX.nextQ <| PX.thenN <| CX.ret <| PX.thenR <| PX.ret2 (by simp) Tryd.results11 rfl rfl ?_
    exact fun w hw => ⟨.inr none, rfl, hb1, hw⟩
  try simp at hb1
  refine CX.skip <| PX.thenN <| CX.seq <| CX.region <| LX.pure (Y.move rfl) rfl rfl rfl <| LX.buildSlice (e := 3) (size := 1) rfl rfl (fun _ => by kernel_rfl) rfl (by decide) rfl rfl rfl ?_
  intro gt9
  refine LX.pure (Y.build (v := .agg #[str s, .int .i64 0, .slice none 0 0, rv (some gt9) 1 1, .slice none 0 0, .bool false]) rfl (fun _ => by kernel_rfl)) rfl rfl rfl <| LX.box rfl rfl rfl rfl rfl ?_
  intro B
  refine LX.world (W' := WA w0 base (scI B (Sc.start s) ⟨none, 0, some gt9, 1, none, 0⟩ fr)) (fun w hw => ((hw.nilRow 57 3).nilRow 5 1).perm (by
    simp only [scI, Sc.start, List.flatMap_nil, List.map_nil, List.length_nil]
    exact sc_perm)) ?_
  refine LX.pure (Y.assign rfl) rfl rfl rfl <| LX.sub (l' := [(2, _), (3, _), (4, _)]) ⟨rfl, rfl, rfl, trivial⟩ <| LX.next <| PX.thenN <| CX.seq <| CX.block <| CX.loop (τ := Sc × Sl) (fun _ : Sc × Sl => [(4, .pointer (some ⟨B, 0, none⟩))]) (fun (t : Sc × Sl) w => (Inv t.1 ∧ t.1.s = s ∧ t.1.go = (Sc.start s).go) ∧ WA w0 base (scI B t.1 t.2 fr) w) (fun t => t.1.s.length - t.1.pos) (Sc.start s, ⟨none, 0, some gt9, 1, none, 0⟩) ⟨rfl, trivial⟩ (fun w hw => ⟨⟨start_inv s, rfl, rfl⟩, hw⟩) ?_
  rintro ⟨σ, p⟩
  refine CX.have fun ⟨hIv, h1s, hgo⟩ => ?_
  dsimp only at hIv h1s hgo ⊢
  have hle := hIv.le
  have hfew := hIv.few
  have hsl : σ.s.length = s.length := by rw [h1s]
  refine CX.seq <| CX.seq <| CX.regionQ rfl (by kernel_rfl) <| LX.pure (Y.move rfl) rfl rfl rfl <| LX.pure (Y.nilCheck rfl) rfl rfl rfl <| LX.pure (Y.fieldAddr0 F.fo52_1 rfl) rfl rfl rfl <| LX.pure (Y.ldB 0 F.one3 rfl rfl rfl) rfl rfl rfl <| LX.pure (Y.move rfl) rfl rfl rfl <| LX.pure (Y.nilCheck rfl) rfl rfl rfl <| LX.pure (Y.fieldAddr0 F.fo52_0 rfl) rfl rfl rfl <| LX.pure (Y.ldB 0 F.one9 rfl rfl rfl) rfl rfl rfl <| LX.pure (Y.lenStr rfl F.un9 rfl) rfl rfl rfl <| LX.pure (Y.ltN rfl rfl) rfl rfl rfl <| LX.sub (l' := [(4, _), (23, _)]) ⟨rfl, rfl, trivial⟩ <| LX.nextQ <| PX.thenN ?_
  refine CX.cond rfl (fun hb2 => ?_) (fun hb2 => ?_)
  · try simp at hb2
    refine CX.skip <| PX.thenN <| CX.block <| CX.seq <| CX.region <| LX.pure (Y.move rfl) rfl rfl rfl <| LX.call (step_c hE (by rw [h1s]; omega) (by omega) (by omega) hIv.brk hIv.deep hIv.some hIv.head) F.en16 rfl rfl rfl rfl rfl ?_
    intro r
    refine LX.pure (Y.assign rfl) rfl rfl rfl <| LX.sub (l' := [(4, _), (5, _)]) ⟨rfl, rfl, trivial⟩ <| LX.next <| PX.thenN <| CX.seq <| CX.region <| LX.pure (Y.move rfl) rfl rfl rfl <| LX.pure (Y.neRes F.un25 rfl) rfl rfl rfl <| LX.sub (l' := [(4, _), (5, _), (27, _)]) ⟨rfl, rfl, rfl, trivial⟩ <| LX.next <| PX.thenN ?_
    refine CX.cond rfl (fun hb3 => ?_) (fun hb3 => ?_)
    · try simp at hb3
      obtain ⟨b, rfl⟩ := res_inr (by simpa using hb3)
      refine CX.seq <| CX.region <| LX.pure (Y.move rfl) rfl rfl rfl <| LX.pure (Y.assign rfl) rfl rfl rfl <| LX.pure (Y.assign rfl) rfl rfl rfl <| LX.sub (l' := [(2, _), (3, _), (4, _)]) ⟨rfl, rfl, rfl, trivial⟩ <| LX.next <| PX.thenN <| CX.ret <| PX.blockR <| PX.thenR <| PX.blockR <| PX.thenR <| PX.ret2 (by simp) Tryd.results11 rfl rfl ?_
      exact fun w ⟨q, h1, h2⟩ => ⟨.inr (some b), rfl, q, ⟨hb1, scan_err (hgo.symm.trans (go_err h1 (by omega)))⟩, h2⟩
    try simp at hb3
    obtain ⟨p2, rfl⟩ := res_inl (by simpa using hb3)
    refine CX.ex fun σ1 => CX.have fun hst => ?_
    have hok := Sc.step_ok hst hIv (by simpa using hb2)
    refine CX.skip <| PX.blockN ?_
    exact PX.again (L := (fun _ : Sc × Sl => [(4, .pointer (some ⟨B, 0, none⟩))])) (WW := (fun (t : Sc × Sl) w => (Inv t.1 ∧ t.1.s = s ∧ t.1.go = (Sc.start s).go) ∧ WA w0 base (scI B t.1 t.2 fr) w)) (μ := fun t => t.1.s.length - t.1.pos) (i := (σ, p)) (σ1, p2) (by show σ1.s.length - σ1.pos < σ.s.length - σ.pos; have := hok.2.2; rw [hok.2.1]; omega) ⟨rfl, trivial⟩ (fun w hw => ⟨⟨hok.1, hok.2.1.trans h1s, (go_step hst hIv (by simpa using hb2)).trans hgo⟩, hw⟩)
  try simp at hb2
  refine CX.exit <| PX.thenE <| PX.thenE <| PX.blockE <| PX.thenN <| CX.seq <| CX.seq <| CX.region <| LX.pure (Y.move rfl) rfl rfl rfl <| LX.pure (Y.nilCheck rfl) rfl rfl rfl <| LX.pure (Y.fieldAddr0 F.fo52_4 rfl) rfl rfl rfl <| LX.pure (Y.ldB 0 F.one50 rfl rfl rfl) rfl rfl rfl <| LX.pure (Y.lenSl rfl F.un50 rfl) rfl rfl rfl <| LX.pure (Y.gtN rfl rfl) rfl rfl rfl <| LX.sub (l' := [(4, _), (34, _)]) ⟨rfl, rfl, trivial⟩ <| LX.next <| PX.thenN ?_
  refine CX.cond rfl (fun hb4 => ?_) (fun hb4 => ?_)
  · try simp at hb4
    refine CX.seq <| CX.region <| LX.pure (Y.move rfl) rfl rfl rfl <| LX.pure (Y.nilCheck rfl) rfl rfl rfl <| LX.pure (Y.fieldAddr0 F.fo52_0 rfl) rfl rfl rfl <| LX.pure (Y.ldB 0 F.one9 rfl rfl rfl) rfl rfl rfl <| LX.pure (Y.lenStr rfl F.un9 rfl) rfl rfl rfl <| LX.call (bad_c hE _ (by rw [h1s]; omega)) F.en17 rfl rfl rfl rfl rfl ?_
    intro bE
    refine LX.pure (Y.assign rfl) rfl rfl rfl <| LX.pure (Y.assign rfl) rfl rfl rfl <| LX.sub (l' := [(2, _), (3, _), (4, _)]) ⟨rfl, rfl, rfl, trivial⟩ <| LX.next <| PX.thenN <| CX.ret <| PX.thenR <| PX.ret2 (by simp) Tryd.results11 rfl rfl ?_
    exact fun w hw => ⟨.inr (some bE), rfl, _, ⟨hb1, scan_brk (hgo.symm.trans (go_end (by omega))) (List.length_pos_iff.1 (by omega))⟩, by rw [← h1s]; exact errW hw⟩
  try simp at hb4
  have hnk := Sc.nl_keeps σ
  have hsn := hIv.some
  have hnb : σ.nl.blocks.length = σ.blocks.length := by rw [hnk.2.1]
  have hns : σ.nl.s = s := hnk.1.trans h1s
  have hnl : σ.nl.s.length = s.length := by rw [hns]
  have hnp := Sc.nl_pos σ
  have hon := hnk.2.2.2
  have hdp := hIv.deep
  refine CX.skip <| PX.thenN <| CX.seq <| CX.region <| LX.pure (Y.move rfl) rfl rfl rfl <| LX.call (newline_c (by omega)) F.en18 rfl rfl rfl rfl rfl ?_
  intro pT
  refine LX.sub (l' := [(4, _)]) ⟨rfl, trivial⟩ <| LX.next <| PX.thenN <| CX.seq <| CX.seq <| CX.region <| LX.pure (Y.move rfl) rfl rfl rfl <| LX.pure (Y.nilCheck rfl) rfl rfl rfl <| LX.pure (Y.fieldAddr0 F.fo52_3 rfl) rfl rfl rfl <| LX.pure (Y.ldB 0 F.one29 rfl rfl rfl) rfl rfl rfl <| LX.pure (Y.cutLo F.un29 F.sz3 rfl rfl (by (simp; omega))) rfl rfl rfl <| LX.pure (Y.lenSl rfl F.un29 rfl) rfl rfl rfl <| LX.pure (Y.move rfl) rfl rfl rfl <| LX.sub (l' := [(4, _), (48, _), (49, _)]) ⟨rfl, rfl, rfl, trivial⟩ <| LX.next <| PX.thenN <| CX.block <| CX.loop (τ := Nat × Sl) (fun t : Nat × Sl => [(4, .pointer (some ⟨B, 0, none⟩)), (48, .int .i64 ((σ.nl.blocks.length - 1 : Nat) : Int)), (49, .int .i64 (t.1 : Int))]) (fun (t : Nat × Sl) w => (t.1 ≤ σ.blocks.length - 1) ∧ WA w0 base (scI B { σ.nl with out := σ.nl.out ++ dedents t.1 s.length } t.2 fr) w) (fun t => σ.blocks.length - t.1) (0, pT) ⟨rfl, rfl, rfl, trivial⟩ (fun w hw => ⟨Nat.zero_le _, by simpa [dedents] using hw⟩) ?_
  rintro ⟨k, p3⟩
  refine CX.have fun hk => ?_
  dsimp only at hk ⊢
  refine CX.seq <| CX.region <| LX.pure (Y.ltN rfl rfl) rfl rfl rfl <| LX.sub (l' := [(4, _), (48, _), (49, _), (50, _)]) ⟨rfl, rfl, rfl, rfl, trivial⟩ <| LX.next <| PX.thenN <| CX.seq ?_
  refine CX.cond rfl (fun hb5 => ?_) (fun hb5 => ?_)
  · try simp at hb5
    refine CX.skip <| PX.thenN <| CX.seq <| CX.block <| CX.region <| LX.pure (Y.move rfl) rfl rfl rfl <| LX.pure (Y.move rfl) rfl rfl rfl <| LX.pure (Y.nilCheck rfl) rfl rfl rfl <| LX.pure (Y.fieldAddr0 F.fo52_0 rfl) rfl rfl rfl <| LX.pure (Y.ldB 0 F.one9 rfl rfl rfl) rfl rfl rfl <| LX.pure (Y.lenStr rfl F.un9 rfl) rfl rfl rfl <| LX.call (token_c _ _ _ (by simp [dedents]; omega)) F.en19 rfl rfl rfl rfl rfl ?_
    intro pT
    refine LX.sub (l' := [(4, _), (48, _), (49, _)]) ⟨rfl, rfl, rfl, trivial⟩ <| LX.next <| PX.blockN <| PX.thenN <| CX.region <| LX.pure (Y.addN rfl rfl (by (simp; omega))) rfl rfl rfl <| LX.pure (Y.move rfl) rfl rfl rfl <| LX.sub (l' := [(4, _), (48, _), (49, _)]) ⟨rfl, rfl, rfl, trivial⟩ <| LX.next ?_
    exact PX.again (L := (fun t : Nat × Sl => [(4, .pointer (some ⟨B, 0, none⟩)), (48, .int .i64 ((σ.nl.blocks.length - 1 : Nat) : Int)), (49, .int .i64 (t.1 : Int))])) (WW := (fun (t : Nat × Sl) w => (t.1 ≤ σ.blocks.length - 1) ∧ WA w0 base (scI B { σ.nl with out := σ.nl.out ++ dedents t.1 s.length } t.2 fr) w)) (μ := fun t => σ.blocks.length - t.1) (i := (k, p3)) (k + 1, pT) (by show σ.blocks.length - (k + 1) < σ.blocks.length - k; omega) ⟨rfl, rfl, rfl, trivial⟩ (fun w hw => ⟨by show k + 1 ≤ _; omega, by simpa [dedents_next, Sc.tok, hns] using hw⟩)
  try simp at hb5
  refine CX.exit <| PX.thenE <| PX.thenE <| PX.blockE <| PX.thenN <| CX.seq <| CX.region <| LX.pure (Y.move rfl) rfl rfl rfl <| LX.pure (Y.move rfl) rfl rfl rfl <| LX.pure (Y.nilCheck rfl) rfl rfl rfl <| LX.pure (Y.fieldAddr0 F.fo52_0 rfl) rfl rfl rfl <| LX.pure (Y.ldB 0 F.one9 rfl rfl rfl) rfl rfl rfl <| LX.pure (Y.lenStr rfl F.un9 rfl) rfl rfl rfl <| LX.call (token_c _ _ _ (by simp [dedents]; omega)) F.en19 rfl rfl rfl rfl rfl ?_
  intro pT
  refine LX.sub (l' := [(4, _)]) ⟨rfl, trivial⟩ <| LX.next <| PX.thenN <| CX.seq <| CX.region <| LX.pure (Y.move rfl) rfl rfl rfl <| LX.pure (Y.nilCheck rfl) rfl rfl rfl <| LX.pure (Y.fieldAddr0 F.fo52_2 rfl) rfl rfl rfl <| LX.pure (Y.ldB 0 F.one37 rfl rfl rfl) rfl rfl rfl <| LX.pure (Y.assign rfl) rfl rfl rfl <| LX.pure (Y.assign rfl) rfl rfl rfl <| LX.sub (l' := [(2, _), (3, _)]) ⟨rfl, rfl, trivial⟩ <| LX.next <| PX.thenN <| CX.ret <| PX.ret2 (by simp) Tryd.results11 rfl rfl ?_
  have hkk : k = σ.blocks.length - 1 := by omega
  subst hkk
  have e : (({ σ.nl with out := σ.nl.out ++ dedents (σ.blocks.length - 1) s.length } : Sc).tok 8 [] σ.nl.s.length).out = σ.nl.out ++ dedents (σ.blocks.length - 1) s.length ++ [⟨8, [], s.length⟩] := by simp [Sc.tok, hns]
  refine fun w hw => ⟨.inl (pT.go, _, pT.co), rfl, _, ⟨hb1, scan_ok (hgo.symm.trans (go_end (by omega))) hb4, congrArg List.length e.symm⟩, ?_⟩
  rw [← e]
  exact hw.drop ((((List.Sublist.refl fr).cons _).cons _).cons_cons _ |>.cons _)

end Go.Proofs.YtfbenelagdcdgaaDoor.Lx
