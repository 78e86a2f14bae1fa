/-
  Proved here: the ways as the document goes them.
-/
import Derived.Test.YtgijpgkckiknjaaGreatDoorCkB
namespace Go.Proofs.YtgijpgkckiknjaaGreatDoor
open Go.SX Go.RowKit Go.Ck
namespace Fm
theorem ag124 : AggT Tryz.prog 124 6 := AggT.of (by kernel_rfl) (by kernel_rfl)
theorem ag57 : AggT Tryz.prog 57 4 := AggT.of (by kernel_rfl) (by kernel_rfl)
theorem ag65 : AggT Tryz.prog 65 4 := AggT.of (by kernel_rfl) (by kernel_rfl)
theorem en120 : Enters Tryz.prog 120 := Enters.of Tryz.func120 (by kernel_rfl) (by kernel_rfl)
theorem en121 : Enters Tryz.prog 121 := Enters.of Tryz.func121 (by kernel_rfl) (by kernel_rfl)
theorem en24 : Enters Tryz.prog 24 := Enters.of Tryz.func24 (by kernel_rfl) (by kernel_rfl)
theorem fa124_2 : FieldOffA Tryz.prog 124 2 2 := fun a w => by kernel_rfl
theorem fa203_0 : FieldOffA Tryz.prog 203 0 0 := fun a w => by kernel_rfl
theorem fa203_1 : FieldOffA Tryz.prog 203 1 4 := fun a w => by kernel_rfl
theorem fa203_2 : FieldOffA Tryz.prog 203 2 10 := fun a w => by kernel_rfl
theorem fa203_3 : FieldOffA Tryz.prog 203 3 11 := fun a w => by kernel_rfl
theorem fo124_2 : FieldOff Tryz.prog 124 2 2 := fun b o w => by kernel_rfl
theorem fo203_0 : FieldOff Tryz.prog 203 0 0 := fun b o w => by kernel_rfl
theorem fo203_1 : FieldOff Tryz.prog 203 1 4 := fun b o w => by kernel_rfl
theorem fo203_2 : FieldOff Tryz.prog 203 2 10 := fun b o w => by kernel_rfl
theorem fo203_3 : FieldOff Tryz.prog 203 3 11 := fun b o w => by kernel_rfl
theorem one42 : One Tryz.prog 42 := fun w => by kernel_rfl
theorem sz124 : SizeIs Tryz.prog 124 6 := fun w => by kernel_rfl
theorem sz42 : SizeIs Tryz.prog 42 1 := fun w => by kernel_rfl
theorem sz65 : SizeIs Tryz.prog 65 4 := fun w => by kernel_rfl
theorem zv65 : ∀ w, (zeroValue 65).run Tryz.prog w = .ok (.agg #[.int .i64 0, .int .i64 0, .int .i64 0, .int .i64 0]) w := fun w => by kernel_rfl
end Fm
theorem come_c {w0 : World} {base : Nat} {fr : List It} {X : Cx} {p : Pg} {f : Fc} (hX : CkAt (Lies w0 base) X p f) (hg : ∀ g ∈ p.funcs, 0 ≤ g.given) (hfit : ∀ i ∈ f.code, fits p f i) (hl : p.consts.length ≤ 1048576 ∧ p.globals.length ≤ 1048576 ∧ p.names.length ≤ 1048576 ∧ p.funcs.length ≤ 1048576 ∧ f.code.length ≤ 1048576 ∧ f.slots ≤ 1048576) (hl3 : p.funcs.length ≤ 20 ∧ f.code.length ≤ 300 ∧ f.code ≠ []) (bw gb : Nat) {H : List Int} {Wk : List Nat} {mw : Nat} {g : Option Nat} {cap : Nat} {k : Nat} {z h : Int} (hz : z = (k : Int)) {Pd : List (Nat × Int)} (hinv : InvR p f H Wk ((k, h) :: Pd)) (hm : Wk.length = mw) (hmb : mw ≤ vis H) : FnC Tryz.prog 120 #[.pointer (some ⟨bw, 0, none⟩), .int .i64 z, .int .i64 h] (WA w0 base (blk bw (X.wall p f gb g mw cap) 203 :: .row (some gb) f.code.length f.code.length 3 1 (H.map iv) :: .row g cap mw 3 1 (Wk.map vn) :: fr)) (fun (s : Bool × List Int × List Nat × Nat × Option Nat × Nat) => .bool s.1) (fun (s : Bool × List Int × List Nat × Nat × Option Nat × Nat) w => ((s.1 = true → InvR p f s.2.1 s.2.2.1 Pd ∧ s.2.2.1.length = s.2.2.2.1 ∧ s.2.2.2.1 ≤ vis s.2.1 ∧ 2 * (f.code.length - vis s.2.1) + s.2.2.2.1 ≤ 2 * (f.code.length - vis H) + mw) ∧ (s.1 = false → ¬Ck.Good p f ∧ (f.code.length ≤ k ∨ ∃ q, H[k]? = some q ∧ 0 ≤ q))) ∧ WA w0 base (blk bw (X.wall p f gb s.2.2.2.2.1 s.2.2.2.1 s.2.2.2.2.2) 203 :: .row (some gb) f.code.length f.code.length 3 1 (s.2.1.map iv) :: .row s.2.2.2.2.1 s.2.2.2.2.2 s.2.2.2.1 3 1 (s.2.2.1.map vn) :: fr) w) := by
  subst hz
  refine FnC.of_body (fn := Tryz.f120) [(0, _), (1, _), (2, _)] Tryz.func120 rfl Tryz.ntmps120 rfl ⟨rfl, rfl, rfl, trivial⟩ ?_
  refine CX.seq ?_
  refine CX.region ?_
  refine LX.pure (Y.assign rfl) rfl rfl rfl ?_
  refine LX.sub (l' := [(0, _), (1, _), (2, _), (6, _)]) ⟨rfl, rfl, rfl, rfl, trivial⟩ ?_
  refine LX.next ?_
  refine PX.thenN ?_
  refine CX.seq ?_
  refine CX.seq ?_
  refine CX.region ?_
  refine LX.pure (Y.move rfl) rfl rfl rfl ?_
  refine LX.pure (Y.ltN rfl rfl) rfl rfl rfl ?_
  refine LX.pure (Y.move rfl) rfl rfl rfl ?_
  refine LX.sub (l' := [(0, _), (1, _), (2, _), (6, _), (9, _)]) ⟨rfl, rfl, rfl, rfl, rfl, trivial⟩ ?_
  apply LX.joinOr 9 18 9 rfl
  · intro hb1
    simp at hb1; done
  · intro hb1
    have hb1p := hb1
    try simp at hb1p
    refine LX.gT rfl rfl rfl hb1 (Y.move rfl) rfl rfl ?_
    refine LX.gT rfl rfl rfl hb1 (Y.move rfl) rfl rfl ?_
    refine LX.gT rfl rfl rfl hb1 (Y.nilCheck rfl) rfl rfl ?_
    refine LX.gT rfl rfl rfl hb1 (Y.fieldAddr0 Fm.fo203_1 rfl) rfl rfl ?_
    refine LX.gT rfl rfl rfl hb1 (Y.fieldAddr Fk.fo124_5 rfl) rfl rfl ?_
    refine LX.gT rfl rfl rfl hb1 (Y.ldB 0 Fk.one122 rfl rfl rfl) rfl rfl ?_
    refine LX.gT rfl rfl rfl hb1 (Y.lenSl rfl Fk.un122 rfl) rfl rfl ?_
    refine LX.gT rfl rfl rfl hb1 (Y.geN rfl rfl) rfl rfl ?_
    refine LX.pure (Y.pickF rfl hb1 rfl) rfl rfl rfl ?_
    exact LX.left ⟨rfl, rfl, rfl, rfl, rfl, rfl, trivial⟩
  refine LX.sub (l' := [(0, _), (1, _), (2, _), (6, _), (18, _)]) ⟨rfl, rfl, rfl, rfl, rfl, trivial⟩ ?_
  refine LX.next ?_
  refine PX.thenN ?_
  refine CX.cond rfl (fun hb2 => ?_) (fun hb2 => ?_)
  · try simp at hb2
    refine CX.seq ?_
    refine CX.region ?_
    refine LX.pure (Y.assign rfl) rfl rfl rfl ?_
    refine LX.sub (l' := [(0, _), (1, _), (2, _), (6, _)]) ⟨rfl, rfl, rfl, rfl, trivial⟩ ?_
    refine LX.next ?_
    refine PX.thenN ?_
    refine CX.ret ?_
    refine PX.thenR ?_
    refine PX.ret1 (by simp) Tryz.results120 rfl ?_
    have hno : ¬Ck.Good p f := fun h => h.not_far (hinv.r2 _ (List.mem_cons_self ..)) (by omega)
    exact fun w hw => ⟨(false, H, Wk, mw, g, cap), rfl, ⟨(fun e => by cases e), fun _ => ⟨hno, .inl (by omega)⟩⟩, hw⟩
  · try simp at hb2
    have hlen := hinv.len
    have hkn : k < H.length := by omega
    obtain ⟨qv, hq⟩ : ∃ qv, H[k]? = some qv := ⟨_, List.getElem?_eq_getElem hkn⟩
    refine CX.skip ?_
    refine PX.thenN ?_
    refine CX.seq ?_
    refine CX.seq ?_
    refine CX.region ?_
    refine LX.pure (Y.move rfl) rfl rfl rfl ?_
    refine LX.pure (Y.nilCheck rfl) rfl rfl rfl ?_
    refine LX.pure (Y.fieldAddr0 Fm.fo203_2 rfl) rfl rfl rfl ?_
    refine LX.pure (Y.ldB 0 Fm.one42 rfl rfl rfl) rfl rfl rfl ?_
    refine LX.pure (Y.move rfl) rfl rfl rfl ?_
    refine LX.pure (Y.idxRZ 1 (i := k) Fl.un42 Fk.sz3 rfl rfl rfl rfl (by omega)) rfl rfl rfl ?_
    refine LX.pure (Y.ldR 1 (v := .int .i64 qv) Fk.one3 rfl rfl (iv_at hq)) rfl rfl rfl ?_
    refine LX.pure (Y.ltI rfl rfl) rfl rfl rfl ?_
    refine LX.sub (l' := [(0, _), (1, _), (2, _), (6, _), (26, _)]) ⟨rfl, rfl, rfl, rfl, rfl, trivial⟩ ?_
    refine LX.next ?_
    refine PX.thenN ?_
    refine CX.cond rfl (fun hb3 => ?_) (fun hb3 => ?_)
    · try simp at hb3
      have hqn : qv < 0 := by omega
      have hxb := hinv.bP (k, h) (List.mem_cons_self ..)
      have hv : vis (H.set k h) = vis H + 1 := vis_set hq hqn hxb.1
      have hlt := vis_lt hq hqn
      have hvl := vis_le H
      refine CX.seq ?_
      refine CX.region ?_
      refine LX.pure (Y.move rfl) rfl rfl rfl ?_
      refine LX.pure (Y.nilCheck rfl) rfl rfl rfl ?_
      refine LX.pure (Y.fieldAddr0 Fm.fo203_2 rfl) rfl rfl rfl ?_
      refine LX.pure (Y.ldB 0 Fm.one42 rfl rfl rfl) rfl rfl rfl ?_
      refine LX.pure (Y.move rfl) rfl rfl rfl ?_
      refine LX.pure (Y.move rfl) rfl rfl rfl ?_
      refine LX.pure (Y.idxRZ 1 (i := k) Fl.un42 Fk.sz3 rfl rfl rfl rfl (by omega)) rfl rfl rfl ?_
      refine LX.storeR 1 Fk.sz3 rfl rfl rfl rfl rfl (by rw [List.length_map]; omega) rfl rfl ?_
      refine LX.sub (l' := [(0, _), (1, _), (2, _), (6, _)]) ⟨rfl, rfl, rfl, rfl, trivial⟩ ?_
      refine LX.next ?_
      refine PX.thenN ?_
      refine CX.seq ?_
      refine CX.region ?_
      refine LX.pure (Y.move rfl) rfl rfl rfl ?_
      refine LX.pure (Y.move rfl) rfl rfl rfl ?_
      refine LX.pure (Y.nilCheck rfl) rfl rfl rfl ?_
      refine LX.pure (Y.fieldAddr0 Fm.fo203_3 rfl) rfl rfl rfl ?_
      refine LX.pure (Y.ldB 0 Fm.one42 rfl rfl rfl) rfl rfl rfl ?_
      refine LX.pure (Y.move rfl) rfl rfl rfl ?_
      refine LX.buildSlice (e := 3) (size := 1) rfl rfl (fun _ => by kernel_rfl) rfl (by decide) rfl rfl rfl ?_
      intro gt36
      refine LX.appendT 2 Fl.el42 rfl rfl rfl rfl rfl rfl rfl (by omega) (by omega) rfl rfl rfl ?_
      intro g2 cap2
      refine LX.pure (Y.nilCheck rfl) rfl rfl rfl ?_
      refine LX.pure (Y.fieldAddr0 Fm.fo203_3 rfl) rfl rfl rfl ?_
      refine LX.storeB 0 Fm.sz42 rfl rfl rfl rfl rfl rfl rfl rfl ?_
      refine LX.sub (l' := [(0, _), (1, _), (2, _), (6, _)]) ⟨rfl, rfl, rfl, rfl, trivial⟩ ?_
      refine LX.next ?_
      refine PX.thenN ?_
      refine CX.seq ?_
      refine CX.region ?_
      refine LX.pure (Y.assign rfl) rfl rfl rfl ?_
      refine LX.sub (l' := [(0, _), (1, _), (2, _), (6, _)]) ⟨rfl, rfl, rfl, rfl, trivial⟩ ?_
      refine LX.next ?_
      refine PX.thenN ?_
      refine CX.ret ?_
      refine PX.thenR ?_
      refine PX.ret1 (by simp) Tryz.results120 rfl ?_
      exact fun w hw => ⟨(true, H.set k h, Wk ++ [k], mw + 1, g2, cap2), rfl, ⟨fun _ => ⟨hinv.new hq hqn hg hfit, by rw [List.length_append, hm]; rfl, by show mw + 1 ≤ vis (H.set k h); omega, by show 2 * (f.code.length - vis (H.set k h)) + (mw + 1) ≤ 2 * (f.code.length - vis H) + mw; omega⟩, fun e => by cases e⟩, by have h1 := hw; rw [Nat.mul_one] at h1; rw [List.map_append, ← iv_set]; exact h1⟩
    · try simp at hb3
      refine CX.skip ?_
      refine PX.thenN ?_
      refine CX.seq ?_
      refine CX.region ?_
      refine LX.pure (Y.move rfl) rfl rfl rfl ?_
      refine LX.pure (Y.nilCheck rfl) rfl rfl rfl ?_
      refine LX.pure (Y.fieldAddr0 Fm.fo203_2 rfl) rfl rfl rfl ?_
      refine LX.pure (Y.ldB 0 Fm.one42 rfl rfl rfl) rfl rfl rfl ?_
      refine LX.pure (Y.move rfl) rfl rfl rfl ?_
      refine LX.pure (Y.idxRZ 1 (i := k) Fl.un42 Fk.sz3 rfl rfl rfl rfl (by omega)) rfl rfl rfl ?_
      refine LX.pure (Y.ldR 1 (v := .int .i64 qv) Fk.one3 rfl rfl (iv_at hq)) rfl rfl rfl ?_
      refine LX.pure (Y.move rfl) rfl rfl rfl ?_
      refine LX.pure (Y.eqI rfl rfl) rfl rfl rfl ?_
      refine LX.pure (Y.assign rfl) rfl rfl rfl ?_
      refine LX.sub (l' := [(6, _)]) ⟨rfl, trivial⟩ ?_
      refine LX.next ?_
      refine PX.thenN ?_
      refine CX.ret ?_
      refine PX.ret1 (by simp) Tryz.results120 rfl ?_
      exact fun w hw => by
        by_cases hqh : qv = h
        · subst hqh
          exact ⟨(true, H, Wk, mw, g, cap), by simp, ⟨fun _ => ⟨hinv.same hq, hm, hmb, Nat.le_refl _⟩, fun e => by cases e⟩, hw⟩
        · refine ⟨(false, H, Wk, mw, g, cap), by simp [hqh], ⟨(fun e => by cases e), fun _ => ⟨fun hG => hqh (hG.one _ _ _ (hinv.r1 _ _ hq (by omega)) (hinv.r2 (k, h) (List.mem_cons_self ..))), .inr ⟨qv, hq, by omega⟩⟩⟩, hw⟩
theorem step_c {w0 : World} {base : Nat} {fr : List It} {X : Cx} {p : Pg} {f : Fc} (hX : CkAt (Lies w0 base) X p f) (hg : ∀ g ∈ p.funcs, 0 ≤ g.given) (hfit : ∀ i ∈ f.code, fits p f i) (hl : p.consts.length ≤ 1048576 ∧ p.globals.length ≤ 1048576 ∧ p.names.length ≤ 1048576 ∧ p.funcs.length ≤ 1048576 ∧ f.code.length ≤ 1048576 ∧ f.slots ≤ 1048576) (hl3 : p.funcs.length ≤ 20 ∧ f.code.length ≤ 300 ∧ f.code ≠ []) (bw gb : Nat) {H : List Int} {Wk : List Nat} {mw : Nat} {g : Option Nat} {cap : Nat} {k : Nat} (hinv : InvR p f H (Wk ++ [k]) []) (hm : Wk.length = mw) (hmb : mw + 1 ≤ vis H) : FnC Tryz.prog 121 #[.pointer (some ⟨bw, 0, none⟩), .int .i64 (k : Int)] (WA w0 base (blk bw (X.wall p f gb g mw cap) 203 :: .row (some gb) f.code.length f.code.length 3 1 (H.map iv) :: .row g cap mw 3 1 (Wk.map vn) :: fr)) (fun (s : Bool × List Int × List Nat × Nat × Option Nat × Nat) => .bool s.1) (fun (s : Bool × List Int × List Nat × Nat × Option Nat × Nat) w => ((s.1 = true → InvR p f s.2.1 s.2.2.1 [] ∧ s.2.2.1.length = s.2.2.2.1 ∧ s.2.2.2.1 ≤ vis s.2.1 ∧ 2 * (f.code.length - vis s.2.1) + s.2.2.2.1 ≤ 2 * (f.code.length - vis H) + mw) ∧ (s.1 = false → ¬Ck.Good p f)) ∧ WA w0 base (blk bw (X.wall p f gb s.2.2.2.2.1 s.2.2.2.1 s.2.2.2.2.2) 203 :: .row (some gb) f.code.length f.code.length 3 1 (s.2.1.map iv) :: .row s.2.2.2.2.1 s.2.2.2.2.2 s.2.2.2.1 3 1 (s.2.2.1.map vn) :: fr) w) := by
  obtain ⟨q, hq, h0⟩ := hinv.w k (List.mem_append_right _ (List.mem_singleton.2 rfl))
  have hlen := hinv.len
  have hkn : k < H.length := (List.getElem?_eq_some_iff.1 hq).1
  obtain ⟨i, hi⟩ : ∃ i, f.code[k]? = some i := ⟨_, List.getElem?_eq_getElem (by omega)⟩
  have hfi := hfit i (List.mem_of_getElem? hi)
  obtain ⟨a, cs, hav, hcl, hL, rfl, hin1, hin2, hin3, hin4⟩ := hX.hD k i hi
  have hk : k < f.code.length := (List.getElem?_eq_some_iff.1 hi).1
  have hab := fits_a hfi hl
  have hbb := fits_b hfi
  have hpt := eff_le hfi
  have hptn := (eff_nn i).2
  have htn := takes_nn hg i
  have hvl := vis_le H
  have hqb : q ≤ 1099511627776 := by rcases hinv.bH k q hq with e | e <;> omega
  refine FnC.of_body (fn := Tryz.f121) [(0, _), (1, _)] Tryz.func121 rfl Tryz.ntmps121 rfl ⟨rfl, rfl, trivial⟩ ?_
  refine CX.seq ?_
  refine CX.region ?_
  refine LX.pure (Y.assign rfl) rfl rfl rfl ?_
  refine LX.sub (l' := [(0, _), (1, _), (4, _)]) ⟨rfl, rfl, rfl, trivial⟩ ?_
  refine LX.next ?_
  refine PX.thenN ?_
  refine CX.seq ?_
  refine CX.region ?_
  refine LX.pure (Y.move rfl) rfl rfl rfl ?_
  refine LX.pure (Y.nilCheck rfl) rfl rfl rfl ?_
  refine LX.pure (Y.fieldAddr0 Fm.fo203_1 rfl) rfl rfl rfl ?_
  refine LX.pure (Y.fieldAddr Fk.fo124_5 rfl) rfl rfl rfl ?_
  refine LX.pure (Y.ldB 0 Fk.one122 rfl rfl rfl) rfl rfl rfl ?_
  refine LX.pure (Y.move rfl) rfl rfl rfl ?_
  refine LX.pure (Y.idxZ Fk.un122 Fm.sz65 rfl rfl hav (j := k) rfl hk) rfl rfl rfl ?_
  refine LX.pure (Y.ldAO (cs := insCs i) Fm.ag65 rfl hL rfl) rfl rfl rfl ?_
  refine LX.alloc rfl Fm.zv65 rfl rfl rfl ?_
  intro bx9
  refine LX.storeA 0 Fm.ag65 rfl rfl rfl rfl rfl rfl rfl rfl rfl ?_
  refine LX.sub (l' := [(0, _), (1, _), (4, _), (5, _)]) ⟨rfl, rfl, rfl, rfl, trivial⟩ ?_
  refine LX.next ?_
  refine PX.thenN ?_
  refine CX.seq ?_
  refine CX.region ?_
  refine LX.pure (Y.move rfl) rfl rfl rfl ?_
  refine LX.pure (Y.nilCheck rfl) rfl rfl rfl ?_
  refine LX.pure (Y.fieldAddr0 Fm.fo203_2 rfl) rfl rfl rfl ?_
  refine LX.pure (Y.ldB 1 Fm.one42 rfl rfl rfl) rfl rfl rfl ?_
  refine LX.pure (Y.move rfl) rfl rfl rfl ?_
  refine LX.pure (Y.idxR 2 Fl.un42 Fk.sz3 rfl rfl rfl (by omega)) rfl rfl rfl ?_
  refine LX.pure (Y.ldR 2 (v := .int .i64 q) Fk.one3 rfl rfl (iv_at hq)) rfl rfl rfl ?_
  refine LX.pure (Y.assign rfl) rfl rfl rfl ?_
  refine LX.sub (l' := [(0, _), (1, _), (4, _), (5, _), (6, _)]) ⟨rfl, rfl, rfl, rfl, rfl, trivial⟩ ?_
  refine LX.next ?_
  refine PX.thenN ?_
  refine CX.seq ?_
  refine CX.region ?_
  refine LX.pure (Y.ldAggB (vs := insCs i) 0 Fm.ag65 rfl rfl rfl rfl) rfl rfl rfl ?_
  refine LX.call (refEffect_c (by omega) (by omega)) Fm.en24 rfl rfl rfl rfl rfl ?_
  intro _
  refine LX.pure (Y.move rfl) rfl rfl rfl ?_
  refine LX.pure (Y.extract rfl rfl) rfl rfl rfl ?_
  refine LX.pure (Y.extract rfl rfl) rfl rfl rfl ?_
  refine LX.pure (Y.assign rfl) rfl rfl rfl ?_
  refine LX.pure (Y.assign rfl) rfl rfl rfl ?_
  refine LX.sub (l' := [(0, _), (1, _), (4, _), (5, _), (6, _), (7, _), (8, _)]) ⟨rfl, rfl, rfl, rfl, rfl, rfl, rfl, trivial⟩ ?_
  refine LX.next ?_
  refine PX.thenN ?_
  refine CX.seqV (l0 := [(0, _), (1, _), (4, _), (5, _), (6, _), (8, _)]) 7 (.int .i64 (takes p i)) ⟨rfl, rfl, rfl, rfl, rfl, rfl, trivial⟩ ?_ ?_
  ·
    refine CX.seq ?_
    refine CX.region ?_
    refine LX.pure (Y.fieldAddr0 Fk.fo65_0 rfl) rfl rfl rfl ?_
    refine LX.pure (Y.ldB 0 Fk.one3 rfl rfl rfl) rfl rfl rfl ?_
    refine LX.pure (Y.eqI rfl rfl) rfl rfl rfl ?_
    refine LX.sub (l' := [(0, _), (1, _), (4, _), (5, _), (6, _), (7, _), (8, _), (32, _)]) ⟨rfl, rfl, rfl, rfl, rfl, rfl, rfl, rfl, trivial⟩ ?_
    refine LX.next ?_
    refine PX.thenN ?_
    refine CX.cond rfl (fun hb1 => ?_) (fun hb1 => ?_)
    · try simp at hb1
      refine CX.regionQ rfl (by kernel_rfl) ?_
      refine LX.pure (Y.move rfl) rfl rfl rfl ?_
      refine LX.pure (Y.nilCheck rfl) rfl rfl rfl ?_
      refine LX.pure (Y.fieldAddr0 Fm.fo203_0 rfl) rfl rfl rfl ?_
      refine LX.pure (Y.fieldAddr0 Fk.fo57_0 rfl) rfl rfl rfl ?_
      refine LX.pure (Y.ldB 1 Fk.one55 rfl rfl rfl) rfl rfl rfl ?_
      refine LX.pure (Y.fieldAddr0 Fk.fo65_1 rfl) rfl rfl rfl ?_
      refine LX.pure (Y.ldB 0 Fk.one3 rfl rfl rfl) rfl rfl rfl ?_
      have h28 := fits_28 hfi hb1
      obtain ⟨gf, hgx⟩ : ∃ gf, p.funcs[i.a.toNat]? = some gf := ⟨_, List.getElem?_eq_getElem (by omega)⟩
      obtain ⟨a2, cs2, hav2, _, hL2, vn_, vc_, rfl, _⟩ := hX.hF _ gf hgx
      refine LX.pure (Y.idxZ Fk.un55 Fm.sz124 rfl rfl hav2 (j := i.a.toNat) (by omega) (by omega)) rfl rfl rfl ?_
      refine LX.pure (Y.fieldA Fm.fa124_2 rfl) rfl rfl rfl ?_
      refine LX.pure (Y.ldFO (v := .int .i64 gf.given) Fk.one3 rfl hL2 rfl) rfl rfl rfl ?_
      refine LX.pure (Y.assign rfl) rfl rfl rfl ?_
      refine LX.sub (l' := [(0, _), (1, _), (4, _), (5, _), (6, _), (7, _), (8, _)]) ⟨rfl, rfl, rfl, rfl, rfl, rfl, rfl, trivial⟩ ?_
      refine LX.nextQ ?_
      exact PX.val ⟨congrArg (fun z => some (Value.int .i64 z)) (show gf.given = takes p i from by unfold takes; rw [if_pos hb1, hgx]; rfl), rfl, rfl, rfl, rfl, rfl, rfl, trivial⟩
    · try simp at hb1
      refine CX.skip ?_
      exact PX.val ⟨congrArg (fun z => some (Value.int .i64 z)) (show tk i = takes p i from by unfold takes; rw [if_neg hb1]), rfl, rfl, rfl, rfl, rfl, rfl, trivial⟩
  refine CX.seqVF (l0 := [(0, _), (1, _), (4, _), (5, _), (7, _), (8, _)]) (¬(i.op = 26 ∧ q < i.b + 1)) 6 (.int .i64 q) ⟨rfl, rfl, rfl, rfl, rfl, rfl, trivial⟩ ?_ (fun h26 => ?_)
  ·
    refine CX.seq ?_
    refine CX.region ?_
    refine LX.pure (Y.fieldAddr0 Fk.fo65_0 rfl) rfl rfl rfl ?_
    refine LX.pure (Y.ldB 0 Fk.one3 rfl rfl rfl) rfl rfl rfl ?_
    refine LX.pure (Y.eqI rfl rfl) rfl rfl rfl ?_
    refine LX.sub (l' := [(0, _), (1, _), (4, _), (5, _), (6, _), (7, _), (8, _), (45, _)]) ⟨rfl, rfl, rfl, rfl, rfl, rfl, rfl, rfl, trivial⟩ ?_
    refine LX.next ?_
    refine PX.thenN ?_
    refine CX.cond rfl (fun hb2 => ?_) (fun hb2 => ?_)
    · try simp at hb2
      refine CX.seq ?_
      refine CX.region ?_
      refine LX.pure (Y.move rfl) rfl rfl rfl ?_
      refine LX.pure (Y.fieldAddr0 Fk.fo65_2 rfl) rfl rfl rfl ?_
      refine LX.pure (Y.ldB 0 Fk.one3 rfl rfl rfl) rfl rfl rfl ?_
      refine LX.pure (Y.add rfl rfl (by omega)) rfl rfl rfl ?_
      refine LX.pure (Y.ltI rfl rfl) rfl rfl rfl ?_
      refine LX.sub (l' := [(0, _), (1, _), (4, _), (5, _), (6, _), (7, _), (8, _), (50, _)]) ⟨rfl, rfl, rfl, rfl, rfl, rfl, rfl, rfl, trivial⟩ ?_
      refine LX.next ?_
      refine PX.thenN ?_
      refine CX.cond rfl (fun hb3 => ?_) (fun hb3 => ?_)
      · try simp at hb3
        refine CX.seq ?_
        refine CX.region ?_
        refine LX.pure (Y.assign rfl) rfl rfl rfl ?_
        refine LX.sub (l' := [(0, _), (1, _), (4, _), (5, _), (6, _), (7, _), (8, _)]) ⟨rfl, rfl, rfl, rfl, rfl, rfl, rfl, trivial⟩ ?_
        refine LX.next ?_
        refine PX.thenN ?_
        refine CX.ret ?_
        refine PX.thenR ?_
        refine PX.ret1 (by simp) Tryz.results121 rfl ?_
        have hst : steps p i k q = none := by
          unfold steps
          rw [if_pos (by omega)]
        have hno : ¬Ck.Good p f := fun h => h.not_stuck (hinv.r1 _ _ hq h0) hi hst
        exact fun w hw => ⟨(false, H, Wk, mw, g, cap), rfl, ⟨(fun e => by cases e), fun _ => hno⟩, hw.drop (.cons _ (List.Sublist.refl _))⟩
      · try simp at hb3
        refine CX.skip ?_
        exact PX.valF (by omega) ⟨rfl, rfl, rfl, rfl, rfl, rfl, rfl, trivial⟩
    · try simp at hb2
      refine CX.skip ?_
      exact PX.valF (by omega) ⟨rfl, rfl, rfl, rfl, rfl, rfl, rfl, trivial⟩
  refine CX.seq ?_
  refine CX.seq ?_
  refine CX.region ?_
  refine LX.pure (Y.move rfl) rfl rfl rfl ?_
  refine LX.pure (Y.move rfl) rfl rfl rfl ?_
  refine LX.pure (Y.ltI rfl rfl) rfl rfl rfl ?_
  refine LX.sub (l' := [(0, _), (1, _), (4, _), (5, _), (6, _), (7, _), (8, _), (53, _)]) ⟨rfl, rfl, rfl, rfl, rfl, rfl, rfl, rfl, trivial⟩ ?_
  refine LX.next ?_
  refine PX.thenN ?_
  refine CX.cond rfl (fun hb4 => ?_) (fun hb4 => ?_)
  · try simp at hb4
    refine CX.seq ?_
    refine CX.region ?_
    refine LX.pure (Y.assign rfl) rfl rfl rfl ?_
    refine LX.sub (l' := [(0, _), (1, _), (4, _), (5, _), (6, _), (7, _), (8, _)]) ⟨rfl, rfl, rfl, rfl, rfl, rfl, rfl, trivial⟩ ?_
    refine LX.next ?_
    refine PX.thenN ?_
    refine CX.ret ?_
    refine PX.thenR ?_
    refine PX.ret1 (by simp) Tryz.results121 rfl ?_
    have hst : steps p i k q = none := by
      unfold steps
      rw [if_pos (by omega)]
    have hno : ¬Ck.Good p f := fun h => h.not_stuck (hinv.r1 _ _ hq h0) hi hst
    exact fun w hw => ⟨(false, H, Wk, mw, g, cap), rfl, ⟨(fun e => by cases e), fun _ => hno⟩, hw.drop (.cons _ (List.Sublist.refl _))⟩
  · try simp at hb4
    refine CX.skip ?_
    refine PX.thenN ?_
    refine CX.seq ?_
    refine CX.region ?_
    refine LX.pure (Y.move rfl) rfl rfl rfl ?_
    refine LX.pure (Y.move rfl) rfl rfl rfl ?_
    refine LX.pure (Y.sub rfl rfl (by omega)) rfl rfl rfl ?_
    refine LX.pure (Y.move rfl) rfl rfl rfl ?_
    refine LX.pure (Y.add rfl rfl (by omega)) rfl rfl rfl ?_
    refine LX.pure (Y.assign rfl) rfl rfl rfl ?_
    refine LX.sub (l' := [(0, _), (1, _), (4, _), (5, _), (9, _)]) ⟨rfl, rfl, rfl, rfl, rfl, trivial⟩ ?_
    refine LX.next ?_
    refine PX.thenN ?_
    refine CX.seq ?_
    refine CX.seq ?_
    refine CX.region ?_
    refine LX.pure (Y.fieldAddr0 Fk.fo65_0 rfl) rfl rfl rfl ?_
    refine LX.pure (Y.ldB 0 Fk.one3 rfl rfl rfl) rfl rfl rfl ?_
    refine LX.sub (l' := [(0, _), (1, _), (4, _), (5, _), (9, _), (60, _)]) ⟨rfl, rfl, rfl, rfl, rfl, rfl, trivial⟩ ?_
    refine LX.next ?_
    refine PX.thenN ?_
    refine CX.block ?_
    refine CX.seq ?_
    refine CX.region ?_
    refine LX.pure (Y.eqI rfl rfl) rfl rfl rfl ?_
    refine LX.pure (Y.assign rfl) rfl rfl rfl ?_
    refine LX.sub (l' := [(0, _), (1, _), (4, _), (5, _), (9, _), (60, _), (61, _)]) ⟨rfl, rfl, rfl, rfl, rfl, rfl, rfl, trivial⟩ ?_
    refine LX.next ?_
    refine PX.thenN ?_
    refine CX.cond rfl (fun hb5 => ?_) (fun hb5 => ?_)
    · try simp at hb5
      refine CX.seq ?_
      refine CX.region ?_
      refine LX.pure (Y.assign rfl) rfl rfl rfl ?_
      refine LX.sub (l' := [(0, _), (1, _), (4, _), (9, _)]) ⟨rfl, rfl, rfl, rfl, trivial⟩ ?_
      refine LX.next ?_
      refine PX.thenN ?_
      refine CX.ret ?_
      refine PX.blockR ?_
      refine PX.thenR ?_
      refine PX.ret1 (by simp) Tryz.results121 rfl ?_
      have hst : steps p i k q = some [] := by
        unfold steps
        rw [if_neg (by omega)]
        dsimp only
        repeat (rw [if_pos (by omega)])
      exact fun w hw => ⟨(true, H, Wk, mw, g, cap), rfl, ⟨fun _ => ⟨hinv.pop hq hi hst [] (fun x => Iff.rfl) hg hfit, hm, by show mw ≤ vis H; omega, Nat.le_refl _⟩, fun e => by cases e⟩, hw.drop (.cons _ (List.Sublist.refl _))⟩
    · try simp at hb5
      refine CX.seq ?_
      refine CX.region ?_
      refine LX.pure (Y.eqI rfl rfl) rfl rfl rfl ?_
      refine LX.pure (Y.assign rfl) rfl rfl rfl ?_
      refine LX.sub (l' := [(0, _), (1, _), (4, _), (5, _), (9, _), (60, _), (63, _)]) ⟨rfl, rfl, rfl, rfl, rfl, rfl, rfl, trivial⟩ ?_
      refine LX.next ?_
      refine PX.thenN ?_
      refine CX.cond rfl (fun hb6 => ?_) (fun hb6 => ?_)
      · try simp at hb6
        refine CX.seq ?_
        refine CX.region ?_
        refine LX.pure (Y.move rfl) rfl rfl rfl ?_
        refine LX.pure (Y.fieldAddr0 Fk.fo65_1 rfl) rfl rfl rfl ?_
        refine LX.pure (Y.ldB 0 Fk.one3 rfl rfl rfl) rfl rfl rfl ?_
        refine LX.pure (Y.move rfl) rfl rfl rfl ?_
        have hst : steps p i k q = some [(i.a.toNat, (q - takes p i + pt i))] := by
          unfold steps
          rw [if_neg (by omega)]
          dsimp only
          repeat (first | rw [if_pos (by omega)] | rw [if_neg (by omega)])
        have hpop := hinv.pop hq hi hst [(i.a.toNat, (q - takes p i + pt i))] (by intro x; simp [or_comm]) hg hfit
        have hj := fits_jump hfi (by omega)
        have hjz : ((i.a.toNat : Nat) : Int) = i.a := by omega
        refine LX.world (fun w hw => WA.rot3 hw) ?_
        refine LX.call (come_c hX hg hfit hl hl3 bw gb (hjz.symm) hpop hm (by omega)) Fm.en120 rfl rfl rfl rfl rfl ?_
        rintro ⟨b1, H1, Wk1, m1, g1, cap1⟩
        refine LX.have fun hc1 => ?_
        try dsimp only at hc1 ⊢
        refine LX.pure (Y.assign rfl) rfl rfl rfl ?_
        refine LX.sub (l' := [(0, _), (1, _), (4, _), (9, _)]) ⟨rfl, rfl, rfl, rfl, trivial⟩ ?_
        refine LX.next ?_
        refine PX.thenN ?_
        refine CX.ret ?_
        refine PX.blockR ?_
        refine PX.thenR ?_
        refine PX.ret1 (by simp) Tryz.results121 rfl ?_
        exact fun w hw => ⟨(b1, H1, Wk1, m1, g1, cap1), rfl, ⟨fun e => hc1.1 e, fun e => (hc1.2 e).1⟩, hw.drop (.cons_cons _ (.cons_cons _ (.cons_cons _ (.cons _ (List.Sublist.refl _)))))⟩
      · try simp at hb6
        refine CX.seq ?_
        refine CX.region ?_
        refine LX.pure (Y.eqI rfl rfl) rfl rfl rfl ?_
        refine LX.pure (Y.assign rfl) rfl rfl rfl ?_
        refine LX.sub (l' := [(0, _), (1, _), (4, _), (5, _), (9, _), (60, _), (70, _)]) ⟨rfl, rfl, rfl, rfl, rfl, rfl, rfl, trivial⟩ ?_
        refine LX.next ?_
        refine PX.thenN ?_
        refine CX.cond rfl (fun hb7 => ?_) (fun hb7 => ?_)
        · try simp at hb7
          refine CX.seq ?_
          refine CX.region ?_
          refine LX.pure (Y.move rfl) rfl rfl rfl ?_
          refine LX.pure (Y.fieldAddr0 Fk.fo65_1 rfl) rfl rfl rfl ?_
          refine LX.pure (Y.ldB 0 Fk.one3 rfl rfl rfl) rfl rfl rfl ?_
          refine LX.pure (Y.move rfl) rfl rfl rfl ?_
          have hst : steps p i k q = some [(k + 1, (q - takes p i + pt i)), (i.a.toNat, (q - takes p i + pt i))] := by
            unfold steps
            rw [if_neg (by omega)]
            dsimp only
            repeat (first | rw [if_pos (by omega)] | rw [if_neg (by omega)])
          have hpop := hinv.pop hq hi hst [(i.a.toNat, (q - takes p i + pt i)), (k + 1, (q - takes p i + pt i))] (by intro x; simp [or_comm]) hg hfit
          have hj := fits_jump hfi (by omega)
          have hjz : ((i.a.toNat : Nat) : Int) = i.a := by omega
          refine LX.world (fun w hw => WA.rot3 hw) ?_
          refine LX.call (come_c hX hg hfit hl hl3 bw gb (hjz.symm) hpop hm (by omega)) Fm.en120 rfl rfl rfl rfl rfl ?_
          rintro ⟨b1, H1, Wk1, m1, g1, cap1⟩
          refine LX.have fun hc1 => ?_
          try dsimp only at hc1 ⊢
          refine LX.pure (Y.move rfl) rfl rfl rfl ?_
          refine LX.caseB (s := 77) rfl (fun hb8 => ?_) (fun hb8 => ?_)
          ·
            have hb8p := hb8
            try simp at hb8p
            refine LX.gT rfl rfl rfl hb8 (Y.move rfl) rfl rfl ?_
            refine LX.gT rfl rfl rfl hb8 (Y.move rfl) rfl rfl ?_
            refine LX.gT rfl rfl rfl hb8 (Y.addN rfl rfl (by (simp only []; omega))) rfl rfl ?_
            refine LX.gT rfl rfl rfl hb8 (Y.move rfl) rfl rfl ?_
            refine LX.callT rfl rfl rfl hb8 (come_c hX hg hfit hl hl3 bw gb (z := ((k + 1 : Nat) : Int)) rfl (hc1.1 (by assumption)).1 (hc1.1 (by assumption)).2.1 (hc1.1 (by assumption)).2.2.1) Fm.en120 rfl rfl rfl rfl ?_
            rintro ⟨b2, H2, Wk2, m2, g2, cap2⟩
            refine LX.have fun hc2 => ?_
            try dsimp only at hc2 ⊢
            refine LX.pure (Y.pickT rfl hb8 rfl) rfl rfl rfl ?_
            refine LX.pure (Y.assign rfl) rfl rfl rfl ?_
            refine LX.sub (l' := [(0, _), (1, _), (4, _), (9, _)]) ⟨rfl, rfl, rfl, rfl, trivial⟩ ?_
            refine LX.next ?_
            refine PX.thenN ?_
            refine CX.ret ?_
            refine PX.blockR ?_
            refine PX.thenR ?_
            refine PX.ret1 (by simp) Tryz.results121 rfl ?_
            exact fun w hw => ⟨(b2, H2, Wk2, m2, g2, cap2), rfl, ⟨fun e => ⟨(hc2.1 e).1, (hc2.1 e).2.1, (hc2.1 e).2.2.1, Nat.le_trans (hc2.1 e).2.2.2 (hc1.1 (by assumption)).2.2.2⟩, fun e => (hc2.2 e).1⟩, hw.drop (.cons_cons _ (.cons_cons _ (.cons_cons _ (.cons _ (List.Sublist.refl _)))))⟩
          ·
            have hb8p := hb8
            try simp at hb8p
            refine LX.gF rfl rfl rfl hb8 rfl rfl ?_
            refine LX.gF rfl rfl rfl hb8 rfl rfl ?_
            refine LX.gF rfl rfl rfl hb8 rfl rfl ?_
            refine LX.gF rfl rfl rfl hb8 rfl rfl ?_
            refine LX.gF rfl rfl rfl hb8 rfl rfl ?_
            refine LX.pure (Y.pickF rfl hb8 rfl) rfl rfl rfl ?_
            refine LX.pure (Y.assign rfl) rfl rfl rfl ?_
            refine LX.sub (l' := [(0, _), (1, _), (4, _), (9, _)]) ⟨rfl, rfl, rfl, rfl, trivial⟩ ?_
            refine LX.next ?_
            refine PX.thenN ?_
            refine CX.ret ?_
            refine PX.blockR ?_
            refine PX.thenR ?_
            refine PX.ret1 (by simp) Tryz.results121 rfl ?_
            exact fun w hw => ⟨(false, H1, Wk1, m1, g1, cap1), rfl, ⟨(fun e => by cases e), fun _ => (hc1.2 (by assumption)).1⟩, hw.drop (.cons_cons _ (.cons_cons _ (.cons_cons _ (.cons _ (List.Sublist.refl _)))))⟩
        · try simp at hb7
          refine CX.sub (l' := [(0, _), (1, _), (4, _), (5, _), (9, _), (60, _)]) ⟨rfl, rfl, rfl, rfl, rfl, rfl, trivial⟩ ?_
          apply CX.seqSw 84
          ·
            refine CX.seq ?_
            refine CX.region ?_
            refine LX.pure (Y.eqI rfl rfl) rfl rfl rfl ?_
            refine LX.pure (Y.assign rfl) rfl rfl rfl ?_
            refine LX.next ?_
            refine PX.thenN ?_
            apply CX.swOr
            · rfl
            · exact ⟨rfl, rfl, rfl, rfl, rfl, rfl, rfl, trivial⟩
            intro hb9
            try simp at hb9
            refine CX.region ?_
            refine LX.pure (Y.eqI rfl rfl) rfl rfl rfl ?_
            refine LX.pure (Y.assign rfl) rfl rfl rfl ?_
            refine LX.next ?_
            exact PX.sw ⟨rfl, rfl, rfl, rfl, rfl, rfl, rfl, trivial⟩
          refine CX.cond rfl (fun hb10 => ?_) (fun hb10 => ?_)
          · try simp at hb10
            refine CX.seq ?_
            refine CX.region ?_
            refine LX.pure (Y.move rfl) rfl rfl rfl ?_
            refine LX.pure (Y.fieldAddr0 Fk.fo65_1 rfl) rfl rfl rfl ?_
            refine LX.pure (Y.ldB 0 Fk.one3 rfl rfl rfl) rfl rfl rfl ?_
            refine LX.pure (Y.move rfl) rfl rfl rfl ?_
            refine LX.pure (Y.add rfl rfl (by omega)) rfl rfl rfl ?_
            have hst : steps p i k q = some [(k + 1, (q - takes p i + pt i)), (i.a.toNat, (q - takes p i + pt i) + 1)] := by
              unfold steps
              rw [if_neg (by omega)]
              dsimp only
              repeat (first | rw [if_pos (by omega)] | rw [if_neg (by omega)])
            have hpop := hinv.pop hq hi hst [(i.a.toNat, (q - takes p i + pt i) + 1), (k + 1, (q - takes p i + pt i))] (by intro x; simp [or_comm]) hg hfit
            have hj := fits_jump hfi (by omega)
            have hjz : ((i.a.toNat : Nat) : Int) = i.a := by omega
            refine LX.world (fun w hw => WA.rot3 hw) ?_
            refine LX.call (come_c hX hg hfit hl hl3 bw gb (hjz.symm) hpop hm (by omega)) Fm.en120 rfl rfl rfl rfl rfl ?_
            rintro ⟨b1, H1, Wk1, m1, g1, cap1⟩
            refine LX.have fun hc1 => ?_
            try dsimp only at hc1 ⊢
            refine LX.pure (Y.move rfl) rfl rfl rfl ?_
            refine LX.caseB (s := 93) rfl (fun hb11 => ?_) (fun hb11 => ?_)
            ·
              have hb11p := hb11
              try simp at hb11p
              refine LX.gT rfl rfl rfl hb11 (Y.move rfl) rfl rfl ?_
              refine LX.gT rfl rfl rfl hb11 (Y.move rfl) rfl rfl ?_
              refine LX.gT rfl rfl rfl hb11 (Y.addN rfl rfl (by (simp only []; omega))) rfl rfl ?_
              refine LX.gT rfl rfl rfl hb11 (Y.move rfl) rfl rfl ?_
              refine LX.callT rfl rfl rfl hb11 (come_c hX hg hfit hl hl3 bw gb (z := ((k + 1 : Nat) : Int)) rfl (hc1.1 (by assumption)).1 (hc1.1 (by assumption)).2.1 (hc1.1 (by assumption)).2.2.1) Fm.en120 rfl rfl rfl rfl ?_
              rintro ⟨b2, H2, Wk2, m2, g2, cap2⟩
              refine LX.have fun hc2 => ?_
              try dsimp only at hc2 ⊢
              refine LX.pure (Y.pickT rfl hb11 rfl) rfl rfl rfl ?_
              refine LX.pure (Y.assign rfl) rfl rfl rfl ?_
              refine LX.sub (l' := [(0, _), (1, _), (4, _), (9, _)]) ⟨rfl, rfl, rfl, rfl, trivial⟩ ?_
              refine LX.next ?_
              refine PX.thenN ?_
              refine CX.ret ?_
              refine PX.blockR ?_
              refine PX.thenR ?_
              refine PX.ret1 (by simp) Tryz.results121 rfl ?_
              exact fun w hw => ⟨(b2, H2, Wk2, m2, g2, cap2), rfl, ⟨fun e => ⟨(hc2.1 e).1, (hc2.1 e).2.1, (hc2.1 e).2.2.1, Nat.le_trans (hc2.1 e).2.2.2 (hc1.1 (by assumption)).2.2.2⟩, fun e => (hc2.2 e).1⟩, hw.drop (.cons_cons _ (.cons_cons _ (.cons_cons _ (.cons _ (List.Sublist.refl _)))))⟩
            ·
              have hb11p := hb11
              try simp at hb11p
              refine LX.gF rfl rfl rfl hb11 rfl rfl ?_
              refine LX.gF rfl rfl rfl hb11 rfl rfl ?_
              refine LX.gF rfl rfl rfl hb11 rfl rfl ?_
              refine LX.gF rfl rfl rfl hb11 rfl rfl ?_
              refine LX.gF rfl rfl rfl hb11 rfl rfl ?_
              refine LX.pure (Y.pickF rfl hb11 rfl) rfl rfl rfl ?_
              refine LX.pure (Y.assign rfl) rfl rfl rfl ?_
              refine LX.sub (l' := [(0, _), (1, _), (4, _), (9, _)]) ⟨rfl, rfl, rfl, rfl, trivial⟩ ?_
              refine LX.next ?_
              refine PX.thenN ?_
              refine CX.ret ?_
              refine PX.blockR ?_
              refine PX.thenR ?_
              refine PX.ret1 (by simp) Tryz.results121 rfl ?_
              exact fun w hw => ⟨(false, H1, Wk1, m1, g1, cap1), rfl, ⟨(fun e => by cases e), fun _ => (hc1.2 (by assumption)).1⟩, hw.drop (.cons_cons _ (.cons_cons _ (.cons_cons _ (.cons _ (List.Sublist.refl _)))))⟩
          · try simp at hb10
            refine CX.seq ?_
            refine CX.region ?_
            refine LX.pure (Y.eqI rfl rfl) rfl rfl rfl ?_
            refine LX.pure (Y.assign rfl) rfl rfl rfl ?_
            refine LX.sub (l' := [(0, _), (1, _), (4, _), (5, _), (9, _), (100, _)]) ⟨rfl, rfl, rfl, rfl, rfl, rfl, trivial⟩ ?_
            refine LX.next ?_
            refine PX.thenN ?_
            refine CX.cond rfl (fun hb12 => ?_) (fun hb12 => ?_)
            · try simp at hb12
              refine CX.seq ?_
              refine CX.region ?_
              refine LX.pure (Y.move rfl) rfl rfl rfl ?_
              refine LX.pure (Y.fieldAddr0 Fk.fo65_1 rfl) rfl rfl rfl ?_
              refine LX.pure (Y.ldB 0 Fk.one3 rfl rfl rfl) rfl rfl rfl ?_
              refine LX.pure (Y.move rfl) rfl rfl rfl ?_
              refine LX.pure (Y.sub rfl rfl (by omega)) rfl rfl rfl ?_
              have hst : steps p i k q = some [(k + 1, (q - takes p i + pt i)), (i.a.toNat, (q - takes p i + pt i) - 2)] := by
                unfold steps
                rw [if_neg (by omega)]
                dsimp only
                repeat (first | rw [if_pos (by omega)] | rw [if_neg (by omega)])
              have hpop := hinv.pop hq hi hst [(i.a.toNat, (q - takes p i + pt i) - 2), (k + 1, (q - takes p i + pt i))] (by intro x; simp [or_comm]) hg hfit
              have hj := fits_jump hfi (by omega)
              have hjz : ((i.a.toNat : Nat) : Int) = i.a := by omega
              refine LX.world (fun w hw => WA.rot3 hw) ?_
              refine LX.call (come_c hX hg hfit hl hl3 bw gb (hjz.symm) hpop hm (by omega)) Fm.en120 rfl rfl rfl rfl rfl ?_
              rintro ⟨b1, H1, Wk1, m1, g1, cap1⟩
              refine LX.have fun hc1 => ?_
              try dsimp only at hc1 ⊢
              refine LX.pure (Y.move rfl) rfl rfl rfl ?_
              refine LX.caseB (s := 108) rfl (fun hb13 => ?_) (fun hb13 => ?_)
              ·
                have hb13p := hb13
                try simp at hb13p
                refine LX.gT rfl rfl rfl hb13 (Y.move rfl) rfl rfl ?_
                refine LX.gT rfl rfl rfl hb13 (Y.move rfl) rfl rfl ?_
                refine LX.gT rfl rfl rfl hb13 (Y.addN rfl rfl (by (simp only []; omega))) rfl rfl ?_
                refine LX.gT rfl rfl rfl hb13 (Y.move rfl) rfl rfl ?_
                refine LX.callT rfl rfl rfl hb13 (come_c hX hg hfit hl hl3 bw gb (z := ((k + 1 : Nat) : Int)) rfl (hc1.1 (by assumption)).1 (hc1.1 (by assumption)).2.1 (hc1.1 (by assumption)).2.2.1) Fm.en120 rfl rfl rfl rfl ?_
                rintro ⟨b2, H2, Wk2, m2, g2, cap2⟩
                refine LX.have fun hc2 => ?_
                try dsimp only at hc2 ⊢
                refine LX.pure (Y.pickT rfl hb13 rfl) rfl rfl rfl ?_
                refine LX.pure (Y.assign rfl) rfl rfl rfl ?_
                refine LX.sub (l' := [(0, _), (1, _), (4, _), (9, _)]) ⟨rfl, rfl, rfl, rfl, trivial⟩ ?_
                refine LX.next ?_
                refine PX.thenN ?_
                refine CX.ret ?_
                refine PX.blockR ?_
                refine PX.thenR ?_
                refine PX.ret1 (by simp) Tryz.results121 rfl ?_
                exact fun w hw => ⟨(b2, H2, Wk2, m2, g2, cap2), rfl, ⟨fun e => ⟨(hc2.1 e).1, (hc2.1 e).2.1, (hc2.1 e).2.2.1, Nat.le_trans (hc2.1 e).2.2.2 (hc1.1 (by assumption)).2.2.2⟩, fun e => (hc2.2 e).1⟩, hw.drop (.cons_cons _ (.cons_cons _ (.cons_cons _ (.cons _ (List.Sublist.refl _)))))⟩
              ·
                have hb13p := hb13
                try simp at hb13p
                refine LX.gF rfl rfl rfl hb13 rfl rfl ?_
                refine LX.gF rfl rfl rfl hb13 rfl rfl ?_
                refine LX.gF rfl rfl rfl hb13 rfl rfl ?_
                refine LX.gF rfl rfl rfl hb13 rfl rfl ?_
                refine LX.gF rfl rfl rfl hb13 rfl rfl ?_
                refine LX.pure (Y.pickF rfl hb13 rfl) rfl rfl rfl ?_
                refine LX.pure (Y.assign rfl) rfl rfl rfl ?_
                refine LX.sub (l' := [(0, _), (1, _), (4, _), (9, _)]) ⟨rfl, rfl, rfl, rfl, trivial⟩ ?_
                refine LX.next ?_
                refine PX.thenN ?_
                refine CX.ret ?_
                refine PX.blockR ?_
                refine PX.thenR ?_
                refine PX.ret1 (by simp) Tryz.results121 rfl ?_
                exact fun w hw => ⟨(false, H1, Wk1, m1, g1, cap1), rfl, ⟨(fun e => by cases e), fun _ => (hc1.2 (by assumption)).1⟩, hw.drop (.cons_cons _ (.cons_cons _ (.cons_cons _ (.cons _ (List.Sublist.refl _)))))⟩
            · try simp at hb12
              refine CX.skip ?_
              refine PX.blockN ?_
              refine PX.thenN ?_
              refine CX.seq ?_
              refine CX.region ?_
              refine LX.pure (Y.move rfl) rfl rfl rfl ?_
              refine LX.pure (Y.move rfl) rfl rfl rfl ?_
              refine LX.pure (Y.addN rfl rfl (by (simp only []; omega))) rfl rfl rfl ?_
              refine LX.pure (Y.move rfl) rfl rfl rfl ?_
              have hst : steps p i k q = some [(k + 1, (q - takes p i + pt i))] := by
                unfold steps
                rw [if_neg (by omega)]
                dsimp only
                repeat (rw [if_neg (by omega)])
              have hpop := hinv.pop hq hi hst [(k + 1, (q - takes p i + pt i))] (by intro x; simp [or_comm]) hg hfit
              refine LX.world (fun w hw => WA.rot3 hw) ?_
              refine LX.call (come_c hX hg hfit hl hl3 bw gb (rfl) hpop hm (by omega)) Fm.en120 rfl rfl rfl rfl rfl ?_
              rintro ⟨b1, H1, Wk1, m1, g1, cap1⟩
              refine LX.have fun hc1 => ?_
              try dsimp only at hc1 ⊢
              refine LX.pure (Y.assign rfl) rfl rfl rfl ?_
              refine LX.sub (l' := [(4, _)]) ⟨rfl, trivial⟩ ?_
              refine LX.next ?_
              refine PX.thenN ?_
              refine CX.ret ?_
              refine PX.ret1 (by simp) Tryz.results121 rfl ?_
              exact fun w hw => ⟨(b1, H1, Wk1, m1, g1, cap1), rfl, ⟨fun e => hc1.1 e, fun e => (hc1.2 e).1⟩, hw.drop (.cons_cons _ (.cons_cons _ (.cons_cons _ (.cons _ (List.Sublist.refl _)))))⟩
theorem flows_c {w0 : World} {base : Nat} {fr : List It} {X : Cx} {p : Pg} {f : Fc} (hX : CkAt (Lies w0 base) X p f) (hg : ∀ g ∈ p.funcs, 0 ≤ g.given) (hfit : ∀ i ∈ f.code, fits p f i) (hl : p.consts.length ≤ 1048576 ∧ p.globals.length ≤ 1048576 ∧ p.names.length ≤ 1048576 ∧ p.funcs.length ≤ 1048576 ∧ f.code.length ≤ 1048576 ∧ f.slots ≤ 1048576) (hl3 : p.funcs.length ≤ 20 ∧ f.code.length ≤ 300 ∧ f.code ≠ []) : FnC Tryz.prog 57 #[.agg (X.pcs p).toArray, .agg (X.fcs f).toArray] (WA w0 base fr) (fun b : Bool => .bool b) (fun b w => (b = true ↔ Ck.Good p f) ∧ WA w0 base fr w) := by
  refine FnC.of_body (fn := Tryz.f57) [(0, _), (1, _)] Tryz.func57 rfl Tryz.ntmps57 rfl ⟨rfl, rfl, trivial⟩ ?_
  refine CX.seq ?_
  refine CX.region ?_
  refine LX.box rfl rfl rfl rfl rfl ?_
  intro bxp
  refine LX.box rfl rfl rfl rfl rfl ?_
  intro bxf
  refine LX.pure (Y.assign rfl) rfl rfl rfl ?_
  refine LX.sub (l' := [(2, _), (3, _), (4, _)]) ⟨rfl, rfl, rfl, trivial⟩ ?_
  refine LX.next ?_
  refine PX.thenN ?_
  refine CX.seq ?_
  refine CX.regionM [(0, .held), (1, .held), (2, .anywhere), (3, .held), (4, .held), (5, .alone), (6, .alone), (7, .alone), (8, .anywhere)] rfl (by kernel_rfl) ?_
  refine MX.lift1 (i := 0) (pend' := []) rfl (fun w hw => by exact hw) (Y.ldAggB (vs := X.pcs p) 1 Fm.ag57 rfl rfl rfl rfl) rfl rfl rfl (by kernel_rfl) ?_
  refine MX.lift1 (i := 1) (pend' := [0]) rfl (fun w hw => by exact hw) (Y.ldAggB (vs := X.fcs f) 0 Fm.ag124 rfl rfl rfl rfl) rfl rfl rfl (by kernel_rfl) ?_
  refine MX.lift0 (i := 2) rfl (Y.fieldAddr0 Fk.fo124_5 rfl) rfl rfl rfl ?_
  refine MX.lift1 (i := 3) (pend' := [1, 0]) rfl (fun w hw => by exact hw) (Y.ldB 0 Fk.one122 rfl rfl rfl) rfl rfl rfl (by kernel_rfl) ?_
  refine MX.lift1 (i := 4) (pend' := [1, 0]) rfl (fun w hw => by exact hw) (Y.lenSl rfl Fk.un122 rfl) rfl rfl rfl (by kernel_rfl) ?_
  refine MX.force (i := 5) rfl ?_
  refine LX.makeN (z := .int .i64 0) Fl.el42 (by kernel_rfl) rfl rfl rfl (by omega) (by omega) rfl rfl rfl ?_
  intro gb
  rw [made_iv]
  refine LX.nextM [1, 0] (by kernel_rfl) (fun _ => (fun w hw => by exact hw.drop (List.sublist_cons_self _ _))) ?_
  refine MX.force (i := 6) rfl ?_
  refine LX.pure (Y.build (v := .agg (X.wall p f gb none 0 0).toArray) rfl (fun _ => by kernel_rfl)) rfl rfl rfl ?_
  refine LX.nextM [] (by kernel_rfl) (fun h => absurd rfl h) ?_
  refine MX.force (i := 7) rfl ?_
  refine LX.box rfl rfl rfl rfl rfl ?_
  intro bxw
  refine LX.nextM [] (by kernel_rfl) (fun h => absurd rfl h) ?_
  refine MX.lift0 (i := 8) rfl (Y.assign rfl) rfl rfl rfl ?_
  refine MX.sub (l' := [(4, _), (5, _)]) ⟨rfl, rfl, trivial⟩ ?_
  refine MX.done ?_
  refine PX.thenN ?_
  refine CX.seq ?_
  refine CX.seq ?_
  refine CX.region ?_
  refine LX.pure (Y.assign rfl) rfl rfl rfl ?_
  refine LX.sub (l' := [(4, _), (5, _), (6, _)]) ⟨rfl, rfl, rfl, trivial⟩ ?_
  refine LX.next ?_
  refine PX.thenN ?_
  refine CX.block ?_
  refine CX.loop (fun s : Nat × List Int => [(5, .pointer (some ⟨bxw, 0, none⟩)), (6, .int .i64 (s.1 : Int))]) (fun (s : Nat × List Int) w => (s.1 ≤ f.code.length ∧ s.2.length = f.code.length ∧ ∀ k, k < s.1 → s.2[k]? = some (-1)) ∧ WA w0 base (blk bxw (X.wall p f gb none 0 0) 203 :: .row (some gb) f.code.length f.code.length 3 1 (s.2.map iv) :: blk bxf (X.fcs f) 124 :: blk bxp (X.pcs p) 57 :: fr) w) (fun s => f.code.length - s.1) (0, List.replicate f.code.length 0) ⟨rfl, rfl, trivial⟩ (fun w hw => ⟨⟨Nat.zero_le _, List.length_replicate .., fun k hk => absurd hk (Nat.not_lt_zero k)⟩, hw⟩) ?_
  rintro ⟨j, H⟩
  refine CX.have fun ⟨hj, hHl, hH⟩ => ?_
  try dsimp only at hj hHl hH ⊢
  refine CX.seq ?_
  refine CX.seq ?_
  refine CX.region ?_
  refine LX.pure (Y.move rfl) rfl rfl rfl ?_
  refine LX.pure (Y.move rfl) rfl rfl rfl ?_
  refine LX.pure (Y.nilCheck rfl) rfl rfl rfl ?_
  refine LX.pure (Y.fieldAddr0 Fm.fo203_2 rfl) rfl rfl rfl ?_
  refine LX.pure (Y.ldB 0 Fm.one42 rfl rfl rfl) rfl rfl rfl ?_
  refine LX.pure (Y.lenSl rfl Fl.un42 rfl) rfl rfl rfl ?_
  refine LX.pure (Y.ltN rfl rfl) rfl rfl rfl ?_
  refine LX.sub (l' := [(5, _), (6, _), (22, _)]) ⟨rfl, rfl, rfl, trivial⟩ ?_
  refine LX.next ?_
  refine PX.thenN ?_
  refine CX.cond rfl (fun hb1 => ?_) (fun hb1 => ?_)
  · try simp at hb1
    refine CX.skip ?_
    refine PX.thenN ?_
    refine CX.seq ?_
    refine CX.block ?_
    refine CX.region ?_
    refine LX.pure (Y.move rfl) rfl rfl rfl ?_
    refine LX.pure (Y.nilCheck rfl) rfl rfl rfl ?_
    refine LX.pure (Y.fieldAddr0 Fm.fo203_2 rfl) rfl rfl rfl ?_
    refine LX.pure (Y.ldB 0 Fm.one42 rfl rfl rfl) rfl rfl rfl ?_
    refine LX.pure (Y.move rfl) rfl rfl rfl ?_
    refine LX.pure (Y.idxR 1 Fl.un42 Fk.sz3 rfl rfl rfl (by omega)) rfl rfl rfl ?_
    refine LX.storeR 1 Fk.sz3 rfl rfl rfl rfl rfl (by rw [List.length_map]; omega) rfl rfl ?_
    refine LX.world (W' := WA w0 base (blk bxw (X.wall p f gb none 0 0) 203 :: .row (some gb) f.code.length f.code.length 3 1 ((H.set j (-1)).map iv) :: blk bxf (X.fcs f) 124 :: blk bxp (X.pcs p) 57 :: fr)) (fun w hw => by have h1 := hw; rw [Nat.mul_one] at h1; rw [← iv_set]; exact h1) ?_
    refine LX.sub (l' := [(5, _), (6, _)]) ⟨rfl, rfl, trivial⟩ ?_
    refine LX.next ?_
    refine PX.blockN ?_
    refine PX.thenN ?_
    refine CX.region ?_
    refine LX.pure (Y.move rfl) rfl rfl rfl ?_
    refine LX.pure (Y.addN rfl rfl (by (simp only []; omega))) rfl rfl rfl ?_
    refine LX.pure (Y.assign rfl) rfl rfl rfl ?_
    refine LX.sub (l' := [(5, _), (6, _)]) ⟨rfl, rfl, trivial⟩ ?_
    refine LX.next ?_
    exact PX.again (L := (fun s : Nat × List Int => [(5, .pointer (some ⟨bxw, 0, none⟩)), (6, .int .i64 (s.1 : Int))])) (WW := (fun (s : Nat × List Int) w => (s.1 ≤ f.code.length ∧ s.2.length = f.code.length ∧ ∀ k, k < s.1 → s.2[k]? = some (-1)) ∧ WA w0 base (blk bxw (X.wall p f gb none 0 0) 203 :: .row (some gb) f.code.length f.code.length 3 1 (s.2.map iv) :: blk bxf (X.fcs f) 124 :: blk bxp (X.pcs p) 57 :: fr) w)) (μ := fun s => f.code.length - s.1) (i := (j, H)) (j + 1, H.set j (-1)) (by show f.code.length - (j + 1) < f.code.length - j; omega) ⟨rfl, rfl, trivial⟩ (fun w hw => ⟨⟨by show j + 1 ≤ f.code.length; omega, by rw [List.length_set]; exact hHl, fun k hk => by
      by_cases e : k = j
      · subst e; exact List.getElem?_set_self (by omega)
      · rw [List.getElem?_set_ne (fun q => e q.symm)]; exact hH k (by have : k < j + 1 := hk; omega)⟩, hw⟩)
  · try simp at hb1
    have hje : j = f.code.length := by omega
    refine CX.exit ?_
    refine PX.thenE ?_
    refine PX.thenE ?_
    refine PX.blockE ?_
    refine PX.thenN ?_
    refine CX.seq ?_
    refine CX.region ?_
    refine LX.pure (Y.move rfl) rfl rfl rfl ?_
    refine LX.world (fun w hw => WA.nilRow3 hw 3 1) ?_
    have hrep := all_m1 hHl (fun k hk => hH k (by omega))
    subst hrep
    refine LX.call (come_c hX hg hfit hl hl3 bxw gb (k := 0) (z := 0) (h := 0) rfl (Wk := []) (mw := 0) (g := none) (cap := 0) (Pd := []) InvR.init rfl (Nat.zero_le _)) Fm.en120 rfl rfl rfl rfl rfl ?_
    rintro ⟨b0, H0, Wk0, m0, g0, cap0⟩
    refine LX.have fun hc0 => ?_
    try dsimp only at hc0 ⊢
    have hb0 : b0 = true := by
      cases b0 with
      | true => rfl
      | false =>
        exfalso
        rcases (hc0.2 rfl).2 with e | ⟨q, e1, e2⟩
        · exact hl3.2.2 (List.eq_nil_of_length_eq_zero (by omega))
        · rw [List.getElem?_replicate] at e1
          split at e1
          · cases e1; omega
          · cases e1
    obtain ⟨hv0, hm0, hmb0, _⟩ := hc0.1 hb0
    refine LX.sub (l' := [(5, _)]) ⟨rfl, trivial⟩ ?_
    refine LX.next ?_
    refine PX.thenN ?_
    refine CX.seq ?_
    refine CX.block ?_
    refine CX.loop (fun _ : List Int × List Nat × Nat × Option Nat × Nat => [(5, .pointer (some ⟨bxw, 0, none⟩))]) (fun (s : List Int × List Nat × Nat × Option Nat × Nat) w => (InvR p f s.1 s.2.1 [] ∧ s.2.1.length = s.2.2.1 ∧ s.2.2.1 ≤ vis s.1) ∧ WA w0 base (blk bxw (X.wall p f gb s.2.2.2.1 s.2.2.1 s.2.2.2.2) 203 :: .row (some gb) f.code.length f.code.length 3 1 (s.1.map iv) :: .row s.2.2.2.1 s.2.2.2.2 s.2.2.1 3 1 (s.2.1.map vn) :: blk bxf (X.fcs f) 124 :: blk bxp (X.pcs p) 57 :: fr) w) (fun s => 2 * (f.code.length - vis s.1) + s.2.2.1) (H0, Wk0, m0, g0, cap0) ⟨rfl, trivial⟩ (fun w hw => ⟨⟨hv0, hm0, hmb0⟩, hw⟩) ?_
    rintro ⟨H, Wk, mw, g, cap⟩
    refine CX.have fun ⟨hinv, hmw, hmb⟩ => ?_
    try dsimp only at hinv hmw hmb ⊢
    refine CX.seq ?_
    refine CX.seq ?_
    refine CX.region ?_
    refine LX.pure (Y.move rfl) rfl rfl rfl ?_
    refine LX.pure (Y.nilCheck rfl) rfl rfl rfl ?_
    refine LX.pure (Y.fieldAddr0 Fm.fo203_3 rfl) rfl rfl rfl ?_
    refine LX.pure (Y.ldB 0 Fm.one42 rfl rfl rfl) rfl rfl rfl ?_
    refine LX.pure (Y.lenSl rfl Fl.un42 rfl) rfl rfl rfl ?_
    refine LX.pure (Y.gtN rfl rfl) rfl rfl rfl ?_
    refine LX.sub (l' := [(5, _), (38, _)]) ⟨rfl, rfl, trivial⟩ ?_
    refine LX.next ?_
    refine PX.thenN ?_
    refine CX.cond rfl (fun hb2 => ?_) (fun hb2 => ?_)
    · try simp at hb2
      clear hc0
      obtain ⟨q, rfl⟩ : ∃ q, mw = q + 1 := ⟨mw - 1, by omega⟩
      obtain ⟨Wk0, x, rfl, hWk0⟩ := snoc_of hmw
      have hvl := vis_le H
      have hHl := hinv.len
      refine CX.skip ?_
      refine PX.thenN ?_
      refine CX.block ?_
      refine CX.seq ?_
      refine CX.regionQ rfl (by kernel_rfl) ?_
      refine LX.pure (Y.move rfl) rfl rfl rfl ?_
      refine LX.pure (Y.nilCheck rfl) rfl rfl rfl ?_
      refine LX.pure (Y.fieldAddr0 Fm.fo203_3 rfl) rfl rfl rfl ?_
      refine LX.pure (Y.ldB 0 Fm.one42 rfl rfl rfl) rfl rfl rfl ?_
      refine LX.pure (Y.move rfl) rfl rfl rfl ?_
      refine LX.pure (Y.nilCheck rfl) rfl rfl rfl ?_
      refine LX.pure (Y.fieldAddr0 Fm.fo203_3 rfl) rfl rfl rfl ?_
      refine LX.pure (Y.ldB 0 Fm.one42 rfl rfl rfl) rfl rfl rfl ?_
      refine LX.pure (Y.lenSl rfl Fl.un42 rfl) rfl rfl rfl ?_
      refine LX.pure (Y.subN (a := q + 1) (b := 1) rfl rfl (by omega) (by omega)) rfl rfl rfl ?_
      refine LX.pure (Y.idxR 2 Fl.un42 Fk.sz3 rfl rfl rfl (by omega)) rfl rfl rfl ?_
      refine LX.pure (Y.ldR 2 (v := .int .i64 (x : Int)) Fk.one3 rfl rfl (vn_last hWk0)) rfl rfl rfl ?_
      refine LX.pure (Y.assign rfl) rfl rfl rfl ?_
      refine LX.sub (l' := [(5, _), (7, _)]) ⟨rfl, rfl, trivial⟩ ?_
      refine LX.nextQ ?_
      refine PX.thenN ?_
      refine CX.seq ?_
      refine CX.regionM [(0, .anywhere), (1, .anywhere), (2, .anywhere), (3, .anywhere), (4, .held), (5, .anywhere), (6, .anywhere), (7, .anywhere), (8, .held), (9, .held), (10, .held), (11, .held), (12, .held), (13, .held), (14, .alone)] rfl (by kernel_rfl) ?_
      refine MX.lift0 (i := 0) rfl (Y.move rfl) rfl rfl rfl ?_
      refine MX.lift0 (i := 1) rfl (Y.move rfl) rfl rfl rfl ?_
      refine MX.lift0 (i := 2) rfl (Y.nilCheck rfl) rfl rfl rfl ?_
      refine MX.lift0 (i := 3) rfl (Y.fieldAddr0 Fm.fo203_3 rfl) rfl rfl rfl ?_
      refine MX.lift1 (i := 4) (pend' := []) rfl (fun w hw => by exact hw) (Y.ldB 0 Fm.one42 rfl rfl rfl) rfl rfl rfl (by kernel_rfl) ?_
      refine MX.lift0 (i := 5) rfl (Y.move rfl) rfl rfl rfl ?_
      refine MX.lift0 (i := 6) rfl (Y.nilCheck rfl) rfl rfl rfl ?_
      refine MX.lift0 (i := 7) rfl (Y.fieldAddr0 Fm.fo203_3 rfl) rfl rfl rfl ?_
      refine MX.lift1 (i := 8) (pend' := [4]) rfl (fun w hw => by exact hw) (Y.ldB 0 Fm.one42 rfl rfl rfl) rfl rfl rfl (by kernel_rfl) ?_
      refine MX.lift1 (i := 9) (pend' := [4]) rfl (fun w hw => by exact hw) (Y.lenSl rfl Fl.un42 rfl) rfl rfl rfl (by kernel_rfl) ?_
      refine MX.lift1 (i := 10) (pend' := [4]) rfl (fun w hw => by exact hw) (Y.subN (a := q + 1) (b := 1) rfl rfl (by omega) (by omega)) rfl rfl rfl (by kernel_rfl) ?_
      refine MX.lift1 (i := 11) (pend' := []) rfl (fun w hw => by exact hw) (Y.cutR 2 Fl.un42 Fk.sz3 rfl rfl rfl (by omega)) rfl rfl rfl (by kernel_rfl) ?_
      refine MX.lift1 (i := 12) (pend' := []) rfl (fun w hw => by exact hw) (Y.nilCheck rfl) rfl rfl rfl (by kernel_rfl) ?_
      refine MX.lift1 (i := 13) (pend' := []) rfl (fun w hw => by exact hw) (Y.fieldAddr0 Fm.fo203_3 rfl) rfl rfl rfl (by kernel_rfl) ?_
      refine MX.force (i := 14) rfl ?_
      refine LX.storeB 0 Fm.sz42 rfl rfl rfl rfl rfl rfl rfl rfl ?_
      refine LX.nextM [] (by kernel_rfl) (fun h => absurd rfl h) ?_
      refine MX.sub (l' := [(5, _), (7, _)]) ⟨rfl, rfl, trivial⟩ ?_
      refine MX.done ?_
      refine PX.thenN ?_
      refine CX.seq ?_
      refine CX.region ?_
      refine LX.world (fun w hw => cutVn hw hWk0) ?_
      refine LX.pure (Y.move rfl) rfl rfl rfl ?_
      refine LX.pure (Y.move rfl) rfl rfl rfl ?_
      refine LX.call (step_c hX hg hfit hl hl3 bxw gb hinv hWk0 hmb) Fm.en121 rfl rfl rfl rfl rfl ?_
      rintro ⟨b1, H1, Wk1, m1, g1, cap1⟩
      refine LX.have fun hc1 => ?_
      try dsimp only at hc1 ⊢
      refine LX.pure (Y.not rfl) rfl rfl rfl ?_
      refine LX.sub (l' := [(5, _), (68, _)]) ⟨rfl, rfl, trivial⟩ ?_
      refine LX.next ?_
      refine PX.thenN ?_
      refine CX.cond rfl (fun hb3 => ?_) (fun hb3 => ?_)
      · try simp at hb3
        refine CX.seq ?_
        refine CX.region ?_
        refine LX.pure (Y.assign rfl) rfl rfl rfl ?_
        refine LX.sub (l' := [(4, _), (5, _)]) ⟨rfl, rfl, trivial⟩ ?_
        refine LX.next ?_
        refine PX.thenN ?_
        refine CX.ret ?_
        refine PX.blockR ?_
        refine PX.thenR ?_
        refine PX.blockR ?_
        refine PX.thenR ?_
        refine PX.ret1 (by simp) Tryz.results57 rfl ?_
        have hno : ¬Ck.Good p f := hc1.2 (by simp_all)
        exact fun w hw => ⟨false, rfl, ⟨(fun e => by cases e), fun h => absurd h hno⟩, hw.drop (.cons _ (.cons _ (.cons _ (.cons _ (.cons _ (List.Sublist.refl _))))))⟩
      · try simp at hb3
        refine CX.skip ?_
        refine PX.blockN ?_
        exact PX.again (L := (fun _ : List Int × List Nat × Nat × Option Nat × Nat => [(5, .pointer (some ⟨bxw, 0, none⟩))])) (WW := (fun (s : List Int × List Nat × Nat × Option Nat × Nat) w => (InvR p f s.1 s.2.1 [] ∧ s.2.1.length = s.2.2.1 ∧ s.2.2.1 ≤ vis s.1) ∧ WA w0 base (blk bxw (X.wall p f gb s.2.2.2.1 s.2.2.1 s.2.2.2.2) 203 :: .row (some gb) f.code.length f.code.length 3 1 (s.1.map iv) :: .row s.2.2.2.1 s.2.2.2.2 s.2.2.1 3 1 (s.2.1.map vn) :: blk bxf (X.fcs f) 124 :: blk bxp (X.pcs p) 57 :: fr) w)) (μ := (fun s => 2 * (f.code.length - vis s.1) + s.2.2.1)) (i := (H, Wk0 ++ [x], q + 1, g, cap)) (H1, Wk1, m1, g1, cap1) (by have := (hc1.1 (by simp_all)).2.2.2; show 2 * (f.code.length - vis H1) + m1 < 2 * (f.code.length - vis H) + (q + 1); omega) ⟨rfl, trivial⟩ (fun w hw => ⟨⟨(hc1.1 (by simp_all)).1, (hc1.1 (by simp_all)).2.1, (hc1.1 (by simp_all)).2.2.1⟩, hw⟩)
    · try simp at hb2
      have hm0 : Wk = [] := List.eq_nil_of_length_eq_zero (by omega)
      subst hm0
      refine CX.exit ?_
      refine PX.thenE ?_
      refine PX.thenE ?_
      refine PX.blockE ?_
      refine PX.thenN ?_
      refine CX.seq ?_
      refine CX.region ?_
      refine LX.pure (Y.assign rfl) rfl rfl rfl ?_
      refine LX.sub (l' := [(4, _)]) ⟨rfl, trivial⟩ ?_
      refine LX.next ?_
      refine PX.thenN ?_
      refine CX.ret ?_
      refine PX.ret1 (by simp) Tryz.results57 rfl ?_
      exact fun w hw => ⟨true, rfl, ⟨fun _ => hinv.done hg hfit, fun _ => rfl⟩, hw.drop (.cons _ (.cons _ (.cons _ (.cons _ (.cons _ (List.Sublist.refl _))))))⟩
end Go.Proofs.YtgijpgkckiknjaaGreatDoor
