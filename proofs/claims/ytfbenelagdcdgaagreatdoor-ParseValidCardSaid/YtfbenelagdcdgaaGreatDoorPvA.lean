/-
  Proved here: copies of nodes.
-/
import Derived.Test.YtfbenelagdcdgaaGreatDoorPbE
import Derived.Test.YtfbenelagdcdgaaGreatDoorMg
set_option linter.unusedSimpArgs false
namespace Go.Proofs.YtfbenelagdcdgaaGreatDoor
open Go.SX Go.RowKit Go.Tr Go.Lex
namespace Va
theorem en108 : Enters Tryz.prog 108 := Enters.of Tryz.func108 (by kernel_rfl) (by kernel_rfl)
theorem en46 : Enters Tryz.prog 46 := Enters.of Tryz.func46 (by kernel_rfl) (by kernel_rfl)
theorem fa32_1 : FieldOffA Tryz.prog 32 1 1 := fun a w => by kernel_rfl
theorem fa32_3 : FieldOffA Tryz.prog 32 3 3 := fun a w => by kernel_rfl
theorem fo32_1 : FieldOff Tryz.prog 32 1 1 := fun b o w => by kernel_rfl
theorem fo32_3 : FieldOff Tryz.prog 32 3 3 := fun b o w => by kernel_rfl
end Va
open Go.Ck (NdsR)
theorem take_map {α : Type} {l : List α} {j : Nat} {d : α} (f : α → Value) (h : j < l.length) : (l.take (j + 1)).map f = (l.take j).map f ++ [f (l.getD j d)] := by
  rw [List.take_add_one, List.map_append, List.getElem?_eq_getElem h, List.getD_eq_getElem?_getD, List.getElem?_eq_getElem h]
  rfl
theorem kids_in {M : Rd} {ak : Option Addr} {ks : List Int} (h : SlAt 1 intA M ak ks) : ∀ z ∈ ks, inI z := fun z hz => by
  obtain ⟨i, hi⟩ := List.mem_iff_getElem?.1 hz
  obtain ⟨_, _, _, _, _, _, h2⟩ := h i z hi
  exact h2
theorem cInts_c {w0 : World} {base : Nat} {fr : List It} {ak : Option Addr} (ck : Nat) {ks : List Int} (hkl : ks.length ≤ 1048576) (hk : SlAt 1 intA (Lies w0 base) ak ks) : FnC Tryz.prog 108 #[.slice ak ks.length ck] (WA w0 base fr) (fun s : Option Nat × Nat => rv s.1 ks.length s.2) (fun s => WA w0 base (.row s.1 s.2 ks.length 3 1 (ks.map iv) :: fr)) := by
  refine FnC.of_body (fn := Tryz.f108) [(0, _)] Tryz.func108 rfl Tryz.ntmps108 rfl ⟨rfl, trivial⟩ ?_
  refine CX.seq <| CX.region <| LX.pure (Y.assign rfl) rfl rfl rfl <| LX.sub (l' := [(0, _), (2, _)]) ⟨rfl, rfl, trivial⟩ <| LX.next <| PX.thenN <| CX.seq <| CX.region <| LX.pure (Y.move rfl) rfl rfl rfl <| LX.pure (Y.lenSl rfl Ft.un30 rfl) rfl rfl rfl <| LX.make0 (c := ks.length) Pk.el30 rfl rfl rfl (by omega) (by omega) rfl rfl rfl ?_
  intro gm
  refine LX.pure (Y.assign rfl) rfl rfl rfl <| LX.sub (l' := [(0, _), (2, _), (3, _)]) ⟨rfl, rfl, rfl, trivial⟩ <| LX.next <| PX.thenN <| CX.seq <| CX.seq <| CX.region <| LX.pure (Y.assign rfl) rfl rfl rfl <| LX.sub (l' := [(0, _), (2, _), (3, _), (4, _)]) ⟨rfl, rfl, rfl, rfl, trivial⟩ <| LX.next <| PX.thenN <| CX.block <| CX.loop (fun s : Nat × Option Nat × Nat => [(0, .slice ak ks.length ck), (3, rv s.2.1 s.1 s.2.2), (4, .int .i64 (s.1 : Int))]) (fun (s : Nat × Option Nat × Nat) w => s.1 ≤ ks.length ∧ WA w0 base (.row s.2.1 s.2.2 s.1 3 1 ((ks.take s.1).map iv) :: fr) w) (fun s => ks.length - s.1) (0, some gm, ks.length) ⟨rfl, rfl, rfl, trivial⟩ (fun w hw => ⟨Nat.zero_le _, hw⟩) ?_
  rintro ⟨j, g, cap⟩
  refine CX.have fun hj0 => ?_
  try dsimp only at hj0 ⊢
  refine CX.seq <| CX.seq <| CX.region <| LX.pure (Y.move rfl) rfl rfl rfl <| LX.pure (Y.move rfl) rfl rfl rfl <| LX.pure (Y.lenSl rfl Ft.un30 rfl) rfl rfl rfl <| LX.pure (Y.ltN rfl rfl) rfl rfl rfl <| LX.sub (l' := [(0, _), (3, _), (4, _), (11, _)]) ⟨rfl, rfl, rfl, rfl, trivial⟩ <| LX.next <| PX.thenN ?_
  refine CX.cond rfl (fun hb1 => ?_) (fun hb1 => ?_)
  · try simp at hb1
    have hj : j < ks.length := by omega
    obtain ⟨a0, hav, hL, _⟩ := hk.int_at hj
    refine CX.skip <| PX.thenN <| CX.seq <| CX.block <| CX.region <| LX.pure (Y.move rfl) rfl rfl rfl <| LX.pure (Y.move rfl) rfl rfl rfl <| LX.pure (Y.move rfl) rfl rfl rfl <| LX.pure (Y.idxZ Ft.un30 Ft.sz3 rfl rfl hav (j := j) rfl hj) rfl rfl rfl <| LX.pure (Y.ldO1 (v := .int .i64 (ks.getD j 0)) Ft.one3 rfl hL) rfl rfl rfl <| LX.buildSlice (e := 3) (size := 1) rfl rfl (fun _ => by kernel_rfl) rfl (by decide) rfl rfl rfl ?_
    intro gt15
    refine LX.appendRows 1 0 Pk.el30 rfl rfl rfl rfl rfl rfl rfl (by omega) (by omega) rfl rfl rfl ?_
    intro g2 cap2
    refine LX.pure (Y.assign rfl) rfl rfl rfl <| LX.sub (l' := [(0, _), (3, _), (4, _)]) ⟨rfl, rfl, rfl, trivial⟩ <| LX.next <| PX.blockN <| PX.thenN <| CX.region <| LX.pure (Y.move rfl) rfl rfl rfl <| LX.pure (Y.addN rfl rfl (by (simp only []; omega))) rfl rfl rfl <| LX.pure (Y.assign rfl) rfl rfl rfl <| LX.sub (l' := [(0, _), (3, _), (4, _)]) ⟨rfl, rfl, rfl, trivial⟩ <| LX.next ?_
    exact PX.again (μ := fun s => ks.length - s.1) (i := (j, g, cap)) (j + 1, g2, cap2) (by show ks.length - (j + 1) < ks.length - j; omega) ⟨rfl, rfl, rfl, trivial⟩ (fun w hw => ⟨by show j + 1 ≤ ks.length; omega, by have h1 := hw.drop (List.sublist_cons_self _ _); show WA w0 base (.row g2 cap2 (j + 1) 3 1 ((ks.take (j + 1)).map iv) :: fr) w; rw [take_map (d := 0) iv hj]; exact h1⟩)
  try simp at hb1
  have hje : j = ks.length := by omega
  subst hje
  refine CX.exit <| PX.thenE <| PX.thenE <| PX.blockE <| PX.thenN <| CX.seq <| CX.region <| LX.pure (Y.move rfl) rfl rfl rfl <| LX.pure (Y.assign rfl) rfl rfl rfl <| LX.sub (l' := [(2, _)]) ⟨rfl, trivial⟩ <| LX.next <| PX.thenN <| CX.ret <| PX.ret1 (by simp) Tryz.results108 rfl ?_
  exact fun w hw => ⟨(g, cap), rfl, by have h1 := hw; rw [List.take_length] at h1; exact h1⟩
theorem cNode_c {w0 : World} {base : Nat} {fr : List It} {x : Nd} {cs : List Value} (hx : ndA (Lies w0 base) cs x) (hkl : x.kids.length ≤ 1048576) : FnC Tryz.prog 46 #[.agg cs.toArray] (WA w0 base fr) (fun s : Option Nat × Nat => .agg ([.int .i64 x.op, .int .i64 x.n, .int .i64 x.pos, str x.s, rv s.1 x.kids.length s.2]).toArray) (fun s => WA w0 base (.row s.1 s.2 x.kids.length 3 1 (x.kids.map iv) :: fr)) := by
  obtain ⟨vk, rfl, hks, hin⟩ := hx
  obtain ⟨ak2, ck2, rfl, ⟨hkn2, hkc2⟩, hka2⟩ := hks.sl
  refine FnC.of_body (fn := Tryz.f46) [(0, _)] Tryz.func46 rfl Tryz.ntmps46 rfl ⟨rfl, trivial⟩ ?_
  refine CX.seq <| CX.region <| LX.box rfl rfl rfl rfl rfl ?_
  intro n1x
  refine LX.alloc rfl Fu.zv32 rfl rfl rfl ?_
  intro n2x
  refine LX.sub (l' := [(1, _), (2, _)]) ⟨rfl, rfl, trivial⟩ <| LX.next <| PX.thenN <| CX.seq <| CX.regionM [(0, .anywhere), (1, .held), (2, .anywhere), (3, .held), (4, .anywhere), (5, .held), (6, .anywhere), (7, .held), (8, .anywhere), (9, .held), (10, .alone), (11, .alone), (12, .alone)] rfl (by kernel_rfl) <| MX.lift0 (i := 0) rfl (Y.fieldAddr0 Ft.fo32_0 rfl) rfl rfl rfl <| MX.lift1 (i := 1) (pend' := []) rfl (fun w hw => by exact hw) (Y.ldB 1 Ft.one3 rfl rfl rfl) rfl rfl rfl (by kernel_rfl) <| MX.lift0 (i := 2) rfl (Y.fieldAddr0 Va.fo32_1 rfl) rfl rfl rfl <| MX.lift1 (i := 3) (pend' := [1]) rfl (fun w hw => by exact hw) (Y.ldB 1 Ft.one3 rfl rfl rfl) rfl rfl rfl (by kernel_rfl) <| MX.lift0 (i := 4) rfl (Y.fieldAddr0 Pl.fo32_2 rfl) rfl rfl rfl <| MX.lift1 (i := 5) (pend' := [3, 1]) rfl (fun w hw => by exact hw) (Y.ldB 1 Ft.one3 rfl rfl rfl) rfl rfl rfl (by kernel_rfl) <| MX.lift0 (i := 6) rfl (Y.fieldAddr0 Va.fo32_3 rfl) rfl rfl rfl <| MX.lift1 (i := 7) (pend' := [5, 3, 1]) rfl (fun w hw => by exact hw) (Y.ldB 1 Fy.one9 rfl rfl rfl) rfl rfl rfl (by kernel_rfl) <| MX.lift0 (i := 8) rfl (Y.fieldAddr0 Fu.fo32_4 rfl) rfl rfl rfl <| MX.lift1 (i := 9) (pend' := [7, 5, 3, 1]) rfl (fun w hw => by exact hw) (Y.ldB 1 Fu.one30 rfl rfl rfl) rfl rfl rfl (by kernel_rfl) <| MX.force (i := 10) rfl <| LX.call (cInts_c ck2 hkl hka2) Va.en108 rfl rfl rfl rfl rfl ?_
  intro sk
  refine LX.nextM [7, 5, 3, 1] (by kernel_rfl) (fun _ => (fun w hw => by exact hw.drop (List.sublist_cons_self _ _))) <| MX.force (i := 11) rfl <| LX.pure (Y.build (v := .agg ([.int .i64 x.op, .int .i64 x.n, .int .i64 x.pos, str x.s, rv sk.1 x.kids.length sk.2]).toArray) rfl (fun _ => by kernel_rfl)) rfl rfl rfl <| LX.nextM [] (by kernel_rfl) (fun h => absurd rfl h) <| MX.force (i := 12) rfl <| LX.storeA 1 Ft.ag32 rfl rfl rfl rfl rfl rfl rfl rfl rfl <| LX.nextM [] (by kernel_rfl) (fun h => absurd rfl h) <| MX.sub (l' := [(2, _)]) ⟨rfl, trivial⟩ <| MX.done <| PX.thenN <| CX.ret <| PX.retA (i := 1) (by simp) Tryz.results46 Ft.ag32 rfl rfl rfl ?_
  exact fun w hw => ⟨sk, rfl, hw.drop (.cons_cons _ (.cons _ (.cons _ (List.Sublist.refl _))))⟩
theorem cNodes_c {w0 : World} {base : Nat} {fr : List It} {al : Option Addr} (cl : Nat) {l : List Nd} (hln : l.length ≤ 1048576) (hl : SlAt 5 ndA (Lies w0 base) al l) (hkb : ∀ x ∈ l, x.kids.length ≤ 1048576) : FnC Tryz.prog 13 #[.slice al l.length cl] (WA w0 base fr) (fun s : (Option Nat × Nat) × List Value × List It => rv s.1.1 l.length s.1.2) (fun s w => NdsR 3 s.2.2 s.2.1 l ∧ WA w0 base (.row s.1.1 s.1.2 l.length 32 5 s.2.1 :: (s.2.2 ++ fr)) w) := by
  refine FnC.of_body (fn := Tryz.f13) [(0, _)] Tryz.func13 rfl Tryz.ntmps13 rfl ⟨rfl, trivial⟩ ?_
  refine CX.seq <| CX.region <| LX.pure (Y.assign rfl) rfl rfl rfl <| LX.sub (l' := [(0, _), (2, _)]) ⟨rfl, rfl, trivial⟩ <| LX.next <| PX.thenN <| CX.seq <| CX.region <| LX.pure (Y.move rfl) rfl rfl rfl <| LX.pure (Y.lenSl rfl Ft.un23 rfl) rfl rfl rfl <| LX.make0 (c := l.length) Pd.el23 rfl rfl rfl (by omega) (by omega) rfl rfl rfl ?_
  intro gm
  refine LX.pure (Y.assign rfl) rfl rfl rfl <| LX.sub (l' := [(0, _), (2, _), (3, _)]) ⟨rfl, rfl, rfl, trivial⟩ <| LX.next <| PX.thenN <| CX.seq <| CX.seq <| CX.region <| LX.pure (Y.assign rfl) rfl rfl rfl <| LX.sub (l' := [(0, _), (2, _), (3, _), (4, _)]) ⟨rfl, rfl, rfl, rfl, trivial⟩ <| LX.next <| PX.thenN <| CX.block <| CX.loop (fun s : Nat × (Option Nat × Nat) × List Value × List It => [(0, .slice al l.length cl), (3, rv s.2.1.1 s.1 s.2.1.2), (4, .int .i64 (s.1 : Int))]) (fun (s : Nat × (Option Nat × Nat) × List Value × List It) w => (s.1 ≤ l.length ∧ NdsR 3 s.2.2.2 s.2.2.1 (l.take s.1)) ∧ WA w0 base (.row s.2.1.1 s.2.1.2 s.1 32 5 s.2.2.1 :: (s.2.2.2 ++ fr)) w) (fun s => l.length - s.1) (0, (some gm, l.length), [], []) ⟨rfl, rfl, rfl, trivial⟩ (fun w hw => ⟨⟨Nat.zero_le _, rfl, fun i x hx => by cases hx⟩, hw⟩) ?_
  rintro ⟨j, ⟨g, cap⟩, cells, rs⟩
  refine CX.have fun ⟨hj0, hnf⟩ => ?_
  try dsimp only at hj0 hnf ⊢
  refine CX.seq <| CX.seq <| CX.region <| LX.pure (Y.move rfl) rfl rfl rfl <| LX.pure (Y.move rfl) rfl rfl rfl <| LX.pure (Y.lenSl rfl Ft.un23 rfl) rfl rfl rfl <| LX.pure (Y.ltN rfl rfl) rfl rfl rfl <| LX.sub (l' := [(0, _), (3, _), (4, _), (11, _)]) ⟨rfl, rfl, rfl, rfl, trivial⟩ <| LX.next <| PX.thenN ?_
  refine CX.cond rfl (fun hb1 => ?_) (fun hb1 => ?_)
  · try simp at hb1
    have hj : j < l.length := by omega
    obtain ⟨x, hx⟩ : ∃ x, l[j]? = some x := ⟨_, List.getElem?_eq_getElem hj⟩
    obtain ⟨a, cs, hav, hcl, hL, vk, rfl, hks, hin⟩ := hl j x hx
    have hkx := hkb x (List.mem_of_getElem? hx)
    have hki : ∀ z ∈ x.kids, inI z := by
      obtain ⟨_, _, _, _, hka⟩ := hks.sl
      exact kids_in hka
    have htj : l.take (j + 1) = l.take j ++ [x] := by rw [List.take_add_one, hx]; rfl
    refine CX.skip <| PX.thenN <| CX.seq <| CX.block <| CX.region <| LX.pure (Y.move rfl) rfl rfl rfl <| LX.pure (Y.move rfl) rfl rfl rfl <| LX.pure (Y.move rfl) rfl rfl rfl <| LX.pure (Y.idxZ Ft.un23 Ft.sz32 rfl rfl hav (j := j) rfl hj) rfl rfl rfl <| LX.pure (Y.ldAO (cs := [.int .i64 x.op, .int .i64 x.n, .int .i64 x.pos, str x.s, vk]) Ft.ag32 rfl hL rfl) rfl rfl rfl <| LX.call (cNode_c (x := x) ⟨vk, rfl, hks, hin⟩ hkx) Va.en46 rfl rfl rfl rfl rfl ?_
    intro sk
    refine LX.buildSlice (e := 32) (size := 5) rfl rfl (fun _ => by kernel_rfl) rfl (by decide) rfl rfl rfl ?_
    intro gt20
    refine LX.appendRows 2 0 Pd.el23 rfl rfl rfl rfl rfl rfl rfl (by omega) (by omega) rfl rfl rfl ?_
    intro g2 cap2
    refine LX.pure (Y.assign rfl) rfl rfl rfl <| LX.sub (l' := [(0, _), (3, _), (4, _)]) ⟨rfl, rfl, rfl, trivial⟩ <| LX.next <| PX.blockN <| PX.thenN <| CX.region <| LX.pure (Y.move rfl) rfl rfl rfl <| LX.pure (Y.addN rfl rfl (by (simp only []; omega))) rfl rfl rfl <| LX.pure (Y.assign rfl) rfl rfl rfl <| LX.sub (l' := [(0, _), (3, _), (4, _)]) ⟨rfl, rfl, rfl, trivial⟩ <| LX.next ?_
    exact PX.again (μ := fun s => l.length - s.1) (i := (j, (g, cap), cells, rs)) (j + 1, (g2, cap2), cells ++ [.int .i64 x.op, .int .i64 x.n, .int .i64 x.pos, str x.s, rv sk.1 x.kids.length sk.2], .row sk.1 sk.2 x.kids.length 3 1 (x.kids.map iv) :: rs) (by show l.length - (j + 1) < l.length - j; omega) ⟨rfl, rfl, rfl, trivial⟩ (fun w hw => ⟨⟨by show j + 1 ≤ l.length; omega, by show NdsR 3 (_ :: rs) (cells ++ _) (l.take (j + 1)); rw [htj]; exact hnf.more (fun _ hm => List.mem_cons_of_mem _ hm) rfl ⟨⟨_, _, rfl, .inl (List.mem_cons_self ..)⟩, fun w1 b1 => ⟨_, rfl, Go.Ck.kids_R (i := 1) hw rfl hki (List.mem_cons_self ..) (by omega), hin⟩⟩⟩, (hw.drop (List.sublist_cons_self _ _) : WA w0 base (_ :: _ :: (rs ++ fr)) w).perm (.swap _ _ _)⟩)
  try simp at hb1
  have hje : j = l.length := by omega
  subst hje
  rw [List.take_length] at hnf
  refine CX.exit <| PX.thenE <| PX.thenE <| PX.blockE <| PX.thenN <| CX.seq <| CX.region <| LX.pure (Y.move rfl) rfl rfl rfl <| LX.pure (Y.assign rfl) rfl rfl rfl <| LX.sub (l' := [(2, _)]) ⟨rfl, trivial⟩ <| LX.next <| PX.thenN <| CX.ret <| PX.ret1 (by simp) Tryz.results13 rfl ?_
  exact fun w hw => ⟨((g, cap), cells, rs), rfl, hnf, hw⟩
end Go.Proofs.YtfbenelagdcdgaaGreatDoor

namespace Go.Proofs.YtfbenelagdcdgaaGreatDoor
open Go.SX Go.RowKit Go.Tr Go.Lex
namespace Vb
theorem en109 : Enters Tryz.prog 109 := Enters.of Tryz.func109 (by kernel_rfl) (by kernel_rfl)
theorem en47 : Enters Tryz.prog 47 := Enters.of Tryz.func47 (by kernel_rfl) (by kernel_rfl)
end Vb
theorem sInts_c {w0 : World} {base : Nat} {ak bk : Option Addr} (ck dk : Nat) {ks : List Int} (hkl : ks.length ≤ 1048576) (hk : SlAt 1 intA (Lies w0 base) ak ks) (hj2 : SlAt 1 intA (Lies w0 base) bk ks) : FnC Tryz.prog 109 #[.slice ak ks.length ck, .slice bk ks.length dk] (WA w0 base []) (fun _ : Unit => .bool true) (fun _ => WA w0 base []) := by
  refine FnC.of_body (fn := Tryz.f109) [(0, _), (1, _)] Tryz.func109 rfl Tryz.ntmps109 rfl ⟨rfl, rfl, trivial⟩ ?_
  refine CX.seq <| CX.region <| LX.pure (Y.assign rfl) rfl rfl rfl <| LX.sub (l' := [(0, _), (1, _), (4, _)]) ⟨rfl, rfl, rfl, trivial⟩ <| LX.next <| PX.thenN <| CX.seq <| CX.seq <| CX.region <| LX.pure (Y.move rfl) rfl rfl rfl <| LX.pure (Y.lenSl rfl Ft.un30 rfl) rfl rfl rfl <| LX.pure (Y.move rfl) rfl rfl rfl <| LX.pure (Y.lenSl rfl Ft.un30 rfl) rfl rfl rfl <| LX.pure (Y.neN rfl rfl) rfl rfl rfl <| LX.sub (l' := [(0, _), (1, _), (4, _), (11, _)]) ⟨rfl, rfl, rfl, rfl, trivial⟩ <| LX.next <| PX.thenN ?_
  refine CX.cond rfl (fun hb1 => ?_) (fun hb1 => ?_)
  · try simp at hb1
    done
  try simp at hb1
  refine CX.skip <| PX.thenN <| CX.seq <| CX.seq <| CX.region <| LX.pure (Y.assign rfl) rfl rfl rfl <| LX.sub (l' := [(0, _), (1, _), (4, _), (5, _)]) ⟨rfl, rfl, rfl, rfl, trivial⟩ <| LX.next <| PX.thenN <| CX.block <| CX.loop (fun j : Nat => [(0, .slice ak ks.length ck), (1, .slice bk ks.length dk), (5, .int .i64 (j : Int))]) (fun (j : Nat) w => j ≤ ks.length ∧ WA w0 base [] w) (fun j => ks.length - j) 0 ⟨rfl, rfl, rfl, trivial⟩ (fun w hw => ⟨Nat.zero_le _, hw⟩) ?_
  rintro j
  refine CX.have fun hj0 => ?_
  replace hj0 : j ≤ ks.length := hj0
  refine CX.seq <| CX.seq <| CX.region <| LX.pure (Y.move rfl) rfl rfl rfl <| LX.pure (Y.move rfl) rfl rfl rfl <| LX.pure (Y.lenSl rfl Ft.un30 rfl) rfl rfl rfl <| LX.pure (Y.ltN rfl rfl) rfl rfl rfl <| LX.sub (l' := [(0, _), (1, _), (5, _), (15, _)]) ⟨rfl, rfl, rfl, rfl, trivial⟩ <| LX.next <| PX.thenN ?_
  refine CX.cond rfl (fun hb2 => ?_) (fun hb2 => ?_)
  · try simp at hb2
    have hj : j < ks.length := by omega
    obtain ⟨a0, hav, hL, _⟩ := hk.int_at hj
    obtain ⟨b0, hbv, hM, _⟩ := hj2.int_at hj
    refine CX.skip <| PX.thenN <| CX.seq <| CX.block <| CX.seq <| CX.regionQ rfl (by kernel_rfl) <| LX.pure (Y.move rfl) rfl rfl rfl <| LX.pure (Y.move rfl) rfl rfl rfl <| LX.pure (Y.idxZ Ft.un30 Ft.sz3 rfl rfl hav (j := j) rfl hj) rfl rfl rfl <| LX.pure (Y.ldO1 (v := .int .i64 (ks.getD j 0)) Ft.one3 rfl hL) rfl rfl rfl <| LX.pure (Y.move rfl) rfl rfl rfl <| LX.pure (Y.move rfl) rfl rfl rfl <| LX.pure (Y.idxZ Ft.un30 Ft.sz3 rfl rfl hbv (j := j) rfl hj) rfl rfl rfl <| LX.pure (Y.ldO1 (v := .int .i64 (ks.getD j 0)) Ft.one3 rfl hM) rfl rfl rfl <| LX.pure (Y.eqI rfl rfl) rfl rfl rfl <| LX.pure (Y.assign rfl) rfl rfl rfl <| LX.sub (l' := [(0, _), (1, _), (5, _), (6, _)]) ⟨rfl, rfl, rfl, rfl, trivial⟩ <| LX.nextQ <| PX.thenN <| CX.seq <| CX.region <| LX.pure (Y.move rfl) rfl rfl rfl <| LX.pure (Y.not rfl) rfl rfl rfl <| LX.sub (l' := [(0, _), (1, _), (5, _), (28, _)]) ⟨rfl, rfl, rfl, rfl, trivial⟩ <| LX.next <| PX.thenN ?_
    refine CX.cond rfl (fun hb3 => ?_) (fun hb3 => ?_)
    · try simp at hb3
      done
    try simp at hb3
    refine CX.skip <| PX.blockN <| PX.thenN <| CX.region <| LX.pure (Y.move rfl) rfl rfl rfl <| LX.pure (Y.addN rfl rfl (by (simp only []; omega))) rfl rfl rfl <| LX.pure (Y.assign rfl) rfl rfl rfl <| LX.sub (l' := [(0, _), (1, _), (5, _)]) ⟨rfl, rfl, rfl, trivial⟩ <| LX.next ?_
    exact PX.again (μ := fun j => ks.length - j) (i := j) (j + 1) (by show ks.length - (j + 1) < ks.length - j; omega) ⟨rfl, rfl, rfl, trivial⟩ (fun w hw => ⟨by show j + 1 ≤ ks.length; omega, hw⟩)
  try simp at hb2
  refine CX.exit <| PX.thenE <| PX.thenE <| PX.blockE <| PX.thenN <| CX.seq <| CX.region <| LX.pure (Y.assign rfl) rfl rfl rfl <| LX.sub (l' := [(4, _)]) ⟨rfl, trivial⟩ <| LX.next <| PX.thenN <| CX.ret <| PX.ret1 (by simp) Tryz.results109 rfl ?_
  exact fun w hw => ⟨(), rfl, hw⟩
theorem sInts_q {W : World → Prop} [Stab W] {ak bk : Option Addr} (ck dk : Nat) {ks : List Int} (hkl : ks.length ≤ 1048576) (hk : ∀ w, W w → SlAt 1 intA (Lies w w.heap.size) ak ks) (hj2 : ∀ w, W w → SlAt 1 intA (Lies w w.heap.size) bk ks) : FnQ Tryz.prog 109 #[.slice ak ks.length ck, .slice bk ks.length dk] W (.bool true) := FnC.quiet fun w hw => sInts_c ck dk hkl (hk w hw) (hj2 w hw)
theorem sNode_c {w0 : World} {base : Nat} {x : Nd} {cs ds : List Value} (hkl : x.kids.length ≤ 1048576) (hx : ndA (Lies w0 base) cs x) (hy : ndA (Lies w0 base) ds x) : FnC Tryz.prog 47 #[.agg cs.toArray, .agg ds.toArray] (WA w0 base []) (fun _ : Unit => .bool true) (fun _ => WA w0 base []) := by
  obtain ⟨vk, rfl, hks, hin⟩ := hx
  obtain ⟨ak, ck, rfl, ⟨hkn, hkc⟩, hka⟩ := hks.sl
  obtain ⟨vk2, rfl, hks2, hin2⟩ := hy
  obtain ⟨bk, dk, rfl, ⟨hkn2, hkc2⟩, hkb2⟩ := hks2.sl
  refine FnC.of_body (fn := Tryz.f47) [(0, _), (1, _)] Tryz.func47 rfl Tryz.ntmps47 rfl ⟨rfl, rfl, trivial⟩ ?_
  refine CX.seq <| CX.region <| LX.box rfl rfl rfl rfl rfl ?_
  intro n1x
  refine LX.box rfl rfl rfl rfl rfl ?_
  intro n2x
  refine LX.pure (Y.assign rfl) rfl rfl rfl <| LX.sub (l' := [(2, _), (3, _), (4, _)]) ⟨rfl, rfl, rfl, trivial⟩ <| LX.next <| PX.thenN <| CX.seq <| CX.region <| LX.pure (Y.fieldAddr0 Fu.fo32_4 rfl) rfl rfl rfl <| LX.pure (Y.ldB 1 Fu.one30 rfl rfl rfl) rfl rfl rfl <| LX.pure (Y.fieldAddr0 Fu.fo32_4 rfl) rfl rfl rfl <| LX.pure (Y.ldB 0 Fu.one30 rfl rfl rfl) rfl rfl rfl <| LX.callQ (sInts_q ck dk hkl (fun w hw => hka.push hw) (fun w hw => hkb2.push hw)) Vb.en109 rfl rfl rfl rfl rfl <| LX.pure (Y.assign rfl) rfl rfl rfl <| LX.sub (l' := [(2, _), (3, _), (4, _), (5, _)]) ⟨rfl, rfl, rfl, rfl, trivial⟩ <| LX.next <| PX.thenN <| CX.seq <| CX.region <| LX.pure (Y.move rfl) rfl rfl rfl <| LX.pure (Y.move rfl) rfl rfl rfl <| LX.sub (l' := [(2, _), (3, _), (4, _), (12, _)]) ⟨rfl, rfl, rfl, rfl, trivial⟩ ?_
  apply LX.joinAnd 6 18 12 rfl
  · intro hb1
    have hb1p := hb1
    try simp at hb1p
    refine LX.gT rfl rfl rfl hb1 (Y.fieldAddr0 Ft.fo32_0 rfl) rfl rfl <| LX.gT rfl rfl rfl hb1 (Y.ldB 1 Ft.one3 rfl rfl rfl) rfl rfl <| LX.gT rfl rfl rfl hb1 (Y.fieldAddr0 Ft.fo32_0 rfl) rfl rfl <| LX.gT rfl rfl rfl hb1 (Y.ldB 0 Ft.one3 rfl rfl rfl) rfl rfl <| LX.gT rfl rfl rfl hb1 (Y.eqI rfl rfl) rfl rfl <| LX.pure (Y.pickT rfl hb1 rfl) rfl rfl rfl ?_
    exact LX.left ⟨rfl, rfl, rfl, rfl, rfl, trivial⟩
  · intro hb1
    (simp at hb1; done)
  refine LX.pure (Y.move rfl) rfl rfl rfl <| LX.sub (l' := [(2, _), (3, _), (4, _), (19, _)]) ⟨rfl, rfl, rfl, rfl, trivial⟩ ?_
  apply LX.joinAnd 6 25 19 rfl
  · intro hb2
    have hb2p := hb2
    try simp at hb2p
    refine LX.gT rfl rfl rfl hb2 (Y.fieldAddr0 Va.fo32_1 rfl) rfl rfl <| LX.gT rfl rfl rfl hb2 (Y.ldB 1 Ft.one3 rfl rfl rfl) rfl rfl <| LX.gT rfl rfl rfl hb2 (Y.fieldAddr0 Va.fo32_1 rfl) rfl rfl <| LX.gT rfl rfl rfl hb2 (Y.ldB 0 Ft.one3 rfl rfl rfl) rfl rfl <| LX.gT rfl rfl rfl hb2 (Y.eqI rfl rfl) rfl rfl <| LX.pure (Y.pickT rfl hb2 rfl) rfl rfl rfl ?_
    exact LX.left ⟨rfl, rfl, rfl, rfl, rfl, trivial⟩
  · intro hb2
    (simp at hb2; done)
  refine LX.pure (Y.move rfl) rfl rfl rfl <| LX.sub (l' := [(2, _), (3, _), (4, _), (26, _)]) ⟨rfl, rfl, rfl, rfl, trivial⟩ ?_
  apply LX.joinAnd 6 32 26 rfl
  · intro hb3
    have hb3p := hb3
    try simp at hb3p
    refine LX.gT rfl rfl rfl hb3 (Y.fieldAddr0 Pl.fo32_2 rfl) rfl rfl <| LX.gT rfl rfl rfl hb3 (Y.ldB 1 Ft.one3 rfl rfl rfl) rfl rfl <| LX.gT rfl rfl rfl hb3 (Y.fieldAddr0 Pl.fo32_2 rfl) rfl rfl <| LX.gT rfl rfl rfl hb3 (Y.ldB 0 Ft.one3 rfl rfl rfl) rfl rfl <| LX.gT rfl rfl rfl hb3 (Y.eqI rfl rfl) rfl rfl <| LX.pure (Y.pickT rfl hb3 rfl) rfl rfl rfl ?_
    exact LX.left ⟨rfl, rfl, rfl, rfl, rfl, trivial⟩
  · intro hb3
    (simp at hb3; done)
  refine LX.pure (Y.move rfl) rfl rfl rfl <| LX.sub (l' := [(2, _), (3, _), (4, _), (33, _)]) ⟨rfl, rfl, rfl, rfl, trivial⟩ ?_
  apply LX.joinAnd 6 39 33 rfl
  · intro hb4
    have hb4p := hb4
    try simp at hb4p
    refine LX.gT rfl rfl rfl hb4 (Y.fieldAddr0 Va.fo32_3 rfl) rfl rfl <| LX.gT rfl rfl rfl hb4 (Y.ldB 1 Fy.one9 rfl rfl rfl) rfl rfl <| LX.gT rfl rfl rfl hb4 (Y.fieldAddr0 Va.fo32_3 rfl) rfl rfl <| LX.gT rfl rfl rfl hb4 (Y.ldB 0 Fy.one9 rfl rfl rfl) rfl rfl <| LX.gT rfl rfl rfl hb4 (Y.eqS rfl rfl) rfl rfl <| LX.pure (Y.pickT rfl hb4 rfl) rfl rfl rfl ?_
    exact LX.left ⟨rfl, rfl, rfl, rfl, rfl, trivial⟩
  · intro hb4
    (simp at hb4; done)
  refine LX.pure (Y.assign rfl) rfl rfl rfl <| LX.sub (l' := [(4, _)]) ⟨rfl, trivial⟩ <| LX.next <| PX.thenN <| CX.ret <| PX.ret1 (by simp) Tryz.results47 rfl ?_
  exact fun w hw => ⟨(), congrArg (fun z => Ending.returned (Value.bool z)) (by simp), hw.drop (.cons _ (List.sublist_cons_self _ _))⟩
theorem sNode_q {W : World → Prop} [Stab W] {x : Nd} {cs ds : List Value} (hkl : x.kids.length ≤ 1048576) (hx : ∀ w, W w → ndA (Lies w w.heap.size) cs x) (hy : ∀ w, W w → ndA (Lies w w.heap.size) ds x) : FnQ Tryz.prog 47 #[.agg cs.toArray, .agg ds.toArray] W (.bool true) := FnC.quiet fun w hw => sNode_c hkl (hx w hw) (hy w hw)
theorem sNodes_c {w0 : World} {base : Nat} {al bl : Option Addr} (cl dl : Nat) {l : List Nd} (hln : l.length ≤ 1048576) (hkb : ∀ x ∈ l, x.kids.length ≤ 1048576) (hl : SlAt 5 ndA (Lies w0 base) al l) (hm : SlAt 5 ndA (Lies w0 base) bl l) : FnC Tryz.prog 14 #[.slice al l.length cl, .slice bl l.length dl] (WA w0 base []) (fun _ : Unit => .bool true) (fun _ => WA w0 base []) := by
  refine FnC.of_body (fn := Tryz.f14) [(0, _), (1, _)] Tryz.func14 rfl Tryz.ntmps14 rfl ⟨rfl, rfl, trivial⟩ ?_
  refine CX.seq <| CX.region <| LX.pure (Y.assign rfl) rfl rfl rfl <| LX.sub (l' := [(0, _), (1, _), (4, _)]) ⟨rfl, rfl, rfl, trivial⟩ <| LX.next <| PX.thenN <| CX.seq <| CX.seq <| CX.region <| LX.pure (Y.move rfl) rfl rfl rfl <| LX.pure (Y.lenSl rfl Ft.un23 rfl) rfl rfl rfl <| LX.pure (Y.move rfl) rfl rfl rfl <| LX.pure (Y.lenSl rfl Ft.un23 rfl) rfl rfl rfl <| LX.pure (Y.neN rfl rfl) rfl rfl rfl <| LX.sub (l' := [(0, _), (1, _), (4, _), (11, _)]) ⟨rfl, rfl, rfl, rfl, trivial⟩ <| LX.next <| PX.thenN ?_
  refine CX.cond rfl (fun hb1 => ?_) (fun hb1 => ?_)
  · try simp at hb1
    done
  try simp at hb1
  refine CX.skip <| PX.thenN <| CX.seq <| CX.seq <| CX.region <| LX.pure (Y.assign rfl) rfl rfl rfl <| LX.sub (l' := [(0, _), (1, _), (4, _), (5, _)]) ⟨rfl, rfl, rfl, rfl, trivial⟩ <| LX.next <| PX.thenN <| CX.block <| CX.loop (fun j : Nat => [(0, .slice al l.length cl), (1, .slice bl l.length dl), (5, .int .i64 (j : Int))]) (fun (j : Nat) w => j ≤ l.length ∧ WA w0 base [] w) (fun j => l.length - j) 0 ⟨rfl, rfl, rfl, trivial⟩ (fun w hw => ⟨Nat.zero_le _, hw⟩) ?_
  rintro j
  refine CX.have fun hj0 => ?_
  replace hj0 : j ≤ l.length := hj0
  refine CX.seq <| CX.seq <| CX.region <| LX.pure (Y.move rfl) rfl rfl rfl <| LX.pure (Y.move rfl) rfl rfl rfl <| LX.pure (Y.lenSl rfl Ft.un23 rfl) rfl rfl rfl <| LX.pure (Y.ltN rfl rfl) rfl rfl rfl <| LX.sub (l' := [(0, _), (1, _), (5, _), (15, _)]) ⟨rfl, rfl, rfl, rfl, trivial⟩ <| LX.next <| PX.thenN ?_
  refine CX.cond rfl (fun hb2 => ?_) (fun hb2 => ?_)
  · try simp at hb2
    have hj : j < l.length := by omega
    obtain ⟨x, hx⟩ : ∃ x, l[j]? = some x := ⟨_, List.getElem?_eq_getElem hj⟩
    obtain ⟨a, cs, hav, hcl, hL, hA⟩ := hl j x hx
    obtain ⟨b, ds, hbv, hdl, hM, hB⟩ := hm j x hx
    refine CX.skip <| PX.thenN <| CX.seq <| CX.block <| CX.seq <| CX.regionQ rfl (by kernel_rfl) <| LX.pure (Y.move rfl) rfl rfl rfl <| LX.pure (Y.move rfl) rfl rfl rfl <| LX.pure (Y.idxZ Ft.un23 Ft.sz32 rfl rfl hav (j := j) rfl hj) rfl rfl rfl <| LX.pure (Y.ldAO (cs := cs) Ft.ag32 rfl hL hcl) rfl rfl rfl <| LX.pure (Y.move rfl) rfl rfl rfl <| LX.pure (Y.move rfl) rfl rfl rfl <| LX.pure (Y.idxZ Ft.un23 Ft.sz32 rfl rfl hbv (j := j) rfl hj) rfl rfl rfl <| LX.pure (Y.ldAO (cs := ds) Ft.ag32 rfl hM hdl) rfl rfl rfl <| LX.callQ (sNode_q (x := x) (hkb x (List.mem_of_getElem? hx)) (fun w hw => Kept.mono (fun a c q => Lies.push q hw) hA) (fun w hw => Kept.mono (fun a c q => Lies.push q hw) hB)) Vb.en47 rfl rfl rfl rfl rfl <| LX.pure (Y.assign rfl) rfl rfl rfl <| LX.sub (l' := [(0, _), (1, _), (5, _), (6, _)]) ⟨rfl, rfl, rfl, rfl, trivial⟩ <| LX.nextQ <| PX.thenN <| CX.seq <| CX.region <| LX.pure (Y.move rfl) rfl rfl rfl <| LX.pure (Y.not rfl) rfl rfl rfl <| LX.sub (l' := [(0, _), (1, _), (5, _), (28, _)]) ⟨rfl, rfl, rfl, rfl, trivial⟩ <| LX.next <| PX.thenN ?_
    refine CX.cond rfl (fun hb3 => ?_) (fun hb3 => ?_)
    · try simp at hb3
      done
    try simp at hb3
    refine CX.skip <| PX.blockN <| PX.thenN <| CX.region <| LX.pure (Y.move rfl) rfl rfl rfl <| LX.pure (Y.addN rfl rfl (by (simp only []; omega))) rfl rfl rfl <| LX.pure (Y.assign rfl) rfl rfl rfl <| LX.sub (l' := [(0, _), (1, _), (5, _)]) ⟨rfl, rfl, rfl, trivial⟩ <| LX.next ?_
    exact PX.again (μ := fun j => l.length - j) (i := j) (j + 1) (by show l.length - (j + 1) < l.length - j; omega) ⟨rfl, rfl, rfl, trivial⟩ (fun w hw => ⟨by show j + 1 ≤ l.length; omega, hw⟩)
  try simp at hb2
  refine CX.exit <| PX.thenE <| PX.thenE <| PX.blockE <| PX.thenN <| CX.seq <| CX.region <| LX.pure (Y.assign rfl) rfl rfl rfl <| LX.sub (l' := [(4, _)]) ⟨rfl, trivial⟩ <| LX.next <| PX.thenN <| CX.ret <| PX.ret1 (by simp) Tryz.results14 rfl ?_
  exact fun w hw => ⟨(), rfl, hw⟩
theorem sNodes_q {W : World → Prop} [Stab W] {al bl : Option Addr} (cl dl : Nat) {l : List Nd} (hln : l.length ≤ 1048576) (hkb : ∀ x ∈ l, x.kids.length ≤ 1048576) (hl : ∀ w, W w → SlAt 5 ndA (Lies w w.heap.size) al l) (hm : ∀ w, W w → SlAt 5 ndA (Lies w w.heap.size) bl l) : FnQ Tryz.prog 14 #[.slice al l.length cl, .slice bl l.length dl] W (.bool true) := FnC.quiet fun w hw => sNodes_c cl dl hln hkb (hl w hw) (hm w hw)
end Go.Proofs.YtfbenelagdcdgaaGreatDoor

namespace Go.Proofs.YtfbenelagdcdgaaGreatDoor
open Go.SX Go.RowKit Go.Tr Go.Lex
namespace Vc
theorem en11 : Enters Tryz.prog 11 := Enters.of Tryz.func11 (by kernel_rfl) (by kernel_rfl)
end Vc
open Go.Proofs.YtfbenelagdcdgaaGreatDoor.Env (EnvS errV sentG)
open Go.Pa (Tk Rs bnd ret isB is_ adv bad take must kinds inn outn node nodeAt setPos)
open Go.Ck (NdsR)
open Go.Pa (st0 fuel parseP parse_cases)
open Go.Lex (tkP scan)
@[reducible] def firstT : List UInt8 := [120, 32, 61, 32, 49, 32, 43, 32, 50]
@[reducible] def firstN : List Nd := [⟨6, 0, 0, [120], []⟩, ⟨4, 0, 4, [49], []⟩, ⟨4, 0, 8, [50], []⟩, ⟨21, 0, 6, [], [1, 2]⟩, ⟨36, 0, 2, [], [0, 3]⟩, ⟨47, 0, 2, [], [4]⟩]
@[reducible] def wantI : List Int := [6, 4, 4, 21, 36, 47]
theorem parse_first : parseP firstT = .ok firstN := by kernel_rfl
theorem first_op {cells : List Value} {rs : List It} (h : NdsR 3 rs cells firstN) : ∀ k, k < 6 → cells[k * 5 + 0]? = some (.int .i64 (wantI.getD k 0)) := by
  intro k hk
  match k, hk with
  | 0, _ => exact (h.cell (i := 0) rfl).2.1
  | 1, _ => exact (h.cell (i := 1) rfl).2.1
  | 2, _ => exact (h.cell (i := 2) rfl).2.1
  | 3, _ => exact (h.cell (i := 3) rfl).2.1
  | 4, _ => exact (h.cell (i := 4) rfl).2.1
  | 5, _ => exact (h.cell (i := 5) rfl).2.1
theorem want_at : ∀ k, k < 6 → (wantI.map iv)[k]? = some (.int .i64 (wantI.getD k 0)) := by
  intro k hk
  match k, hk with
  | 0, _ => rfl
  | 1, _ => rfl
  | 2, _ => rfl
  | 3, _ => rfl
  | 4, _ => rfl
  | 5, _ => rfl
theorem first_c {w0 : World} {base : Nat} {fr : List It} {aE : Nat → Addr} (hS : EnvS w0 base aE) : FnC Tryz.prog 10 #[] (WA w0 base fr) (fun _ : Unit => .bool true) (fun _ => WA w0 base fr) := by
  refine FnC.of_body (fn := Tryz.f10) [] Tryz.func10 rfl Tryz.ntmps10 rfl trivial ?_
  refine CX.seq <| CX.region <| LX.pure (Y.assign rfl) rfl rfl rfl <| LX.sub (l' := [(0, _)]) ⟨rfl, trivial⟩ <| LX.next <| PX.thenN <| CX.seq <| CX.region <| LX.call (parse_ok (out := firstN) hS (by decide) parse_first) Vc.en11 rfl rfl rfl rfl rfl ?_
  intro m
  refine LX.have fun hnd => ?_
  try dsimp only
  refine LX.pure (Y.move rfl) rfl rfl rfl <| LX.pure (Y.extract rfl rfl) rfl rfl rfl <| LX.pure (Y.extract rfl rfl) rfl rfl rfl <| LX.pure (Y.assign rfl) rfl rfl rfl <| LX.pure (Y.assign rfl) rfl rfl rfl <| LX.sub (l' := [(0, _), (1, _), (2, _)]) ⟨rfl, rfl, rfl, trivial⟩ <| LX.next <| PX.thenN <| CX.seq <| CX.seq <| CX.region <| LX.pure (Y.move rfl) rfl rfl rfl <| LX.pure (Y.neNilNil Qg_.un25 rfl) rfl rfl rfl <| LX.pure (Y.move rfl) rfl rfl rfl <| LX.sub (l' := [(0, _), (1, _), (11, _)]) ⟨rfl, rfl, rfl, trivial⟩ ?_
  apply LX.joinOr 4 15 11 rfl
  · intro hb1
    (simp at hb1; done)
  · intro hb1
    have hb1p := hb1
    try simp at hb1p
    refine LX.gT rfl rfl rfl hb1 (Y.move rfl) rfl rfl <| LX.gT rfl rfl rfl hb1 (Y.lenSl rfl Ft.un23 rfl) rfl rfl <| LX.gT rfl rfl rfl hb1 (Y.neN rfl rfl) rfl rfl <| LX.pure (Y.pickF rfl hb1 rfl) rfl rfl rfl ?_
    exact LX.left ⟨rfl, rfl, rfl, rfl, trivial⟩
  refine LX.sub (l' := [(0, _), (1, _), (15, _)]) ⟨rfl, rfl, rfl, trivial⟩ <| LX.next <| PX.thenN ?_
  refine CX.cond rfl (fun hb2 => ?_) (fun hb2 => ?_)
  · try simp at hb2
    done
  try simp at hb2
  refine CX.skip <| PX.thenN <| CX.seq <| CX.region <| LX.buildSlice (e := 3) (size := 1) rfl rfl (fun _ => by kernel_rfl) rfl (by decide) rfl rfl rfl ?_
  intro gw
  refine LX.world (W' := WA w0 base (.row (some gw) 6 6 3 1 (wantI.map iv) :: .row m.g m.c 6 32 5 m.cells :: (m.rs ++ fr))) (fun w hw => hw) <| LX.pure (Y.assign rfl) rfl rfl rfl <| LX.sub (l' := [(0, _), (1, _), (3, _)]) ⟨rfl, rfl, rfl, trivial⟩ <| LX.next <| PX.thenN <| CX.seq <| CX.seq <| CX.region <| LX.pure (Y.assign rfl) rfl rfl rfl <| LX.sub (l' := [(0, _), (1, _), (3, _), (4, _)]) ⟨rfl, rfl, rfl, rfl, trivial⟩ <| LX.next <| PX.thenN <| CX.block <| CX.loop (fun k : Nat => [(1, rv m.g 6 m.c), (3, .slice (some ⟨gw, 0, none⟩) 6 6), (4, .int .i64 (k : Int))]) (fun (k : Nat) w => k ≤ 6 ∧ WA w0 base (.row (some gw) 6 6 3 1 (wantI.map iv) :: .row m.g m.c 6 32 5 m.cells :: (m.rs ++ fr)) w) (fun k => 6 - k) 0 ⟨rfl, rfl, rfl, trivial⟩ (fun w hw => ⟨Nat.zero_le _, hw⟩) ?_
  rintro k
  refine CX.have fun hk0 => ?_
  replace hk0 : k ≤ 6 := hk0
  refine CX.seq <| CX.seq <| CX.region <| LX.pure (Y.move rfl) rfl rfl rfl <| LX.pure (Y.ltN rfl rfl) rfl rfl rfl <| LX.sub (l' := [(1, _), (3, _), (4, _), (18, _)]) ⟨rfl, rfl, rfl, rfl, trivial⟩ <| LX.next <| PX.thenN ?_
  refine CX.cond rfl (fun hb3 => ?_) (fun hb3 => ?_)
  · try simp at hb3
    have hk6 : k < 6 := by omega
    refine CX.skip <| PX.thenN <| CX.seq <| CX.block <| CX.seq <| CX.regionQ rfl (by kernel_rfl) <| LX.pure (Y.move rfl) rfl rfl rfl <| LX.pure (Y.move rfl) rfl rfl rfl <| LX.pure (Y.idxR 1 (i := k) Ft.un23 Ft.sz32 rfl rfl rfl (hk6)) rfl rfl rfl <| LX.pure (Y.fieldAddr Ft.fo32_0 rfl) rfl rfl rfl <| LX.pure (Y.ldR 1 (v := .int .i64 (wantI.getD k 0)) Ft.one3 rfl rfl (first_op hnd k hk6)) rfl rfl rfl <| LX.pure (Y.move rfl) rfl rfl rfl <| LX.pure (Y.move rfl) rfl rfl rfl <| LX.pure (Y.idxR 0 (i := k) Ft.un30 Ft.sz3 rfl rfl rfl hk6) rfl rfl rfl <| LX.pure (Y.ldR 0 (v := .int .i64 (wantI.getD k 0)) Ft.one3 rfl rfl (by rw [Nat.mul_one]; exact want_at k hk6)) rfl rfl rfl <| LX.pure (Y.neI rfl rfl) rfl rfl rfl <| LX.sub (l' := [(1, _), (3, _), (4, _), (30, _)]) ⟨rfl, rfl, rfl, rfl, trivial⟩ <| LX.nextQ <| PX.thenN ?_
    refine CX.cond rfl (fun hb4 => ?_) (fun hb4 => ?_)
    · try simp at hb4
      done
    try simp at hb4
    refine CX.skip <| PX.blockN <| PX.thenN <| CX.region <| LX.pure (Y.move rfl) rfl rfl rfl <| LX.pure (Y.addN rfl rfl (by (simp only []; omega))) rfl rfl rfl <| LX.pure (Y.assign rfl) rfl rfl rfl <| LX.sub (l' := [(1, _), (3, _), (4, _)]) ⟨rfl, rfl, rfl, trivial⟩ <| LX.next ?_
    exact PX.again (μ := fun k => 6 - k) (i := k) (k + 1) (by show 6 - (k + 1) < 6 - k; omega) ⟨rfl, rfl, rfl, trivial⟩ (fun w hw => ⟨by show k + 1 ≤ 6; omega, hw⟩)
  try simp at hb3
  refine CX.exit <| PX.thenE <| PX.thenE <| PX.blockE <| PX.thenN <| CX.seq <| CX.region <| LX.pure (Y.move rfl) rfl rfl rfl <| LX.pure (Y.idxR 1 (i := 4) Ft.un23 Ft.sz32 rfl rfl rfl (by decide)) rfl rfl rfl <| LX.pure (Y.fieldAddr Pl.fo32_2 rfl) rfl rfl rfl <| LX.pure (Y.ldR 1 (v := .int .i64 2) Ft.one3 rfl rfl (hnd.cell (i := 4) rfl).2.2.1) rfl rfl rfl <| LX.pure (Y.eqN rfl rfl) rfl rfl rfl <| LX.pure (Y.move rfl) rfl rfl rfl <| LX.sub (l' := [(1, _), (36, _)]) ⟨rfl, rfl, trivial⟩ ?_
  apply LX.joinAnd 6 42 36 rfl
  · intro hb5
    have hb5p := hb5
    try simp at hb5p
    refine LX.gT rfl rfl rfl hb5 (Y.move rfl) rfl rfl <| LX.gT rfl rfl rfl hb5 (Y.idxR 1 (i := 3) Ft.un23 Ft.sz32 rfl rfl rfl (by decide)) rfl rfl <| LX.gT rfl rfl rfl hb5 (Y.fieldAddr Pl.fo32_2 rfl) rfl rfl <| LX.gT rfl rfl rfl hb5 (Y.ldR 1 (v := .int .i64 6) Ft.one3 rfl rfl (hnd.cell (i := 3) rfl).2.2.1) rfl rfl <| LX.gT rfl rfl rfl hb5 (Y.eqN rfl rfl) rfl rfl <| LX.pure (Y.pickT rfl hb5 rfl) rfl rfl rfl ?_
    exact LX.left ⟨rfl, rfl, rfl, trivial⟩
  · intro hb5
    (simp at hb5; done)
  refine LX.pure (Y.assign rfl) rfl rfl rfl <| LX.sub (l' := [(0, _)]) ⟨rfl, trivial⟩ <| LX.next <| PX.thenN <| CX.ret <| PX.ret1 (by simp) Tryz.results10 rfl ?_
  exact fun w hw => ⟨(), congrArg (fun z => Ending.returned (Value.bool z)) (by simp), hw.drop (.cons _ (.cons _ (List.sublist_append_right _ _)))⟩
end Go.Proofs.YtfbenelagdcdgaaGreatDoor
