/-
  Proved here: copies of nodes.
-/
import Derived.Test.YtickdimknfeddaaGreatDoorKzF
import Derived.Test.YtickdimknfeddaaGreatDoorMg
import Derived.Test.YtickdimknfeddaaGreatDoorCpN
set_option linter.unusedSimpArgs false
namespace Go.Proofs.YtickdimknfeddaaGreatDoor
open Go.SX Go.RowKit Go.Vo Go.Ky Go.Proofs.YtickdimknfeddaaGreatDoor.Env Go.Tr
namespace Kug
theorem en107 : Enters Tryz.prog 107 := Enters.of Tryz.func107 (by kernel_rfl) (by kernel_rfl)
theorem en81 : Enters Tryz.prog 81 := Enters.of Tryz.func81 (by kernel_rfl) (by kernel_rfl)
theorem fa53_2 : FieldOffA Tryz.prog 53 2 2 := fun a w => by kernel_rfl
theorem fo53_2 : FieldOff Tryz.prog 53 2 2 := fun b o w => by kernel_rfl
theorem el51 : Elem Tryz.prog 51 3 1 8 := Elem.of Kq.un51 (z := .int .i64 0) (by kernel_rfl) rfl
end Kug
open Go.Ck (NdsF kids_in kids_A)
theorem take_map {α : Type} {l : List α} {j : Nat} {d : α} (f : α → Value) (h : j < l.length) : (l.take (j + 1)).map f = (l.take j).map f ++ [f (l.getD j d)] := by
  rw [List.take_add_one, List.map_append, List.getElem?_eq_getElem h, List.getD_eq_getElem?_getD, List.getElem?_eq_getElem h]
  rfl
theorem cInts_c {w0 : World} {base : Nat} {fr : List It} {ak : Option Addr} (ck : Nat) {ks : List Int} (hkl : ks.length ≤ 1048576) (hk : SlAt 1 intA (Lies w0 base) ak ks) : FnC Tryz.prog 107 #[.slice ak ks.length ck] (WA w0 base fr) (fun s : Option Nat × Nat => rv s.1 ks.length s.2) (fun s => WA w0 base (.row s.1 s.2 ks.length 3 1 (ks.map iv) :: fr)) := by
  refine FnC.of_body (fn := Tryz.f107) [(0, _)] Tryz.func107 rfl Tryz.ntmps107 rfl ⟨rfl, trivial⟩ ?_
  refine CX.seq <| CX.region <| LX.pure (Y.assign rfl) rfl rfl rfl <| LX.sub (l' := [(0, _), (2, _)]) ⟨rfl, rfl, trivial⟩ <| LX.next <| PX.thenN <| CX.seq <| CX.region <| LX.pure (Y.move rfl) rfl rfl rfl <| LX.pure (Y.lenSl rfl Kq.un51 rfl) rfl rfl rfl <| LX.make0 (c := ks.length) Kug.el51 rfl rfl rfl (by omega) (by omega) rfl rfl rfl ?_
  intro gm
  refine LX.pure (Y.assign rfl) rfl rfl rfl <| LX.sub (l' := [(0, _), (2, _), (3, _)]) ⟨rfl, rfl, rfl, trivial⟩ <| LX.next <| PX.thenN <| CX.seq <| CX.seq <| CX.region <| LX.pure (Y.assign rfl) rfl rfl rfl <| LX.sub (l' := [(0, _), (2, _), (3, _), (4, _)]) ⟨rfl, rfl, rfl, rfl, trivial⟩ <| LX.next <| PX.thenN <| CX.block <| CX.loop (fun s : Nat × Option Nat × Nat => [(0, .slice ak ks.length ck), (3, rv s.2.1 s.1 s.2.2), (4, .int .i64 (s.1 : Int))]) (fun (s : Nat × Option Nat × Nat) w => s.1 ≤ ks.length ∧ WA w0 base (.row s.2.1 s.2.2 s.1 3 1 ((ks.take s.1).map iv) :: fr) w) (fun s => ks.length - s.1) (0, some gm, ks.length) ⟨rfl, rfl, rfl, trivial⟩ (fun w hw => ⟨Nat.zero_le _, hw⟩) ?_
  rintro ⟨j, g, cap⟩
  refine CX.have fun hj0 => ?_
  try dsimp only at hj0 ⊢
  refine CX.seq <| CX.seq <| CX.region <| LX.pure (Y.move rfl) rfl rfl rfl <| LX.pure (Y.move rfl) rfl rfl rfl <| LX.pure (Y.lenSl rfl Kq.un51 rfl) rfl rfl rfl <| LX.pure (Y.ltN rfl rfl) rfl rfl rfl <| LX.sub (l' := [(0, _), (3, _), (4, _), (11, _)]) ⟨rfl, rfl, rfl, rfl, trivial⟩ <| LX.next <| PX.thenN ?_
  refine CX.cond rfl (fun hb1 => ?_) (fun hb1 => ?_)
  · try simp at hb1
    have hj : j < ks.length := by omega
    obtain ⟨a0, hav, hL, _⟩ := hk.int_at hj
    refine CX.skip <| PX.thenN <| CX.seq <| CX.block <| CX.region <| LX.pure (Y.move rfl) rfl rfl rfl <| LX.pure (Y.move rfl) rfl rfl rfl <| LX.pure (Y.move rfl) rfl rfl rfl <| LX.pure (Y.idxZ Kq.un51 Kc.sz3 rfl rfl hav (j := j) rfl hj) rfl rfl rfl <| LX.pure (Y.ldO1 (v := .int .i64 (ks.getD j 0)) Kc.one3 rfl hL) rfl rfl rfl <| LX.buildSlice (e := 3) (size := 1) rfl rfl (fun _ => by kernel_rfl) rfl (by decide) rfl rfl rfl ?_
    intro gt15
    refine LX.appendRows 1 0 Kug.el51 rfl rfl rfl rfl rfl rfl rfl (by omega) (by omega) rfl rfl rfl ?_
    intro g2 cap2
    refine LX.pure (Y.assign rfl) rfl rfl rfl <| LX.sub (l' := [(0, _), (3, _), (4, _)]) ⟨rfl, rfl, rfl, trivial⟩ <| LX.next <| PX.blockN <| PX.thenN <| CX.region <| LX.pure (Y.move rfl) rfl rfl rfl <| LX.pure (Y.addN rfl rfl (by (simp only []; omega))) rfl rfl rfl <| LX.pure (Y.assign rfl) rfl rfl rfl <| LX.sub (l' := [(0, _), (3, _), (4, _)]) ⟨rfl, rfl, rfl, trivial⟩ <| LX.next ?_
    exact PX.again (μ := fun s => ks.length - s.1) (i := (j, g, cap)) (j + 1, g2, cap2) (by show ks.length - (j + 1) < ks.length - j; omega) ⟨rfl, rfl, rfl, trivial⟩ (fun w hw => ⟨by show j + 1 ≤ ks.length; omega, by have h1 := hw.drop (List.sublist_cons_self _ _); show WA w0 base (.row g2 cap2 (j + 1) 3 1 ((ks.take (j + 1)).map iv) :: fr) w; rw [take_map (d := 0) iv hj]; exact h1⟩)
  try simp at hb1
  have hje : j = ks.length := by omega
  subst hje
  refine CX.exit <| PX.thenE <| PX.thenE <| PX.blockE <| PX.thenN <| CX.seq <| CX.region <| LX.pure (Y.move rfl) rfl rfl rfl <| LX.pure (Y.assign rfl) rfl rfl rfl <| LX.sub (l' := [(2, _)]) ⟨rfl, trivial⟩ <| LX.next <| PX.thenN <| CX.ret <| PX.ret1 (by simp) Tryz.results107 rfl ?_
  exact fun w hw => ⟨(g, cap), rfl, by have h1 := hw; rw [List.take_length] at h1; exact h1⟩
theorem cNode_c {w0 : World} {base : Nat} {fr : List It} {x : Nd} {cs : List Value} (hx : ndA (Lies w0 base) cs x) (hkl : x.kids.length ≤ 1048576) : FnC Tryz.prog 81 #[.agg cs.toArray] (WA w0 base fr) (fun s : Option Nat × Nat => .agg ([.int .i64 x.op, .int .i64 x.n, .int .i64 x.pos, str x.s, rv s.1 x.kids.length s.2]).toArray) (fun s => WA w0 base (.row s.1 s.2 x.kids.length 3 1 (x.kids.map iv) :: fr)) := by
  obtain ⟨vk, rfl, hks, hin⟩ := hx
  obtain ⟨ak2, ck2, rfl, ⟨hkn2, hkc2⟩, hka2⟩ := hks.sl
  refine FnC.of_body (fn := Tryz.f81) [(0, _)] Tryz.func81 rfl Tryz.ntmps81 rfl ⟨rfl, trivial⟩ ?_
  refine CX.seq <| CX.region <| LX.box rfl rfl rfl rfl rfl ?_
  intro n1x
  refine LX.alloc rfl Kr_.zv53 rfl rfl rfl ?_
  intro n2x
  refine LX.sub (l' := [(1, _), (2, _)]) ⟨rfl, rfl, trivial⟩ <| LX.next <| PX.thenN <| CX.seq <| CX.regionM [(0, .anywhere), (1, .held), (2, .anywhere), (3, .held), (4, .anywhere), (5, .held), (6, .anywhere), (7, .held), (8, .anywhere), (9, .held), (10, .alone), (11, .alone), (12, .alone)] rfl (by kernel_rfl) <| MX.lift0 (i := 0) rfl (Y.fieldAddr0 Kq.fo53_0 rfl) rfl rfl rfl <| MX.lift1 (i := 1) (pend' := []) rfl (fun w hw => by exact hw) (Y.ldB 1 Kc.one3 rfl rfl rfl) rfl rfl rfl (by kernel_rfl) <| MX.lift0 (i := 2) rfl (Y.fieldAddr0 Kuf.fo53_1 rfl) rfl rfl rfl <| MX.lift1 (i := 3) (pend' := [1]) rfl (fun w hw => by exact hw) (Y.ldB 1 Kc.one3 rfl rfl rfl) rfl rfl rfl (by kernel_rfl) <| MX.lift0 (i := 4) rfl (Y.fieldAddr0 Kug.fo53_2 rfl) rfl rfl rfl <| MX.lift1 (i := 5) (pend' := [3, 1]) rfl (fun w hw => by exact hw) (Y.ldB 1 Kc.one3 rfl rfl rfl) rfl rfl rfl (by kernel_rfl) <| MX.lift0 (i := 6) rfl (Y.fieldAddr0 Kr_.fo53_3 rfl) rfl rfl rfl <| MX.lift1 (i := 7) (pend' := [5, 3, 1]) rfl (fun w hw => by exact hw) (Y.ldB 1 Kh.one9 rfl rfl rfl) rfl rfl rfl (by kernel_rfl) <| MX.lift0 (i := 8) rfl (Y.fieldAddr0 Kq.fo53_4 rfl) rfl rfl rfl <| MX.lift1 (i := 9) (pend' := [7, 5, 3, 1]) rfl (fun w hw => by exact hw) (Y.ldB 1 Kq.one51 rfl rfl rfl) rfl rfl rfl (by kernel_rfl) <| MX.force (i := 10) rfl <| LX.call (cInts_c ck2 hkl hka2) Kug.en107 rfl rfl rfl rfl rfl ?_
  intro sk
  refine LX.nextM [7, 5, 3, 1] (by kernel_rfl) (fun _ => (fun w hw => by exact hw.drop (List.sublist_cons_self _ _))) <| MX.force (i := 11) rfl <| LX.pure (Y.build (v := .agg ([.int .i64 x.op, .int .i64 x.n, .int .i64 x.pos, str x.s, rv sk.1 x.kids.length sk.2]).toArray) rfl (fun _ => by kernel_rfl)) rfl rfl rfl <| LX.nextM [] (by kernel_rfl) (fun h => absurd rfl h) <| MX.force (i := 12) rfl <| LX.storeA 1 Kq.ag53 rfl rfl rfl rfl rfl rfl rfl rfl rfl <| LX.nextM [] (by kernel_rfl) (fun h => absurd rfl h) <| MX.sub (l' := [(2, _)]) ⟨rfl, trivial⟩ <| MX.done <| PX.thenN <| CX.ret <| PX.retA (i := 1) (by simp) Tryz.results81 Kq.ag53 rfl rfl rfl ?_
  exact fun w hw => ⟨sk, rfl, hw.drop (.cons_cons _ (.cons _ (.cons _ (List.Sublist.refl _))))⟩
theorem cNodes_c {w0 : World} {base : Nat} {fr : List It} {al : Option Addr} (cl : Nat) {l : List Nd} (hln : l.length ≤ 1048576) (hl : SlAt 5 ndA (Lies w0 base) al l) (hkb : ∀ x ∈ l, x.kids.length ≤ 1048576) : FnC Tryz.prog 37 #[.slice al l.length cl] (WA w0 base fr) (fun s : (Option Nat × Nat) × List Value × List It => rv s.1.1 l.length s.1.2) (fun s w => NdsF w0 base s.2.2 s.2.1 l ∧ WA w0 base (.row s.1.1 s.1.2 l.length 53 5 s.2.1 :: (s.2.2 ++ fr)) w) := by
  refine FnC.of_body (fn := Tryz.f37) [(0, _)] Tryz.func37 rfl Tryz.ntmps37 rfl ⟨rfl, trivial⟩ ?_
  refine CX.seq <| CX.region <| LX.pure (Y.assign rfl) rfl rfl rfl <| LX.sub (l' := [(0, _), (2, _)]) ⟨rfl, rfl, trivial⟩ <| LX.next <| PX.thenN <| CX.seq <| CX.region <| LX.pure (Y.move rfl) rfl rfl rfl <| LX.pure (Y.lenSl rfl Kq.un22 rfl) rfl rfl rfl <| LX.make0 (c := l.length) Kta.el22 rfl rfl rfl (by omega) (by omega) rfl rfl rfl ?_
  intro gm
  refine LX.pure (Y.assign rfl) rfl rfl rfl <| LX.sub (l' := [(0, _), (2, _), (3, _)]) ⟨rfl, rfl, rfl, trivial⟩ <| LX.next <| PX.thenN <| CX.seq <| CX.seq <| CX.region <| LX.pure (Y.assign rfl) rfl rfl rfl <| LX.sub (l' := [(0, _), (2, _), (3, _), (4, _)]) ⟨rfl, rfl, rfl, rfl, trivial⟩ <| LX.next <| PX.thenN <| CX.block <| CX.loop (fun s : Nat × (Option Nat × Nat) × List Value × List It => [(0, .slice al l.length cl), (3, rv s.2.1.1 s.1 s.2.1.2), (4, .int .i64 (s.1 : Int))]) (fun (s : Nat × (Option Nat × Nat) × List Value × List It) w => (s.1 ≤ l.length ∧ NdsF w0 base s.2.2.2 s.2.2.1 (l.take s.1)) ∧ WA w0 base (.row s.2.1.1 s.2.1.2 s.1 53 5 s.2.2.1 :: (s.2.2.2 ++ fr)) w) (fun s => l.length - s.1) (0, (some gm, l.length), [], []) ⟨rfl, rfl, rfl, trivial⟩ (fun w hw => ⟨⟨Nat.zero_le _, rfl, fun i x hx => by cases hx⟩, hw⟩) ?_
  rintro ⟨j, ⟨g, cap⟩, cells, rs⟩
  refine CX.have fun ⟨hj0, hnf⟩ => ?_
  try dsimp only at hj0 hnf ⊢
  refine CX.seq <| CX.seq <| CX.region <| LX.pure (Y.move rfl) rfl rfl rfl <| LX.pure (Y.move rfl) rfl rfl rfl <| LX.pure (Y.lenSl rfl Kq.un22 rfl) rfl rfl rfl <| LX.pure (Y.ltN rfl rfl) rfl rfl rfl <| LX.sub (l' := [(0, _), (3, _), (4, _), (11, _)]) ⟨rfl, rfl, rfl, rfl, trivial⟩ <| LX.next <| PX.thenN ?_
  refine CX.cond rfl (fun hb1 => ?_) (fun hb1 => ?_)
  · try simp at hb1
    have hj : j < l.length := by omega
    obtain ⟨x, hx⟩ : ∃ x, l[j]? = some x := ⟨_, List.getElem?_eq_getElem hj⟩
    obtain ⟨a, cs, hav, hcl, hL, vk, rfl, hks, hin⟩ := hl j x hx
    have hkx := hkb x (List.mem_of_getElem? hx)
    have hki : ∀ z ∈ x.kids, inI z := by
      obtain ⟨_, _, _, _, hka⟩ := hks.sl
      exact kids_in hka
    have htj : l.take (j + 1) = l.take j ++ [x] := by rw [List.take_add_one, hx]; rfl
    refine CX.skip <| PX.thenN <| CX.seq <| CX.block <| CX.region <| LX.pure (Y.move rfl) rfl rfl rfl <| LX.pure (Y.move rfl) rfl rfl rfl <| LX.pure (Y.move rfl) rfl rfl rfl <| LX.pure (Y.idxZ Kq.un22 Kq.sz53 rfl rfl hav (j := j) rfl hj) rfl rfl rfl <| LX.pure (Y.ldAO (cs := [.int .i64 x.op, .int .i64 x.n, .int .i64 x.pos, str x.s, vk]) Kq.ag53 rfl hL rfl) rfl rfl rfl <| LX.call (cNode_c (x := x) ⟨vk, rfl, hks, hin⟩ hkx) Kug.en81 rfl rfl rfl rfl rfl ?_
    intro sk
    refine LX.buildSlice (e := 53) (size := 5) rfl rfl (fun _ => by kernel_rfl) rfl (by decide) rfl rfl rfl ?_
    intro gt20
    refine LX.appendRows 2 0 Kta.el22 rfl rfl rfl rfl rfl rfl rfl (by omega) (by omega) rfl rfl rfl ?_
    intro g2 cap2
    refine LX.pure (Y.assign rfl) rfl rfl rfl <| LX.sub (l' := [(0, _), (3, _), (4, _)]) ⟨rfl, rfl, rfl, trivial⟩ <| LX.next <| PX.blockN <| PX.thenN <| CX.region <| LX.pure (Y.move rfl) rfl rfl rfl <| LX.pure (Y.addN rfl rfl (by (simp only []; omega))) rfl rfl rfl <| LX.pure (Y.assign rfl) rfl rfl rfl <| LX.sub (l' := [(0, _), (3, _), (4, _)]) ⟨rfl, rfl, rfl, trivial⟩ <| LX.next ?_
    exact PX.again (μ := fun s => l.length - s.1) (i := (j, (g, cap), cells, rs)) (j + 1, (g2, cap2), cells ++ [.int .i64 x.op, .int .i64 x.n, .int .i64 x.pos, str x.s, rv sk.1 x.kids.length sk.2], .row sk.1 sk.2 x.kids.length 3 1 (x.kids.map iv) :: rs) (by show l.length - (j + 1) < l.length - j; omega) ⟨rfl, rfl, rfl, trivial⟩ (fun w hw => ⟨⟨by show j + 1 ≤ l.length; omega, by show NdsF w0 base (_ :: rs) (cells ++ _) (l.take (j + 1)); rw [htj]; exact hnf.next rfl ⟨_, rfl, kids_A (i := 1) hw rfl hki (List.mem_cons_self ..) (by omega), hin⟩⟩, (hw.drop (List.sublist_cons_self _ _) : WA w0 base (_ :: _ :: (rs ++ fr)) w).perm (.swap _ _ _)⟩)
  try simp at hb1
  have hje : j = l.length := by omega
  subst hje
  rw [List.take_length] at hnf
  refine CX.exit <| PX.thenE <| PX.thenE <| PX.blockE <| PX.thenN <| CX.seq <| CX.region <| LX.pure (Y.move rfl) rfl rfl rfl <| LX.pure (Y.assign rfl) rfl rfl rfl <| LX.sub (l' := [(2, _)]) ⟨rfl, trivial⟩ <| LX.next <| PX.thenN <| CX.ret <| PX.ret1 (by simp) Tryz.results37 rfl ?_
  exact fun w hw => ⟨((g, cap), cells, rs), rfl, hnf, hw⟩
end Go.Proofs.YtickdimknfeddaaGreatDoor

namespace Go.Proofs.YtickdimknfeddaaGreatDoor
open Go.SX Go.RowKit Go.Vo Go.Ky Go.Proofs.YtickdimknfeddaaGreatDoor.Env Go.Tr
namespace Kuh
theorem en37 : Enters Tryz.prog 37 := Enters.of Tryz.func37 (by kernel_rfl) (by kernel_rfl)
end Kuh
open Go.Ck (NdsF)
theorem whole_0 {w0 : World} {base : Nat} {al : Option Addr} (cl : Nat) {l : List Nd} (h3 : l.length ≤ 300) (hB : ∀ (k : Nat) x, l[k]? = some x → x.kids.length ≤ 300 ∧ x.s.length ≤ 300) (hl : SlAt 5 ndA (Lies w0 base) al l) : FnC Tryz.prog 21 #[.slice al l.length cl] (WA w0 base []) (fun q : Option Nat × Nat => rv q.1 (l.length + 2) q.2) (fun q w => SlAt 5 ndA (Lies w w.heap.size) (q.1.map fun b => ⟨b, 0, none⟩) (tailN l) ∧ WA w0 base [] w) := by
  refine FnC.of_body (fn := Tryz.f21) [(0, _)] Tryz.func21 rfl Tryz.ntmps21 rfl ⟨rfl, trivial⟩ ?_
  refine CX.seq <| CX.region <| LX.pure (Y.assign rfl) rfl rfl rfl <| LX.sub (l' := [(0, _), (2, _)]) ⟨rfl, rfl, trivial⟩ <| LX.next <| PX.thenN <| CX.seq <| CX.region <| LX.pure (Y.move rfl) rfl rfl rfl ?_
  refine LX.call (cNodes_c cl (by omega) hl (fun x hx => by
    obtain ⟨k, hk⟩ := List.mem_iff_getElem?.1 hx
    have := hB k x hk
    omega)) Kuh.en37 rfl rfl rfl rfl rfl ?_
  rintro ⟨⟨g, c⟩, cells, rs⟩
  refine LX.have fun hnf => ?_
  try dsimp only at hnf ⊢
  refine LX.pure (Y.assign rfl) rfl rfl rfl <| LX.sub (l' := [(0, _), (2, _), (3, _)]) ⟨rfl, rfl, rfl, trivial⟩ <| LX.next <| PX.thenN <| CX.seq <| CX.region <| LX.pure (Y.move rfl) rfl rfl rfl <| LX.pure (Y.lenSl rfl Kq.un22 rfl) rfl rfl rfl <| LX.pure (Y.assign rfl) rfl rfl rfl <| LX.sub (l' := [(2, _), (3, _), (4, _)]) ⟨rfl, rfl, rfl, trivial⟩ <| LX.next <| PX.thenN <| CX.seq <| CX.region <| LX.pure (Y.move rfl) rfl rfl rfl <| LX.pure (Y.move rfl) rfl rfl rfl <| LX.pure (Y.sub rfl rfl (by omega)) rfl rfl rfl <| LX.buildSlice (e := 3) (size := 1) rfl rfl (fun _ => by kernel_rfl) rfl (by decide) rfl rfl rfl ?_
  intro gt12
  refine LX.pure (Y.build (v := .agg #[.int .i64 35, .int .i64 0, .int .i64 0, str [], .slice (some ⟨gt12, 0, none⟩) 1 1]) rfl (fun _ => by kernel_rfl)) rfl rfl rfl <| LX.buildSlice (e := 53) (size := 5) rfl rfl (fun _ => by kernel_rfl) rfl (by decide) rfl rfl rfl ?_
  intro gt14
  refine LX.appendRows 2 0 Kta.el22 rfl rfl rfl rfl rfl rfl rfl (by omega) (by omega) rfl rfl rfl ?_
  intro g2 cap2
  refine LX.pure (Y.assign rfl) rfl rfl rfl <| LX.sub (l' := [(2, _), (3, _), (4, _)]) ⟨rfl, rfl, rfl, trivial⟩ <| LX.next <| PX.thenN <| CX.seq <| CX.region <| LX.pure (Y.move rfl) rfl rfl rfl <| LX.pure (Y.move rfl) rfl rfl rfl <| LX.buildSlice (e := 3) (size := 1) rfl rfl (fun _ => by kernel_rfl) rfl (by decide) rfl rfl rfl ?_
  intro gt18
  refine LX.pure (Y.build (v := .agg #[.int .i64 47, .int .i64 0, .int .i64 0, str [], .slice (some ⟨gt18, 0, none⟩) 1 1]) rfl (fun _ => by kernel_rfl)) rfl rfl rfl <| LX.buildSlice (e := 53) (size := 5) rfl rfl (fun _ => by kernel_rfl) rfl (by decide) rfl rfl rfl ?_
  intro gt20
  refine LX.appendRows 4 0 Kta.el22 rfl rfl rfl rfl rfl rfl rfl (by omega) (by omega) rfl rfl rfl ?_
  intro g3 cap3
  refine LX.pure (Y.assign rfl) rfl rfl rfl <| LX.sub (l' := [(2, _)]) ⟨rfl, trivial⟩ <| LX.next <| PX.thenN <| CX.ret <| PX.ret1 (by simp) Tryz.results21 rfl ?_
  exact fun w hw => ⟨(g3, cap3), rfl, nds_tail (l := l) (cells := cells) (rs := rs) (i := 3) (j := 1) (c1 := 1) (c2 := 1) (g1 := gt12) (g2 := gt18) (e := 3) (f := 53) hw hnf (by omega) (fun it h => by simp [h]) rfl rfl (List.mem_of_getElem? (i := 4) (by rw [List.append_assoc]; rfl)), hw.drop (List.nil_sublist _)⟩
theorem whole_w {W : World → Prop} [Stab W] {al : Option Addr} (cl : Nat) {l : List Nd} (h3 : l.length ≤ 300) (hB : ∀ (k : Nat) x, l[k]? = some x → x.kids.length ≤ 300 ∧ x.s.length ≤ 300) (hl : ∀ w, W w → SlAt 5 ndA (Lies w w.heap.size) al l) : FnC Tryz.prog 21 #[.slice al l.length cl] W (fun q : Option Nat × Nat => rv q.1 (l.length + 2) q.2) (fun q w => SlAt 5 ndA (Lies w w.heap.size) (q.1.map fun b => ⟨b, 0, none⟩) (tailN l) ∧ W w) := FnC.reO fun w hw => whole_0 cl h3 hB (hl w hw)
end Go.Proofs.YtickdimknfeddaaGreatDoor

namespace Go.Proofs.YtickdimknfeddaaGreatDoor
open Go.SX Go.RowKit Go.Vo Go.Ky Go.Proofs.YtickdimknfeddaaGreatDoor.Env Go.Tr
namespace Kui
theorem en11 : Enters Tryz.prog 11 := Enters.of Tryz.func11 (by kernel_rfl) (by kernel_rfl)
theorem en19 : Enters Tryz.prog 19 := Enters.of Tryz.func19 (by kernel_rfl) (by kernel_rfl)
theorem en20 : Enters Tryz.prog 20 := Enters.of Tryz.func20 (by kernel_rfl) (by kernel_rfl)
theorem en21 : Enters Tryz.prog 21 := Enters.of Tryz.func21 (by kernel_rfl) (by kernel_rfl)
end Kui
instance {al : Option Addr} {l : List Nd} : Stab (fun w => SlAt 5 ndA (Lies w w.heap.size) al l) where
  st _ _ h hb := h.push (WA.from hb)
def SmB (l : List Nd) (i : Nat) : Prop := ∀ (k : Nat) x, k < i → l[k]? = some x → x.kids.length ≤ 300 ∧ x.s.length ≤ 300
theorem SmB.next {l : List Nd} {i : Nat} (h : SmB l i) {x : Nd} (hx : l[i]? = some x) (h1 : x.kids.length ≤ 300 ∧ x.s.length ≤ 300) : SmB l (i + 1) := fun k y hk hy => by
  rcases Nat.lt_or_ge k i with hi | hi
  · exact h k y hi hy
  obtain rfl : k = i := by omega
  rw [hx] at hy; cases hy; exact h1
theorem SmB.all {l : List Nd} (h : SmB l l.length) : ∀ (k : Nat) x, l[k]? = some x → x.kids.length ≤ 300 ∧ x.s.length ≤ 300 := fun k x hx => h k x (List.getElem?_eq_some_iff.1 hx).1 hx
structure Dp (n : Nat) (ds : List Int) : Prop where
  len : ds.length = n
  at_ : ∀ (k : Nat) z, ds[k]? = some z → 0 ≤ z ∧ z ≤ (k : Int) + 1
theorem Dp.start (n : Nat) : Dp n (List.replicate n 0) := ⟨List.length_replicate .., fun k z h => by
  rw [List.getElem?_replicate] at h
  split at h
  · cases h; omega
  · cases h⟩
theorem Dp.set {n : Nat} {ds : List Int} (h : Dp n ds) {k : Nat} {z : Int} (hz : 0 ≤ z ∧ z ≤ (k : Int) + 1) : Dp n (ds.set k z) := ⟨by rw [List.length_set]; exact h.len, fun j y hy => by
  rw [List.getElem?_set] at hy
  split at hy
  · next e => subst e; split at hy <;> cases hy; exact hz
  · exact h.at_ j y hy⟩
theorem iv_set (u : List Int) (k : Nat) (z : Int) : (u.map iv).set k (.int .i64 z) = (u.set k z).map iv := by rw [List.map_set]; rfl
theorem iv_at {u : List Int} {k : Nat} {z : Int} (h : u[k]? = some z) : (u.map iv)[k * 1]? = some (.int .i64 z) := by rw [Nat.mul_one, List.getElem?_map, h]; rfl
theorem made_iv (n : Nat) : (madeCells (Value.int .i64 0).cells (n * 1)).toList = (List.replicate n (0 : Int)).map iv := by
  rw [Nat.mul_one]
  refine List.ext_getElem (by simp [madeCells]) fun i h1 h2 => ?_
  simp [madeCells, Value.cells, iv, Nat.mod_one]
theorem ok6_tail {l : List Nd} (h : Ok6 (tailN l) (tailN l).length) : ∀ (k : Nat) x, l[k]? = some x → ∀ q ∈ x.kids, 0 ≤ q ∧ q < (k : Int) := fun k x hx => by
  have hk := (List.getElem?_eq_some_iff.1 hx).1
  exact h.kid k x (by simp; omega) (by rw [List.getElem?_append_left hk]; exact hx)
structure TreeOk (l : List Nd) : Prop where
  pos : 0 < l.length
  few : l.length ≤ 300
  sm : ∀ (k : Nat) x, l[k]? = some x → x.kids.length ≤ 300 ∧ x.s.length ≤ 300
  kid : ∀ (k : Nat) x, l[k]? = some x → ∀ q ∈ x.kids, 0 ≤ q ∧ q < (k : Int)
theorem valid6_n {W : World → Prop} [Stab W] {al : Option Addr} (n cl : Nat) {l : List Nd} (hn : n = l.length) (hB : ∀ (k : Nat) x, l[k]? = some x → x.kids.length ≤ 302 ∧ x.s.length ≤ 302) (h3 : l.length ≤ 302) (hl : ∀ w, W w → SlAt 5 ndA (Lies w w.heap.size) al l) : FnC Tryz.prog 20 #[.slice al n cl] W (fun b : Int × Bool × Int => .agg #[.int .i64 b.1, .bool b.2.1, .int .i64 b.2.2, .bool false, str []]) (fun b w => (b.1 = 0 → Ok6 l l.length) ∧ W w) := by
  subst hn
  exact valid6_w cl hB h3 hl
theorem wTree_0 {w0 : World} {base : Nat} {al : Option Addr} (cl : Nat) {l : List Nd} (hl : SlAt 5 ndA (Lies w0 base) al l) : FnC Tryz.prog 19 #[.slice al l.length cl] (WA w0 base []) (fun b : Bool => .bool b) (fun b w => (b = true → l.length ≤ 300 ∧ ∀ (k : Nat) x, l[k]? = some x → x.kids.length ≤ 300 ∧ x.s.length ≤ 300) ∧ WA w0 base [] w) := by
  refine FnC.of_body (fn := Tryz.f19) [(0, _)] Tryz.func19 rfl Tryz.ntmps19 rfl ⟨rfl, trivial⟩ ?_
  refine CX.seq <| CX.region <| LX.pure (Y.assign rfl) rfl rfl rfl <| LX.sub (l' := [(0, _), (2, _)]) ⟨rfl, rfl, trivial⟩ <| LX.next <| PX.thenN <| CX.seq <| CX.seq <| CX.region <| LX.pure (Y.move rfl) rfl rfl rfl <| LX.pure (Y.lenSl rfl Kq.un22 rfl) rfl rfl rfl ?_
  first
    | refine LX.pure (Y.gtN rfl rfl) rfl rfl rfl ?_
    | refine LX.pure (Y.gtI rfl rfl) rfl rfl rfl ?_
  refine LX.sub (l' := [(0, _), (2, _), (6, _)]) ⟨rfl, rfl, rfl, trivial⟩ <| LX.next <| PX.thenN ?_
  refine CX.cond rfl (fun hb1 => ?_) (fun hb1 => ?_)
  · try simp at hb1
    refine CX.seq <| CX.region <| LX.pure (Y.assign rfl) rfl rfl rfl <| LX.sub (l' := [(0, _), (2, _)]) ⟨rfl, rfl, trivial⟩ <| LX.next <| PX.thenN <| CX.ret <| PX.thenR <| PX.ret1 (by simp) Tryz.results19 rfl ?_
    exact fun w hw => ⟨_, rfl, (fun h9 => by first | (exfalso; simp_all; done) | (exfalso; cases h9; done) | exact ⟨by omega, hsm.all⟩), hw.drop (List.nil_sublist _)⟩
  try simp at hb1
  refine CX.skip <| PX.thenN <| CX.seq <| CX.seq <| CX.region <| LX.pure (Y.assign rfl) rfl rfl rfl <| LX.sub (l' := [(0, _), (2, _), (3, _)]) ⟨rfl, rfl, rfl, trivial⟩ <| LX.next <| PX.thenN <| CX.block <| CX.loop (fun i : Nat => [(0, .slice al l.length cl), (3, .int .i64 (i : Int))]) (fun (i : Nat) w => (i ≤ l.length ∧ SmB l i) ∧ WA w0 base [] w) (fun i => l.length - i) 0 ⟨rfl, rfl, trivial⟩ (fun w hw => ⟨⟨Nat.zero_le _, fun k x h => absurd h (Nat.not_lt_zero k)⟩, hw⟩) ?_
  intro i
  refine CX.have fun ⟨hi0, hsm⟩ => CX.seq <| CX.seq <| CX.region <| LX.pure (Y.move rfl) rfl rfl rfl <| LX.pure (Y.move rfl) rfl rfl rfl <| LX.pure (Y.lenSl rfl Kq.un22 rfl) rfl rfl rfl ?_
  first
    | refine LX.pure (Y.ltN rfl rfl) rfl rfl rfl ?_
    | refine LX.pure (Y.ltI rfl rfl) rfl rfl rfl ?_
  refine LX.sub (l' := [(0, _), (3, _), (10, _)]) ⟨rfl, rfl, rfl, trivial⟩ <| LX.next <| PX.thenN ?_
  refine CX.cond rfl (fun hb2 => ?_) (fun hb2 => ?_)
  · try simp at hb2
    have hi : i < l.length := by omega
    obtain ⟨x, hx⟩ : ∃ x, l[i]? = some x := ⟨_, List.getElem?_eq_getElem (by omega)⟩
    obtain ⟨a, ak, ck, hav, hL, hkc, hka⟩ := nd_of hl hx
    refine CX.skip <| PX.thenN <| CX.seq <| CX.block <| CX.seq <| CX.region <| LX.pure (Y.move rfl) rfl rfl rfl <| LX.pure (Y.move rfl) rfl rfl rfl <| LX.pure (Y.idxZ Kq.un22 Kq.sz53 rfl rfl hav (j := i) rfl (by omega)) rfl rfl rfl ?_
    first
      | refine LX.pure (Y.fieldAddr0 Kq.fo53_4 rfl) rfl rfl rfl ?_
      | refine LX.pure (Y.fieldAddr Kq.fo53_4 rfl) rfl rfl rfl ?_
      | refine LX.pure (Y.fieldA Kq.fa53_4 rfl) rfl rfl rfl ?_
    refine LX.pure (Y.ldFO (v := .slice ak x.kids.length ck) Kq.one51 rfl hL rfl) rfl rfl rfl <| LX.pure (Y.lenSl rfl Kq.un51 rfl) rfl rfl rfl ?_
    first
      | refine LX.pure (Y.gtN rfl rfl) rfl rfl rfl ?_
      | refine LX.pure (Y.gtI rfl rfl) rfl rfl rfl ?_
    refine LX.pure (Y.move rfl) rfl rfl rfl ?_
    refine LX.caseB (s := 20) rfl (fun hb3 => ?_) (fun hb3 => ?_)
    ·
      refine LX.gF rfl rfl rfl hb3 rfl rfl <| LX.gF rfl rfl rfl hb3 rfl rfl <| LX.gF rfl rfl rfl hb3 rfl rfl <| LX.gF rfl rfl rfl hb3 rfl rfl <| LX.gF rfl rfl rfl hb3 rfl rfl <| LX.gF rfl rfl rfl hb3 rfl rfl <| LX.gF rfl rfl rfl hb3 rfl rfl <| LX.pure (Y.pickT rfl hb3 rfl) rfl rfl rfl <| LX.sub (l' := [(0, _), (3, _), (28, _)]) ⟨rfl, rfl, rfl, trivial⟩ <| LX.next <| PX.thenN ?_
      refine CX.cond rfl (fun hb4 => ?_) (fun hb4 => ?_)
      · try simp at hb4
        refine CX.seq <| CX.region <| LX.pure (Y.assign rfl) rfl rfl rfl <| LX.sub (l' := [(0, _), (2, _), (3, _)]) ⟨rfl, rfl, rfl, trivial⟩ <| LX.next <| PX.thenN <| CX.ret <| PX.blockR <| PX.thenR <| PX.thenR <| PX.blockR <| PX.thenR <| PX.ret1 (by simp) Tryz.results19 rfl ?_
        exact fun w hw => ⟨_, rfl, (fun h9 => by first | (exfalso; simp_all; done) | (exfalso; cases h9; done) | exact ⟨by omega, hsm.all⟩), hw.drop (List.nil_sublist _)⟩
      try simp at hb4
      first | done | (exfalso; omega) | (exfalso; simp_all; done) | (exfalso; simp_all; omega)
    have hb3p := hb3
    try simp at hb3p
    refine LX.gT rfl rfl rfl hb3 (Y.move rfl) rfl rfl <| LX.gT rfl rfl rfl hb3 (Y.move rfl) rfl rfl <| LX.gT rfl rfl rfl hb3 (Y.idxZ Kq.un22 Kq.sz53 rfl rfl hav (j := i) rfl (by omega)) rfl rfl ?_
    first
      | refine LX.gT rfl rfl rfl hb3 (Y.fieldAddr0 Kr_.fo53_3 rfl) rfl rfl ?_
      | refine LX.gT rfl rfl rfl hb3 (Y.fieldAddr Kr_.fo53_3 rfl) rfl rfl ?_
      | refine LX.gT rfl rfl rfl hb3 (Y.fieldA Kr_.fa53_3 rfl) rfl rfl ?_
    refine LX.gT rfl rfl rfl hb3 (Y.ldFO (v := str x.s) Kh.one9 rfl hL rfl) rfl rfl <| LX.gT rfl rfl rfl hb3 (Y.lenStr rfl Ka.un9 rfl) rfl rfl ?_
    first
      | refine LX.gT rfl rfl rfl hb3 (Y.gtN rfl rfl) rfl rfl ?_
      | refine LX.gT rfl rfl rfl hb3 (Y.gtI rfl rfl) rfl rfl ?_
    refine LX.pure (Y.pickF rfl hb3 rfl) rfl rfl rfl <| LX.sub (l' := [(0, _), (3, _), (28, _)]) ⟨rfl, rfl, rfl, trivial⟩ <| LX.next <| PX.thenN ?_
    refine CX.cond rfl (fun hb5 => ?_) (fun hb5 => ?_)
    · try simp at hb5
      refine CX.seq <| CX.region <| LX.pure (Y.assign rfl) rfl rfl rfl <| LX.sub (l' := [(0, _), (2, _), (3, _)]) ⟨rfl, rfl, rfl, trivial⟩ <| LX.next <| PX.thenN <| CX.ret <| PX.blockR <| PX.thenR <| PX.thenR <| PX.blockR <| PX.thenR <| PX.ret1 (by simp) Tryz.results19 rfl ?_
      exact fun w hw => ⟨_, rfl, (fun h9 => by first | (exfalso; simp_all; done) | (exfalso; cases h9; done) | exact ⟨by omega, hsm.all⟩), hw.drop (List.nil_sublist _)⟩
    try simp at hb5
    refine CX.skip <| PX.blockN <| PX.thenN <| CX.region <| LX.pure (Y.move rfl) rfl rfl rfl ?_
    first
      | refine LX.pure (Y.addN rfl rfl (by first | omega | (simp only []; omega) | (simp; done) | (simp; omega))) rfl rfl rfl ?_
      | refine LX.pure (Y.add rfl rfl (by first | omega | (simp only []; omega) | (simp; done) | (simp; omega))) rfl rfl rfl ?_
    refine LX.pure (Y.assign rfl) rfl rfl rfl <| LX.sub (l' := [(0, _), (3, _)]) ⟨rfl, rfl, trivial⟩ <| LX.next ?_
    exact PX.again (μ := fun i => l.length - i) (i := i) (i + 1) (by show l.length - (i + 1) < l.length - i; omega) ⟨rfl, rfl, trivial⟩ (fun w hw => ⟨⟨by show i + 1 ≤ l.length; omega, hsm.next hx ⟨by first | omega | (simp_all; done) | (simp_all; omega), by first | omega | (simp_all; done) | (simp_all; omega)⟩⟩, hw⟩)
  try simp at hb2
  obtain rfl : i = l.length := by omega
  refine CX.exit <| PX.thenE <| PX.thenE <| PX.blockE <| PX.thenN <| CX.seq <| CX.region <| LX.pure (Y.assign rfl) rfl rfl rfl <| LX.sub (l' := [(2, _)]) ⟨rfl, trivial⟩ <| LX.next <| PX.thenN <| CX.ret <| PX.ret1 (by simp) Tryz.results19 rfl ?_
  exact fun w hw => ⟨_, rfl, (fun h9 => by first | (exfalso; simp_all; done) | (exfalso; cases h9; done) | exact ⟨by omega, hsm.all⟩), hw.drop (List.nil_sublist _)⟩
theorem wTree_w {W : World → Prop} [Stab W] {al : Option Addr} (cl : Nat) {l : List Nd} (hl : ∀ w, W w → SlAt 5 ndA (Lies w w.heap.size) al l) : FnC Tryz.prog 19 #[.slice al l.length cl] W (fun b : Bool => .bool b) (fun b w => (b = true → l.length ≤ 300 ∧ ∀ (k : Nat) x, l[k]? = some x → x.kids.length ≤ 300 ∧ x.s.length ≤ 300) ∧ W w) := FnC.reO fun w hw => wTree_0 cl (hl w hw)
theorem deep6_0 {w0 : World} {base : Nat} {al : Option Addr} (cl : Nat) {l : List Nd} (hT : TreeOk l) (hl : SlAt 5 ndA (Lies w0 base) al l) : FnC Tryz.prog 11 #[.slice al l.length cl] (WA w0 base []) (fun b : Int => .int .i64 b) (fun _ => WA w0 base []) := by
  have hT1 := hT.pos
  have hT2 := hT.few
  refine FnC.of_body (fn := Tryz.f11) [(0, _)] Tryz.func11 rfl Tryz.ntmps11 rfl ⟨rfl, trivial⟩ ?_
  refine CX.seq <| CX.region <| LX.pure (Y.assign rfl) rfl rfl rfl <| LX.sub (l' := [(0, _), (2, _)]) ⟨rfl, rfl, trivial⟩ <| LX.next <| PX.thenN <| CX.seq <| CX.region <| LX.pure (Y.move rfl) rfl rfl rfl <| LX.pure (Y.lenSl rfl Kq.un22 rfl) rfl rfl rfl <| LX.makeN (z := .int .i64 0) Kug.el51 (by kernel_rfl) rfl rfl rfl (by omega) (by omega) rfl rfl rfl ?_
  intro gb
  rw [made_iv]
  refine LX.pure (Y.assign rfl) rfl rfl rfl <| LX.sub (l' := [(0, _), (2, _), (3, _)]) ⟨rfl, rfl, rfl, trivial⟩ <| LX.next <| PX.thenN <| CX.seq <| CX.seq <| CX.region <| LX.pure (Y.assign rfl) rfl rfl rfl <| LX.sub (l' := [(0, _), (2, _), (3, _), (4, _)]) ⟨rfl, rfl, rfl, rfl, trivial⟩ <| LX.next <| PX.thenN <| CX.block <| CX.loop (fun s : Nat × List Int => [(0, .slice al l.length cl), (3, rv (some gb) l.length l.length), (4, .int .i64 (s.1 : Int))]) (fun (s : Nat × List Int) w => (s.1 ≤ l.length ∧ Dp l.length s.2) ∧ WA w0 base [.row (some gb) l.length l.length 3 1 (s.2.map iv)] w) (fun s => l.length - s.1) (0, List.replicate l.length 0) ⟨rfl, rfl, rfl, trivial⟩ (fun w hw => ⟨⟨Nat.zero_le _, Dp.start _⟩, hw⟩) ?_
  rintro ⟨i, ds⟩
  refine CX.have fun ⟨hi0, hds⟩ => ?_
  try dsimp only at hi0 hds ⊢
  refine CX.seq <| CX.seq <| CX.region <| LX.pure (Y.move rfl) rfl rfl rfl <| LX.pure (Y.move rfl) rfl rfl rfl <| LX.pure (Y.lenSl rfl Kq.un22 rfl) rfl rfl rfl ?_
  first
    | refine LX.pure (Y.ltN rfl rfl) rfl rfl rfl ?_
    | refine LX.pure (Y.ltI rfl rfl) rfl rfl rfl ?_
  refine LX.sub (l' := [(0, _), (3, _), (4, _), (12, _)]) ⟨rfl, rfl, rfl, rfl, trivial⟩ <| LX.next <| PX.thenN ?_
  refine CX.cond rfl (fun hb1 => ?_) (fun hb1 => ?_)
  · try simp at hb1
    have hi : i < l.length := by omega
    obtain ⟨x, hx⟩ : ∃ x, l[i]? = some x := ⟨_, List.getElem?_eq_getElem (by omega)⟩
    obtain ⟨a, ak, ck, hav, hL, hkc, hka⟩ := nd_of hl hx
    have hK := hT.kid i x hx
    refine CX.skip <| PX.thenN <| CX.seq <| CX.block <| CX.seq <| CX.region <| LX.pure (Y.move rfl) rfl rfl rfl <| LX.pure (Y.move rfl) rfl rfl rfl <| LX.pure (Y.idxRZ 0 (i := i) Kq.un51 Kc.sz3 rfl rfl rfl rfl (by omega)) rfl rfl rfl ?_
    first
      | refine LX.storeR 0 Kc.sz3 rfl rfl rfl rfl rfl (by rw [List.length_map]; have := hds.len; (try have := hdv.len); omega) rfl rfl ?_
    refine LX.sub (l' := [(0, _), (3, _), (4, _)]) ⟨rfl, rfl, rfl, trivial⟩ <| LX.next <| PX.thenN <| CX.seq <| CX.region <| LX.pure (Y.assign rfl) rfl rfl rfl <| LX.sub (l' := [(0, _), (3, _), (4, _), (5, _)]) ⟨rfl, rfl, rfl, rfl, trivial⟩ <| LX.next <| PX.thenN <| CX.block <| CX.loop (fun s : Nat × List Int => [(0, .slice al l.length cl), (3, rv (some gb) l.length l.length), (4, .int .i64 (i : Int)), (5, .int .i64 (s.1 : Int))]) (fun (s : Nat × List Int) w => (s.1 ≤ x.kids.length ∧ Dp l.length s.2) ∧ WA w0 base [.row (some gb) l.length l.length 3 1 (s.2.map iv)] w) (fun s => x.kids.length - s.1) (0, ds.set i 1) ⟨rfl, rfl, rfl, rfl, trivial⟩ (fun w hw => ⟨⟨Nat.zero_le _, hds.set (by omega)⟩, by have h1 := hw; rw [Nat.mul_one] at h1; rw [← iv_set]; exact h1⟩) ?_
    rintro ⟨j, v⟩
    refine CX.have fun ⟨hj0, hdv⟩ => ?_
    try dsimp only at hj0 hdv ⊢
    refine CX.seq <| CX.seq <| CX.region <| LX.pure (Y.move rfl) rfl rfl rfl <| LX.pure (Y.move rfl) rfl rfl rfl <| LX.pure (Y.move rfl) rfl rfl rfl <| LX.pure (Y.idxZ Kq.un22 Kq.sz53 rfl rfl hav (j := i) rfl (by omega)) rfl rfl rfl ?_
    first
      | refine LX.pure (Y.fieldAddr0 Kq.fo53_4 rfl) rfl rfl rfl ?_
      | refine LX.pure (Y.fieldAddr Kq.fo53_4 rfl) rfl rfl rfl ?_
      | refine LX.pure (Y.fieldA Kq.fa53_4 rfl) rfl rfl rfl ?_
    refine LX.pure (Y.ldFO (v := .slice ak x.kids.length ck) Kq.one51 rfl hL rfl) rfl rfl rfl <| LX.pure (Y.lenSl rfl Kq.un51 rfl) rfl rfl rfl ?_
    first
      | refine LX.pure (Y.ltN rfl rfl) rfl rfl rfl ?_
      | refine LX.pure (Y.ltI rfl rfl) rfl rfl rfl ?_
    refine LX.sub (l' := [(0, _), (3, _), (4, _), (5, _), (25, _)]) ⟨rfl, rfl, rfl, rfl, rfl, trivial⟩ <| LX.next <| PX.thenN ?_
    refine CX.cond rfl (fun hb2 => ?_) (fun hb2 => ?_)
    · try simp at hb2
      have hj1 : j < x.kids.length := by omega
      refine CX.skip <| PX.thenN <| CX.seq <| CX.block <| CX.regionM [(0, .anywhere), (1, .anywhere), (2, .anywhere), (3, .anywhere), (4, .held), (5, .held), (6, .anywhere), (7, .anywhere), (8, .anywhere), (9, .held), (10, .held), (11, .held), (12, .anywhere), (13, .held), (14, .held), (15, .held), (16, .held), (17, .held), (18, .held), (19, .held), (20, .alone)] rfl (by kernel_rfl) <| MX.lift0 (i := 0) rfl (Y.move rfl) rfl rfl rfl <| MX.lift0 (i := 1) rfl (Y.move rfl) rfl rfl rfl <| MX.lift0 (i := 2) rfl (Y.move rfl) rfl rfl rfl <| MX.lift0 (i := 3) rfl (Y.move rfl) rfl rfl rfl ?_
      obtain ⟨a1, hav1, hL1, _⟩ := hka.int_at (j := j) (by first | omega | (simp_all; done) | (simp_all; omega))
      have hr1 := hK _ (getD_mem (j := j) (ks := x.kids) (by first | omega | (simp_all; done) | (simp_all; omega)))
      obtain ⟨k1, hkz1⟩ : ∃ k : Nat, x.kids.getD j 0 = (k : Int) := ⟨(x.kids.getD j 0).toNat, by omega⟩
      obtain ⟨z1, hz1⟩ : ∃ z, v[i]? = some z := ⟨_, List.getElem?_eq_getElem (by have := hdv.len; omega)⟩
      obtain ⟨z2, hz2⟩ : ∃ z, v[k1]? = some z := ⟨_, List.getElem?_eq_getElem (by have := hdv.len; omega)⟩
      have hb1z := hdv.at_ _ _ hz1
      have hb2z := hdv.at_ _ _ hz2
      refine MX.lift1 (i := 4) (pend' := []) rfl (fun w hw => by first | exact hw | exact hw.1 | exact hw.drop (List.sublist_cons_self _ _) | exact hw.drop ((List.sublist_cons_self _ _).cons _)) (Y.idxRZ 0 (i := i) Kq.un51 Kc.sz3 rfl rfl rfl rfl (by omega)) rfl rfl rfl (by kernel_rfl) <| MX.lift1 (i := 5) (pend' := []) rfl (fun w hw => by first | exact hw | exact hw.1 | exact hw.drop (List.sublist_cons_self _ _) | exact hw.drop ((List.sublist_cons_self _ _).cons _)) (Y.ldR 0 (v := .int .i64 z1) Kc.one3 rfl rfl (iv_at hz1)) rfl rfl rfl (by kernel_rfl) <| MX.lift0 (i := 6) rfl (Y.move rfl) rfl rfl rfl <| MX.lift0 (i := 7) rfl (Y.move rfl) rfl rfl rfl <| MX.lift0 (i := 8) rfl (Y.move rfl) rfl rfl rfl <| MX.lift1 (i := 9) (pend' := [5]) rfl (fun w hw => by first | exact hw | exact hw.1 | exact hw.drop (List.sublist_cons_self _ _) | exact hw.drop ((List.sublist_cons_self _ _).cons _)) (Y.idxZ Kq.un22 Kq.sz53 rfl rfl hav (j := i) rfl (by omega)) rfl rfl rfl (by kernel_rfl) ?_
      first
        | refine MX.lift1 (i := 10) (pend' := [5]) rfl (fun w hw => by first | exact hw | exact hw.1 | exact hw.drop (List.sublist_cons_self _ _) | exact hw.drop ((List.sublist_cons_self _ _).cons _)) (Y.fieldAddr0 Kq.fo53_4 rfl) rfl rfl rfl (by kernel_rfl) ?_
        | refine MX.lift1 (i := 10) (pend' := [5]) rfl (fun w hw => by first | exact hw | exact hw.1 | exact hw.drop (List.sublist_cons_self _ _) | exact hw.drop ((List.sublist_cons_self _ _).cons _)) (Y.fieldAddr Kq.fo53_4 rfl) rfl rfl rfl (by kernel_rfl) ?_
        | refine MX.lift1 (i := 10) (pend' := [5]) rfl (fun w hw => by first | exact hw | exact hw.1 | exact hw.drop (List.sublist_cons_self _ _) | exact hw.drop ((List.sublist_cons_self _ _).cons _)) (Y.fieldA Kq.fa53_4 rfl) rfl rfl rfl (by kernel_rfl) ?_
      refine MX.lift1 (i := 11) (pend' := [5]) rfl (fun w hw => by first | exact hw | exact hw.1 | exact hw.drop (List.sublist_cons_self _ _) | exact hw.drop ((List.sublist_cons_self _ _).cons _)) (Y.ldFO (v := .slice ak x.kids.length ck) Kq.one51 rfl hL rfl) rfl rfl rfl (by kernel_rfl) <| MX.lift0 (i := 12) rfl (Y.move rfl) rfl rfl rfl <| MX.lift1 (i := 13) (pend' := [5]) rfl (fun w hw => by first | exact hw | exact hw.1 | exact hw.drop (List.sublist_cons_self _ _) | exact hw.drop ((List.sublist_cons_self _ _).cons _)) (Y.idxZ Kq.un51 Kc.sz3 rfl rfl hav1 (j := j) rfl (by first | omega | (simp_all; done) | (simp_all; omega))) rfl rfl rfl (by kernel_rfl) <| MX.lift1 (i := 14) (pend' := [5]) rfl (fun w hw => by first | exact hw | exact hw.1 | exact hw.drop (List.sublist_cons_self _ _) | exact hw.drop ((List.sublist_cons_self _ _).cons _)) (show Y _ _ _ _ _ (.int .i64 (k1 : Int)) from by rw [← hkz1]; exact Y.ldO1 Kc.one3 rfl hL1) rfl rfl rfl (by kernel_rfl) <| MX.lift1 (i := 15) (pend' := [5]) rfl (fun w hw => by first | exact hw | exact hw.1 | exact hw.drop (List.sublist_cons_self _ _) | exact hw.drop ((List.sublist_cons_self _ _).cons _)) (Y.idxRZ 0 (i := k1) Kq.un51 Kc.sz3 rfl rfl rfl rfl (by omega)) rfl rfl rfl (by kernel_rfl) <| MX.lift1 (i := 16) (pend' := [5]) rfl (fun w hw => by first | exact hw | exact hw.1 | exact hw.drop (List.sublist_cons_self _ _) | exact hw.drop ((List.sublist_cons_self _ _).cons _)) (Y.ldR 0 (v := .int .i64 z2) Kc.one3 rfl rfl (iv_at hz2)) rfl rfl rfl (by kernel_rfl) ?_
      first
        | refine MX.lift1 (i := 17) (pend' := [5]) rfl (fun w hw => by first | exact hw | exact hw.1 | exact hw.drop (List.sublist_cons_self _ _) | exact hw.drop ((List.sublist_cons_self _ _).cons _)) (Y.addN rfl rfl (by first | omega | (simp only []; omega) | (simp; done) | (simp; omega))) rfl rfl rfl (by kernel_rfl) ?_
        | refine MX.lift1 (i := 17) (pend' := [5]) rfl (fun w hw => by first | exact hw | exact hw.1 | exact hw.drop (List.sublist_cons_self _ _) | exact hw.drop ((List.sublist_cons_self _ _).cons _)) (Y.add rfl rfl (by first | omega | (simp only []; omega) | (simp; done) | (simp; omega))) rfl rfl rfl (by kernel_rfl) ?_
      refine MX.lift1 (i := 18) (pend' := []) rfl (fun w hw => by first | exact hw | exact hw.1 | exact hw.drop (List.sublist_cons_self _ _) | exact hw.drop ((List.sublist_cons_self _ _).cons _)) (Y.max2 rfl rfl) rfl rfl rfl (by kernel_rfl) <| MX.lift1 (i := 19) (pend' := []) rfl (fun w hw => by first | exact hw | exact hw.1 | exact hw.drop (List.sublist_cons_self _ _) | exact hw.drop ((List.sublist_cons_self _ _).cons _)) (Y.idxRZ 0 (i := i) Kq.un51 Kc.sz3 rfl rfl rfl rfl (by omega)) rfl rfl rfl (by kernel_rfl) <| MX.force (i := 20) rfl ?_
      first
        | refine LX.storeR 0 Kc.sz3 rfl rfl rfl rfl rfl (by rw [List.length_map]; have := hds.len; (try have := hdv.len); omega) rfl rfl ?_
      refine LX.nextM [] (by kernel_rfl) (fun h => absurd rfl h) <| MX.sub (l' := [(0, _), (3, _), (4, _), (5, _)]) ⟨rfl, rfl, rfl, rfl, trivial⟩ <| MX.done <| PX.blockN <| PX.thenN <| CX.region <| LX.pure (Y.move rfl) rfl rfl rfl ?_
      first
        | refine LX.pure (Y.addN rfl rfl (by first | omega | (simp only []; omega) | (simp; done) | (simp; omega))) rfl rfl rfl ?_
        | refine LX.pure (Y.add rfl rfl (by first | omega | (simp only []; omega) | (simp; done) | (simp; omega))) rfl rfl rfl ?_
      refine LX.pure (Y.assign rfl) rfl rfl rfl <| LX.sub (l' := [(0, _), (3, _), (4, _), (5, _)]) ⟨rfl, rfl, rfl, rfl, trivial⟩ <| LX.next ?_
      exact PX.again (μ := fun s => x.kids.length - s.1) (i := (j, v)) (j + 1, v.set i (if z2 + 1 > z1 then z2 + 1 else z1)) (by show x.kids.length - (j + 1) < x.kids.length - j; omega) ⟨rfl, rfl, rfl, rfl, trivial⟩ (fun w hw => ⟨⟨by show j + 1 ≤ x.kids.length; omega, hdv.set (by split <;> omega)⟩, by have h1 := hw; rw [Nat.mul_one] at h1; rw [← iv_set]; exact h1⟩)
    try simp at hb2
    refine CX.exit <| PX.thenE <| PX.thenE <| PX.blockE <| PX.blockN <| PX.thenN <| CX.region <| LX.pure (Y.move rfl) rfl rfl rfl ?_
    first
      | refine LX.pure (Y.addN rfl rfl (by first | omega | (simp only []; omega) | (simp; done) | (simp; omega))) rfl rfl rfl ?_
      | refine LX.pure (Y.add rfl rfl (by first | omega | (simp only []; omega) | (simp; done) | (simp; omega))) rfl rfl rfl ?_
    refine LX.pure (Y.assign rfl) rfl rfl rfl <| LX.sub (l' := [(0, _), (3, _), (4, _)]) ⟨rfl, rfl, rfl, trivial⟩ <| LX.next ?_
    exact PX.again (μ := fun s => l.length - s.1) (i := (i, ds)) (i + 1, v) (by show l.length - (i + 1) < l.length - i; omega) ⟨rfl, rfl, rfl, trivial⟩ (fun w hw => ⟨⟨by show i + 1 ≤ l.length; omega, hdv⟩, hw⟩)
  try simp at hb1
  refine CX.exit <| PX.thenE <| PX.thenE <| PX.blockE <| PX.thenN <| CX.seq <| CX.seq <| CX.region <| LX.pure (Y.move rfl) rfl rfl rfl <| LX.pure (Y.lenSl rfl Kq.un22 rfl) rfl rfl rfl ?_
  first
    | refine LX.pure (Y.eqN rfl rfl) rfl rfl rfl ?_
    | refine LX.pure (Y.eqI rfl rfl) rfl rfl rfl ?_
  refine LX.sub (l' := [(0, _), (3, _), (50, _)]) ⟨rfl, rfl, rfl, trivial⟩ <| LX.next <| PX.thenN ?_
  refine CX.cond rfl (fun hb3 => ?_) (fun hb3 => ?_)
  · try simp at hb3
    refine CX.seq <| CX.region <| LX.pure (Y.assign rfl) rfl rfl rfl <| LX.sub (l' := [(0, _), (2, _), (3, _)]) ⟨rfl, rfl, rfl, trivial⟩ <| LX.next <| PX.thenN <| CX.ret <| PX.thenR <| PX.ret1 (by simp) Tryz.results11 rfl ?_
    exact fun w hw => ⟨_, rfl, hw.drop (List.nil_sublist _)⟩
  try simp at hb3
  refine CX.skip <| PX.thenN <| CX.seq <| CX.region <| LX.pure (Y.move rfl) rfl rfl rfl <| LX.pure (Y.move rfl) rfl rfl rfl <| LX.pure (Y.lenSl rfl Kq.un22 rfl) rfl rfl rfl <| LX.pure (Y.sub rfl rfl (by omega)) rfl rfl rfl ?_
  obtain ⟨z3, hz3⟩ : ∃ z, ds[l.length - 1]? = some z := ⟨_, List.getElem?_eq_getElem (by have := hds.len; omega)⟩
  refine LX.pure (Y.idxRZ 0 (i := l.length - 1) Kq.un51 Kc.sz3 rfl rfl (by omega) rfl (by omega)) rfl rfl rfl <| LX.pure (Y.ldR 0 (v := .int .i64 z3) Kc.one3 rfl rfl (iv_at hz3)) rfl rfl rfl <| LX.pure (Y.assign rfl) rfl rfl rfl <| LX.sub (l' := [(2, _)]) ⟨rfl, trivial⟩ <| LX.next <| PX.thenN <| CX.ret <| PX.ret1 (by simp) Tryz.results11 rfl ?_
  exact fun w hw => ⟨_, rfl, hw.drop (List.nil_sublist _)⟩
theorem deep6_w {W : World → Prop} [Stab W] {al : Option Addr} (cl : Nat) {l : List Nd} (hT : TreeOk l) (hl : ∀ w, W w → SlAt 5 ndA (Lies w w.heap.size) al l) : FnC Tryz.prog 11 #[.slice al l.length cl] W (fun b : Int => .int .i64 b) (fun _ => W) := FnC.re fun w hw => deep6_0 cl hT (hl w hw)
theorem deepB_0 {w0 : World} {base : Nat} {al : Option Addr} (cl : Nat) {l : List Nd} (hT : TreeOk l) (hl : SlAt 5 ndA (Lies w0 base) al l) : FnC Tryz.prog 7 #[.slice al l.length cl] (WA w0 base []) (fun b : Bool => .bool b) (fun _ => WA w0 base []) := by
  refine FnC.of_body (fn := Tryz.f7) [(0, _)] Tryz.func7 rfl Tryz.ntmps7 rfl ⟨rfl, trivial⟩ ?_
  refine CX.seq <| CX.region <| LX.pure (Y.assign rfl) rfl rfl rfl <| LX.sub (l' := [(0, _), (2, _)]) ⟨rfl, rfl, trivial⟩ <| LX.next <| PX.thenN <| CX.seq <| CX.region <| LX.pure (Y.move rfl) rfl rfl rfl <| LX.call (deep6_w cl hT (fun w hw => hl.push hw)) Kui.en11 rfl rfl rfl rfl rfl ?_
  intro z4
  first
    | refine LX.pure (Y.leN rfl rfl) rfl rfl rfl ?_
    | refine LX.pure (Y.leI rfl rfl) rfl rfl rfl ?_
  refine LX.pure (Y.assign rfl) rfl rfl rfl <| LX.sub (l' := [(2, _)]) ⟨rfl, trivial⟩ <| LX.next <| PX.thenN <| CX.ret <| PX.ret1 (by simp) Tryz.results7 rfl ?_
  exact fun w hw => ⟨_, rfl, hw.drop (List.nil_sublist _)⟩
theorem deepB_w {W : World → Prop} [Stab W] {al : Option Addr} (cl : Nat) {l : List Nd} (hT : TreeOk l) (hl : ∀ w, W w → SlAt 5 ndA (Lies w w.heap.size) al l) : FnC Tryz.prog 7 #[.slice al l.length cl] W (fun b : Bool => .bool b) (fun _ => W) := FnC.re fun w hw => deepB_0 cl hT (hl w hw)
theorem treeB_0 {w0 : World} {base : Nat} {al : Option Addr} (cl : Nat) {l : List Nd} (hl : SlAt 5 ndA (Lies w0 base) al l) : FnC Tryz.prog 6 #[.slice al l.length cl] (WA w0 base []) (fun b : Bool => .bool b) (fun b w => (b = true → TreeOk l) ∧ WA w0 base [] w) := by
  refine FnC.of_body (fn := Tryz.f6) [(0, _)] Tryz.func6 rfl Tryz.ntmps6 rfl ⟨rfl, trivial⟩ ?_
  refine CX.seq <| CX.region <| LX.pure (Y.assign rfl) rfl rfl rfl <| LX.sub (l' := [(0, _), (2, _)]) ⟨rfl, rfl, trivial⟩ <| LX.next <| PX.thenN <| CX.seq <| CX.region <| LX.pure (Y.move rfl) rfl rfl rfl <| LX.call (wTree_w cl (fun w hw => hl.push hw)) Kui.en19 rfl rfl rfl rfl rfl ?_
  intro b4
  refine LX.have fun hb4 => LX.pure (Y.move rfl) rfl rfl rfl ?_
  refine LX.caseB (s := 5) rfl (fun hb1 => ?_) (fun hb1 => ?_)
  ·
    have hb1p := hb1
    try simp at hb1p
    refine LX.gT rfl rfl rfl hb1 (Y.move rfl) rfl rfl <| LX.gT rfl rfl rfl hb1 (Y.lenSl rfl Kq.un22 rfl) rfl rfl ?_
    first
      | refine LX.gT rfl rfl rfl hb1 (Y.gtN rfl rfl) rfl rfl ?_
      | refine LX.gT rfl rfl rfl hb1 (Y.gtI rfl rfl) rfl rfl ?_
    refine LX.pure (Y.pickT rfl hb1 rfl) rfl rfl rfl <| LX.pure (Y.move rfl) rfl rfl rfl ?_
    refine LX.caseB (s := 10) rfl (fun hb2 => ?_) (fun hb2 => ?_)
    ·
      have hb2p := hb2
      try simp at hb2p
      refine LX.gT rfl rfl rfl hb2 (Y.move rfl) rfl rfl <| LX.callT rfl rfl rfl hb2 (whole_w cl (hb4 (by first | assumption | (simp_all; done))).1 (hb4 (by first | assumption | (simp_all; done))).2 (fun w hw => hl.push hw)) Kui.en21 rfl rfl rfl rfl ?_
      rintro ⟨g, c⟩
      refine LX.callT rfl rfl rfl hb2 (valid6_n (l.length + 2) c (l := tailN l) (by simp) (fun k x hx => by have h4 := hb4 (by first | assumption | (simp_all; done)); have := tail_at h4.1 h4.2 (by omega) k x hx; omega) (by have h4 := hb4 (by first | assumption | (simp_all; done)); simp; omega) (fun w hw => hw.1)) Kui.en20 rfl rfl rfl rfl ?_
      rintro ⟨fc, fp, fq⟩
      refine LX.have fun hv6 => ?_
      try dsimp only at hv6 ⊢
      refine LX.gT rfl rfl rfl hb2 (Y.field (v := .int .i64 fc) rfl (fun _ => by kernel_rfl)) rfl rfl ?_
      first
        | refine LX.gT rfl rfl rfl hb2 (Y.eqN rfl rfl) rfl rfl ?_
        | refine LX.gT rfl rfl rfl hb2 (Y.eqI rfl rfl) rfl rfl ?_
      refine LX.pure (Y.pickT rfl hb2 rfl) rfl rfl rfl <| LX.pure (Y.assign rfl) rfl rfl rfl <| LX.sub (l' := [(2, _)]) ⟨rfl, trivial⟩ <| LX.next <| PX.thenN <| CX.ret <| PX.ret1 (by simp) Tryz.results6 rfl ?_
      first
        | exact fun w hw => ⟨false, rfl, (fun h9 => by cases h9), hw.drop (List.nil_sublist _)⟩
        | exact fun w hw => ⟨_, rfl, (fun h9 => by
            have h4 := hb4 (by first | assumption | (simp_all; done))
            exact ⟨by first | omega | (simp_all; done) | (simp_all; omega), h4.1, h4.2, ok6_tail (hv6 (by first | exact of_decide_eq_true h9 | simpa using h9))⟩), hw.2.drop (List.nil_sublist _)⟩
    have hb2p := hb2
    try simp at hb2p
    refine LX.gF rfl rfl rfl hb2 rfl rfl <| LX.gF rfl rfl rfl hb2 rfl rfl <| LX.gF rfl rfl rfl hb2 rfl rfl <| LX.gF rfl rfl rfl hb2 rfl rfl <| LX.gF rfl rfl rfl hb2 rfl rfl <| LX.pure (Y.pickF rfl hb2 rfl) rfl rfl rfl <| LX.pure (Y.assign rfl) rfl rfl rfl <| LX.sub (l' := [(2, _)]) ⟨rfl, trivial⟩ <| LX.next <| PX.thenN <| CX.ret <| PX.ret1 (by simp) Tryz.results6 rfl ?_
    first
      | exact fun w hw => ⟨false, rfl, (fun h9 => by cases h9), hw.drop (List.nil_sublist _)⟩
      | exact fun w hw => ⟨_, rfl, (fun h9 => by
          have h4 := hb4 (by first | assumption | (simp_all; done))
          exact ⟨by first | omega | (simp_all; done) | (simp_all; omega), h4.1, h4.2, ok6_tail (hv6 (by first | exact of_decide_eq_true h9 | simpa using h9))⟩), hw.2.drop (List.nil_sublist _)⟩
  have hb1p := hb1
  try simp at hb1p
  refine LX.gF rfl rfl rfl hb1 rfl rfl <| LX.gF rfl rfl rfl hb1 rfl rfl <| LX.gF rfl rfl rfl hb1 rfl rfl <| LX.pure (Y.pickF rfl hb1 rfl) rfl rfl rfl <| LX.pure (Y.move rfl) rfl rfl rfl ?_
  refine LX.caseB (s := 10) rfl (fun hb3 => ?_) (fun hb3 => ?_)
  ·
    first | (exfalso; simp_all; done) | cases hb3
  have hb3p := hb3
  try simp at hb3p
  refine LX.gF rfl rfl rfl hb3 rfl rfl <| LX.gF rfl rfl rfl hb3 rfl rfl <| LX.gF rfl rfl rfl hb3 rfl rfl <| LX.gF rfl rfl rfl hb3 rfl rfl <| LX.gF rfl rfl rfl hb3 rfl rfl <| LX.pure (Y.pickF rfl hb3 rfl) rfl rfl rfl <| LX.pure (Y.assign rfl) rfl rfl rfl <| LX.sub (l' := [(2, _)]) ⟨rfl, trivial⟩ <| LX.next <| PX.thenN <| CX.ret <| PX.ret1 (by simp) Tryz.results6 rfl ?_
  first
    | exact fun w hw => ⟨false, rfl, (fun h9 => by cases h9), hw.drop (List.nil_sublist _)⟩
    | exact fun w hw => ⟨_, rfl, (fun h9 => by
        have h4 := hb4 (by first | assumption | (simp_all; done))
        exact ⟨by first | omega | (simp_all; done) | (simp_all; omega), h4.1, h4.2, ok6_tail (hv6 (by first | exact of_decide_eq_true h9 | simpa using h9))⟩), hw.2.drop (List.nil_sublist _)⟩
theorem treeB_w {W : World → Prop} [Stab W] {al : Option Addr} (cl : Nat) {l : List Nd} (hl : ∀ w, W w → SlAt 5 ndA (Lies w w.heap.size) al l) : FnC Tryz.prog 6 #[.slice al l.length cl] W (fun b : Bool => .bool b) (fun b w => (b = true → TreeOk l) ∧ W w) := FnC.reO fun w hw => treeB_0 cl (hl w hw)
end Go.Proofs.YtickdimknfeddaaGreatDoor
