/-
  Proved here: copies of numbers and texts.
-/
import Derived.Test.YtgijpgkckiknjaaGreatDoorCkK
import Derived.Test.YtgijpgkckiknjaaGreatDoorTrQ
import Derived.Test.YtgijpgkckiknjaaGreatDoorMg
import Derived.Test.YtgijpgkckiknjaaGreatDoorCkS
namespace Go.Proofs.YtgijpgkckiknjaaGreatDoor
open Go.SX Go.RowKit Go.Ck Go.Lex
namespace Fjb
theorem el42 : Elem Tryz.prog 42 3 1 8 := Elem.of Ft.un42 (z := .int .i64 0) (by kernel_rfl) rfl
end Fjb
theorem take_map {α : Type} {l : List α} {j : Nat} {d : α} (f : α → Value) (h : j < l.length) : (l.take (j + 1)).map f = (l.take j).map f ++ [f (l.getD j d)] := by
  rw [List.take_add_one, List.map_append, List.getElem?_eq_getElem h, List.getD_eq_getElem?_getD, List.getElem?_eq_getElem h]
  rfl
theorem cInts_c {w0 : World} {base : Nat} {fr : List It} {ak : Option Addr} (ck : Nat) {ks : List Int} (hkl : ks.length ≤ 1048576) (hk : SlAt 1 intA (Lies w0 base) ak ks) : FnC Tryz.prog 157 #[.slice ak ks.length ck] (WA w0 base fr) (fun s : Option Nat × Nat => rv s.1 ks.length s.2) (fun s => WA w0 base (.row s.1 s.2 ks.length 3 1 (ks.map iv) :: fr)) := by
  refine FnC.of_body (fn := Tryz.f157) [(0, _)] Tryz.func157 rfl Tryz.ntmps157 rfl ⟨rfl, trivial⟩ ?_
  refine CX.seq ?_
  refine CX.region ?_
  refine LX.pure (Y.assign rfl) rfl rfl rfl ?_
  refine LX.sub (l' := [(0, _), (2, _)]) ⟨rfl, rfl, trivial⟩ ?_
  refine LX.next ?_
  refine PX.thenN ?_
  refine CX.seq ?_
  refine CX.region ?_
  refine LX.pure (Y.move rfl) rfl rfl rfl ?_
  refine LX.pure (Y.lenSl rfl Ft.un42 rfl) rfl rfl rfl ?_
  refine LX.make0 (c := ks.length) Fjb.el42 rfl rfl rfl (by omega) (by omega) rfl rfl rfl ?_
  intro gm
  refine LX.pure (Y.assign rfl) rfl rfl rfl ?_
  refine LX.sub (l' := [(0, _), (2, _), (3, _)]) ⟨rfl, rfl, rfl, trivial⟩ ?_
  refine LX.next ?_
  refine PX.thenN ?_
  refine CX.seq ?_
  refine CX.seq ?_
  refine CX.region ?_
  refine LX.pure (Y.assign rfl) rfl rfl rfl ?_
  refine LX.sub (l' := [(0, _), (2, _), (3, _), (4, _)]) ⟨rfl, rfl, rfl, rfl, trivial⟩ ?_
  refine LX.next ?_
  refine PX.thenN ?_
  refine CX.block ?_
  refine CX.loop (fun s : Nat × Option Nat × Nat => [(0, .slice ak ks.length ck), (3, rv s.2.1 s.1 s.2.2), (4, .int .i64 (s.1 : Int))]) (fun (s : Nat × Option Nat × Nat) w => s.1 ≤ ks.length ∧ WA w0 base (.row s.2.1 s.2.2 s.1 3 1 ((ks.take s.1).map iv) :: fr) w) (fun s => ks.length - s.1) (0, some gm, ks.length) ⟨rfl, rfl, rfl, trivial⟩ (fun w hw => ⟨Nat.zero_le _, hw⟩) ?_
  rintro ⟨j, g, cap⟩
  refine CX.have fun hj0 => ?_
  try dsimp only at hj0 ⊢
  refine CX.seq ?_
  refine CX.seq ?_
  refine CX.region ?_
  refine LX.pure (Y.move rfl) rfl rfl rfl ?_
  refine LX.pure (Y.move rfl) rfl rfl rfl ?_
  refine LX.pure (Y.lenSl rfl Ft.un42 rfl) rfl rfl rfl ?_
  refine LX.pure (Y.ltN rfl rfl) rfl rfl rfl ?_
  refine LX.sub (l' := [(0, _), (3, _), (4, _), (11, _)]) ⟨rfl, rfl, rfl, rfl, trivial⟩ ?_
  refine LX.next ?_
  refine PX.thenN ?_
  refine CX.cond rfl (fun hb1 => ?_) (fun hb1 => ?_)
  · try simp at hb1
    have hj : j < ks.length := by omega
    obtain ⟨a0, hav, hL, _⟩ := hk.int_at hj
    refine CX.skip ?_
    refine PX.thenN ?_
    refine CX.seq ?_
    refine CX.block ?_
    refine CX.region ?_
    refine LX.pure (Y.move rfl) rfl rfl rfl ?_
    refine LX.pure (Y.move rfl) rfl rfl rfl ?_
    refine LX.pure (Y.move rfl) rfl rfl rfl ?_
    refine LX.pure (Y.idxZ Ft.un42 Ft.sz3 rfl rfl hav (j := j) rfl hj) rfl rfl rfl ?_
    refine LX.pure (Y.ldO1 (v := .int .i64 (ks.getD j 0)) Ft.one3 rfl hL) rfl rfl rfl ?_
    refine LX.buildSlice (e := 3) (size := 1) rfl rfl (fun _ => by kernel_rfl) rfl (by decide) rfl rfl rfl ?_
    intro gt15
    refine LX.appendRows 1 0 Fjb.el42 rfl rfl rfl rfl rfl rfl rfl (by omega) (by omega) rfl rfl rfl ?_
    intro g2 cap2
    refine LX.pure (Y.assign rfl) rfl rfl rfl ?_
    refine LX.sub (l' := [(0, _), (3, _), (4, _)]) ⟨rfl, rfl, rfl, trivial⟩ ?_
    refine LX.next ?_
    refine PX.blockN ?_
    refine PX.thenN ?_
    refine CX.region ?_
    refine LX.pure (Y.move rfl) rfl rfl rfl ?_
    refine LX.pure (Y.addN rfl rfl (by (simp only []; omega))) rfl rfl rfl ?_
    refine LX.pure (Y.assign rfl) rfl rfl rfl ?_
    refine LX.sub (l' := [(0, _), (3, _), (4, _)]) ⟨rfl, rfl, rfl, trivial⟩ ?_
    refine LX.next ?_
    exact PX.again (L := (fun s : Nat × Option Nat × Nat => [(0, .slice ak ks.length ck), (3, rv s.2.1 s.1 s.2.2), (4, .int .i64 (s.1 : Int))])) (WW := (fun (s : Nat × Option Nat × Nat) w => s.1 ≤ ks.length ∧ WA w0 base (.row s.2.1 s.2.2 s.1 3 1 ((ks.take s.1).map iv) :: fr) w)) (μ := fun s => ks.length - s.1) (i := (j, g, cap)) (j + 1, g2, cap2) (by show ks.length - (j + 1) < ks.length - j; omega) ⟨rfl, rfl, rfl, trivial⟩ (fun w hw => ⟨by show j + 1 ≤ ks.length; omega, by have h1 := hw.drop (List.sublist_cons_self _ _); show WA w0 base (.row g2 cap2 (j + 1) 3 1 ((ks.take (j + 1)).map iv) :: fr) w; rw [take_map (d := 0) iv hj]; exact h1⟩)
  · try simp at hb1
    have hje : j = ks.length := by omega
    subst hje
    refine CX.exit ?_
    refine PX.thenE ?_
    refine PX.thenE ?_
    refine PX.blockE ?_
    refine PX.thenN ?_
    refine CX.seq ?_
    refine CX.region ?_
    refine LX.pure (Y.move rfl) rfl rfl rfl ?_
    refine LX.pure (Y.assign rfl) rfl rfl rfl ?_
    refine LX.sub (l' := [(2, _)]) ⟨rfl, trivial⟩ ?_
    refine LX.next ?_
    refine PX.thenN ?_
    refine CX.ret ?_
    refine PX.ret1 (by simp) Tryz.results157 rfl ?_
    exact fun w hw => ⟨(g, cap), rfl, by have h1 := hw; rw [List.take_length] at h1; exact h1⟩
theorem cTexts_c {w0 : World} {base : Nat} {fr : List It} {ak : Option Addr} (ck : Nat) {ks : List (List UInt8)} (hkl : ks.length ≤ 1048576) (hk : SlAt 1 strA (Lies w0 base) ak ks) : FnC Tryz.prog 59 #[.slice ak ks.length ck] (WA w0 base fr) (fun s : Option Nat × Nat => rv s.1 ks.length s.2) (fun s => WA w0 base (.row s.1 s.2 ks.length 9 1 (ks.map str) :: fr)) := by
  refine FnC.of_body (fn := Tryz.f59) [(0, _)] Tryz.func59 rfl Tryz.ntmps59 rfl ⟨rfl, trivial⟩ ?_
  refine CX.seq ?_
  refine CX.region ?_
  refine LX.pure (Y.assign rfl) rfl rfl rfl ?_
  refine LX.sub (l' := [(0, _), (2, _)]) ⟨rfl, rfl, trivial⟩ ?_
  refine LX.next ?_
  refine PX.thenN ?_
  refine CX.seq ?_
  refine CX.region ?_
  refine LX.pure (Y.move rfl) rfl rfl rfl ?_
  refine LX.pure (Y.lenSl rfl Fy.un26 rfl) rfl rfl rfl ?_
  refine LX.make0 (c := ks.length) Fza.el26 rfl rfl rfl (by omega) (by omega) rfl rfl rfl ?_
  intro gm
  refine LX.pure (Y.assign rfl) rfl rfl rfl ?_
  refine LX.sub (l' := [(0, _), (2, _), (3, _)]) ⟨rfl, rfl, rfl, trivial⟩ ?_
  refine LX.next ?_
  refine PX.thenN ?_
  refine CX.seq ?_
  refine CX.seq ?_
  refine CX.region ?_
  refine LX.pure (Y.assign rfl) rfl rfl rfl ?_
  refine LX.sub (l' := [(0, _), (2, _), (3, _), (4, _)]) ⟨rfl, rfl, rfl, rfl, trivial⟩ ?_
  refine LX.next ?_
  refine PX.thenN ?_
  refine CX.block ?_
  refine CX.loop (fun s : Nat × Option Nat × Nat => [(0, .slice ak ks.length ck), (3, rv s.2.1 s.1 s.2.2), (4, .int .i64 (s.1 : Int))]) (fun (s : Nat × Option Nat × Nat) w => s.1 ≤ ks.length ∧ WA w0 base (.row s.2.1 s.2.2 s.1 9 1 ((ks.take s.1).map str) :: fr) w) (fun s => ks.length - s.1) (0, some gm, ks.length) ⟨rfl, rfl, rfl, trivial⟩ (fun w hw => ⟨Nat.zero_le _, hw⟩) ?_
  rintro ⟨j, g, cap⟩
  refine CX.have fun hj0 => ?_
  try dsimp only at hj0 ⊢
  refine CX.seq ?_
  refine CX.seq ?_
  refine CX.region ?_
  refine LX.pure (Y.move rfl) rfl rfl rfl ?_
  refine LX.pure (Y.move rfl) rfl rfl rfl ?_
  refine LX.pure (Y.lenSl rfl Fy.un26 rfl) rfl rfl rfl ?_
  refine LX.pure (Y.ltN rfl rfl) rfl rfl rfl ?_
  refine LX.sub (l' := [(0, _), (3, _), (4, _), (11, _)]) ⟨rfl, rfl, rfl, rfl, trivial⟩ ?_
  refine LX.next ?_
  refine PX.thenN ?_
  refine CX.cond rfl (fun hb1 => ?_) (fun hb1 => ?_)
  · try simp at hb1
    have hj : j < ks.length := by omega
    obtain ⟨a0, _, hav, hL⟩ := Go.Tr.strA_at hk hj
    refine CX.skip ?_
    refine PX.thenN ?_
    refine CX.seq ?_
    refine CX.block ?_
    refine CX.region ?_
    refine LX.pure (Y.move rfl) rfl rfl rfl ?_
    refine LX.pure (Y.move rfl) rfl rfl rfl ?_
    refine LX.pure (Y.move rfl) rfl rfl rfl ?_
    refine LX.pure (Y.idxZ Fy.un26 Fy.sz9 rfl rfl hav (j := j) rfl hj) rfl rfl rfl ?_
    refine LX.pure (Y.ldO1 (v := str (ks.getD j [])) Fy.one9 rfl hL) rfl rfl rfl ?_
    refine LX.buildSlice (e := 9) (size := 1) rfl rfl (fun _ => by kernel_rfl) rfl (by decide) rfl rfl rfl ?_
    intro gt15
    refine LX.appendRows 1 0 Fza.el26 rfl rfl rfl rfl rfl rfl rfl (by omega) (by omega) rfl rfl rfl ?_
    intro g2 cap2
    refine LX.pure (Y.assign rfl) rfl rfl rfl ?_
    refine LX.sub (l' := [(0, _), (3, _), (4, _)]) ⟨rfl, rfl, rfl, trivial⟩ ?_
    refine LX.next ?_
    refine PX.blockN ?_
    refine PX.thenN ?_
    refine CX.region ?_
    refine LX.pure (Y.move rfl) rfl rfl rfl ?_
    refine LX.pure (Y.addN rfl rfl (by (simp only []; omega))) rfl rfl rfl ?_
    refine LX.pure (Y.assign rfl) rfl rfl rfl ?_
    refine LX.sub (l' := [(0, _), (3, _), (4, _)]) ⟨rfl, rfl, rfl, trivial⟩ ?_
    refine LX.next ?_
    exact PX.again (L := (fun s : Nat × Option Nat × Nat => [(0, .slice ak ks.length ck), (3, rv s.2.1 s.1 s.2.2), (4, .int .i64 (s.1 : Int))])) (WW := (fun (s : Nat × Option Nat × Nat) w => s.1 ≤ ks.length ∧ WA w0 base (.row s.2.1 s.2.2 s.1 9 1 ((ks.take s.1).map str) :: fr) w)) (μ := fun s => ks.length - s.1) (i := (j, g, cap)) (j + 1, g2, cap2) (by show ks.length - (j + 1) < ks.length - j; omega) ⟨rfl, rfl, rfl, trivial⟩ (fun w hw => ⟨by show j + 1 ≤ ks.length; omega, by have h1 := hw.drop (List.sublist_cons_self _ _); show WA w0 base (.row g2 cap2 (j + 1) 9 1 ((ks.take (j + 1)).map str) :: fr) w; rw [take_map (d := []) str hj]; exact h1⟩)
  · try simp at hb1
    have hje : j = ks.length := by omega
    subst hje
    refine CX.exit ?_
    refine PX.thenE ?_
    refine PX.thenE ?_
    refine PX.blockE ?_
    refine PX.thenN ?_
    refine CX.seq ?_
    refine CX.region ?_
    refine LX.pure (Y.move rfl) rfl rfl rfl ?_
    refine LX.pure (Y.assign rfl) rfl rfl rfl ?_
    refine LX.sub (l' := [(2, _)]) ⟨rfl, trivial⟩ ?_
    refine LX.next ?_
    refine PX.thenN ?_
    refine CX.ret ?_
    refine PX.ret1 (by simp) Tryz.results59 rfl ?_
    exact fun w hw => ⟨(g, cap), rfl, by have h1 := hw; rw [List.take_length] at h1; exact h1⟩
end Go.Proofs.YtgijpgkckiknjaaGreatDoor

namespace Go.Proofs.YtgijpgkckiknjaaGreatDoor
open Go.SX Go.RowKit Go.Ck Go.Lex
namespace Fjc
theorem en157 : Enters Tryz.prog 157 := Enters.of Tryz.func157 (by kernel_rfl) (by kernel_rfl)
end Fjc
open Go.Tr (ndA)
theorem cNode_c {w0 : World} {base : Nat} {fr : List It} {x : Nd} {cs : List Value} (hx : ndA (Lies w0 base) cs x) (hkl : x.kids.length ≤ 1048576) : FnC Tryz.prog 122 #[.agg cs.toArray] (WA w0 base fr) (fun s : Option Nat × Nat => .agg ([.int .i64 x.op, .int .i64 x.n, .int .i64 x.pos, str x.s, rv s.1 x.kids.length s.2]).toArray) (fun s => WA w0 base (.row s.1 s.2 x.kids.length 3 1 (x.kids.map iv) :: fr)) := by
  obtain ⟨vk, rfl, hks, hin⟩ := hx
  obtain ⟨ak2, ck2, rfl, ⟨hkn2, hkc2⟩, hka2⟩ := hks.sl
  refine FnC.of_body (fn := Tryz.f122) [(0, _)] Tryz.func122 rfl Tryz.ntmps122 rfl ⟨rfl, trivial⟩ ?_
  refine CX.seq ?_
  refine CX.region ?_
  refine LX.box rfl rfl rfl rfl rfl ?_
  intro n1x
  refine LX.alloc rfl Fu.zv44 rfl rfl rfl ?_
  intro n2x
  refine LX.sub (l' := [(1, _), (2, _)]) ⟨rfl, rfl, trivial⟩ ?_
  refine LX.next ?_
  refine PX.thenN ?_
  refine CX.seq ?_
  refine CX.regionM [(0, .anywhere), (1, .held), (2, .anywhere), (3, .held), (4, .anywhere), (5, .held), (6, .anywhere), (7, .held), (8, .anywhere), (9, .held), (10, .alone), (11, .alone), (12, .alone)] rfl (by kernel_rfl) ?_
  refine MX.lift0 (i := 0) rfl (Y.fieldAddr0 Ft.fo44_0 rfl) rfl rfl rfl ?_
  refine MX.lift1 (i := 1) (pend' := []) rfl (fun w hw => by exact hw) (Y.ldB 1 Ft.one3 rfl rfl rfl) rfl rfl rfl (by kernel_rfl) ?_
  refine MX.lift0 (i := 2) rfl (Y.fieldAddr0 Fzc.fo44_1 rfl) rfl rfl rfl ?_
  refine MX.lift1 (i := 3) (pend' := [1]) rfl (fun w hw => by exact hw) (Y.ldB 1 Ft.one3 rfl rfl rfl) rfl rfl rfl (by kernel_rfl) ?_
  refine MX.lift0 (i := 4) rfl (Y.fieldAddr0 Fq.fo44_2 rfl) rfl rfl rfl ?_
  refine MX.lift1 (i := 5) (pend' := [3, 1]) rfl (fun w hw => by exact hw) (Y.ldB 1 Ft.one3 rfl rfl rfl) rfl rfl rfl (by kernel_rfl) ?_
  refine MX.lift0 (i := 6) rfl (Y.fieldAddr0 Fza.fo44_3 rfl) rfl rfl rfl ?_
  refine MX.lift1 (i := 7) (pend' := [5, 3, 1]) rfl (fun w hw => by exact hw) (Y.ldB 1 Fy.one9 rfl rfl rfl) rfl rfl rfl (by kernel_rfl) ?_
  refine MX.lift0 (i := 8) rfl (Y.fieldAddr0 Fu.fo44_4 rfl) rfl rfl rfl ?_
  refine MX.lift1 (i := 9) (pend' := [7, 5, 3, 1]) rfl (fun w hw => by exact hw) (Y.ldB 1 Fu.one42 rfl rfl rfl) rfl rfl rfl (by kernel_rfl) ?_
  refine MX.force (i := 10) rfl ?_
  refine LX.call (cInts_c ck2 hkl hka2) Fjc.en157 rfl rfl rfl rfl rfl ?_
  intro sk
  refine LX.nextM [7, 5, 3, 1] (by kernel_rfl) (fun _ => (fun w hw => by exact hw.drop (List.sublist_cons_self _ _))) ?_
  refine MX.force (i := 11) rfl ?_
  refine LX.pure (Y.build (v := .agg ([.int .i64 x.op, .int .i64 x.n, .int .i64 x.pos, str x.s, rv sk.1 x.kids.length sk.2]).toArray) rfl (fun _ => by kernel_rfl)) rfl rfl rfl ?_
  refine LX.nextM [] (by kernel_rfl) (fun h => absurd rfl h) ?_
  refine MX.force (i := 12) rfl ?_
  refine LX.storeA 1 Ft.ag44 rfl rfl rfl rfl rfl rfl rfl rfl rfl ?_
  refine LX.nextM [] (by kernel_rfl) (fun h => absurd rfl h) ?_
  refine MX.sub (l' := [(2, _)]) ⟨rfl, trivial⟩ ?_
  refine MX.done ?_
  refine PX.thenN ?_
  refine CX.ret ?_
  refine PX.retA (i := 1) (by simp) Tryz.results122 Ft.ag44 rfl rfl rfl ?_
  exact fun w hw => ⟨sk, rfl, hw.drop (.cons_cons _ (.cons _ (.cons _ (List.Sublist.refl _))))⟩
end Go.Proofs.YtgijpgkckiknjaaGreatDoor

namespace Go.Ck
open Go.SX
open Go.Tr (ndA)
variable {w0 w : World} {base : Nat}
theorem kids_A {its ds : List It} (hw : WA w0 base its w) {i e c : Nat} {g : Option Nat} {ks : List Int} (hi : its[i]? = some (.row g c ks.length e 1 (ks.map iv))) (hin : ∀ z ∈ ks, inI z) (hm : It.row g c ks.length e 1 (ks.map iv) ∈ ds) (hb : ks.length ≤ 9223372036854775807) :
    SlA 1 intA (See w0 base ds) (rv g ks.length c) ks := by
  refine row_sl hm (by simp) (fun h => ?_) (fun _ _ h => .inr h) ⟨hb, (row_len (hw.get hi)).2⟩ (fun q z hz => ?_)
  · cases g with
    | some b => rfl
    | none =>
      have := (row_none2 (hw.get hi)).1
      omega
  · exact ⟨Go.Tr.map_A hz, hin z (List.mem_of_getElem? hz)⟩
def NdsF (w0 : World) (base : Nat) (rs : List It) (cells : List Value) (l : List Nd) : Prop := cells.length = l.length * 5 ∧ ∀ (i : Nat) (x : Nd), l[i]? = some x → ndA (See w0 base rs) ((cells.drop (i * 5)).take 5) x
theorem NdsF.next {rs : List It} {cells : List Value} {l : List Nd} (h : NdsF w0 base rs cells l) {y : Nd} {five : List Value} {r : It} (h5 : five.length = 5) (hy : ndA (See w0 base (r :: rs)) five y) : NdsF w0 base (r :: rs) (cells ++ five) (l ++ [y]) := by
  refine ⟨by rw [List.length_append, List.length_append, h.1, h5]; simp; omega, fun i x hx => ?_⟩
  rcases Nat.lt_or_ge i l.length with hi | hi
  · rw [List.getElem?_append_left hi] at hx
    have hle : i * 5 + 5 ≤ cells.length := by rw [h.1]; omega
    rw [List.drop_append_of_le_length (by omega), List.take_append_of_le_length (by rw [List.length_drop]; omega)]
    exact Kept.mono (See.more fun it hit => List.mem_cons_of_mem _ hit) (h.2 i x hx)
  · rw [List.getElem?_append_right hi] at hx
    have hz : i - l.length = 0 := by
      have := (List.getElem?_eq_some_iff.1 hx).1
      simpa using this
    rw [hz] at hx
    obtain rfl : y = x := by simpa using hx
    have e : i = l.length := by omega
    subst e
    rw [← h.1, List.drop_left, List.take_of_length_le (by omega)]
    exact hy
theorem NdsF.lies {rs : List It} {cells : List Value} {l : List Nd} (h : NdsF w0 base rs cells l) {its : List It} (hw : WA w0 base its w) (hs : ∀ it ∈ rs, it ∈ its) {j e c : Nat} {g : Option Nat} (hj : its[j]? = some (.row g c l.length e 5 cells)) : SlAt 5 ndA (Lies w w.heap.size) (g.map fun b => ⟨b, 0, none⟩) l :=
  Go.Tr.row_at hw hj rfl (by decide) fun i z hz => Kept.mono (fun a c q => See.lies hw a c (See.more hs a c q)) (h.2 i z hz)
theorem kids_in {M : Rd} {ak : Option Addr} {ks : List Int} (h : SlAt 1 intA M ak ks) : ∀ z ∈ ks, inI z := fun z hz => by
  obtain ⟨i, hi⟩ := List.mem_iff_getElem?.1 hz
  obtain ⟨_, _, _, _, _, _, h2⟩ := h i z hi
  exact h2
/-- functions in a row, their parts in rows that are owned -/
def FnsF (w0 : World) (base : Nat) (rs : List It) (cells : List Value) (l : List Fc) : Prop := cells.length = l.length * 6 ∧ ∀ (i : Nat) (x : Fc), l[i]? = some x → fnA (See w0 base rs) ((cells.drop (i * 6)).take 6) x
theorem FnsF.next {rs : List It} {cells : List Value} {l : List Fc} (h : FnsF w0 base rs cells l) {y : Fc} {six : List Value} {r1 r2 : It} (h6 : six.length = 6) (hy : fnA (See w0 base (r1 :: r2 :: rs)) six y) : FnsF w0 base (r1 :: r2 :: rs) (cells ++ six) (l ++ [y]) := by
  refine ⟨by rw [List.length_append, List.length_append, h.1, h6]; simp; omega, fun i x hx => ?_⟩
  rcases Nat.lt_or_ge i l.length with hi | hi
  · rw [List.getElem?_append_left hi] at hx
    have hle : i * 6 + 6 ≤ cells.length := by rw [h.1]; omega
    rw [List.drop_append_of_le_length (by omega), List.take_append_of_le_length (by rw [List.length_drop]; omega)]
    exact Kept.mono (See.more fun it hit => List.mem_cons_of_mem _ (List.mem_cons_of_mem _ hit)) (h.2 i x hx)
  · rw [List.getElem?_append_right hi] at hx
    have hz : i - l.length = 0 := by
      have := (List.getElem?_eq_some_iff.1 hx).1
      simpa using this
    rw [hz] at hx
    obtain rfl : y = x := by simpa using hx
    have e : i = l.length := by omega
    subst e
    rw [← h.1, List.drop_left, List.take_of_length_le (by omega)]
    exact hy
theorem FnsF.lies {rs : List It} {cells : List Value} {l : List Fc} (h : FnsF w0 base rs cells l) {its : List It} (hw : WA w0 base its w) (hs : ∀ it ∈ rs, it ∈ its) {j e c : Nat} {g : Option Nat} (hj : its[j]? = some (.row g c l.length e 6 cells)) : SlAt 6 fnA (Lies w w.heap.size) (g.map fun b => ⟨b, 0, none⟩) l :=
  Go.Tr.row_at hw hj rfl (by decide) fun i z hz => Kept.mono (fun a c q => See.lies hw a c (See.more hs a c q)) (h.2 i z hz)
theorem NdsF.liesM {rs : List It} {cells : List Value} {l : List Nd} (h : NdsF w0 base rs cells l) {its : List It} (hw : WA w0 base its w) (hs : ∀ it ∈ rs, it ∈ its) {e c : Nat} {g : Option Nat} (hm : It.row g c l.length e 5 cells ∈ its) : SlAt 5 ndA (Lies w w.heap.size) (g.map fun b => ⟨b, 0, none⟩) l := by
  obtain ⟨j, hj⟩ := List.mem_iff_getElem?.1 hm
  exact h.lies hw hs hj
theorem texts_M {its : List It} (hw : WA w0 base its w) {e c : Nat} {g : Option Nat} {ks : List (List UInt8)} (hm : It.row g c ks.length e 1 (ks.map str) ∈ its) : SlAt 1 strA (Lies w w.heap.size) (g.map fun b => ⟨b, 0, none⟩) ks := by
  obtain ⟨j, hj⟩ := List.mem_iff_getElem?.1 hm
  exact Go.Tr.row_at hw hj rfl (by decide) (fun i z h => Go.Tr.map_A h)
/-- instructions in a row -/
def insR (l : List Ins) : List Value := l.flatMap insCs
theorem insR_len (l : List Ins) : (insR l).length = l.length * 4 := by
  induction l with
  | nil => rfl
  | cons x r ih => rw [insR, List.flatMap_cons, List.length_append, List.length_cons, ← insR, ih]; show 4 + _ = _; omega
theorem insR_at : ∀ {l : List Ins} {i : Nat} {z : Ins}, l[i]? = some z → ((insR l).drop (i * 4)).take 4 = insCs z
  | [], _, _, h => by cases h
  | x :: r, 0, z, h => by cases h; rfl
  | x :: r, i + 1, z, h => by
    have := insR_at (l := r) (i := i) (z := z) h
    rw [show insR (x :: r) = insCs x ++ insR r from rfl, show (i + 1) * 4 = (insCs x).length + i * 4 by show _ = 4 + _; omega, ← List.drop_drop, List.drop_left]
    exact this
theorem code_A {its ds : List It} (hw : WA w0 base its w) {i e c : Nat} {g : Option Nat} {ks : List Ins} (hi : its[i]? = some (.row g c ks.length e 4 (insR ks))) (hin : ∀ z ∈ ks, inI z.op ∧ inI z.a ∧ inI z.b ∧ inI z.pos) (hm : It.row g c ks.length e 4 (insR ks) ∈ ds) (hb : ks.length ≤ 9223372036854775807) :
    SlA 4 insA (See w0 base ds) (rv g ks.length c) ks := by
  refine row_sl hm (insR_len ks) (fun h => ?_) (fun _ _ h => .inr h) ⟨hb, (row_len (hw.get hi)).2⟩ (fun q z hz => ?_)
  · cases g with
    | some b => rfl
    | none =>
      have := (row_none2 (hw.get hi)).1
      omega
  · exact ⟨insR_at hz, hin z (List.mem_of_getElem? hz)⟩
theorem texts_A {its ds : List It} (hw : WA w0 base its w) {i e c : Nat} {g : Option Nat} {ks : List (List UInt8)} (hi : its[i]? = some (.row g c ks.length e 1 (ks.map str))) (hm : It.row g c ks.length e 1 (ks.map str) ∈ ds) (hb : ks.length ≤ 9223372036854775807) :
    SlA 1 strA (See w0 base ds) (rv g ks.length c) ks := by
  refine row_sl hm (by simp) (fun h => ?_) (fun _ _ h => .inr h) ⟨hb, (row_len (hw.get hi)).2⟩ (fun q z hz => ?_)
  · cases g with
    | some b => rfl
    | none =>
      have := (row_none2 (hw.get hi)).1
      omega
  · exact Go.Tr.map_A hz
theorem insR_take {l : List Ins} {q : Nat} {i : Ins} (h : l[q]? = some i) : insR (l.take (q + 1)) = insR (l.take q) ++ insCs i := by
  unfold insR
  rw [List.take_add_one, h, List.flatMap_append]
  simp
theorem code_in {M : Rd} {ak : Option Addr} {ks : List Ins} (h : SlAt 4 insA M ak ks) : ∀ z ∈ ks, inI z.op ∧ inI z.a ∧ inI z.b ∧ inI z.pos := fun z hz => by
  obtain ⟨i, hi⟩ := List.mem_iff_getElem?.1 hz
  obtain ⟨_, _, _, _, _, _, h2⟩ := h i z hi
  exact h2
end Go.Ck

namespace Go.Proofs.YtgijpgkckiknjaaGreatDoor
open Go.SX Go.RowKit Go.Ck Go.Lex
namespace Fjd
theorem en122 : Enters Tryz.prog 122 := Enters.of Tryz.func122 (by kernel_rfl) (by kernel_rfl)
theorem el22 : Elem Tryz.prog 22 44 5 64 := Elem.of Ft.un22 (z := .agg #[.int .i64 0, .int .i64 0, .int .i64 0, .string ⟨#[]⟩, .slice none 0 0]) (by kernel_rfl) rfl
end Fjd
open Go.Tr (ndA)
theorem cNodes_c {w0 : World} {base : Nat} {fr : List It} {al : Option Addr} (cl : Nat) {l : List Nd} (hln : l.length ≤ 1048576) (hl : SlAt 5 ndA (Lies w0 base) al l) (hkb : ∀ x ∈ l, x.kids.length ≤ 1048576) : FnC Tryz.prog 58 #[.slice al l.length cl] (WA w0 base fr) (fun s : (Option Nat × Nat) × List Value × List It => rv s.1.1 l.length s.1.2) (fun s w => NdsF w0 base s.2.2 s.2.1 l ∧ WA w0 base (.row s.1.1 s.1.2 l.length 44 5 s.2.1 :: (s.2.2 ++ fr)) w) := by
  refine FnC.of_body (fn := Tryz.f58) [(0, _)] Tryz.func58 rfl Tryz.ntmps58 rfl ⟨rfl, trivial⟩ ?_
  refine CX.seq ?_
  refine CX.region ?_
  refine LX.pure (Y.assign rfl) rfl rfl rfl ?_
  refine LX.sub (l' := [(0, _), (2, _)]) ⟨rfl, rfl, trivial⟩ ?_
  refine LX.next ?_
  refine PX.thenN ?_
  refine CX.seq ?_
  refine CX.region ?_
  refine LX.pure (Y.move rfl) rfl rfl rfl ?_
  refine LX.pure (Y.lenSl rfl Ft.un22 rfl) rfl rfl rfl ?_
  refine LX.make0 (c := l.length) Fjd.el22 rfl rfl rfl (by omega) (by omega) rfl rfl rfl ?_
  intro gm
  refine LX.pure (Y.assign rfl) rfl rfl rfl ?_
  refine LX.sub (l' := [(0, _), (2, _), (3, _)]) ⟨rfl, rfl, rfl, trivial⟩ ?_
  refine LX.next ?_
  refine PX.thenN ?_
  refine CX.seq ?_
  refine CX.seq ?_
  refine CX.region ?_
  refine LX.pure (Y.assign rfl) rfl rfl rfl ?_
  refine LX.sub (l' := [(0, _), (2, _), (3, _), (4, _)]) ⟨rfl, rfl, rfl, rfl, trivial⟩ ?_
  refine LX.next ?_
  refine PX.thenN ?_
  refine CX.block ?_
  refine CX.loop (fun s : Nat × (Option Nat × Nat) × List Value × List It => [(0, .slice al l.length cl), (3, rv s.2.1.1 s.1 s.2.1.2), (4, .int .i64 (s.1 : Int))]) (fun (s : Nat × (Option Nat × Nat) × List Value × List It) w => (s.1 ≤ l.length ∧ NdsF w0 base s.2.2.2 s.2.2.1 (l.take s.1)) ∧ WA w0 base (.row s.2.1.1 s.2.1.2 s.1 44 5 s.2.2.1 :: (s.2.2.2 ++ fr)) w) (fun s => l.length - s.1) (0, (some gm, l.length), [], []) ⟨rfl, rfl, rfl, trivial⟩ (fun w hw => ⟨⟨Nat.zero_le _, rfl, fun i x hx => by cases hx⟩, hw⟩) ?_
  rintro ⟨j, ⟨g, cap⟩, cells, rs⟩
  refine CX.have fun ⟨hj0, hnf⟩ => ?_
  try dsimp only at hj0 hnf ⊢
  refine CX.seq ?_
  refine CX.seq ?_
  refine CX.region ?_
  refine LX.pure (Y.move rfl) rfl rfl rfl ?_
  refine LX.pure (Y.move rfl) rfl rfl rfl ?_
  refine LX.pure (Y.lenSl rfl Ft.un22 rfl) rfl rfl rfl ?_
  refine LX.pure (Y.ltN rfl rfl) rfl rfl rfl ?_
  refine LX.sub (l' := [(0, _), (3, _), (4, _), (11, _)]) ⟨rfl, rfl, rfl, rfl, trivial⟩ ?_
  refine LX.next ?_
  refine PX.thenN ?_
  refine CX.cond rfl (fun hb1 => ?_) (fun hb1 => ?_)
  · try simp at hb1
    have hj : j < l.length := by omega
    obtain ⟨x, hx⟩ : ∃ x, l[j]? = some x := ⟨_, List.getElem?_eq_getElem hj⟩
    obtain ⟨a, cs, hav, hcl, hL, vk, rfl, hks, hin⟩ := hl j x hx
    have hkx := hkb x (List.mem_of_getElem? hx)
    have hki : ∀ z ∈ x.kids, inI z := by
      obtain ⟨_, _, _, _, hka⟩ := hks.sl
      exact kids_in hka
    have htj : l.take (j + 1) = l.take j ++ [x] := by rw [List.take_add_one, hx]; rfl
    refine CX.skip ?_
    refine PX.thenN ?_
    refine CX.seq ?_
    refine CX.block ?_
    refine CX.region ?_
    refine LX.pure (Y.move rfl) rfl rfl rfl ?_
    refine LX.pure (Y.move rfl) rfl rfl rfl ?_
    refine LX.pure (Y.move rfl) rfl rfl rfl ?_
    refine LX.pure (Y.idxZ Ft.un22 Ft.sz44 rfl rfl hav (j := j) rfl hj) rfl rfl rfl ?_
    refine LX.pure (Y.ldAO (cs := [.int .i64 x.op, .int .i64 x.n, .int .i64 x.pos, str x.s, vk]) Ft.ag44 rfl hL rfl) rfl rfl rfl ?_
    refine LX.call (cNode_c (x := x) ⟨vk, rfl, hks, hin⟩ hkx) Fjd.en122 rfl rfl rfl rfl rfl ?_
    intro sk
    refine LX.buildSlice (e := 44) (size := 5) rfl rfl (fun _ => by kernel_rfl) rfl (by decide) rfl rfl rfl ?_
    intro gt20
    refine LX.appendRows 2 0 Fjd.el22 rfl rfl rfl rfl rfl rfl rfl (by omega) (by omega) rfl rfl rfl ?_
    intro g2 cap2
    refine LX.pure (Y.assign rfl) rfl rfl rfl ?_
    refine LX.sub (l' := [(0, _), (3, _), (4, _)]) ⟨rfl, rfl, rfl, trivial⟩ ?_
    refine LX.next ?_
    refine PX.blockN ?_
    refine PX.thenN ?_
    refine CX.region ?_
    refine LX.pure (Y.move rfl) rfl rfl rfl ?_
    refine LX.pure (Y.addN rfl rfl (by (simp only []; omega))) rfl rfl rfl ?_
    refine LX.pure (Y.assign rfl) rfl rfl rfl ?_
    refine LX.sub (l' := [(0, _), (3, _), (4, _)]) ⟨rfl, rfl, rfl, trivial⟩ ?_
    refine LX.next ?_
    exact PX.again (L := (fun s : Nat × (Option Nat × Nat) × List Value × List It => [(0, .slice al l.length cl), (3, rv s.2.1.1 s.1 s.2.1.2), (4, .int .i64 (s.1 : Int))])) (WW := (fun (s : Nat × (Option Nat × Nat) × List Value × List It) w => (s.1 ≤ l.length ∧ NdsF w0 base s.2.2.2 s.2.2.1 (l.take s.1)) ∧ WA w0 base (.row s.2.1.1 s.2.1.2 s.1 44 5 s.2.2.1 :: (s.2.2.2 ++ fr)) w)) (μ := fun s => l.length - s.1) (i := (j, (g, cap), cells, rs)) (j + 1, (g2, cap2), cells ++ [.int .i64 x.op, .int .i64 x.n, .int .i64 x.pos, str x.s, rv sk.1 x.kids.length sk.2], .row sk.1 sk.2 x.kids.length 3 1 (x.kids.map iv) :: rs) (by show l.length - (j + 1) < l.length - j; omega) ⟨rfl, rfl, rfl, trivial⟩ (fun w hw => ⟨⟨by show j + 1 ≤ l.length; omega, by show NdsF w0 base (_ :: rs) (cells ++ _) (l.take (j + 1)); rw [htj]; exact hnf.next rfl ⟨_, rfl, kids_A (i := 1) hw rfl hki (List.mem_cons_self ..) (by omega), hin⟩⟩, (hw.drop (List.sublist_cons_self _ _) : WA w0 base (_ :: _ :: (rs ++ fr)) w).perm (.swap _ _ _)⟩)
  · try simp at hb1
    have hje : j = l.length := by omega
    subst hje
    rw [List.take_length] at hnf
    refine CX.exit ?_
    refine PX.thenE ?_
    refine PX.thenE ?_
    refine PX.blockE ?_
    refine PX.thenN ?_
    refine CX.seq ?_
    refine CX.region ?_
    refine LX.pure (Y.move rfl) rfl rfl rfl ?_
    refine LX.pure (Y.assign rfl) rfl rfl rfl ?_
    refine LX.sub (l' := [(2, _)]) ⟨rfl, trivial⟩ ?_
    refine LX.next ?_
    refine PX.thenN ?_
    refine CX.ret ?_
    refine PX.ret1 (by simp) Tryz.results58 rfl ?_
    exact fun w hw => ⟨((g, cap), cells, rs), rfl, hnf, hw⟩
end Go.Proofs.YtgijpgkckiknjaaGreatDoor

namespace Go.Proofs.YtgijpgkckiknjaaGreatDoor
open Go.SX Go.RowKit Go.Ck Go.Lex
namespace Fje

end Fje
open Go.Tr (ndA row_at map_A)
theorem cTexts_w {W : World → Prop} [Stab W] {ak : Option Addr} (ck : Nat) {ks : List (List UInt8)} (hkl : ks.length ≤ 1048576) (hk : ∀ w, W w → SlAt 1 strA (Lies w w.heap.size) ak ks) :
    FnC Tryz.prog 59 #[.slice ak ks.length ck] W (fun s : Option Nat × Nat => rv s.1 ks.length s.2) (fun s w => SlAt 1 strA (Lies w w.heap.size) (s.1.map fun b => ⟨b, 0, none⟩) ks ∧ W w) :=
  FnC.reO fun w hw w1 h1 => (cTexts_c ck hkl (hk w hw) w1 h1).mono fun e w2 ⟨s, he, h2⟩ => ⟨s, he, row_at h2 (j := 0) rfl rfl (by decide) (fun i z h => map_A h), h2.drop (List.nil_sublist _)⟩
theorem cNodes_w {W : World → Prop} [Stab W] {al : Option Addr} (cl : Nat) {l : List Nd} (hln : l.length ≤ 1048576) (hl : ∀ w, W w → SlAt 5 ndA (Lies w w.heap.size) al l) (hkb : ∀ x ∈ l, x.kids.length ≤ 1048576) :
    FnC Tryz.prog 58 #[.slice al l.length cl] W (fun s : Option Nat × Nat => rv s.1 l.length s.2) (fun s w => SlAt 5 ndA (Lies w w.heap.size) (s.1.map fun b => ⟨b, 0, none⟩) l ∧ W w) :=
  FnC.reO fun w hw w1 h1 => (cNodes_c cl hln (hl w hw) hkb w1 h1).mono fun e w2 ⟨s, he, hf, h2⟩ => ⟨s.1, he, hf.lies h2 (fun it h => List.mem_cons_of_mem _ (List.mem_append_left _ h)) (j := 0) rfl, h2.drop (List.nil_sublist _)⟩
end Go.Proofs.YtgijpgkckiknjaaGreatDoor
