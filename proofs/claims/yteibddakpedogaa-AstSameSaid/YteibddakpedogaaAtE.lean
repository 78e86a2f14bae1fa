/-
  Proved here: copies, small trees, numbers, the example.
-/
import Derived.Test.YteibddakpedogaaAtD
import Derived.Test.YteibddakpedogaaAsX
import Derived.Test.YteibddakpedogaaRi
set_option linter.unusedSimpArgs false
namespace Go.Proofs.Yteibddakpedogaa
open Go.SX Go.RowKit Go.Tr Go.As Go.Ck
namespace Te
theorem en10 : Enters Try.prog 10 := Enters.of Try.func10 (by kernel_rfl) (by kernel_rfl)
theorem en18 : Enters Try.prog 18 := Enters.of Try.func18 (by kernel_rfl) (by kernel_rfl)
theorem fa31_0 : FieldOffA Try.prog 31 0 0 := fun a w => by kernel_rfl
theorem fa31_1 : FieldOffA Try.prog 31 1 1 := fun a w => by kernel_rfl
theorem fa31_2 : FieldOffA Try.prog 31 2 2 := fun a w => by kernel_rfl
theorem fa31_3 : FieldOffA Try.prog 31 3 3 := fun a w => by kernel_rfl
theorem fo31_0 : FieldOff Try.prog 31 0 0 := fun b o w => by kernel_rfl
theorem fo31_1 : FieldOff Try.prog 31 1 1 := fun b o w => by kernel_rfl
theorem fo31_2 : FieldOff Try.prog 31 2 2 := fun b o w => by kernel_rfl
theorem fo31_3 : FieldOff Try.prog 31 3 3 := fun b o w => by kernel_rfl
theorem one9 : One Try.prog 9 := fun w => by kernel_rfl
theorem un9 : Try.prog.underlying 9 = some .string := by kernel_rfl
end Te
theorem take_map {α : Type} {l : List α} {j : Nat} {d : α} (f : α → Value) (h : j < l.length) : (l.take (j + 1)).map f = (l.take j).map f ++ [f (l.getD j d)] := by
  rw [List.take_add_one, List.map_append, List.getElem?_eq_getElem h, List.getD_eq_getElem?_getD, List.getElem?_eq_getElem h]
  rfl
theorem cInts_c {w0 : World} {base : Nat} {fr : List It} {ak : Option Addr} (ck : Nat) {ks : List Int} (hkl : ks.length ≤ 1048576) (hk : SlAt 1 intA (Lies w0 base) ak ks) : FnC Try.prog 18 #[.slice ak ks.length ck] (WA w0 base fr) (fun s : Option Nat × Nat => rv s.1 ks.length s.2) (fun s => WA w0 base (.row s.1 s.2 ks.length 3 1 (ks.map iv) :: fr)) := by
  refine FnC.of_body (fn := Try.f18) [(0, _)] Try.func18 rfl Try.ntmps18 rfl ⟨rfl, trivial⟩ ?_
  refine CX.sr <| LX.mv rfl <| LX.su [0, 2] rfl <| LX.nt <| CX.sr <| LX.mv rfl <| LX.p (Y.lenSl rfl Td.un29 rfl) rfl <| LX.make0 (c := ks.length) Td.el29 rfl rfl rfl (by omega) (by omega) rfl rfl rfl ?_
  intro gm
  refine LX.mv rfl <| LX.su [0, 2, 3] rfl <| LX.nt <| CX.seq <| CX.sr <| LX.mv rfl <| LX.su [0, 2, 3, 4] rfl <| LX.nt <| CX.block <| CX.loop (fun s : Nat × Option Nat × Nat => [(0, .slice ak ks.length ck), (3, rv s.2.1 s.1 s.2.2), (4, .int .i64 (s.1 : Int))]) (fun (s : Nat × Option Nat × Nat) w => s.1 ≤ ks.length ∧ WA w0 base (.row s.2.1 s.2.2 s.1 3 1 ((ks.take s.1).map iv) :: fr) w) (fun s => ks.length - s.1) (0, some gm, ks.length) ⟨rfl, rfl, rfl, trivial⟩ (fun w hw => ⟨Nat.zero_le _, hw⟩) ?_
  rintro ⟨j, g, cap⟩
  refine CX.have fun hj0 => ?_
  try dsimp only at hj0 ⊢
  refine CX.seq <| CX.sr <| LX.ms 2 rfl <| LX.p (Y.lenSl rfl Td.un29 rfl) rfl <| LX.p (Y.ltN rfl rfl) rfl <| LX.su [0, 3, 4, 11] rfl <| LX.nt ?_
  refine CX.cond rfl (fun hb1 => ?_) (fun hb1 => ?_)
  · try simp at hb1
    have hj : j < ks.length := by omega
    obtain ⟨a0, hav, hL, _⟩ := hk.int_at hj
    refine CX.skip <| PX.thenN <| CX.seq <| CX.block <| CX.region <| LX.ms 3 rfl <| LX.p (Y.idxZ Td.un29 Td.sz3 rfl rfl hav (j := j) rfl hj) rfl <| LX.p (Y.ldO1 (v := .int .i64 (ks.getD j 0)) Td.one3 rfl hL) rfl <| LX.buildSlice (e := 3) (size := 1) rfl rfl (fun _ => by kernel_rfl) rfl dc rfl rfl rfl ?_
    intro gt15
    refine LX.appendRows 1 0 Td.el29 rfl rfl rfl rfl rfl rfl rfl (by omega) (by omega) rfl rfl rfl ?_
    intro g2 cap2
    refine LX.mv rfl <| LX.su [0, 3, 4] rfl <| LX.next <| PX.blockN <| PX.thenN <| CX.region <| LX.mv rfl <| LX.p (Y.addN rfl rfl (by (simp only []; omega))) rfl <| LX.mv rfl <| LX.su [0, 3, 4] rfl <| LX.next ?_
    exact PX.again (i := (j, g, cap)) (j + 1, g2, cap2) (by show ks.length - (j + 1) < ks.length - j; omega) ⟨rfl, rfl, rfl, trivial⟩ (fun w hw => ⟨by show j + 1 ≤ ks.length; omega, by have h1 := hw.drop (List.sublist_cons_self _ _); show WA w0 base (.row g2 cap2 (j + 1) 3 1 ((ks.take (j + 1)).map iv) :: fr) w; rw [take_map (d := 0) iv hj]; exact h1⟩)
  try simp at hb1
  have hje : j = ks.length := by omega
  subst hje
  refine CX.exit <| PX.thenE <| PX.thenE <| PX.blockE <| PX.thenN <| CX.sr <| LX.ms 2 rfl <| LX.su [2] rfl <| LX.nt <| CX.ret <| PX.ret1 (by simp) Try.results18 rfl ?_
  exact fun w hw => ⟨(g, cap), rfl, by have h1 := hw; rw [List.take_length] at h1; exact h1⟩
theorem cNode_c {w0 : World} {base : Nat} {fr : List It} {x : Nd} {cs : List Value} (hx : ndA (Lies w0 base) cs x) (hkl : x.kids.length ≤ 1048576) : FnC Try.prog 7 #[.agg cs.toArray] (WA w0 base fr) (fun s : Option Nat × Nat => .agg ([.int .i64 x.op, .int .i64 x.n, .int .i64 x.pos, str x.s, rv s.1 x.kids.length s.2]).toArray) (fun s => WA w0 base (.row s.1 s.2 x.kids.length 3 1 (x.kids.map iv) :: fr)) := by
  obtain ⟨vk, rfl, hks, hin⟩ := hx
  obtain ⟨ak2, ck2, rfl, ⟨hkn2, hkc2⟩, hka2⟩ := hks.sl
  refine FnC.of_body (fn := Try.f7) [(0, _)] Try.func7 rfl Try.ntmps7 rfl ⟨rfl, trivial⟩ ?_
  refine CX.sr <| LX.box rfl rfl rfl rfl rfl ?_
  intro n1x
  refine LX.alloc rfl Td.zv31 rfl rfl rfl ?_
  intro n2x
  refine LX.su [1, 2] rfl <| LX.nt <| CX.seq <| CX.regionM [(0, .anywhere), (1, .held), (2, .anywhere), (3, .held), (4, .anywhere), (5, .held), (6, .anywhere), (7, .held), (8, .anywhere), (9, .held), (10, .alone), (11, .alone), (12, .alone)] rfl (by kernel_rfl) <| MX.lift0 (i := 0) rfl (Y.fieldAddr0 Te.fo31_0 rfl) rfl rfl rfl <| MX.lift1 (i := 1) (pend' := []) rfl (fun w hw => by exact hw) (Y.ldB 1 Td.one3 rfl rfl rfl) rfl rfl rfl (by kernel_rfl) <| MX.lift0 (i := 2) rfl (Y.fieldAddr0 Te.fo31_1 rfl) rfl rfl rfl <| MX.lift1 (i := 3) (pend' := [1]) rfl (fun w hw => by exact hw) (Y.ldB 1 Td.one3 rfl rfl rfl) rfl rfl rfl (by kernel_rfl) <| MX.lift0 (i := 4) rfl (Y.fieldAddr0 Te.fo31_2 rfl) rfl rfl rfl <| MX.lift1 (i := 5) (pend' := [3, 1]) rfl (fun w hw => by exact hw) (Y.ldB 1 Td.one3 rfl rfl rfl) rfl rfl rfl (by kernel_rfl) <| MX.lift0 (i := 6) rfl (Y.fieldAddr0 Te.fo31_3 rfl) rfl rfl rfl <| MX.lift1 (i := 7) (pend' := [5, 3, 1]) rfl (fun w hw => by exact hw) (Y.ldB 1 Te.one9 rfl rfl rfl) rfl rfl rfl (by kernel_rfl) <| MX.lift0 (i := 8) rfl (Y.fieldAddr0 Td.fo31_4 rfl) rfl rfl rfl <| MX.lift1 (i := 9) (pend' := [7, 5, 3, 1]) rfl (fun w hw => by exact hw) (Y.ldB 1 Td.one29 rfl rfl rfl) rfl rfl rfl (by kernel_rfl) <| MX.force (i := 10) rfl <| LX.call (cInts_c ck2 hkl hka2) Te.en18 rfl rfl rfl rfl rfl ?_
  intro sk
  refine LX.nextM [7, 5, 3, 1] (by kernel_rfl) (fun _ => (fun w hw => by exact hw.drop (List.sublist_cons_self _ _))) <| MX.force (i := 11) rfl <| LX.p (Y.build (v := .agg ([.int .i64 x.op, .int .i64 x.n, .int .i64 x.pos, str x.s, rv sk.1 x.kids.length sk.2]).toArray) rfl (fun _ => by kernel_rfl)) rfl <| LX.nextM [] (by kernel_rfl) (fun h => absurd rfl h) <| MX.force (i := 12) rfl <| LX.storeA 1 Td.ag31 rfl rfl rfl rfl rfl rfl rfl rfl rfl <| LX.nextM [] (by kernel_rfl) (fun h => absurd rfl h) <| MX.sub (l' := [(2, _)]) ⟨rfl, trivial⟩ <| MX.done <| PX.thenN <| CX.ret <| PX.retA (i := 1) (by simp) Try.results7 Td.ag31 rfl rfl rfl ?_
  exact fun w hw => ⟨sk, rfl, hw.drop (.cons_cons _ (.cons _ (.cons _ (List.Sublist.refl _))))⟩
def SmB (l : List Nd) (i : Nat) : Prop := ∀ (k : Nat) x, k < i → l[k]? = some x → x.kids.length ≤ 300 ∧ x.s.length ≤ 300
theorem SmB.next {l : List Nd} {i : Nat} (h : SmB l i) {x : Nd} (hx : l[i]? = some x) (h1 : x.kids.length ≤ 300 ∧ x.s.length ≤ 300) : SmB l (i + 1) := fun k y hk hy => by
  rcases Nat.lt_or_ge k i with hi | hi
  · exact h k y hi hy
  obtain rfl : k = i := by omega
  rw [hx] at hy; cases hy; exact h1
theorem SmB.all {l : List Nd} (h : SmB l l.length) : ∀ (k : Nat) x, l[k]? = some x → x.kids.length ≤ 300 ∧ x.s.length ≤ 300 := fun k x hx => h k x (List.getElem?_eq_some_iff.1 hx).1 hx
theorem wTree_0 {w0 : World} {base : Nat} {al : Option Addr} (cl : Nat) {l : List Nd} (hl : SlAt 5 ndA (Lies w0 base) al l) : FnC Try.prog 6 #[.slice al l.length cl] (WA w0 base []) (fun b : Bool => .bool b) (fun b w => (b = true → l.length ≤ 300 ∧ ∀ (k : Nat) x, l[k]? = some x → x.kids.length ≤ 300 ∧ x.s.length ≤ 300) ∧ WA w0 base [] w) := by
  refine FnC.of_body (fn := Try.f6) [(0, _)] Try.func6 rfl Try.ntmps6 rfl ⟨rfl, trivial⟩ ?_
  refine CX.sr <| LX.mv rfl <| LX.su [0, 2] rfl <| LX.nt <| CX.seq <| CX.sr <| LX.mv rfl <| LX.p (Y.lenSl rfl Td.un23 rfl) rfl <| LX.p (Y.gtN rfl rfl) rfl <| LX.su [0, 2, 6] rfl <| LX.nt ?_
  refine CX.cond rfl (fun hb1 => ?_) (fun hb1 => ?_)
  · try simp at hb1
    refine CX.sr <| LX.mv rfl <| LX.su [0, 2] rfl <| LX.nt <| CX.ret <| PX.thenR <| PX.ret1 (by simp) Try.results6 rfl ?_
    exact fun w hw => ⟨_, rfl, (fun h9 => by (exfalso; simp_all; done)), hw.drop (List.nil_sublist _)⟩
  try simp at hb1
  refine CX.skip <| PX.thenN <| CX.seq <| CX.sr <| LX.mv rfl <| LX.su [0, 2, 3] rfl <| LX.nt <| CX.block <| CX.loop (fun i : Nat => [(0, .slice al l.length cl), (3, .int .i64 (i : Int))]) (fun (i : Nat) w => (i ≤ l.length ∧ SmB l i) ∧ WA w0 base [] w) (fun i => l.length - i) 0 ⟨rfl, rfl, trivial⟩ (fun w hw => ⟨⟨Nat.zero_le _, fun k x h => absurd h (Nat.not_lt_zero k)⟩, hw⟩) ?_
  intro i
  refine CX.have fun ⟨hi0, hsm⟩ => CX.seq <| CX.sr <| LX.ms 2 rfl <| LX.p (Y.lenSl rfl Td.un23 rfl) rfl <| LX.p (Y.ltN rfl rfl) rfl <| LX.su [0, 3, 10] rfl <| LX.nt ?_
  refine CX.cond rfl (fun hb2 => ?_) (fun hb2 => ?_)
  · try simp at hb2
    have hi : i < l.length := by omega
    obtain ⟨x, hx⟩ : ∃ x, l[i]? = some x := ⟨_, List.getElem?_eq_getElem (by omega)⟩
    obtain ⟨a, ak, ck, hav, hL, hkc, hka⟩ := nd_of hl hx
    refine CX.skip <| PX.thenN <| CX.seq <| CX.block <| CX.sr <| LX.ms 2 rfl <| LX.p (Y.idxZ Td.un23 Td.sz31 rfl rfl hav (j := i) rfl (by omega)) rfl <| LX.p (Y.fieldA Td.fa31_4 rfl) rfl <| LX.p (Y.ldFO (v := .slice ak x.kids.length ck) Td.one29 rfl hL rfl) rfl <| LX.p (Y.lenSl rfl Td.un29 rfl) rfl <| LX.p (Y.gtN rfl rfl) rfl <| LX.mv rfl ?_
    refine LX.caseB (s := 20) rfl (fun hb3 => ?_) (fun hb3 => ?_)
    ·
      refine LX.gF rfl rfl rfl hb3 rfl rfl <| LX.gF rfl rfl rfl hb3 rfl rfl <| LX.gF rfl rfl rfl hb3 rfl rfl <| LX.gF rfl rfl rfl hb3 rfl rfl <| LX.gF rfl rfl rfl hb3 rfl rfl <| LX.gF rfl rfl rfl hb3 rfl rfl <| LX.gF rfl rfl rfl hb3 rfl rfl <| LX.p (Y.pickT rfl hb3 rfl) rfl <| LX.su [0, 3, 28] rfl <| LX.nt ?_
      refine CX.cond rfl (fun hb4 => ?_) (fun hb4 => ?_)
      · try simp at hb4
        refine CX.sr <| LX.mv rfl <| LX.su [0, 2, 3] rfl <| LX.nt <| CX.ret <| PX.blockR <| PX.thenR <| PX.thenR <| PX.blockR <| PX.thenR <| PX.ret1 (by simp) Try.results6 rfl ?_
        exact fun w hw => ⟨_, rfl, (fun h9 => by (exfalso; simp_all; done)), hw.drop (List.nil_sublist _)⟩
      try simp at hb4
      done
    have hb3p := hb3
    try simp at hb3p
    refine LX.gT rfl rfl rfl hb3 (Y.move rfl) rfl rfl <| LX.gT rfl rfl rfl hb3 (Y.move rfl) rfl rfl <| LX.gT rfl rfl rfl hb3 (Y.idxZ Td.un23 Td.sz31 rfl rfl hav (j := i) rfl (by omega)) rfl rfl <| LX.gT rfl rfl rfl hb3 (Y.fieldA Te.fa31_3 rfl) rfl rfl <| LX.gT rfl rfl rfl hb3 (Y.ldFO (v := str x.s) Te.one9 rfl hL rfl) rfl rfl <| LX.gT rfl rfl rfl hb3 (Y.lenStr rfl Te.un9 rfl) rfl rfl <| LX.gT rfl rfl rfl hb3 (Y.gtN rfl rfl) rfl rfl <| LX.p (Y.pickF rfl hb3 rfl) rfl <| LX.su [0, 3, 28] rfl <| LX.nt ?_
    refine CX.cond rfl (fun hb5 => ?_) (fun hb5 => ?_)
    · try simp at hb5
      refine CX.sr <| LX.mv rfl <| LX.su [0, 2, 3] rfl <| LX.nt <| CX.ret <| PX.blockR <| PX.thenR <| PX.thenR <| PX.blockR <| PX.thenR <| PX.ret1 (by simp) Try.results6 rfl ?_
      exact fun w hw => ⟨_, rfl, (fun h9 => by (exfalso; simp_all; done)), hw.drop (List.nil_sublist _)⟩
    try simp at hb5
    refine CX.skip <| PX.blockN <| PX.thenN <| CX.region <| LX.mv rfl <| LX.p (Y.addN rfl rfl (by (simp only []; omega))) rfl <| LX.mv rfl <| LX.su [0, 3] rfl <| LX.next ?_
    exact PX.again (i := i) (i + 1) (by show l.length - (i + 1) < l.length - i; omega) ⟨rfl, rfl, trivial⟩ (fun w hw => ⟨⟨by show i + 1 ≤ l.length; omega, hsm.next hx ⟨by omega, by omega⟩⟩, hw⟩)
  try simp at hb2
  obtain rfl : i = l.length := by omega
  refine CX.exit <| PX.thenE <| PX.thenE <| PX.blockE <| PX.thenN <| CX.sr <| LX.mv rfl <| LX.su [2] rfl <| LX.nt <| CX.ret <| PX.ret1 (by simp) Try.results6 rfl ?_
  exact fun w hw => ⟨_, rfl, (fun h9 => by exact ⟨by omega, hsm.all⟩), hw.drop (List.nil_sublist _)⟩
theorem wTree_w {W : World → Prop} [Stab W] {al : Option Addr} (cl : Nat) {l : List Nd} (hl : ∀ w, W w → SlAt 5 ndA (Lies w w.heap.size) al l) : FnC Try.prog 6 #[.slice al l.length cl] W (fun b : Bool => .bool b) (fun b w => (b = true → l.length ≤ 300 ∧ ∀ (k : Nat) x, l[k]? = some x → x.kids.length ≤ 300 ∧ x.s.length ≤ 300) ∧ W w) := FnC.reO fun w hw => wTree_0 cl (hl w hw)
theorem number6_c {w0 : World} {base : Nat} {fr : List It} (z : Int) {n : Nat} (hn : 0 < n) (hn2 : n ≤ 1048576) : FnC Try.prog 9 #[.int .i64 z, .int .i64 (n : Int)] (WA w0 base fr) (fun _ : Unit => .int .i64 ((nmb z n : Nat) : Int)) (fun _ => WA w0 base fr) := by
  obtain ⟨h9, h8, h7, h6⟩ := nmb_at z hn
  refine FnC.of_body (fn := Try.f9) [(0, _), (1, _)] Try.func9 rfl Try.ntmps9 rfl ⟨rfl, rfl, trivial⟩ ?_
  refine CX.sr <| LX.mv rfl <| LX.su [0, 1, 4] rfl <| LX.nt <| CX.sr <| LX.ms 2 rfl <| LX.p (Y.rem rfl rfl (by omega)) rfl <| LX.mv rfl <| LX.p (Y.add (a := z.tmod n) (b := n) rfl rfl (by omega)) rfl <| LX.mv rfl <| LX.p (show Y _ _ _ _ _ (.int .i64 ((nmb z n : Nat) : Int)) from h9 ▸ Y.rem (a := z.tmod n + n) rfl rfl (by omega)) rfl <| LX.mv rfl <| LX.su [4] rfl <| LX.nt <| CX.ret <| PX.ret1 (by simp) Try.results9 rfl ?_
  exact fun w hw => ⟨(), rfl, hw⟩
open Go.Ck (NdsR)
theorem first6_c {w0 : World} {base : Nat} : FnC Try.prog 4 #[] (WA w0 base []) (fun _ : Unit => .bool true) (fun _ => WA w0 base []) := by
  refine FnC.of_body (fn := Try.f4) [] Try.func4 rfl Try.ntmps4 rfl trivial ?_
  refine CX.sr <| LX.mv rfl <| LX.su [0] rfl <| LX.nt <| CX.sr <| LX.p (Y.build (v := .agg #[.int .i64 6, .int .i64 0, .int .i64 0, str [120], .slice none 0 0]) rfl (fun _ => by kernel_rfl)) rfl <| LX.buildSlice (e := 3) (size := 1) rfl rfl (fun _ => by kernel_rfl) rfl dc rfl rfl rfl ?_
  intro b2
  refine LX.p (Y.build (v := .agg #[.int .i64 35, .int .i64 0, .int .i64 0, str [], rv (some b2) 1 1]) rfl (fun _ => by kernel_rfl)) rfl <| LX.buildSlice (e := 3) (size := 1) rfl rfl (fun _ => by kernel_rfl) rfl dc rfl rfl rfl ?_
  intro b4
  refine LX.p (Y.build (v := .agg #[.int .i64 47, .int .i64 0, .int .i64 0, str [], rv (some b4) 1 1]) rfl (fun _ => by kernel_rfl)) rfl <| LX.buildSlice (e := 31) (size := 5) rfl rfl (fun _ => by kernel_rfl) rfl dc rfl rfl rfl ?_
  intro b6
  refine LX.callQ (show FnQ Try.prog 10 _ _ (.int .i64 3) from deepX_q (al := some ⟨b6, 0, none⟩) 3 (l := ex3) ex3_tree dc (fun w hw => by
      have hw2 : WA w0 base [.row (some b6) 3 3 31 5 ([.int .i64 6, .int .i64 0, .int .i64 0, str [120], .slice none 0 0] ++ [.int .i64 35, .int .i64 0, .int .i64 0, str [], rv (some b2) 1 1] ++ [.int .i64 47, .int .i64 0, .int .i64 0, str [], rv (some b4) 1 1]), .row (some b4) 1 1 3 1 (([1] : List Int).map iv), .row (some b2) 1 1 3 1 (([0] : List Int).map iv)] w := hw
      have h1 := (NdsR.put (g := none) (c := 0) (ks := []) (op := 6) (pos := 0) (x := [120]) (show NdsR 3 [] [] [] from ⟨rfl, fun i x hx => (by cases hx)⟩) (hw2.nilRow 3 1) (i := 0) rfl (fun z hz => by cases hz) dc (by unfold inI; omega) (by unfold inI; omega))
      have h2 := h1.put (g := some b2) (c := 1) (ks := [0]) (op := 35) (pos := 0) (x := []) hw2 (i := 2) rfl (fun z hz => by cases List.mem_singleton.1 hz; unfold inI; omega) dc (by unfold inI; omega) (by unfold inI; omega)
      have h3 := h2.put (g := some b4) (c := 1) (ks := [1]) (op := 47) (pos := 0) (x := []) hw2 (i := 1) rfl (fun z hz => by cases List.mem_singleton.1 hz; unfold inI; omega) dc (by unfold inI; omega) (by unfold inI; omega)
      exact (h3.toF w0 base).lies (hw2.nilRow 3 1) (fun it hi => by simp at hi ⊢; rcases hi with rfl | rfl | rfl <;> simp) (j := 1) rfl)) Te.en10 rfl rfl rfl rfl rfl ?_
  refine LX.p (Y.eqN rfl rfl) rfl <| LX.mv rfl <| LX.su [0] rfl <| LX.nt <| CX.ret <| PX.ret1 (by simp) Try.results4 rfl ?_
  exact fun w hw => ⟨(), rfl, hw.drop (List.nil_sublist _)⟩
theorem first6_q {W : World → Prop} [Stab W] : FnQ Try.prog 4 #[] W (.bool true) := FnC.quiet fun w hw => first6_c
end Go.Proofs.Yteibddakpedogaa
