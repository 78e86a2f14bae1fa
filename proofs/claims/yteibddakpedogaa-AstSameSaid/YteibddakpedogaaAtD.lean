/-
  Proved here: how deep a tree is.
-/
import Derived.Test.YteibddakpedogaaAtB
import Derived.Test.YteibddakpedogaaAsW
import Derived.Test.YteibddakpedogaaCpN
set_option linter.unusedSimpArgs false
namespace Go.Proofs.Yteibddakpedogaa
open Go.SX Go.RowKit Go.Tr Go.As Go.Ck
namespace Td
theorem ag31 : AggT Try.prog 31 5 := AggT.of (by kernel_rfl) (by kernel_rfl)
theorem en19 : Enters Try.prog 19 := Enters.of Try.func19 (by kernel_rfl) (by kernel_rfl)
theorem fa31_4 : FieldOffA Try.prog 31 4 4 := fun a w => by kernel_rfl
theorem fo31_4 : FieldOff Try.prog 31 4 4 := fun b o w => by kernel_rfl
theorem one29 : One Try.prog 29 := fun w => by kernel_rfl
theorem one3 : One Try.prog 3 := fun w => by kernel_rfl
theorem sz3 : SizeIs Try.prog 3 1 := fun w => by kernel_rfl
theorem sz31 : SizeIs Try.prog 31 5 := fun w => by kernel_rfl
theorem un23 : Try.prog.underlying 23 = some (.slice 31) := by kernel_rfl
theorem un29 : Try.prog.underlying 29 = some (.slice 3) := by kernel_rfl
theorem zv31 : ∀ w, (zeroValue 31).run Try.prog w = .ok (.agg #[.int .i64 0, .int .i64 0, .int .i64 0, .string ⟨#[]⟩, .slice none 0 0]) w := fun w => by kernel_rfl
theorem el29 : Elem Try.prog 29 3 1 8 := Elem.of un29 (z := .int .i64 0) (by kernel_rfl) rfl
end Td
theorem iv_D {d : List Int} {k : Nat} (h : k < d.length) : (d.map iv)[k * 1]? = some (.int .i64 (d.getD k 0)) := by
  rw [Nat.mul_one, List.getElem?_map, List.getElem?_eq_getElem h, List.getD_eq_getElem?_getD, List.getElem?_eq_getElem h]; rfl
theorem iv_set {d : List Int} {k : Nat} {z : Int} : (d.set k z).map iv = (d.map iv).set k (.int .i64 z) := by rw [List.map_set]; rfl
theorem deepX_c {w0 : World} {base : Nat} {al : Option Addr} (cl : Nat) {l : List Nd} (hT : TreeF l) (hln : l.length ≤ 1048576)  (hl : SlAt 5 ndA (Lies w0 base) al l) : FnC Try.prog 10 #[.slice al l.length cl] (WA w0 base []) (fun _ : Unit => .int .i64 ((dpt l 0 (List.replicate l.length 0)).getD (l.length - 1) 0)) (fun _ => WA w0 base []) := by
  refine FnC.of_body (fn := Try.f10) [(0, _)] Try.func10 rfl Try.ntmps10 rfl ⟨rfl, trivial⟩ ?_
  refine CX.sr <| LX.mv rfl <| LX.su [0, 2] rfl <| LX.nt <| CX.seq <| CX.sr <| LX.mv rfl <| LX.callQ (treeT_q cl hT hln (fun w hw => hl.push hw)) Td.en19 rfl rfl rfl rfl rfl <| LX.p (Y.not rfl) rfl <| LX.su [0, 2, 10] rfl <| LX.nt ?_
  refine CX.cond rfl (fun hb1 => ?_) (fun hb1 => ?_)
  · try simp at hb1
    done
  try simp at hb1
  refine CX.skip <| PX.thenN <| CX.sr <| LX.mv rfl <| LX.p (Y.lenSl rfl Td.un23 rfl) rfl <| LX.makeN (z := .int .i64 0) Td.el29 (by kernel_rfl) rfl rfl rfl (by omega) (by omega) rfl rfl rfl ?_
  intro gb
  rw [made_iv]
  refine LX.mv rfl <| LX.su [0, 2, 3] rfl <| LX.nt <| CX.seq <| CX.sr <| LX.mv rfl <| LX.p (Y.lenSl rfl Td.un23 rfl) rfl <| LX.mv rfl <| LX.su [0, 2, 3, 14, 15, 16] rfl <| LX.nt <| CX.block <| CX.loop (fun s : Nat × List Int => [(0, .slice al l.length cl), (3, rv (some gb) l.length l.length), (14, .slice al l.length cl), (15, .int .i64 (l.length : Int)), (16, .int .i64 (s.1 : Int))]) (fun (s : Nat × List Int) w => (s.1 ≤ l.length ∧ Few l.length s.1 s.2 ∧ dpt (l.drop s.1) s.1 s.2 = dpt l 0 (List.replicate l.length 0)) ∧ WA w0 base [.row (some gb) l.length l.length 3 1 (s.2.map iv)] w) (fun s => l.length - s.1) (0, List.replicate l.length 0) ⟨rfl, rfl, rfl, rfl, rfl, trivial⟩ (fun w hw => ⟨⟨Nat.zero_le _, Few.start _, rfl⟩, hw⟩) ?_
  rintro ⟨i, ds⟩
  refine CX.have fun ⟨hi0, hds, hdp⟩ => ?_
  try dsimp only at hi0 hds hdp ⊢
  refine CX.sr <| LX.p (Y.ltN rfl rfl) rfl <| LX.su [0, 3, 14, 15, 16, 17] rfl <| LX.nt <| CX.seq ?_
  refine CX.cond rfl (fun hb2 => ?_) (fun hb2 => ?_)
  · try simp at hb2
    have hi : i < l.length := by omega
    obtain ⟨x, hx⟩ : ∃ x, l[i]? = some x := ⟨_, List.getElem?_eq_getElem hi⟩
    obtain ⟨a, ak, ck, hav, hL, hkc, hka⟩ := nd_of hl hx
    refine CX.skip <| PX.thenN <| CX.seq <| CX.block <| CX.sr <| LX.mv rfl <| LX.p (Y.idxZ Td.un23 Td.sz31 rfl rfl hav (j := i) rfl hi) rfl <| LX.p (Y.ldAO (cs := [.int .i64 x.op, .int .i64 x.n, .int .i64 x.pos, str x.s, .slice ak x.kids.length ck]) Td.ag31 rfl hL rfl) rfl <| LX.alloc rfl Td.zv31 rfl rfl rfl ?_
    intro bx5
    refine LX.mv rfl <| LX.storeA 0 Td.ag31 rfl rfl rfl rfl rfl rfl rfl rfl rfl <| LX.su [0, 3, 4, 5, 14, 15, 16] rfl <| LX.nt <| CX.seq <| CX.sr <| LX.p (Y.fieldAddr0 Td.fo31_4 rfl) rfl <| LX.p (Y.ldB 0 Td.one29 rfl rfl rfl) rfl <| LX.p (Y.lenSl rfl Td.un29 rfl) rfl <| LX.mv rfl <| LX.su [0, 3, 4, 14, 15, 16, 22, 23, 24] rfl <| LX.nt <| CX.block <| CX.loop (fun s : Nat × List Int => [(0, .slice al l.length cl), (3, rv (some gb) l.length l.length), (4, .int .i64 (i : Int)), (14, .slice al l.length cl), (15, .int .i64 (l.length : Int)), (16, .int .i64 (i : Int)), (22, .slice ak x.kids.length ck), (23, .int .i64 (x.kids.length : Int)), (24, .int .i64 (s.1 : Int))]) (fun (s : Nat × List Int) w => (s.1 ≤ x.kids.length ∧ Few l.length i s.2 ∧ inn i (x.kids.drop s.1) s.2 = inn i x.kids ds) ∧ WA w0 base [.row (some gb) l.length l.length 3 1 (s.2.map iv)] w) (fun s => x.kids.length - s.1) (0, ds) ⟨rfl, rfl, rfl, rfl, rfl, rfl, rfl, rfl, rfl, trivial⟩ (fun w hw => ⟨⟨Nat.zero_le _, hds, rfl⟩, hw.drop (List.sublist_cons_self _ _)⟩) ?_
    rintro ⟨j, v⟩
    refine CX.have fun ⟨hj0, hdv, hin⟩ => ?_
    try dsimp only at hj0 hdv hin ⊢
    refine CX.sr <| LX.p (Y.ltN rfl rfl) rfl <| LX.su [0, 3, 4, 14, 15, 16, 22, 23, 24, 25] rfl <| LX.nt <| CX.seq ?_
    refine CX.cond rfl (fun hb3 => ?_) (fun hb3 => ?_)
    · try simp at hb3
      have hj : j < x.kids.length := by omega
      obtain ⟨a0, hav0, hL0, _⟩ := hka.int_at hj
      have hkr := hT.ft.kid i x hx _ (getD_mem hj)
      obtain ⟨kk, hkk⟩ : ∃ k : Nat, x.kids.getD j 0 = (k : Int) := ⟨(x.kids.getD j 0).toNat, by omega⟩
      have hmxv := mx_in hdv i (kk : Int)
      have hfl := hdv.len
      refine CX.skip <| PX.thenN <| CX.seq <| CX.block <| CX.sr <| LX.p (Y.idxZ Td.un29 Td.sz3 rfl rfl hav0 (j := j) rfl hj) rfl <| LX.p (show Y _ _ _ _ _ (.int .i64 (kk : Int)) from hkk ▸ Y.ldO1 Td.one3 rfl hL0) rfl <| LX.mv rfl <| LX.su [0, 3, 4, 7, 14, 15, 16, 22, 23, 24] rfl <| LX.nt <| CX.regionM [(0, .anywhere), (1, .anywhere), (2, .anywhere), (3, .anywhere), (4, .held), (5, .held), (6, .anywhere), (7, .anywhere), (8, .held), (9, .held), (10, .held), (11, .held), (12, .alone)] rfl (by kernel_rfl) <| MX.lift0 (i := 0) rfl (Y.move rfl) rfl rfl rfl <| MX.lift0 (i := 1) rfl (Y.move rfl) rfl rfl rfl <| MX.lift0 (i := 2) rfl (Y.move rfl) rfl rfl rfl <| MX.lift0 (i := 3) rfl (Y.move rfl) rfl rfl rfl <| MX.lift1 (i := 4) (pend' := []) rfl (fun w hw => by exact hw) (Y.idxRZ 0 (i := i) Td.un29 Td.sz3 rfl rfl rfl rfl (by omega)) rfl rfl rfl (by kernel_rfl) <| MX.lift1 (i := 5) (pend' := []) rfl (fun w hw => by exact hw) (Y.ldR 0 (v := .int .i64 (v.getD i 0)) Td.one3 rfl rfl (iv_D (by have := hdv.len; omega))) rfl rfl rfl (by kernel_rfl) <| MX.lift0 (i := 6) rfl (Y.move rfl) rfl rfl rfl <| MX.lift0 (i := 7) rfl (Y.move rfl) rfl rfl rfl <| MX.lift1 (i := 8) (pend' := [5]) rfl (fun w hw => by exact hw) (Y.idxRZ 0 (i := kk) Td.un29 Td.sz3 rfl rfl rfl rfl (by omega)) rfl rfl rfl (by kernel_rfl) <| MX.lift1 (i := 9) (pend' := [5]) rfl (fun w hw => by exact hw) (Y.ldR 0 (v := .int .i64 (v.getD kk 0)) Td.one3 rfl rfl (iv_D (by have := hdv.len; omega))) rfl rfl rfl (by kernel_rfl) <| MX.lift1 (i := 10) (pend' := []) rfl (fun w hw => by exact hw) (Y.max2 rfl rfl) rfl rfl rfl (by kernel_rfl) <| MX.lift1 (i := 11) (pend' := []) rfl (fun w hw => by exact hw) (Y.idxRZ 0 (i := i) Td.un29 Td.sz3 rfl rfl rfl rfl (by omega)) rfl rfl rfl (by kernel_rfl) <| MX.force (i := 12) rfl <| LX.storeR 0 Td.sz3 rfl rfl rfl rfl rfl (by rw [List.length_map]; have := hdv.len; omega) rfl rfl <| LX.nextM [] (by kernel_rfl) (fun h => absurd rfl h) <| MX.sub (l' := [(0, _), (3, _), (4, _), (14, _), (15, _), (16, _), (22, _), (23, _), (24, _)]) ⟨rfl, rfl, rfl, rfl, rfl, rfl, rfl, rfl, rfl, trivial⟩ <| MX.done <| PX.blockN <| PX.thenN <| CX.region <| LX.p (Y.addN rfl rfl (by (simp only []; omega))) rfl <| LX.mv rfl <| LX.su [0, 3, 4, 14, 15, 16, 22, 23, 24] rfl <| LX.next ?_
      exact PX.again (i := (j, v)) (j + 1, v.set i (mx v i (kk : Int))) (by show x.kids.length - (j + 1) < x.kids.length - j; omega) ⟨rfl, rfl, rfl, rfl, rfl, rfl, rfl, rfl, rfl, trivial⟩ (fun w hw => ⟨⟨by show j + 1 ≤ x.kids.length; omega, hdv.set hmxv (Nat.le_refl _), by rw [← hin, inn_next hj, hkk]⟩, by have h1 := hw; rw [Nat.mul_one] at h1; rw [iv_set]; exact h1⟩)
    try simp at hb3
    obtain rfl : j = x.kids.length := by omega
    rw [List.drop_length] at hin
    replace hin : v = _ := hin
    have hvi := hdv.at_ i
    have hfl := hdv.len
    refine CX.exit <| PX.thenE <| PX.thenE <| PX.blockE <| PX.thenN <| CX.region <| LX.ms 2 rfl <| LX.p (Y.idxRZ 0 (i := i) Td.un29 Td.sz3 rfl rfl rfl rfl (by omega)) rfl <| LX.p (Y.ldR 0 (v := .int .i64 (v.getD i 0)) Td.one3 rfl rfl (iv_D (by have := hdv.len; omega))) rfl <| LX.p (Y.add rfl rfl (by omega)) rfl <| LX.p (Y.idxRZ 0 (i := i) Td.un29 Td.sz3 rfl rfl rfl rfl (by omega)) rfl <| LX.storeR 0 Td.sz3 rfl rfl rfl rfl rfl (by rw [List.length_map]; have := hdv.len; omega) rfl rfl <| LX.su [0, 3, 14, 15, 16] rfl <| LX.next <| PX.blockN <| PX.thenN <| CX.region <| LX.p (Y.addN rfl rfl (by (simp only []; omega))) rfl <| LX.mv rfl <| LX.su [0, 3, 14, 15, 16] rfl <| LX.next ?_
    exact PX.again (i := (i, ds)) (i + 1, stp i x ds) (by show l.length - (i + 1) < l.length - i; omega) ⟨rfl, rfl, rfl, rfl, rfl, trivial⟩ (fun w hw => ⟨⟨by show i + 1 ≤ l.length; omega, by unfold stp; rw [← hin]; exact hdv.set (by omega) (Nat.le_succ _), (dpt_next hx).symm.trans hdp⟩, by have h1 := hw; rw [Nat.mul_one] at h1; show WA w0 base [.row (some gb) l.length l.length 3 1 ((stp i x ds).map iv)] w; unfold stp; rw [← hin, iv_set]; exact h1⟩)
  try simp at hb2
  obtain rfl : i = l.length := by omega
  rw [List.drop_length] at hdp
  replace hdp : ds = _ := hdp
  have hpos := hT.pos
  have hfl := hds.len
  refine CX.exit <| PX.thenE <| PX.thenE <| PX.blockE <| PX.thenN <| CX.sr <| LX.ms 2 rfl <| LX.p (Y.lenSl rfl Td.un23 rfl) rfl <| LX.p (Y.sub rfl rfl (by omega)) rfl <| LX.p (Y.idxRZ 0 (i := l.length - 1) Td.un29 Td.sz3 rfl rfl (by omega) rfl (by omega)) rfl <| LX.p (Y.ldR 0 (v := .int .i64 (ds.getD (l.length - 1) 0)) Td.one3 rfl rfl (iv_D (by have := hds.len; omega))) rfl <| LX.mv rfl <| LX.su [2] rfl <| LX.nt <| CX.ret <| PX.ret1 (by simp) Try.results10 rfl ?_
  exact fun w hw => ⟨(), by rw [hdp], hw.drop (List.nil_sublist _)⟩
theorem deepX_q {W : World → Prop} [Stab W] {al : Option Addr} (cl : Nat) {l : List Nd} (hT : TreeF l) (hln : l.length ≤ 1048576)  (hl : ∀ w, W w → SlAt 5 ndA (Lies w w.heap.size) al l) : FnQ Try.prog 10 #[.slice al l.length cl] W (.int .i64 ((dpt l 0 (List.replicate l.length 0)).getD (l.length - 1) 0)) := FnC.quiet fun w hw => deepX_c cl hT hln (hl w hw)
end Go.Proofs.Yteibddakpedogaa
