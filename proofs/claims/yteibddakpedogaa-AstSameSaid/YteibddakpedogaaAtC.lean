/-
  Proved here: are two trees the same.
-/
import Derived.Test.YteibddakpedogaaAtB
import Derived.Test.YteibddakpedogaaAsS
set_option linter.unusedSimpArgs false
namespace Go.Proofs.Yteibddakpedogaa
open Go.SX Go.RowKit Go.Tr Go.As Go.Ck
namespace Tc
theorem ag52 : AggT Try.prog 52 2 := AggT.of (by kernel_rfl) (by kernel_rfl)
theorem en19 : Enters Try.prog 19 := Enters.of Try.func19 (by kernel_rfl) (by kernel_rfl)
theorem fa31_0 : FieldOffA Try.prog 31 0 0 := fun a w => by kernel_rfl
theorem fa31_1 : FieldOffA Try.prog 31 1 1 := fun a w => by kernel_rfl
theorem fa31_3 : FieldOffA Try.prog 31 3 3 := fun a w => by kernel_rfl
theorem fa52_0 : FieldOffA Try.prog 52 0 0 := fun a w => by kernel_rfl
theorem fa52_1 : FieldOffA Try.prog 52 1 1 := fun a w => by kernel_rfl
theorem fo31_0 : FieldOff Try.prog 31 0 0 := fun b o w => by kernel_rfl
theorem fo31_1 : FieldOff Try.prog 31 1 1 := fun b o w => by kernel_rfl
theorem fo31_3 : FieldOff Try.prog 31 3 3 := fun b o w => by kernel_rfl
theorem fo52_0 : FieldOff Try.prog 52 0 0 := fun b o w => by kernel_rfl
theorem fo52_1 : FieldOff Try.prog 52 1 1 := fun b o w => by kernel_rfl
theorem one9 : One Try.prog 9 := fun w => by kernel_rfl
theorem sz52 : SizeIs Try.prog 52 2 := fun w => by kernel_rfl
theorem un53 : Try.prog.underlying 53 = some (.slice 52) := by kernel_rfl
theorem zv52 : ∀ w, (zeroValue 52).run Try.prog w = .ok (.agg #[.int .i64 0, .int .i64 0]) w := fun w => by kernel_rfl
theorem el53 : Elem Try.prog 53 52 2 16 := Elem.of un53 (z := .agg #[.int .i64 0, .int .i64 0]) (by kernel_rfl) rfl
end Tc
theorem same_0 {w0 : World} {base : Nat} {al bl : Option Addr} (cl dl : Nat) {l m : List Nd} (hT : TreeF l) (hU : TreeF m) (hml : m.length = l.length) (hkk : ∀ (q : Nat) x y, l[q]? = some x → m[q]? = some y → y.kids = x.kids) (hln : l.length ≤ 1048576)  (hl : SlAt 5 ndA (Lies w0 base) al l) (hm : SlAt 5 ndA (Lies w0 base) bl m) : FnC Try.prog 8 #[.slice al l.length cl, .slice bl m.length dl] (WA w0 base []) (fun b : Bool => .bool b) (fun b w => ((b = true ↔ SameN l m)) ∧ WA w0 base [] w) := by
  refine FnC.of_body (fn := Try.f8) [(0, _), (1, _)] Try.func8 rfl Try.ntmps8 rfl ⟨rfl, rfl, trivial⟩ ?_
  refine CX.sr <| LX.mv rfl <| LX.su [0, 1, 4] rfl <| LX.nt <| CX.seq <| CX.sr <| LX.mv rfl <| LX.callQ (treeT_q cl hT hln (fun w hw => hl.push hw)) Tc.en19 rfl rfl rfl rfl rfl <| LX.p (Y.not rfl) rfl <| LX.mv rfl ?_
  refine LX.caseB (s := 13) rfl (fun hb1 => ?_) (fun hb1 => ?_)
  ·
    (exfalso; simp_all; done)
  have hb1p := hb1
  try simp at hb1p
  refine LX.gT rfl rfl rfl hb1 (Y.move rfl) rfl rfl <| LX.callQT rfl rfl rfl hb1 (treeT_q dl hU (by omega) (fun w hw => hm.push hw)) Tc.en19 rfl rfl rfl rfl <| LX.gT rfl rfl rfl hb1 (Y.not rfl) rfl rfl <| LX.p (Y.pickF rfl hb1 rfl) rfl <| LX.mv rfl ?_
  refine LX.caseB (s := 18) rfl (fun hb2 => ?_) (fun hb2 => ?_)
  ·
    (exfalso; simp_all; done)
  refine LX.gT rfl rfl rfl hb2 (Y.move rfl) rfl rfl <| LX.gT rfl rfl rfl hb2 (Y.lenSl rfl Tb.un23 rfl) rfl rfl <| LX.gT rfl rfl rfl hb2 (Y.move rfl) rfl rfl <| LX.gT rfl rfl rfl hb2 (Y.lenSl rfl Tb.un23 rfl) rfl rfl <| LX.gT rfl rfl rfl hb2 (Y.neN rfl rfl) rfl rfl <| LX.p (Y.pickF rfl hb2 rfl) rfl <| LX.su [0, 1, 4, 24] rfl <| LX.nt ?_
  refine CX.cond rfl (fun hb3 => ?_) (fun hb3 => ?_)
  · try simp at hb3
    (exfalso; omega)
  try simp at hb3
  refine CX.skip <| PX.thenN <| CX.sr <| LX.mv rfl <| LX.p (Y.lenSl rfl Tb.un23 rfl) rfl <| LX.p (Y.sub rfl rfl (by omega)) rfl <| LX.mv rfl <| LX.p (Y.lenSl rfl Tb.un23 rfl) rfl <| LX.p (Y.sub rfl rfl (by omega)) rfl <| LX.p (Y.build (v := .agg #[.int .i64 ((l.length : Int) - 1), .int .i64 ((m.length : Int) - 1)]) rfl (fun _ => by kernel_rfl)) rfl <| LX.buildSlice (e := 52) (size := 2) rfl rfl (fun _ => by kernel_rfl) rfl dc rfl rfl rfl ?_
  intro gt23
  refine LX.mv rfl <| LX.su [0, 1, 4, 5] rfl <| LX.nt <| CX.seq <| CX.block <| CX.loop (fun s : List Int × List Int × Option Nat × Nat => [(0, .slice al l.length cl), (1, .slice bl m.length dl), (5, rv s.2.2.1 s.2.1.length s.2.2.2)]) (fun (s : List Int × List Int × Option Nat × Nat) w => Go6 l (SameE l m) s.1 s.2.1 ∧ WA w0 base [.row s.2.2.1 s.2.2.2 s.2.1.length 52 2 (prs s.2.1)] w) (fun s => l.length - s.1.length) ([], [(l.length : Int) - 1], _, _) ⟨rfl, rfl, rfl, trivial⟩ (fun w hw => ⟨Go6.start hT _, by have h1 := hw; rw [hml] at h1; exact h1⟩) ?_
  rintro ⟨V, T, g0, cap0⟩
  refine CX.have fun hgo => ?_
  try dsimp only at hgo ⊢
  refine CX.seq <| CX.sr <| LX.mv rfl <| LX.p (Y.lenSl rfl Tc.un53 rfl) rfl <| LX.p (Y.gtN rfl rfl) rfl <| LX.su [0, 1, 5, 35] rfl <| LX.nt ?_
  refine CX.cond rfl (fun hb4 => ?_) (fun hb4 => ?_)
  · try simp at hb4
    obtain ⟨B, qi, rfl⟩ := pop_last (show 0 < T.length by assumption)
    obtain ⟨q, rfl⟩ : ∃ q : Nat, qi = (q : Int) := ⟨qi.toNat, by have := hgo.lt qi (by simp); omega⟩
    have hq := hgo.rng
    have hfew := hgo.few
    have hwk := hgo.work
    obtain ⟨x, hx⟩ : ∃ x, l[q]? = some x := ⟨_, List.getElem?_eq_getElem hq⟩
    have hkl := hT.kids_len hx
    obtain ⟨y, hy⟩ : ∃ y, m[q]? = some y := ⟨_, List.getElem?_eq_getElem (by omega)⟩
    have hkq := hkk q x y hx hy
    obtain ⟨a, ak, ck, hav, hL, hkc, hka⟩ := nd_of hl hx
    obtain ⟨b, bk, dk, hbv, hbL, hdc, hbka⟩ := nd_of hm hy
    rw [hkq] at hbL hdc hbka
    refine CX.skip <| PX.thenN <| CX.block <| CX.sr <| LX.ms 2 rfl <| LX.p (Y.lenSl rfl Tc.un53 rfl) rfl <| LX.p (show Y _ _ _ _ _ (.int .i64 (B.length : Int)) from by rw [show (B.length : Int) = ((B ++ [(q : Int)]).length : Int) - 1 by simp]; exact Y.sub rfl rfl (by simp; omega)) rfl <| LX.p (Y.idxR 0 (i := B.length) Tc.un53 Tc.sz52 rfl rfl rfl (by simp)) rfl <| LX.p (Y.ldAggR 0 (vs := [.int .i64 (q : Int), .int .i64 (q : Int)]) Tc.ag52 rfl rfl (prs_at B q) rfl) rfl <| LX.alloc rfl Tc.zv52 rfl rfl rfl ?_
    intro bx6
    refine LX.storeA 0 Tc.ag52 rfl rfl rfl rfl rfl rfl rfl rfl rfl <| LX.su [0, 1, 5, 6] rfl <| LX.nt <| CX.sr <| LX.ms 2 rfl <| LX.p (Y.lenSl rfl Tc.un53 rfl) rfl <| LX.p (show Y _ _ _ _ _ (.int .i64 (B.length : Int)) from by rw [show (B.length : Int) = ((B ++ [(q : Int)]).length : Int) - 1 by simp]; exact Y.sub rfl rfl (by simp; omega)) rfl <| LX.p (Y.cutR 1 (b := B.length) Tc.un53 Tc.sz52 rfl rfl rfl (by simp)) rfl <| LX.world (W' := WA w0 base [blk bx6 [.int .i64 (q : Int), .int .i64 (q : Int)] 52, .row g0 cap0 B.length 52 2 (prs B)]) (fun w hw => by have h1 := hw.cut (i := 1) rfl (k := B.length) (by simp); rw [prs_cut] at h1; exact h1) <| LX.mv rfl <| LX.su [0, 1, 5, 6] rfl <| LX.nt ?_
    refine CX.seqM (fun s : Nat × Nat => [(0, .slice al l.length cl), (1, .slice bl m.length dl), (5, rv g0 B.length cap0), (7, .pointer (some ⟨s.1, 0, none⟩)), (8, .pointer (some ⟨s.2, 0, none⟩))]) (fun (s : Nat × Nat) w => WA w0 base [blk s.1 [.int .i64 x.op, .int .i64 x.n, .int .i64 x.pos, str x.s, .slice ak x.kids.length ck] 31, blk s.2 [.int .i64 y.op, .int .i64 y.n, .int .i64 y.pos, str y.s, .slice bk x.kids.length dk] 31, .row g0 cap0 B.length 52 2 (prs B)] w) ?_ ?_
    ·
      refine CX.regionTS (WA w0 base [blk bx6 [.int .i64 (q : Int), .int .i64 (q : Int)] 52]) (.step 0 .anywhere (.step 1 .anywhere (.step 2 .held (.step 3 .held (.step 4 .held (.step 5 .anywhere (.step 6 .anywhere (.step 7 .held (.step 8 .held (.step 9 .held (.fork 10 11 (.step 11 .alone (.step 12 .alone (.step 13 .alone .done))) (.step 10 .alone (.step 12 .alone (.step 13 .alone .done)))))))))))))) rfl (by kernel_rfl) ?_
      refine MT.lift0 (i := 0) rfl (Y.move rfl) rfl rfl rfl ?_
      refine MT.lift0 (i := 1) rfl (Y.fieldAddr0 Tc.fo52_0 rfl) rfl rfl rfl ?_
      refine MT.lift1 (i := 2) (pend' := []) rfl (fun w hw => by exact hw.drop (.cons_cons _ (List.nil_sublist _))) (Y.ldB 0 Ta.one3 rfl rfl rfl) rfl rfl rfl (by kernel_rfl) ?_
      refine MT.lift1 (i := 3) (pend' := []) rfl (fun w hw => by exact hw.drop (.cons_cons _ (List.nil_sublist _))) (Y.idxZ Tb.un23 Tb.sz31 rfl rfl hav (j := q) rfl hq) rfl rfl rfl (by kernel_rfl) ?_
      refine MT.lift1 (i := 4) (pend' := []) rfl (fun w hw => by exact hw.drop (.cons_cons _ (List.nil_sublist _))) (Y.ldAO (cs := [.int .i64 x.op, .int .i64 x.n, .int .i64 x.pos, str x.s, .slice ak x.kids.length ck]) Tb.ag31 rfl hL rfl) rfl rfl rfl (by kernel_rfl) ?_
      refine MT.lift0 (i := 5) rfl (Y.move rfl) rfl rfl rfl ?_
      refine MT.lift0 (i := 6) rfl (Y.fieldAddr0 Tc.fo52_1 rfl) rfl rfl rfl ?_
      refine MT.lift1 (i := 7) (pend' := [4]) rfl (fun w hw => by exact hw.drop (.cons_cons _ (List.nil_sublist _))) (Y.ldB 0 Ta.one3 rfl rfl rfl) rfl rfl rfl (by kernel_rfl) ?_
      refine MT.lift1 (i := 8) (pend' := [4]) rfl (fun w hw => by exact hw.drop (.cons_cons _ (List.nil_sublist _))) (Y.idxZ Tb.un23 Tb.sz31 rfl rfl hbv (j := q) rfl (by omega)) rfl rfl rfl (by kernel_rfl) ?_
      refine MT.lift1 (i := 9) (pend' := [4]) rfl (fun w hw => by exact hw.drop (.cons_cons _ (List.nil_sublist _))) (Y.ldAO (cs := [.int .i64 y.op, .int .i64 y.n, .int .i64 y.pos, str y.s, .slice bk x.kids.length dk]) Tb.ag31 rfl hbL rfl) rfl rfl rfl (by kernel_rfl) ?_
      refine MT.fork (i := 10) (j := 11) rfl rfl ?_ ?_
      ·
        refine LX.alloc rfl Tb.zv31 rfl rfl rfl ?_
        intro b7
        refine LX.nextT [9, 4] (by kernel_rfl) (fun _ => (fun w hw => by exact hw.drop (.cons _ (.cons_cons _ (List.nil_sublist _))))) ?_
        refine MT.force (i := 11) rfl ?_
        refine LX.alloc rfl Tb.zv31 rfl rfl rfl ?_
        intro b8
        refine LX.nextT [9, 4] (by kernel_rfl) (fun _ => (fun w hw => by exact hw.drop (.cons _ (.cons _ (.cons_cons _ (List.nil_sublist _)))))) ?_
        refine MT.force (i := 12) rfl ?_
        refine LX.storeA 1 Tb.ag31 rfl rfl rfl rfl rfl rfl rfl rfl rfl <| LX.nextT [9] (by kernel_rfl) (fun _ => (fun w hw => by exact hw.drop (.cons _ (.cons _ (.cons_cons _ (List.nil_sublist _)))))) ?_
        refine MT.force (i := 13) rfl ?_
        refine LX.storeA 0 Tb.ag31 rfl rfl rfl rfl rfl rfl rfl rfl rfl <| LX.nextT [] (by kernel_rfl) (fun h => absurd rfl h) ?_
        refine MT.sub (l' := [(0, _), (1, _), (5, _), (7, _), (8, _)]) ⟨rfl, rfl, rfl, rfl, rfl, trivial⟩ ?_
        refine MT.done ?_
        exact PX.seam (b7, b8) ⟨rfl, rfl, rfl, rfl, rfl, trivial⟩ (fun w hw => by exact (hw.perm (.swap _ _ _)).drop (.cons_cons _ (.cons_cons _ (.cons _ (List.Sublist.refl _)))))
      refine LX.alloc rfl Tb.zv31 rfl rfl rfl ?_
      intro b8
      refine LX.nextT [9, 4] (by kernel_rfl) (fun _ => (fun w hw => by exact hw.drop (.cons _ (.cons_cons _ (List.nil_sublist _))))) ?_
      refine MT.force (i := 10) rfl ?_
      refine LX.alloc rfl Tb.zv31 rfl rfl rfl ?_
      intro b7
      refine LX.nextT [9, 4] (by kernel_rfl) (fun _ => (fun w hw => by exact hw.drop (.cons _ (.cons _ (.cons_cons _ (List.nil_sublist _)))))) ?_
      refine MT.force (i := 12) rfl ?_
      refine LX.storeA 0 Tb.ag31 rfl rfl rfl rfl rfl rfl rfl rfl rfl <| LX.nextT [9] (by kernel_rfl) (fun _ => (fun w hw => by exact hw.drop (.cons _ (.cons _ (.cons_cons _ (List.nil_sublist _)))))) ?_
      refine MT.force (i := 13) rfl ?_
      refine LX.storeA 1 Tb.ag31 rfl rfl rfl rfl rfl rfl rfl rfl rfl <| LX.nextT [] (by kernel_rfl) (fun h => absurd rfl h) ?_
      refine MT.sub (l' := [(0, _), (1, _), (5, _), (7, _), (8, _)]) ⟨rfl, rfl, rfl, rfl, rfl, trivial⟩ ?_
      refine MT.done ?_
      exact PX.seam (b7, b8) ⟨rfl, rfl, rfl, rfl, rfl, trivial⟩ (fun w hw => by exact hw.drop (.cons_cons _ (.cons_cons _ (.cons _ (List.Sublist.refl _)))))
    rintro ⟨b7, b8⟩
    refine CX.seq <| CX.sr <| LX.p (Y.fieldAddr0 Tc.fo31_0 rfl) rfl <| LX.p (Y.ldB 0 Ta.one3 rfl rfl rfl) rfl <| LX.p (Y.fieldAddr0 Tc.fo31_0 rfl) rfl <| LX.p (Y.ldB 1 Ta.one3 rfl rfl rfl) rfl <| LX.p (Y.neI rfl rfl) rfl <| LX.mv rfl ?_
    refine LX.caseB (s := 62) rfl (fun hb5 => ?_) (fun hb5 => ?_)
    ·
      have hb5p := hb5
      try simp at hb5p
      refine LX.gF rfl rfl rfl hb5 rfl rfl <| LX.gF rfl rfl rfl hb5 rfl rfl <| LX.gF rfl rfl rfl hb5 rfl rfl <| LX.gF rfl rfl rfl hb5 rfl rfl <| LX.gF rfl rfl rfl hb5 rfl rfl <| LX.p (Y.pickT rfl hb5 rfl) rfl <| LX.mv rfl ?_
      refine LX.caseB (s := 69) rfl (fun hb6 => ?_) (fun hb6 => ?_)
      ·
        have hb6p := hb6
        try simp at hb6p
        refine LX.gF rfl rfl rfl hb6 rfl rfl <| LX.gF rfl rfl rfl hb6 rfl rfl <| LX.gF rfl rfl rfl hb6 rfl rfl <| LX.gF rfl rfl rfl hb6 rfl rfl <| LX.gF rfl rfl rfl hb6 rfl rfl <| LX.p (Y.pickT rfl hb6 rfl) rfl <| LX.mv rfl ?_
        refine LX.caseB (s := 76) rfl (fun hb7 => ?_) (fun hb7 => ?_)
        ·
          refine LX.gF rfl rfl rfl hb7 rfl rfl <| LX.gF rfl rfl rfl hb7 rfl rfl <| LX.gF rfl rfl rfl hb7 rfl rfl <| LX.gF rfl rfl rfl hb7 rfl rfl <| LX.gF rfl rfl rfl hb7 rfl rfl <| LX.gF rfl rfl rfl hb7 rfl rfl <| LX.gF rfl rfl rfl hb7 rfl rfl <| LX.p (Y.pickT rfl hb7 rfl) rfl <| LX.su [0, 1, 5, 7, 8, 84] rfl <| LX.nt ?_
          refine CX.cond rfl (fun hb8 => ?_) (fun hb8 => ?_)
          · try simp at hb8
            refine CX.sr <| LX.mv rfl <| LX.su [0, 1, 4, 5, 7, 8] rfl <| LX.nt <| CX.ret <| PX.thenR <| PX.blockR <| PX.thenR <| PX.blockR <| PX.thenR <| PX.ret1 (by simp) Try.results8 rfl ?_
            exact fun w hw => ⟨false, rfl, ⟨fun h => (by cases h), fun h => by obtain ⟨h1, h2, h3⟩ := h q x y hx hy; exfalso; simp_all⟩, hw.drop (List.nil_sublist _)⟩
          try simp at hb8
          done
        (exfalso; simp_all; done)
      (exfalso; simp_all; done)
    have hb5p := hb5
    try simp at hb5p
    refine LX.gT rfl rfl rfl hb5 (Y.fieldAddr0 Tc.fo31_1 rfl) rfl rfl <| LX.gT rfl rfl rfl hb5 (Y.ldB 0 Ta.one3 rfl rfl rfl) rfl rfl <| LX.gT rfl rfl rfl hb5 (Y.fieldAddr0 Tc.fo31_1 rfl) rfl rfl <| LX.gT rfl rfl rfl hb5 (Y.ldB 1 Ta.one3 rfl rfl rfl) rfl rfl <| LX.gT rfl rfl rfl hb5 (Y.neI rfl rfl) rfl rfl <| LX.p (Y.pickF rfl hb5 rfl) rfl <| LX.mv rfl ?_
    refine LX.caseB (s := 69) rfl (fun hb9 => ?_) (fun hb9 => ?_)
    ·
      have hb9p := hb9
      try simp at hb9p
      refine LX.gF rfl rfl rfl hb9 rfl rfl <| LX.gF rfl rfl rfl hb9 rfl rfl <| LX.gF rfl rfl rfl hb9 rfl rfl <| LX.gF rfl rfl rfl hb9 rfl rfl <| LX.gF rfl rfl rfl hb9 rfl rfl <| LX.p (Y.pickT rfl hb9 rfl) rfl <| LX.mv rfl ?_
      refine LX.caseB (s := 76) rfl (fun hb10 => ?_) (fun hb10 => ?_)
      ·
        refine LX.gF rfl rfl rfl hb10 rfl rfl <| LX.gF rfl rfl rfl hb10 rfl rfl <| LX.gF rfl rfl rfl hb10 rfl rfl <| LX.gF rfl rfl rfl hb10 rfl rfl <| LX.gF rfl rfl rfl hb10 rfl rfl <| LX.gF rfl rfl rfl hb10 rfl rfl <| LX.gF rfl rfl rfl hb10 rfl rfl <| LX.p (Y.pickT rfl hb10 rfl) rfl <| LX.su [0, 1, 5, 7, 8, 84] rfl <| LX.nt ?_
        refine CX.cond rfl (fun hb11 => ?_) (fun hb11 => ?_)
        · try simp at hb11
          refine CX.sr <| LX.mv rfl <| LX.su [0, 1, 4, 5, 7, 8] rfl <| LX.nt <| CX.ret <| PX.thenR <| PX.blockR <| PX.thenR <| PX.blockR <| PX.thenR <| PX.ret1 (by simp) Try.results8 rfl ?_
          exact fun w hw => ⟨false, rfl, ⟨fun h => (by cases h), fun h => by obtain ⟨h1, h2, h3⟩ := h q x y hx hy; exfalso; simp_all⟩, hw.drop (List.nil_sublist _)⟩
        try simp at hb11
        done
      (exfalso; simp_all; done)
    have hb9p := hb9
    try simp at hb9p
    refine LX.gT rfl rfl rfl hb9 (Y.fieldAddr0 Tc.fo31_3 rfl) rfl rfl <| LX.gT rfl rfl rfl hb9 (Y.ldB 0 Tc.one9 rfl rfl rfl) rfl rfl <| LX.gT rfl rfl rfl hb9 (Y.fieldAddr0 Tc.fo31_3 rfl) rfl rfl <| LX.gT rfl rfl rfl hb9 (Y.ldB 1 Tc.one9 rfl rfl rfl) rfl rfl <| LX.gT rfl rfl rfl hb9 (Y.neS rfl rfl) rfl rfl <| LX.p (Y.pickF rfl hb9 rfl) rfl <| LX.mv rfl ?_
    refine LX.caseB (s := 76) rfl (fun hb12 => ?_) (fun hb12 => ?_)
    ·
      refine LX.gF rfl rfl rfl hb12 rfl rfl <| LX.gF rfl rfl rfl hb12 rfl rfl <| LX.gF rfl rfl rfl hb12 rfl rfl <| LX.gF rfl rfl rfl hb12 rfl rfl <| LX.gF rfl rfl rfl hb12 rfl rfl <| LX.gF rfl rfl rfl hb12 rfl rfl <| LX.gF rfl rfl rfl hb12 rfl rfl <| LX.p (Y.pickT rfl hb12 rfl) rfl <| LX.su [0, 1, 5, 7, 8, 84] rfl <| LX.nt ?_
      refine CX.cond rfl (fun hb13 => ?_) (fun hb13 => ?_)
      · try simp at hb13
        refine CX.sr <| LX.mv rfl <| LX.su [0, 1, 4, 5, 7, 8] rfl <| LX.nt <| CX.ret <| PX.thenR <| PX.blockR <| PX.thenR <| PX.blockR <| PX.thenR <| PX.ret1 (by simp) Try.results8 rfl ?_
        exact fun w hw => ⟨false, rfl, ⟨fun h => (by cases h), fun h => by obtain ⟨h1, h2, h3⟩ := h q x y hx hy; exfalso; simp_all⟩, hw.drop (List.nil_sublist _)⟩
      try simp at hb13
      done
    refine LX.gT rfl rfl rfl hb12 (Y.fieldAddr0 Tb.fo31_4 rfl) rfl rfl <| LX.gT rfl rfl rfl hb12 (Y.ldB 0 Tb.one29 rfl rfl rfl) rfl rfl <| LX.gT rfl rfl rfl hb12 (Y.lenSl rfl Ta.un29 rfl) rfl rfl <| LX.gT rfl rfl rfl hb12 (Y.fieldAddr0 Tb.fo31_4 rfl) rfl rfl <| LX.gT rfl rfl rfl hb12 (Y.ldB 1 Tb.one29 rfl rfl rfl) rfl rfl <| LX.gT rfl rfl rfl hb12 (Y.lenSl rfl Ta.un29 rfl) rfl rfl <| LX.gT rfl rfl rfl hb12 (Y.neN rfl rfl) rfl rfl <| LX.p (Y.pickF rfl hb12 rfl) rfl <| LX.su [0, 1, 5, 7, 8, 84] rfl <| LX.nt ?_
    refine CX.cond rfl (fun hb14 => ?_) (fun hb14 => ?_)
    · try simp at hb14
      done
    try simp at hb14
    refine CX.skip <| PX.thenN <| CX.sr <| LX.p (Y.fieldAddr0 Tb.fo31_4 rfl) rfl <| LX.p (Y.ldB 0 Tb.one29 rfl rfl rfl) rfl <| LX.p (Y.lenSl rfl Ta.un29 rfl) rfl <| LX.mv rfl <| LX.su [0, 1, 5, 7, 8, 87, 88] rfl <| LX.nt <| CX.block <| CX.loop (fun s : Nat × Option Nat × Nat => [(0, .slice al l.length cl), (1, .slice bl m.length dl), (5, rv s.2.1 (B.length + s.1) s.2.2), (7, .pointer (some ⟨b7, 0, none⟩)), (8, .pointer (some ⟨b8, 0, none⟩)), (87, .int .i64 (x.kids.length : Int)), (88, .int .i64 (s.1 : Int))]) (fun (s : Nat × Option Nat × Nat) w => s.1 ≤ x.kids.length ∧ WA w0 base [blk b7 [.int .i64 x.op, .int .i64 x.n, .int .i64 x.pos, str x.s, .slice ak x.kids.length ck] 31, blk b8 [.int .i64 y.op, .int .i64 y.n, .int .i64 y.pos, str y.s, .slice bk x.kids.length dk] 31, .row s.2.1 s.2.2 (B.length + s.1) 52 2 (prs (B ++ x.kids.take s.1))] w) (fun s => x.kids.length - s.1) (0, g0, cap0) ⟨rfl, rfl, rfl, rfl, rfl, rfl, rfl, trivial⟩ (fun w hw => ⟨Nat.zero_le _, by rw [List.take_zero, List.append_nil]; exact hw⟩) ?_
    rintro ⟨j, g, cap⟩
    refine CX.have fun hj0 => ?_
    try dsimp only at hj0 ⊢
    refine CX.sr <| LX.p (Y.ltN rfl rfl) rfl <| LX.su [0, 1, 5, 7, 8, 87, 88, 89] rfl <| LX.nt <| CX.seq ?_
    refine CX.cond rfl (fun hb15 => ?_) (fun hb15 => ?_)
    · try simp at hb15
      have hj : j < x.kids.length := by omega
      obtain ⟨a0, hav0, hL0, _⟩ := hka.int_at hj
      obtain ⟨b0, hbv0, hbL0, _⟩ := hbka.int_at hj
      refine CX.skip <| PX.thenN <| CX.seq <| CX.block <| CX.sr <| LX.ms 2 rfl <| LX.su [0, 1, 5, 7, 8, 9, 87, 88] rfl <| LX.nt <| CX.regionM [(0, .anywhere), (1, .anywhere), (2, .held), (3, .anywhere), (4, .held), (5, .held), (6, .anywhere), (7, .held), (8, .anywhere), (9, .held), (10, .held), (11, .held), (12, .alone), (13, .alone), (14, .anywhere)] rfl (by kernel_rfl) <| MX.lift0 (i := 0) rfl (Y.move rfl) rfl rfl rfl <| MX.lift0 (i := 1) rfl (Y.fieldAddr0 Tb.fo31_4 rfl) rfl rfl rfl <| MX.lift1 (i := 2) (pend' := []) rfl (fun w hw => by exact hw) (Y.ldB 0 Tb.one29 rfl rfl rfl) rfl rfl rfl (by kernel_rfl) <| MX.lift0 (i := 3) rfl (Y.move rfl) rfl rfl rfl <| MX.lift1 (i := 4) (pend' := []) rfl (fun w hw => by exact hw) (Y.idxZ Ta.un29 Ta.sz3 rfl rfl hav0 (j := j) rfl hj) rfl rfl rfl (by kernel_rfl) <| MX.lift1 (i := 5) (pend' := []) rfl (fun w hw => by exact hw) (Y.ldO1 Ta.one3 rfl hL0) rfl rfl rfl (by kernel_rfl) <| MX.lift0 (i := 6) rfl (Y.fieldAddr0 Tb.fo31_4 rfl) rfl rfl rfl <| MX.lift1 (i := 7) (pend' := [5]) rfl (fun w hw => by exact hw) (Y.ldB 1 Tb.one29 rfl rfl rfl) rfl rfl rfl (by kernel_rfl) <| MX.lift0 (i := 8) rfl (Y.move rfl) rfl rfl rfl <| MX.lift1 (i := 9) (pend' := [5]) rfl (fun w hw => by exact hw) (Y.idxZ Ta.un29 Ta.sz3 rfl rfl hbv0 (j := j) rfl hj) rfl rfl rfl (by kernel_rfl) <| MX.lift1 (i := 10) (pend' := [5]) rfl (fun w hw => by exact hw) (Y.ldO1 Ta.one3 rfl hbL0) rfl rfl rfl (by kernel_rfl) <| MX.lift1 (i := 11) (pend' := []) rfl (fun w hw => by exact hw) (Y.build (v := .agg #[.int .i64 (x.kids.getD j 0), .int .i64 (x.kids.getD j 0)]) rfl (fun _ => by kernel_rfl)) rfl rfl rfl (by kernel_rfl) <| MX.force (i := 12) rfl <| LX.buildSlice (e := 52) (size := 2) rfl rfl (fun _ => by kernel_rfl) rfl dc rfl rfl rfl ?_
      intro gt115
      refine LX.nextM [] (by kernel_rfl) (fun h => absurd rfl h) <| MX.force (i := 13) rfl <| LX.appendT 2 Tc.el53 rfl rfl rfl rfl rfl rfl rfl (by omega) (by omega) rfl rfl rfl ?_
      intro g' cap'
      refine LX.nextM [] (by kernel_rfl) (fun h => absurd rfl h) <| MX.lift0 (i := 14) rfl (Y.assign rfl) rfl rfl rfl <| MX.sub (l' := [(0, _), (1, _), (5, _), (7, _), (8, _), (87, _), (88, _)]) ⟨rfl, rfl, rfl, rfl, rfl, rfl, rfl, trivial⟩ <| MX.done <| PX.blockN <| PX.thenN <| CX.region <| LX.p (Y.addN rfl rfl (by (simp; omega))) rfl <| LX.mv rfl <| LX.su [0, 1, 5, 7, 8, 87, 88] rfl <| LX.next ?_
      exact PX.again (i := (j, g, cap)) (j + 1, g', cap') (by show x.kids.length - (j + 1) < x.kids.length - j; omega) ⟨rfl, rfl, rfl, rfl, rfl, rfl, rfl, trivial⟩ (fun w hw => ⟨by show j + 1 ≤ x.kids.length; omega, by show WA w0 base [blk b7 _ _, blk b8 _ _, .row _ _ _ _ 2 (prs (B ++ x.kids.take (j + 1)))] w; rw [prs_next B hj]; exact hw⟩)
    try simp at hb15
    obtain rfl : j = x.kids.length := by omega
    refine CX.exit <| PX.thenE <| PX.thenE <| PX.blockE <| PX.blockN ?_
    exact PX.again (i := (V, B ++ [(q : Int)], g0, cap0)) ((q : Int) :: V, B ++ x.kids, g, cap) (by show l.length - (V.length + 1) < l.length - V.length; omega) ⟨rfl, rfl, by show _ = some (rv g (B ++ x.kids).length cap); rw [List.length_append]; rfl, trivial⟩ (fun w hw => ⟨hgo.pop hT hx (fun x2 y2 h1 h2 => by rw [hx] at h1; rw [hy] at h2; cases h1; cases h2; refine ⟨?_, ?_, ?_⟩ <;> simp_all), by have h1 := hw.drop (.cons _ (.cons _ (List.Sublist.refl _))); rw [List.take_length] at h1; show WA w0 base [.row g cap (B ++ x.kids).length 52 2 (prs (B ++ x.kids))] w; rw [List.length_append]; exact h1⟩)
  try simp at hb4
  obtain rfl : T = [] := by assumption
  refine CX.exit <| PX.thenE <| PX.thenE <| PX.blockE <| PX.thenN <| CX.sr <| LX.mv rfl <| LX.su [4] rfl <| LX.nt <| CX.ret <| PX.ret1 (by simp) Try.results8 rfl ?_
  exact fun w hw => ⟨true, rfl, ⟨fun _ => hgo.same hT, fun _ => rfl⟩, hw.drop (List.nil_sublist _)⟩
theorem same_w {W : World → Prop} [Stab W] {al bl : Option Addr} (cl dl : Nat) {l m : List Nd} (hT : TreeF l) (hU : TreeF m) (hml : m.length = l.length) (hkk : ∀ (q : Nat) x y, l[q]? = some x → m[q]? = some y → y.kids = x.kids) (hln : l.length ≤ 1048576)  (hl : ∀ w, W w → SlAt 5 ndA (Lies w w.heap.size) al l) (hm : ∀ w, W w → SlAt 5 ndA (Lies w w.heap.size) bl m) : FnC Try.prog 8 #[.slice al l.length cl, .slice bl m.length dl] W (fun b : Bool => .bool b) (fun b w => ((b = true ↔ SameN l m)) ∧ W w) := FnC.reO fun w hw => same_0 cl dl hT hU hml hkk hln (hl w hw) (hm w hw)
end Go.Proofs.Yteibddakpedogaa
