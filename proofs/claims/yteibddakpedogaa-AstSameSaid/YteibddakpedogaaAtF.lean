/-
  Proved here: the statement.
-/
import Derived.Test.YteibddakpedogaaAtE
import Derived.Test.YteibddakpedogaaAtC
import Derived.Test.YteibddakpedogaaAsO
set_option linter.unusedSimpArgs false
namespace Go.Proofs.Yteibddakpedogaa
open Go.SX Go.RowKit Go.Tr Go.As Go.Ck
namespace Tf
theorem ag25 : AggT Try.prog 25 5 := AggT.of (by kernel_rfl) (by kernel_rfl)
theorem en4 : Enters Try.prog 4 := Enters.of Try.func4 (by kernel_rfl) (by kernel_rfl)
theorem en5 : Enters Try.prog 5 := Enters.of Try.func5 (by kernel_rfl) (by kernel_rfl)
theorem en6 : Enters Try.prog 6 := Enters.of Try.func6 (by kernel_rfl) (by kernel_rfl)
theorem en7 : Enters Try.prog 7 := Enters.of Try.func7 (by kernel_rfl) (by kernel_rfl)
theorem en8 : Enters Try.prog 8 := Enters.of Try.func8 (by kernel_rfl) (by kernel_rfl)
theorem en9 : Enters Try.prog 9 := Enters.of Try.func9 (by kernel_rfl) (by kernel_rfl)
theorem fa25_0 : FieldOffA Try.prog 25 0 0 := fun a w => by kernel_rfl
theorem fo25_0 : FieldOff Try.prog 25 0 0 := fun b o w => by kernel_rfl
theorem sz9 : SizeIs Try.prog 9 1 := fun w => by kernel_rfl
theorem zv25 : ∀ w, (zeroValue 25).run Try.prog w = .ok (.agg #[.int .i64 0, .bool false, .int .i64 0, .bool false, .string ⟨#[]⟩]) w := fun w => by kernel_rfl
theorem el23 : Elem Try.prog 23 31 5 64 := Elem.of Td.un23 (z := .agg #[.int .i64 0, .int .i64 0, .int .i64 0, .string ⟨#[]⟩, .slice none 0 0]) (by kernel_rfl) rfl
end Tf
open Go.Ck (NdsF)
theorem same_n {W : World → Prop} [Stab W] {al bl : Option Addr} (cl dl n k : Nat) {l m : List Nd} (hn : n = l.length) (hk : k = m.length) (hT : TreeF l) (hU : TreeF m) (hml : m.length = l.length) (hkk : ∀ (q : Nat) x y, l[q]? = some x → m[q]? = some y → y.kids = x.kids) (hln : l.length ≤ 1048576) (hl : ∀ w, W w → SlAt 5 ndA (Lies w w.heap.size) al l) (hm : ∀ w, W w → SlAt 5 ndA (Lies w w.heap.size) bl m) : FnC Try.prog 8 #[.slice al n cl, .slice bl k dl] W (fun b : Bool => .bool b) (fun b w => (b = true ↔ SameN l m) ∧ W w) := by
  subst hn hk
  exact same_w cl dl hT hU hml hkk hln hl hm
theorem law_c {w00 : World} {base0 : Nat} (text : List UInt8) (at_ by_ : Int) : FnC Try.prog 3 #[str text, .int .i64 at_, .int .i64 by_] (WA w00 base0 []) (fun _ : Unit => .bool true) (fun _ => WA w00 base0 []) := by
  skip
  refine FnC.of_body (fn := Try.f3) [(0, _), (1, _), (2, _)] Try.func3 rfl Try.ntmps3 rfl ⟨rfl, rfl, rfl, trivial⟩ ?_
  refine CX.sr <| LX.mv rfl <| LX.su [0, 1, 2, 6] rfl <| LX.nt <| CX.sr <| LX.callQ (first6_q) Tf.en4 rfl rfl rfl rfl rfl <| LX.mv rfl <| LX.su [0, 1, 2, 6, 7] rfl <| LX.nt <| CX.seq <| CX.sr <| LX.mv rfl <| LX.p (Y.not rfl) rfl <| LX.su [0, 1, 2, 6, 7, 16] rfl <| LX.nt ?_
  refine CX.cond rfl (fun hb1 => ?_) (fun hb1 => ?_)
  · try simp at hb1
    done
  try simp at hb1
  refine CX.skip <| PX.thenN <| CX.seq <| CX.sr <| LX.mv rfl <| LX.p (Y.lenStr rfl Te.un9 rfl) rfl <| LX.p (Y.gtN rfl rfl) rfl <| LX.mv rfl <| LX.su [0, 1, 2, 6, 7, 20] rfl ?_
  apply LX.joinOr 3 23 20 rfl
  · intro hb2
    refine LX.gF rfl rfl rfl hb2 rfl rfl <| LX.gF rfl rfl rfl hb2 rfl rfl <| LX.p (Y.pickT rfl hb2 rfl) rfl ?_
    exact LX.left ⟨rfl, rfl, rfl, rfl, rfl, rfl, rfl, trivial⟩
  · intro hb2
    refine LX.gT rfl rfl rfl hb2 (Y.move rfl) rfl rfl <| LX.gT rfl rfl rfl hb2 (Y.not rfl) rfl rfl <| LX.p (Y.pickF rfl hb2 rfl) rfl ?_
    exact LX.left ⟨rfl, rfl, rfl, rfl, rfl, rfl, rfl, trivial⟩
  refine LX.su [0, 1, 2, 6, 7, 23] rfl <| LX.nt ?_
  refine CX.cond rfl (fun hb3 => ?_) (fun hb3 => ?_)
  · try simp at hb3
    refine CX.sr <| LX.ms 2 rfl <| LX.su [0, 1, 2, 6] rfl <| LX.nt <| CX.ret <| PX.thenR <| PX.ret1 (by simp) Try.results3 rfl ?_
    exact fun w hw => ⟨(), rfl, hw.drop (List.nil_sublist _)⟩
  try simp at hb3
  refine CX.skip <| PX.thenN <| CX.sr <| LX.mv rfl <| LX.call (parse6_c (fr0 := []) text (by omega)) Tf.en5 rfl rfl rfl rfl rfl ?_
  rintro (⟨l, m0⟩ | ⟨fc, fp⟩)
  ·
    refine LX.world (W' := fun w => (TreeF l ∧ l.length ≤ 1048576 ∧ Go.Ck.NdsR 3 m0.rs m0.cells l) ∧ WA w00 base0 (.row m0.g m0.c l.length 31 5 m0.cells :: (m0.rs ++ [])) w) (fun w hw => hw) <| LX.have fun ⟨hT, hln, hnd⟩ => LX.mv rfl <| LX.p (Y.extract rfl rfl) rfl <| LX.p (Y.extract rfl rfl) rfl <| LX.alloc rfl Tf.zv25 rfl rfl rfl ?_
    intro b9
    refine LX.mv rfl <| LX.storeA 0 Tf.ag25 rfl rfl rfl rfl rfl rfl rfl rfl rfl <| LX.su [1, 2, 6, 8, 9] rfl <| LX.nt <| CX.seq <| CX.sr <| LX.p (Y.fieldAddr0 Tf.fo25_0 rfl) rfl <| LX.p (Y.ldB 0 Td.one3 rfl rfl rfl) rfl <| LX.p (Y.neN rfl rfl) rfl <| LX.mv rfl ?_
    refine LX.caseB (s := 33) rfl (fun hb4 => ?_) (fun hb4 => ?_)
    ·
      (exfalso; simp_all; done)
    have hb4p := hb4
    try simp at hb4p
    refine LX.gT rfl rfl rfl hb4 (Y.move rfl) rfl rfl <| LX.callT rfl rfl rfl hb4 (wTree_w (al := m0.g.map fun b => ⟨b, 0, none⟩) m0.c (fun w hw => (hnd.toF w00 base0).lies (its := fitI b9 flt0 :: .row m0.g m0.c l.length 31 5 m0.cells :: (m0.rs ++ [])) hw (fun it h => by simp [h]) (j := 1) rfl)) Tf.en6 rfl rfl rfl rfl ?_
    intro b4
    refine LX.have fun hb4s => LX.gT rfl rfl rfl hb4 (Y.not rfl) rfl rfl <| LX.p (Y.pickF rfl hb4 rfl) rfl <| LX.su [1, 2, 6, 8, 37] rfl <| LX.nt ?_
    refine CX.cond rfl (fun hb5 => ?_) (fun hb5 => ?_)
    · try simp at hb5
      refine CX.sr <| LX.mv rfl <| LX.su [1, 2, 6, 8] rfl <| LX.nt <| CX.ret <| PX.thenR <| PX.ret1 (by simp) Try.results3 rfl ?_
      exact fun w hw => ⟨(), rfl, hw.drop (List.nil_sublist _)⟩
    try simp at hb5
    refine CX.fixB fun w0 base hw0 hbase => ?_
    have hw9 : WA w00 base0 (fitI b9 flt0 :: .row m0.g m0.c l.length 31 5 m0.cells :: (m0.rs ++ [])) w0 := hw0
    have htr := hb4s as_
    have hl : SlAt 5 ndA (Lies w0 base) (m0.g.map fun b => ⟨b, 0, none⟩) l := by rw [hbase]; exact (hnd.toF w00 base0).lies hw9 (fun it h => by simp [h]) (j := 1) rfl
    refine CX.skip <| PX.thenN <| CX.sr <| LX.mv rfl <| LX.su [1, 2, 6, 8, 10] rfl <| LX.nt <| CX.seq <| CX.sr <| LX.mv rfl <| LX.su [1, 2, 6, 8, 10, 11] rfl <| LX.nt <| CX.block <| CX.loop (fun s : Nat × (Option Nat × Nat) × List Value × List It × List Nd => [(1, .int .i64 at_), (2, .int .i64 by_), (8, rv m0.g l.length m0.c), (10, rv s.2.1.1 s.1 s.2.1.2), (11, .int .i64 (s.1 : Int))]) (fun (s : Nat × (Option Nat × Nat) × List Value × List It × List Nd) w => (s.1 ≤ l.length ∧ Alk (l.take s.1) s.2.2.2.2 ∧ NdsF w0 base s.2.2.2.1 s.2.2.1 s.2.2.2.2) ∧ WA w0 base (.row s.2.1.1 s.2.1.2 s.1 31 5 s.2.2.1 :: s.2.2.2.1) w) (fun s => l.length - s.1) (0, (none, 0), [], [], []) ⟨rfl, rfl, rfl, rfl, rfl, trivial⟩ (fun w hw => ⟨⟨Nat.zero_le _, Alk.nil, rfl, fun i x hx => (by cases hx)⟩, hw.nilRow 31 5⟩) ?_
    rintro ⟨j, ⟨g, c⟩, cells, rs, ml⟩
    refine CX.have fun ⟨hj0, hA, hnf⟩ => ?_
    try dsimp only at hj0 hA hnf ⊢
    refine CX.seq <| CX.sr <| LX.ms 2 rfl <| LX.p (Y.lenSl rfl Td.un23 rfl) rfl <| LX.p (Y.ltN rfl rfl) rfl <| LX.su [1, 2, 8, 10, 11, 41] rfl <| LX.nt ?_
    refine CX.cond rfl (fun hb6 => ?_) (fun hb6 => ?_)
    · try simp at hb6
      have hj : j < l.length := by omega
      obtain ⟨x, hx⟩ : ∃ x, l[j]? = some x := ⟨_, List.getElem?_eq_getElem hj⟩
      obtain ⟨a, cs, hav, hcl, hL, vk, rfl, hks, hin⟩ := hl j x hx
      have hkx : x.kids.length ≤ 1048576 := by have := (htr.2 j x hx).1; omega
      have hki : ∀ z ∈ x.kids, inI z := by
        obtain ⟨_, _, _, _, hka⟩ := hks.sl
        exact Go.Ck.kids_in hka
      refine CX.skip <| PX.thenN <| CX.seq <| CX.block <| CX.sr <| LX.ms 2 rfl <| LX.p (Y.idxZ Td.un23 Td.sz31 rfl rfl hav (j := j) rfl hj) rfl <| LX.p (Y.ldAO (cs := [.int .i64 x.op, .int .i64 x.n, .int .i64 x.pos, str x.s, vk]) Td.ag31 rfl hL rfl) rfl <| LX.call (cNode_c (x := x) ⟨vk, rfl, hks, hin⟩ hkx) Tf.en7 rfl rfl rfl rfl rfl ?_
      intro sk
      refine LX.alloc rfl Td.zv31 rfl rfl rfl ?_
      intro bn
      refine LX.storeA 0 Td.ag31 rfl rfl rfl rfl rfl rfl rfl rfl rfl <| LX.su [1, 2, 8, 10, 11, 12] rfl <| LX.nt <| CX.sr <| LX.p (Y.fieldAddr0 Te.fo31_2 rfl) rfl <| LX.p (Y.ldB 0 Td.one3 rfl rfl rfl) rfl <| LX.mv rfl <| LX.p (Y.rem rfl rfl dc) rfl <| LX.p (show Y _ _ _ _ _ (.int .i64 (IntKind.i64.wrap (x.pos + by_.tmod 1000))) from Y.arith (.inl rfl) rfl rfl) rfl <| LX.p (Y.fieldAddr0 Te.fo31_2 rfl) rfl <| LX.storeB 0 Td.sz3 rfl rfl rfl rfl rfl rfl rfl rfl <| LX.su [1, 2, 8, 10, 11, 12] rfl <| LX.nt <| CX.region <| LX.mv rfl <| LX.p (Y.ldAggB 0 Td.ag31 rfl rfl rfl rfl) rfl <| LX.buildSlice (e := 31) (size := 5) rfl rfl (fun _ => by kernel_rfl) rfl dc rfl rfl rfl ?_
      intro gt57
      refine LX.appendRows 3 0 Tf.el23 rfl rfl rfl rfl rfl rfl rfl (by omega) (by omega) rfl rfl rfl ?_
      intro g2 c2
      refine LX.mv rfl <| LX.su [1, 2, 8, 10, 11] rfl <| LX.next <| PX.blockN <| PX.thenN <| CX.region <| LX.mv rfl <| LX.p (Y.addN rfl rfl (by (simp only []; omega))) rfl <| LX.mv rfl <| LX.su [1, 2, 8, 10, 11] rfl <| LX.next ?_
      exact PX.again (i := (j, (g, c), cells, rs, ml)) (j + 1, (g2, c2), cells ++ [.int .i64 x.op, .int .i64 x.n, .int .i64 (IntKind.i64.wrap (x.pos + by_.tmod 1000)), str x.s, rv sk.1 x.kids.length sk.2], .row sk.1 sk.2 x.kids.length 3 1 (x.kids.map iv) :: rs, ml ++ [(⟨x.op, x.n, IntKind.i64.wrap (x.pos + by_.tmod 1000), x.s, x.kids⟩ : Nd)]) (by show l.length - (j + 1) < l.length - j; omega) ⟨rfl, rfl, rfl, rfl, rfl, trivial⟩ (fun w hw => ⟨⟨by show j + 1 ≤ l.length; omega, hA.next hx ⟨rfl, rfl, rfl, rfl⟩, hnf.next rfl ⟨_, rfl, Go.Ck.kids_A (i := 2) hw rfl hki (List.mem_cons_self ..) (by omega), hin.1, hin.2.1, wrapI _⟩⟩, (hw.drop (.cons _ (.cons _ (List.Sublist.refl _))) : WA w0 base (_ :: _ :: rs) w).perm (.swap _ _ _)⟩)
    try simp at hb6
    obtain rfl : j = l.length := by omega
    rw [List.take_length] at hA
    have hU := hT.of_kids hA.kids
    refine CX.exit <| PX.thenE <| PX.thenE <| PX.blockE <| PX.thenN <| CX.seq <| CX.sr <| LX.ms 2 rfl <| LX.call (same_n m0.c c l.length l.length rfl hA.len.symm hT hU hA.len (kids_of hA.kids) hln (fun w hw => hl.push hw) (fun w hw => NdsF.lies (l := ml) hnf (show WA w0 base (.row g c ml.length 31 5 cells :: rs) w by rw [hA.len]; exact hw) (fun it h => List.mem_cons_of_mem _ h) (j := 0) rfl)) Tf.en8 rfl rfl rfl rfl rfl ?_
    intro b5
    refine LX.have fun hb5s => ?_
    obtain rfl : b5 = true := hb5s.2 hA.same
    refine LX.p (Y.not rfl) rfl <| LX.mv rfl ?_
    refine LX.caseB (s := 63) rfl (fun hb7 => ?_) (fun hb7 => ?_)
    ·
      (exfalso; simp_all; done)
    refine LX.gT rfl rfl rfl hb7 (Y.move rfl) rfl rfl <| LX.gT rfl rfl rfl hb7 (Y.move rfl) rfl rfl <| LX.callT rfl rfl rfl hb7 (same_n c m0.c l.length l.length hA.len.symm rfl hU hT hA.len.symm (fun q x y hx hy => (kids_of hA.kids q y x hy hx).symm) (by rw [hA.len]; exact hln) (fun w hw => NdsF.lies (l := ml) hnf (show WA w0 base (.row g c ml.length 31 5 cells :: rs) w by rw [hA.len]; exact hw) (fun it h => List.mem_cons_of_mem _ h) (j := 0) rfl) (fun w hw => hl.push hw)) Tf.en8 rfl rfl rfl rfl ?_
    intro b6
    refine LX.have fun hb6s => ?_
    obtain rfl : b6 = true := hb6s.2 hA.back
    refine LX.gT rfl rfl rfl hb7 (Y.not rfl) rfl rfl <| LX.p (Y.pickF rfl hb7 rfl) rfl <| LX.su [1, 8, 10, 68] rfl <| LX.nt ?_
    refine CX.cond rfl (fun hb8 => ?_) (fun hb8 => ?_)
    · try simp at hb8
      done
    try simp at hb8
    refine CX.skip <| PX.thenN <| CX.sr <| LX.ms 2 rfl <| LX.p (Y.lenSl rfl Td.un23 rfl) rfl <| LX.call (number6_c at_ hT.pos hln) Tf.en9 rfl rfl rfl rfl rfl ?_
    intro _
    refine LX.mv rfl <| LX.su [8, 10, 13] rfl <| LX.nt <| CX.seq <| CX.sr ?_
    have hk := (nmb_at at_ hT.pos).2.1
    generalize nmb at_ l.length = k at hk ⊢
    obtain ⟨y, hy⟩ : ∃ y, ml[k]? = some y := ⟨_, List.getElem?_eq_getElem (by rw [hA.len]; exact hk)⟩
    obtain ⟨x, hx⟩ : ∃ x, l[k]? = some x := ⟨_, List.getElem?_eq_getElem hk⟩
    have hy5 := hnf.at5 hy
    have hys : y.s.length ≤ 300 := by rw [(hA.at_ k x y hx hy).2.2.1]; exact (htr.2 k x hx).2
    refine LX.ms 2 rfl <| LX.p (Y.idxR 0 (i := k) Td.un23 Td.sz31 rfl rfl rfl hk) rfl <| LX.p (Y.fieldAddr Te.fo31_0 rfl) rfl <| LX.p (Y.ldR 0 (v := .int .i64 y.op) Td.one3 rfl rfl hy5.1) rfl <| LX.p (Y.neI rfl rfl) rfl <| LX.mv rfl <| LX.su [8, 10, 13, 79] rfl ?_
    apply LX.joinAnd 7 86 79 rfl
    · intro hb9
      refine LX.gT rfl rfl rfl hb9 (Y.move rfl) rfl rfl <| LX.gT rfl rfl rfl hb9 (Y.move rfl) rfl rfl <| LX.gT rfl rfl rfl hb9 (Y.idxR 0 (i := k) Td.un23 Td.sz31 rfl rfl rfl hk) rfl rfl <| LX.gT rfl rfl rfl hb9 (Y.fieldAddr Te.fo31_0 rfl) rfl rfl <| LX.gT rfl rfl rfl hb9 (Y.ldR 0 (v := .int .i64 y.op) Td.one3 rfl rfl hy5.1) rfl rfl <| LX.gT rfl rfl rfl hb9 (Y.neI rfl rfl) rfl rfl <| LX.p (Y.pickT rfl hb9 rfl) rfl ?_
      exact LX.left ⟨rfl, rfl, rfl, rfl, rfl, trivial⟩
    · intro hb9
      refine LX.gF rfl rfl rfl hb9 rfl rfl <| LX.gF rfl rfl rfl hb9 rfl rfl <| LX.gF rfl rfl rfl hb9 rfl rfl <| LX.gF rfl rfl rfl hb9 rfl rfl <| LX.gF rfl rfl rfl hb9 rfl rfl <| LX.gF rfl rfl rfl hb9 rfl rfl <| LX.p (Y.pickF rfl hb9 rfl) rfl ?_
      exact LX.left ⟨rfl, rfl, rfl, rfl, rfl, trivial⟩
    refine LX.mv rfl <| LX.su [8, 10, 13, 87] rfl ?_
    apply LX.joinAnd 7 94 87 rfl
    · intro hb10
      refine LX.gT rfl rfl rfl hb10 (Y.move rfl) rfl rfl <| LX.gT rfl rfl rfl hb10 (Y.move rfl) rfl rfl <| LX.gT rfl rfl rfl hb10 (Y.idxR 0 (i := k) Td.un23 Td.sz31 rfl rfl rfl hk) rfl rfl <| LX.gT rfl rfl rfl hb10 (Y.fieldAddr Te.fo31_0 rfl) rfl rfl <| LX.gT rfl rfl rfl hb10 (Y.ldR 0 (v := .int .i64 y.op) Td.one3 rfl rfl hy5.1) rfl rfl <| LX.gT rfl rfl rfl hb10 (Y.neI rfl rfl) rfl rfl <| LX.p (Y.pickT rfl hb10 rfl) rfl ?_
      exact LX.left ⟨rfl, rfl, rfl, rfl, rfl, trivial⟩
    · intro hb10
      refine LX.gF rfl rfl rfl hb10 rfl rfl <| LX.gF rfl rfl rfl hb10 rfl rfl <| LX.gF rfl rfl rfl hb10 rfl rfl <| LX.gF rfl rfl rfl hb10 rfl rfl <| LX.gF rfl rfl rfl hb10 rfl rfl <| LX.gF rfl rfl rfl hb10 rfl rfl <| LX.p (Y.pickF rfl hb10 rfl) rfl ?_
      exact LX.left ⟨rfl, rfl, rfl, rfl, rfl, trivial⟩
    refine LX.su [8, 10, 13, 94] rfl <| LX.nt ?_
    refine CX.cond rfl (fun hb11 => ?_) (fun hb11 => ?_)
    · try simp at hb11
      refine CX.sr <| LX.mv rfl <| LX.su [6, 8, 10, 13] rfl <| LX.nt <| CX.ret <| PX.thenR <| PX.ret1 (by simp) Try.results3 rfl ?_
      exact fun w hw => ⟨(), rfl, (by subst hbase; exact (WA.join hw9 (show WA w0 w0.heap.size _ w from hw)).drop (List.nil_sublist _))⟩
    try simp at hb11
    refine CX.skip <| PX.thenN <| CX.sr <| LX.ms 4 rfl <| LX.p (Y.idxR 0 (i := k) Td.un23 Td.sz31 rfl rfl rfl hk) rfl <| LX.p (Y.fieldAddr Te.fo31_3 rfl) rfl <| LX.p (Y.ldR 0 (v := str y.s) Te.one9 rfl rfl hy5.2.1) rfl <| LX.p (Y.addS (a := y.s) (b := [120]) rfl rfl (by simp only [List.length_append, List.length_cons, List.length_nil]; omega)) rfl <| LX.p (Y.idxR 0 (i := k) Td.un23 Td.sz31 rfl rfl rfl hk) rfl <| LX.p (Y.fieldAddr Te.fo31_3 rfl) rfl <| LX.storeR 0 Tf.sz9 rfl rfl rfl rfl rfl (by have := hy5.2.2; omega) rfl rfl <| LX.su [8, 10] rfl <| LX.nt <| CX.sr <| LX.ms 2 rfl <| LX.call (same_n m0.c c l.length l.length rfl (by rw [List.length_set]; exact hA.len.symm) hT (hU.of_kids (turn_kids hy)) (by rw [List.length_set]; exact hA.len) (kids_of ((turn_kids hy).trans hA.kids)) hln (fun w hw => hl.push hw) (fun w hw => NdsF.lies (l := ml.set k (Nd.more y)) (hnf.setS hy) (show WA w0 base (.row g c (ml.set k (Nd.more y)).length 31 5 _ :: rs) w by rw [List.length_set, hA.len]; exact hw) (fun it h => List.mem_cons_of_mem _ h) (j := 0) rfl)) Tf.en8 rfl rfl rfl rfl rfl ?_
    intro b7
    refine LX.have fun hb7s => ?_
    obtain rfl : b7 = false := by
      cases b7 with
      | false => rfl
      | true => exact absurd (hb7s.1 rfl) (turn_not hA hy)
    refine LX.p (Y.not rfl) rfl <| LX.mv rfl <| LX.su [6] rfl <| LX.nt <| CX.ret <| PX.ret1 (by simp) Try.results3 rfl ?_
    exact fun w hw => ⟨(), rfl, (by subst hbase; exact (WA.join hw9 (show WA w0 w0.heap.size _ w from hw)).drop (List.nil_sublist _))⟩
  refine LX.world (W' := fun w => fc ≠ 0 ∧ WA w00 base0 [] w) (fun w hw => hw) <| LX.have fun hfc => LX.mv rfl <| LX.p (Y.extract rfl rfl) rfl <| LX.p (Y.extract rfl rfl) rfl <| LX.alloc rfl Tf.zv25 rfl rfl rfl ?_
  intro b9
  refine LX.mv rfl <| LX.storeA 0 Tf.ag25 rfl rfl rfl rfl rfl rfl rfl rfl rfl <| LX.su [1, 2, 6, 8, 9] rfl <| LX.nt <| CX.seq <| CX.sr <| LX.p (Y.fieldAddr0 Tf.fo25_0 rfl) rfl <| LX.p (Y.ldB 0 Td.one3 rfl rfl rfl) rfl <| LX.p (Y.neI rfl rfl) rfl <| LX.mv rfl ?_
  refine LX.caseB (s := 33) rfl (fun hb12 => ?_) (fun hb12 => ?_)
  ·
    refine LX.gF rfl rfl rfl hb12 rfl rfl <| LX.gF rfl rfl rfl hb12 rfl rfl <| LX.gF rfl rfl rfl hb12 rfl rfl <| LX.p (Y.pickT rfl hb12 rfl) rfl <| LX.su [1, 2, 6, 8, 37] rfl <| LX.nt ?_
    refine CX.cond rfl (fun hb13 => ?_) (fun hb13 => ?_)
    · try simp at hb13
      refine CX.sr <| LX.mv rfl <| LX.su [1, 2, 6, 8] rfl <| LX.nt <| CX.ret <| PX.thenR <| PX.ret1 (by simp) Try.results3 rfl ?_
      exact fun w hw => ⟨(), rfl, hw.drop (List.nil_sublist _)⟩
    try simp at hb13
    done
  (exfalso; simp_all; done)
end Go.Proofs.Yteibddakpedogaa
