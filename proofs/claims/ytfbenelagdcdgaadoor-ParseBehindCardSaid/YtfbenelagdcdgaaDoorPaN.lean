/-
  Proved here: expressions in square brackets.
-/
import Derived.Test.YtfbenelagdcdgaaDoorPaF
set_option linter.unusedSimpArgs false
namespace Go.Proofs.YtfbenelagdcdgaaDoor
open Go.SX Go.RowKit Go.Tr Go.Lex
namespace Pn
theorem en85 : Enters Tryd.prog 85 := Enters.of Tryd.func85 (by kernel_rfl) (by kernel_rfl)
end Pn
open Go.RowKit
section
variable {P : Program} {l : Fr} {t ty : TypeId} {x y : Operand} {w0 : World} {base : Nat} {its : List It} {v : Value}
theorem Y.idxR1M {cap k e i : Nat} {g : Option Nat} {xs : List Value} {kk : IntKind} (ht : P.underlying t = some (.slice e)) (hs : SizeIs P e 1) (hx : evl l x = some (rv g k cap)) (hy : evl l y = some (.int kk (i : Int)))
    (hm : It.row g cap k e 1 xs ∈ its) (hi : i < k) : Y P l (WA w0 base its) (.indexAddr t x y) ty (.pointer (some ⟨g.getD 0, i, none⟩)) := by
  obtain ⟨j, hj⟩ := List.mem_iff_getElem?.1 hm
  have := Y.idxR j (w0 := w0) (base := base) (ty := ty) ht hs hx hy hj hi
  rwa [Nat.mul_one] at this
theorem Y.ldRM {off cap k e size : Nat} {g : Option Nat} {xs : List Value} (ht : One P t) (hx : evl l x = some (.pointer (some ⟨g.getD 0, off, none⟩))) (hm : It.row g cap k e size xs ∈ its) (hc : xs[off]? = some v) : Y P l (WA w0 base its) (.load t x) ty v := by
  obtain ⟨j, hj⟩ := List.mem_iff_getElem?.1 hm
  exact Y.ldR j ht hx hj hc
end
open Go.Proofs.YtfbenelagdcdgaaDoor.Env (EnvS errV sentG)
open Go.Pa (Tk Rs bnd ret isB is_ adv bad take must kinds inn outn node nodeAt setPos)
open Go.Ck (NdsR)
theorem square_p {w0 : World} {base : Nat} {aE : Nat → Addr} (hS : EnvS w0 base aE) {bp : Nat} {al : Option Addr} {cl : Nat} {L : List Tk} (hL : SlAt 3 tokA (Lies w0 base) al L) (hln : L.length ≤ 1099511627776) (n : Nat) (hTest : ∀ j, j ≤ n → FI w0 base aE al cl L bp 37 (.test) j) (hComp : ∀ pos k, inI pos → gI k → ∀ j, j ≤ n → FS w0 base aE al cl L bp 85 #[.pointer (some ⟨bp, 0, none⟩), .int .i64 pos, .int .i64 k] (fun z : Int => .int .i64 z) gI (.comp pos k) j) : FI w0 base aE al cl L bp 82 (.square) (n + 1) := by
  intro s m fr r hr hnd
  change (bnd (must L [91]) fun pos => bnd (inn pos) fun _ => Go.Pa.run L nameB n (.sqGo pos [])) s = some r at hr
  refine FnP.of_body (fn := Tryd.f82) [(0, _)] Tryd.func82 rfl Tryd.ntmps82 rfl ⟨rfl, trivial⟩ ?_
  refine CX.seq <| CX.region <| LX.pure (Y.assign rfl) rfl rfl rfl <| LX.sub (l' := [(0, _), (2, _)]) ⟨rfl, rfl, trivial⟩ <| LX.next <| PX.thenN <| CX.seq <| CX.region <| LX.pure (Y.move rfl) rfl rfl rfl ?_
  obtain ⟨r0, e0, hok0, hst0⟩ := Go.Pa.bnd_some hr
  refine LX.callP (must_p hS hL hln [91] e0) Pf.en41 rfl rfl rfl rfl rfl (fun y => fun _ w ha hw => ⟨ha.defs, .inr ⟨y, rfl, hst0 _ _ hw.1, hw.2.drop (.cons_cons _ (.cons _ (List.sublist_append_right _ _)))⟩⟩) ?_
  rintro ⟨pos, s0⟩
  refine LX.have fun ⟨hr0, hou0, hp0⟩ => ?_
  replace hou0 : s0.out = s.out := hou0
  have hnd0 : NdsR 3 m.rs m.cells s0.out := by rw [hou0]; exact hnd
  replace hr := hok0 _ _ hr0
  refine LX.world (W' := WA w0 base (PWl bp al L cl s0 m fr)) (fun w hw => by show WA w0 base (PBl bp al L cl s0 m :: .row m.g m.c s0.out.length 31 5 m.cells :: (m.rs ++ fr)) w; rw [hou0]; exact hw) ?_
  try dsimp only
  refine LX.pure (Y.assign rfl) rfl rfl rfl <| LX.sub (l' := [(0, _), (2, _), (3, _)]) ⟨rfl, rfl, rfl, trivial⟩ <| LX.next <| PX.thenN <| CX.seq <| CX.region <| LX.pure (Y.move rfl) rfl rfl rfl <| LX.pure (Y.move rfl) rfl rfl rfl ?_
  obtain ⟨ra, ea, hoka, hsta⟩ := Go.Pa.bnd_some hr
  refine LX.callP (in_p hS hL hln pos ea) Pf.en39 rfl rfl rfl rfl rfl (fun y => fun _ w ha hw => ⟨ha.defs, .inr ⟨y, rfl, hsta _ _ hw.1, hw.2.drop (.cons_cons _ (.cons _ (List.sublist_append_right _ _)))⟩⟩) ?_
  rintro ⟨_, sa⟩
  refine LX.have fun ⟨hra, houa, _⟩ => ?_
  replace houa : sa.out = s0.out := houa
  have hnda : NdsR 3 m.rs m.cells sa.out := by rw [houa]; exact hnd0
  replace hr := hoka _ _ hra
  refine LX.world (W' := WA w0 base (PWl bp al L cl sa m fr)) (fun w hw => by show WA w0 base (PBl bp al L cl sa m :: .row m.g m.c sa.out.length 31 5 m.cells :: (m.rs ++ fr)) w; rw [houa]; exact hw) ?_
  try dsimp only
  refine LX.sub (l' := [(0, _), (2, _), (3, _)]) ⟨rfl, rfl, rfl, trivial⟩ <| LX.next <| PX.thenN <| CX.seq <| CX.region <| LX.pure (Y.assign rfl) rfl rfl rfl <| LX.sub (l' := [(0, _), (2, _), (3, _), (4, _)]) ⟨rfl, rfl, rfl, rfl, trivial⟩ <| LX.next <| PX.thenN ?_
  refine CX.seqM (fun z : List Int × (Option Nat × Nat) × Go.Pa.St × Mm => [(0, .pointer (some ⟨bp, 0, none⟩)), (3, .int .i64 pos), (4, rv z.2.1.1 z.1.length z.2.1.2)]) (fun (z : List Int × (Option Nat × Nat) × Go.Pa.St × Mm) w => ((bnd (must L [93]) fun _ => bnd outn fun _ => node 7 pos [] z.1) z.2.2.1 = some r ∧ NdsR 3 z.2.2.2.rs z.2.2.2.cells z.2.2.1.out ∧ (∀ x ∈ z.1, gI x) ∧ z.1.length ≤ 1000002) ∧ WA w0 base (PWl bp al L cl z.2.2.1 z.2.2.2 (.row z.2.1.1 z.2.1.2 z.1.length 3 1 (z.1.map iv) :: fr)) w) ?_ ?_
  ·
    refine CX.block ?_
    refine CX.loop (fun z : List Int × (Option Nat × Nat) × Go.Pa.St × Mm × Nat => [(0, .pointer (some ⟨bp, 0, none⟩)), (3, .int .i64 pos), (4, rv z.2.1.1 z.1.length z.2.1.2)]) (fun (z : List Int × (Option Nat × Nat) × Go.Pa.St × Mm × Nat) w => ((Go.Pa.run L nameB z.2.2.2.2 (.sqGo pos z.1) z.2.2.1 = some r ∧ z.2.2.2.2 ≤ n) ∧ NdsR 3 z.2.2.2.1.rs z.2.2.2.1.cells z.2.2.1.out ∧ (∀ x ∈ z.1, gI x) ∧ z.1.length ≤ 1000002) ∧ WA w0 base (PWl bp al L cl z.2.2.1 z.2.2.2.1 (.row z.2.1.1 z.2.1.2 z.1.length 3 1 (z.1.map iv) :: fr)) w) (fun z => z.2.2.2.2) ([], (none, 0), sa, m, n) ⟨rfl, rfl, rfl, trivial⟩ (fun w hw => ⟨⟨⟨hr, Nat.le_refl _⟩, hnda, (fun z hz => by cases hz), by simp⟩, by
      have h1 := (show WA w0 base (PWl bp al L cl sa m fr) w from hw).nilRow 3 1
      exact (show WA w0 base (.row none 0 ([] : List Int).length 3 1 (([] : List Int).map iv) :: PWl bp al L cl sa m fr) w from h1).perm (show List.Perm (PWl bp al L cl sa m (.row none 0 ([] : List Int).length 3 1 (([] : List Int).map iv) :: fr)) (.row none 0 ([] : List Int).length 3 1 (([] : List Int).map iv) :: PWl bp al L cl sa m fr) by (refine perm_cnt fun x => ?_; simp only [PWl, PBl, ROl, z1, z2, z3, z4, z5, z6]; omega))⟩) ?_
    clear hr
    rintro ⟨l, ⟨g, c⟩, s1, m1, j⟩
    refine CX.have fun ⟨⟨hr, hjn⟩, hnd1, hg, hlm⟩ => ?_
    replace hlm : l.length ≤ 1000002 := hlm
    replace hr : Go.Pa.run L nameB j (.sqGo pos l) s1 = some r := hr
    replace hjn : j ≤ n := hjn
    replace hnd1 : NdsR 3 m1.rs m1.cells s1.out := hnd1
    replace hg : ∀ x ∈ l, gI x := hg
    try dsimp only
    obtain ⟨j, rfl⟩ : ∃ i, j = i + 1 := by
      cases j with
      | zero => cases hr
      | succ i => exact ⟨i, rfl⟩
    change (bnd (is_ L [[93]]) fun b => if b then bnd (must L [93]) fun _ => bnd outn fun _ => node 7 pos [] l else bnd (Go.Pa.run L nameB j .test) fun k => bnd (Go.Pa.tok L) fun t => if decide (l = []) && isB t [[102, 111, 114]] then Go.Pa.run L nameB j (.comp pos k) else bnd (take L [44]) fun b => Go.Pa.grow l (if b then Go.Pa.run L nameB j (.sqGo pos (l ++ [k])) else bnd (must L [93]) fun _ => bnd outn fun _ => node 7 pos [] (l ++ [k]))) s1 = some r at hr
    obtain ⟨t, ht, hr⟩ := Go.Pa.is_bnd hr
    refine CX.seq <| CX.seq <| CX.region <| LX.pure (Y.move rfl) rfl rfl rfl <| LX.buildSlice (e := 9) (size := 1) rfl rfl (fun _ => by kernel_rfl) rfl (by decide) rfl rfl rfl ?_
    intro gS
    refine LX.callQ (is_q ht _ (ss := [[93]]) (by decide) (fun w hw => blkL hw (i := 1) rfl) (fun w hw => hL.push hw) (fun w hw => row_at hw (j := 0) rfl rfl (by decide) (fun i z h => map_A (f := str) (xs := [[93]]) h))) Pd.en20 rfl rfl rfl rfl rfl <| LX.world (W' := WA w0 base (PWl bp al L cl s1 m1 (.row g c l.length 3 1 (l.map iv) :: fr))) (fun w hw => hw.drop (List.sublist_cons_self _ _)) <| LX.pure (Y.not rfl) rfl rfl rfl <| LX.sub (l' := [(0, _), (3, _), (4, _), (13, _)]) ⟨rfl, rfl, rfl, rfl, trivial⟩ <| LX.next <| PX.thenN ?_
    refine CX.cond rfl (fun hb1 => ?_) (fun hb1 => ?_)
    · try simp at hb1
      rw [show isB t [[93]] = false from hb1, if_neg Bool.false_ne_true] at hr
      refine CX.skip <| PX.thenN <| CX.block <| CX.seq <| CX.region <| LX.pure (Y.move rfl) rfl rfl rfl <| LX.pure (Y.move rfl) rfl rfl rfl ?_
      obtain ⟨r2, e2, hok2, hst2⟩ := Go.Pa.bnd_some hr
      refine LX.callP (hTest j (by omega) s1 m1 ((.row g c l.length 3 1 (l.map iv) :: fr)) r2 e2 hnd1) Pg.en37 rfl rfl rfl rfl rfl (fun y => fun _ w ha hw => ⟨ha.defs, .inr ⟨y, rfl, hst2 _ _ hw.1, hw.2.drop (.cons_cons _ (List.sublist_cons_self _ _))⟩⟩) ?_
      rintro ⟨k2, s2, m2⟩
      refine LX.have fun ⟨hr2, hnd2, hk2⟩ => ?_
      replace hr := hok2 _ _ hr2
      try dsimp only
      refine LX.buildSlice (e := 3) (size := 1) rfl rfl (fun _ => by kernel_rfl) rfl (by decide) rfl rfl rfl ?_
      intro gT
      refine LX.world (W' := WA w0 base (.row (some gT) 1 1 3 1 [.int .i64 k2] :: .row g c l.length 3 1 (l.map iv) :: PWl bp al L cl s2 m2 fr)) (fun w hw => (show WA w0 base (.row (some gT) 1 1 3 1 [.int .i64 k2] :: PWl bp al L cl s2 m2 (.row g c l.length 3 1 (l.map iv) :: fr)) w from hw).perm (by (refine perm_cnt fun x => ?_; simp only [PWl, PBl, ROl, z1, z2, z3, z4, z5, z6]; omega))) ?_
      refine LX.appendT 0 Pk.el29 rfl rfl rfl rfl rfl rfl rfl (by omega) (by omega) rfl rfl rfl ?_
      intro g' cap'
      rw [show l.length + 1 = (l ++ [k2]).length by simp]
      refine LX.world (W' := WA w0 base (PWl bp al L cl s2 m2 (.row g' cap' (l ++ [k2]).length 3 1 ((l ++ [k2]).map iv) :: fr))) (fun w hw => ?_) ?_
      · have h1 : WA w0 base (.row g' cap' (l ++ [k2]).length 3 1 ((l ++ [k2]).map iv) :: PWl bp al L cl s2 m2 fr) w := by rw [← iv_snoc]; exact hw
        exact h1.perm (by (refine perm_cnt fun x => ?_; simp only [PWl, PBl, ROl, z1, z2, z3, z4, z5, z6]; omega))
      obtain ⟨t3, ht3, hr⟩ := Go.Pa.tok_bnd hr
      refine LX.pure (Y.assign rfl) rfl rfl rfl <| LX.sub (l' := [(0, _), (3, _), (4, _)]) ⟨rfl, rfl, rfl, trivial⟩ <| LX.next <| PX.thenN <| CX.seq <| CX.seq <| CX.region <| LX.pure (Y.move rfl) rfl rfl rfl <| LX.pure (Y.lenSl rfl Pb.un29 rfl) rfl rfl rfl <| LX.pure (Y.eqN rfl rfl) rfl rfl rfl <| LX.pure (Y.move rfl) rfl rfl rfl <| LX.sub (l' := [(0, _), (3, _), (4, _), (22, _)]) ⟨rfl, rfl, rfl, rfl, trivial⟩ ?_
      apply LX.joinAnd 4 26 22 rfl
      · intro hb2
        have hb2p := hb2
        try simp at hb2p
        refine LX.unguard rfl rfl rfl hb2 <| LX.pure (Y.move rfl) rfl rfl rfl <| LX.unguard rfl rfl rfl hb2 <| LX.buildSlice (e := 9) (size := 1) rfl rfl (fun _ => by kernel_rfl) rfl (by decide) rfl rfl rfl ?_
        intro gS
        refine LX.unguard rfl rfl rfl hb2 <| LX.callQ (is_q ht3 _ (ss := [[102, 111, 114]]) (by decide) (fun w hw => blkL hw (i := 1) rfl) (fun w hw => hL.push hw) (fun w hw => row_at hw (j := 0) rfl rfl (by decide) (fun i z h => map_A (f := str) (xs := [[102, 111, 114]]) h))) Pd.en20 rfl rfl rfl rfl rfl <| LX.world (W' := WA w0 base (PWl bp al L cl s2 m2 (.row g' cap' (l ++ [k2]).length 3 1 ((l ++ [k2]).map iv) :: fr))) (fun w hw => hw.drop (List.sublist_cons_self _ _)) <| LX.pure (Y.pickT rfl hb2 rfl) rfl rfl rfl ?_
        exact LX.leftP ⟨rfl, rfl, rfl, rfl, rfl, trivial⟩
      · intro hb2
        have hb2p := hb2
        try simp at hb2p
        refine LX.gF rfl rfl rfl hb2 rfl rfl <| LX.gF rfl rfl rfl hb2 rfl rfl <| LX.gF rfl rfl rfl hb2 rfl rfl <| LX.pure (Y.pickF rfl hb2 rfl) rfl rfl rfl ?_
        exact LX.left ⟨rfl, rfl, rfl, rfl, rfl, trivial⟩
      refine LX.sub (l' := [(0, _), (3, _), (4, _), (26, _)]) ⟨rfl, rfl, rfl, rfl, trivial⟩ <| LX.next <| PX.thenN ?_
      refine CX.cond rfl (fun hb3 => ?_) (fun hb3 => ?_)
      · try simp at hb3
        rw [if_pos (by simpa using hb3)] at hr
        refine CX.seq <| CX.region <| LX.pure (Y.move rfl) rfl rfl rfl <| LX.pure (Y.move rfl) rfl rfl rfl <| LX.pure (Y.move rfl) rfl rfl rfl <| LX.pure (Y.idxR1M (i := 0) Pb.un29 Pb.sz3 rfl rfl (List.mem_cons_of_mem _ (List.mem_cons_of_mem _ (List.mem_append_right _ (List.mem_cons_self ..)))) (by simp)) rfl rfl rfl <| LX.pure (Y.ldRM (v := .int .i64 k2) Pa.one3 rfl (List.mem_cons_of_mem _ (List.mem_cons_of_mem _ (List.mem_append_right _ (List.mem_cons_self ..)))) (by rw [hb3.1]; rfl)) rfl rfl rfl <| LX.callP ((hComp pos k2 hp0 hk2) j (by omega) s2 m2 (.row g' cap' (l ++ [k2]).length 3 1 ((l ++ [k2]).map iv) :: fr) r hr hnd2) Pn.en85 rfl rfl rfl rfl rfl (fun y => fun _ w ha hw => ⟨ha.defs, .inr ⟨y, rfl, hw.1, hw.2.drop (.cons_cons _ (List.sublist_cons_self _ _))⟩⟩) ?_
        rintro ⟨kE, sE, mE⟩
        refine LX.have fun ⟨hrE, hndE, hkE⟩ => ?_
        try dsimp only
        refine LX.pure (Y.assign rfl) rfl rfl rfl <| LX.sub (l' := [(0, _), (2, _), (3, _), (4, _)]) ⟨rfl, rfl, rfl, rfl, trivial⟩ <| LX.next <| PX.thenN <| CX.ret <| PX.thenR <| PX.blockR <| PX.thenR <| PX.blockR <| PX.thenR <| PX.ret1 (by simp) Tryd.results82 rfl ?_
        exact fun w hw => .inl ⟨(kE, sE, mE), rfl, ⟨hrE, hndE, hkE⟩, hw.drop (.cons_cons _ (.cons_cons _ (List.Sublist.append (List.Sublist.refl _) (List.sublist_cons_self _ _))))⟩
      try simp at hb3
      refine CX.skip <| PX.thenN <| CX.seq <| CX.region <| LX.pure (Y.move rfl) rfl rfl rfl ?_
      rw [if_neg (by simpa using hb3)] at hr
      obtain ⟨t, ht, hT, hF⟩ := Go.Pa.take_bnd hr
      refine LX.call (take_c hL hln ht [44]) Pd.en40 rfl rfl rfl rfl rfl ?_
      intro _
      refine LX.pure (Y.not rfl) rfl rfl rfl <| LX.sub (l' := [(0, _), (3, _), (4, _), (35, _)]) ⟨rfl, rfl, rfl, rfl, trivial⟩ <| LX.next <| PX.thenN ?_
      refine CX.cond rfl (fun hb4 => ?_) (fun hb4 => ?_)
      · try simp at hb4
        rw [show isB t [[44]] = false from hb4]
        replace hr := hF hb4
        refine CX.world (W' := WA w0 base (PWl bp al L cl s2 m2 (.row g' cap' (l ++ [k2]).length 3 1 ((l ++ [k2]).map iv) :: fr))) (fun w hw => hw) ?_
        obtain ⟨hlg, hr⟩ := Go.Pa.grow_some hr
        rw [if_neg Bool.false_ne_true] at hr
        refine CX.exit <| PX.blockO rfl <| PX.thenE <| PX.blockE ?_
        exact PX.seam ((l ++ [k2]), (g', cap'), s2, m2) ⟨rfl, rfl, rfl, trivial⟩ (fun w hw => ⟨⟨hr, hnd2, gI_snoc hg hk2, by show (l ++ [k2]).length ≤ 1000002; rw [List.length_append, List.length_singleton]; omega⟩, hw⟩)
      try simp at hb4
      rw [show isB t [[44]] = true from hb4]
      replace hr := hT hb4
      refine CX.world (W' := WA w0 base (PWl bp al L cl s2.adv m2 (.row g' cap' (l ++ [k2]).length 3 1 ((l ++ [k2]).map iv) :: fr))) (fun w hw => hw) ?_
      obtain ⟨hlg, hr⟩ := Go.Pa.grow_some hr
      rw [if_pos rfl] at hr
      refine CX.skip <| PX.blockN ?_
      exact PX.again (μ := fun z => z.2.2.2.2) (i := (l, (g, c), s1, m1, j + 1)) ((l ++ [k2]), (g', cap'), s2.adv, m2, j) (by show j < j + 1; omega) ⟨rfl, rfl, rfl, trivial⟩ (fun w hw => ⟨⟨⟨hr, by show j ≤ n; omega⟩, hnd2, gI_snoc hg hk2, by show (l ++ [k2]).length ≤ 1000002; rw [List.length_append, List.length_singleton]; omega⟩, hw⟩)
    try simp at hb1
    rw [show isB t [[93]] = true from hb1, if_pos rfl] at hr
    refine CX.exit <| PX.thenE <| PX.thenE <| PX.blockE ?_
    exact PX.seam (l, (g, c), s1, m1) ⟨rfl, rfl, rfl, trivial⟩ (fun w hw => ⟨⟨hr, hnd1, hg, hlm⟩, hw⟩)
  clear hr
  rintro ⟨l, ⟨g, c⟩, s3, m3⟩
  refine CX.have fun ⟨hr, hnd3, hg, hlm⟩ => ?_
  replace hlm : l.length ≤ 1000002 := hlm
  replace hg : ∀ x ∈ l, gI x := hg
  try dsimp only at hr ⊢
  refine CX.seq <| CX.region <| LX.pure (Y.move rfl) rfl rfl rfl ?_
  obtain ⟨r9, e9, hok9, hst9⟩ := Go.Pa.bnd_some hr
  refine LX.callP (must_p hS hL hln [93] e9) Pf.en41 rfl rfl rfl rfl rfl (fun y => fun _ w ha hw => ⟨ha.defs, .inr ⟨y, rfl, hst9 _ _ hw.1, hw.2.drop (.cons_cons _ (.cons _ ((List.sublist_cons_self _ _).trans (List.sublist_append_right _ _))))⟩⟩) ?_
  rintro ⟨p9, s9⟩
  refine LX.have fun ⟨hr9, hou9, hp9⟩ => ?_
  replace hou9 : s9.out = s3.out := hou9
  have hnd9 : NdsR 3 m3.rs m3.cells s9.out := by rw [hou9]; exact hnd3
  replace hr := hok9 _ _ hr9
  refine LX.world (W' := WA w0 base (PWl bp al L cl s9 m3 (.row g c l.length 3 1 (l.map iv) :: fr))) (fun w hw => by show WA w0 base (PBl bp al L cl s9 m3 :: .row m3.g m3.c s9.out.length 31 5 m3.cells :: (m3.rs ++ (.row g c l.length 3 1 (l.map iv) :: fr))) w; rw [hou9]; exact hw) ?_
  try dsimp only
  obtain ⟨a9, o9, d9, f9, g9⟩ := s9
  obtain ⟨d, hd, hdl, hr⟩ := Go.Pa.outn_bnd hr
  obtain rfl : d9 = d + 1 := hd
  try dsimp only
  refine LX.sub (l' := [(0, _), (3, _), (4, _)]) ⟨rfl, rfl, rfl, trivial⟩ <| LX.next <| PX.thenN <| CX.seq <| CX.region <| LX.pure (Y.move rfl) rfl rfl rfl <| LX.pure (Y.nilCheck rfl) rfl rfl rfl <| LX.pure (Y.fieldAddr0 Pd.fo41_3 rfl) rfl rfl rfl <| LX.pure (Y.ldB 0 Pa.one3 rfl rfl rfl) rfl rfl rfl <| LX.pure (Y.subN rfl rfl (by (simp only []; omega)) (by (simp only []; omega))) rfl rfl rfl <| LX.pure (Y.nilCheck rfl) rfl rfl rfl <| LX.pure (Y.fieldAddr0 Pd.fo41_3 rfl) rfl rfl rfl <| LX.storeB 0 Pb.sz3 rfl rfl rfl rfl rfl rfl rfl rfl <| LX.sub (l' := [(0, _), (3, _), (4, _)]) ⟨rfl, rfl, rfl, trivial⟩ <| LX.next <| PX.thenN <| CX.seq <| CX.region <| LX.pure (Y.move rfl) rfl rfl rfl <| LX.pure (Y.move rfl) rfl rfl rfl <| LX.pure (Y.move rfl) rfl rfl rfl ?_
  obtain ⟨hlen, hre⟩ := Go.Pa.node_end hr
  refine LX.call (node_c (s := (⟨a9, o9, d, f9, g9⟩ : Go.Pa.St)) (m := m3) (7) pos [] (g.map fun b => ⟨b, 0, none⟩) l.length c l hlen) Pe.en15 rfl rfl rfl rfl rfl ?_
  intro q
  refine LX.pure (Y.assign rfl) rfl rfl rfl <| LX.sub (l' := [(2, _)]) ⟨rfl, trivial⟩ <| LX.next <| PX.thenN <| CX.ret <| PX.ret1 (by simp) Tryd.results82 rfl ?_
  exact fun w hw0 => by
    have hw := (show WA w0 base (PBl bp al L cl ((⟨a9, o9, d, f9, g9⟩ : Go.Pa.St).nod 7 pos [] l) (m3.put q 7 pos [] (rv g l.length c) (m3.rs)) :: ROl ((⟨a9, o9, d, f9, g9⟩ : Go.Pa.St).nod 7 pos [] l) (m3.put q 7 pos [] (rv g l.length c) (m3.rs)) :: (m3.rs ++ (.row g c l.length 3 1 (l.map iv) :: fr))) w from hw0).perm (show List.Perm (PBl bp al L cl ((⟨a9, o9, d, f9, g9⟩ : Go.Pa.St).nod 7 pos [] l) (m3.put q 7 pos [] (rv g l.length c) (m3.rs)) :: ROl ((⟨a9, o9, d, f9, g9⟩ : Go.Pa.St).nod 7 pos [] l) (m3.put q 7 pos [] (rv g l.length c) (m3.rs)) :: .row g c l.length 3 1 (l.map iv) :: (m3.rs ++ fr)) _ by (refine perm_cnt fun x => ?_; simp only [PWl, PBl, ROl, z1, z2, z3, z4, z5, z6]; omega))
    exact .inl ⟨(((⟨a9, o9, d, f9, g9⟩ : Go.Pa.St).out.length : Int), ((⟨a9, o9, d, f9, g9⟩ : Go.Pa.St).nod 7 pos [] l), (m3.put q 7 pos [] (rv g l.length c) (.row g c l.length 3 1 (l.map iv) :: m3.rs))), rfl, ⟨hre, put_nds (op := 7) (pos := pos) (x := []) hnd9 hw (i := 2) (ks := l) rfl (fun z hz => (hg z hz).inI) (by omega) (by unfold Go.SX.inI; omega) hp0, gI.len hlen⟩, hw⟩
end Go.Proofs.YtfbenelagdcdgaaDoor

namespace Go.Proofs.YtfbenelagdcdgaaDoor
open Go.SX Go.RowKit Go.Tr Go.Lex
namespace Po
theorem en42 : Enters Tryd.prog 42 := Enters.of Tryd.func42 (by kernel_rfl) (by kernel_rfl)
end Po
open Go.Proofs.YtfbenelagdcdgaaDoor.Env (EnvS errV sentG)
open Go.Pa (Tk Rs bnd ret isB is_ adv bad take must kinds inn outn node nodeAt setPos)
open Go.Ck (NdsR)
theorem curly_p {w0 : World} {base : Nat} {aE : Nat → Addr} (hS : EnvS w0 base aE) {bp : Nat} {al : Option Addr} {cl : Nat} {L : List Tk} (hL : SlAt 3 tokA (Lies w0 base) al L) (hln : L.length ≤ 1099511627776) (n : Nat) (hTest : ∀ j, j ≤ n → FI w0 base aE al cl L bp 37 (.test) j) : FI w0 base aE al cl L bp 83 (.curly) (n + 1) := by
  intro s m fr r hr hnd
  change (bnd (must L [123]) fun pos => bnd (inn pos) fun _ => bnd (Go.Pa.run L nameB n (.curlyGo [])) (fun l => bnd (must L [125]) fun _ => bnd outn fun _ => node 9 pos [] l)) s = some r at hr
  refine FnP.of_body (fn := Tryd.f83) [(0, _)] Tryd.func83 rfl Tryd.ntmps83 rfl ⟨rfl, trivial⟩ ?_
  refine CX.seq <| CX.region <| LX.pure (Y.assign rfl) rfl rfl rfl <| LX.sub (l' := [(0, _), (2, _)]) ⟨rfl, rfl, trivial⟩ <| LX.next <| PX.thenN <| CX.seq <| CX.region <| LX.pure (Y.move rfl) rfl rfl rfl ?_
  obtain ⟨r0, e0, hok0, hst0⟩ := Go.Pa.bnd_some hr
  refine LX.callP (must_p hS hL hln [123] e0) Pf.en41 rfl rfl rfl rfl rfl (fun y => fun _ w ha hw => ⟨ha.defs, .inr ⟨y, rfl, hst0 _ _ hw.1, hw.2.drop (.cons_cons _ (.cons _ (List.sublist_append_right _ _)))⟩⟩) ?_
  rintro ⟨pos, s0⟩
  refine LX.have fun ⟨hr0, hou0, hp0⟩ => ?_
  replace hou0 : s0.out = s.out := hou0
  have hnd0 : NdsR 3 m.rs m.cells s0.out := by rw [hou0]; exact hnd
  replace hr := hok0 _ _ hr0
  refine LX.world (W' := WA w0 base (PWl bp al L cl s0 m fr)) (fun w hw => by show WA w0 base (PBl bp al L cl s0 m :: .row m.g m.c s0.out.length 31 5 m.cells :: (m.rs ++ fr)) w; rw [hou0]; exact hw) ?_
  try dsimp only
  refine LX.pure (Y.assign rfl) rfl rfl rfl <| LX.sub (l' := [(0, _), (2, _), (3, _)]) ⟨rfl, rfl, rfl, trivial⟩ <| LX.next <| PX.thenN <| CX.seq <| CX.region <| LX.pure (Y.move rfl) rfl rfl rfl <| LX.pure (Y.move rfl) rfl rfl rfl ?_
  obtain ⟨ra, ea, hoka, hsta⟩ := Go.Pa.bnd_some hr
  refine LX.callP (in_p hS hL hln pos ea) Pf.en39 rfl rfl rfl rfl rfl (fun y => fun _ w ha hw => ⟨ha.defs, .inr ⟨y, rfl, hsta _ _ hw.1, hw.2.drop (.cons_cons _ (.cons _ (List.sublist_append_right _ _)))⟩⟩) ?_
  rintro ⟨_, sa⟩
  refine LX.have fun ⟨hra, houa, _⟩ => ?_
  replace houa : sa.out = s0.out := houa
  have hnda : NdsR 3 m.rs m.cells sa.out := by rw [houa]; exact hnd0
  replace hr := hoka _ _ hra
  refine LX.world (W' := WA w0 base (PWl bp al L cl sa m fr)) (fun w hw => by show WA w0 base (PBl bp al L cl sa m :: .row m.g m.c sa.out.length 31 5 m.cells :: (m.rs ++ fr)) w; rw [houa]; exact hw) ?_
  try dsimp only
  refine LX.sub (l' := [(0, _), (2, _), (3, _)]) ⟨rfl, rfl, rfl, trivial⟩ <| LX.next <| PX.thenN <| CX.seq <| CX.region <| LX.pure (Y.assign rfl) rfl rfl rfl <| LX.sub (l' := [(0, _), (2, _), (3, _), (4, _)]) ⟨rfl, rfl, rfl, rfl, trivial⟩ <| LX.next <| PX.thenN ?_
  refine CX.seqM (fun z : List Int × (Option Nat × Nat) × Go.Pa.St × Mm => [(0, .pointer (some ⟨bp, 0, none⟩)), (3, .int .i64 pos), (4, rv z.2.1.1 z.1.length z.2.1.2)]) (fun (z : List Int × (Option Nat × Nat) × Go.Pa.St × Mm) w => ((bnd (must L [125]) fun _ => bnd outn fun _ => node 9 pos [] z.1) z.2.2.1 = some r ∧ NdsR 3 z.2.2.2.rs z.2.2.2.cells z.2.2.1.out ∧ (∀ x ∈ z.1, gI x) ∧ z.1.length ≤ 1000002) ∧ WA w0 base (PWl bp al L cl z.2.2.1 z.2.2.2 (.row z.2.1.1 z.2.1.2 z.1.length 3 1 (z.1.map iv) :: fr)) w) ?_ ?_
  ·
    refine CX.block ?_
    refine CX.loop (fun z : List Int × (Option Nat × Nat) × Go.Pa.St × Mm × Nat => [(0, .pointer (some ⟨bp, 0, none⟩)), (3, .int .i64 pos), (4, rv z.2.1.1 z.1.length z.2.1.2)]) (fun (z : List Int × (Option Nat × Nat) × Go.Pa.St × Mm × Nat) w => (((bnd (Go.Pa.run L nameB z.2.2.2.2 (.curlyGo z.1)) (fun l => bnd (must L [125]) fun _ => bnd outn fun _ => node 9 pos [] l)) z.2.2.1 = some r ∧ z.2.2.2.2 ≤ n) ∧ NdsR 3 z.2.2.2.1.rs z.2.2.2.1.cells z.2.2.1.out ∧ (∀ x ∈ z.1, gI x) ∧ z.1.length ≤ 1000002) ∧ WA w0 base (PWl bp al L cl z.2.2.1 z.2.2.2.1 (.row z.2.1.1 z.2.1.2 z.1.length 3 1 (z.1.map iv) :: fr)) w) (fun z => z.2.2.2.2) ([], (none, 0), sa, m, n) ⟨rfl, rfl, rfl, trivial⟩ (fun w hw => ⟨⟨⟨hr, Nat.le_refl _⟩, hnda, (fun z hz => by cases hz), by simp⟩, by
      have h1 := (show WA w0 base (PWl bp al L cl sa m fr) w from hw).nilRow 3 1
      exact (show WA w0 base (.row none 0 ([] : List Int).length 3 1 (([] : List Int).map iv) :: PWl bp al L cl sa m fr) w from h1).perm (show List.Perm (PWl bp al L cl sa m (.row none 0 ([] : List Int).length 3 1 (([] : List Int).map iv) :: fr)) (.row none 0 ([] : List Int).length 3 1 (([] : List Int).map iv) :: PWl bp al L cl sa m fr) by (refine perm_cnt fun x => ?_; simp only [PWl, PBl, ROl, z1, z2, z3, z4, z5, z6]; omega))⟩) ?_
    clear hr
    rintro ⟨l, ⟨g, c⟩, s1, m1, j⟩
    refine CX.have fun ⟨⟨hr, hjn⟩, hnd1, hg, hlm⟩ => ?_
    replace hlm : l.length ≤ 1000002 := hlm
    replace hr : (bnd (Go.Pa.run L nameB j (.curlyGo l)) (fun l => bnd (must L [125]) fun _ => bnd outn fun _ => node 9 pos [] l)) s1 = some r := hr
    replace hjn : j ≤ n := hjn
    replace hnd1 : NdsR 3 m1.rs m1.cells s1.out := hnd1
    replace hg : ∀ x ∈ l, gI x := hg
    try dsimp only
    obtain ⟨j, rfl⟩ : ∃ i, j = i + 1 := by
      cases j with
      | zero => cases hr
      | succ i => exact ⟨i, rfl⟩
    rw [show Go.Pa.run L nameB (j + 1) (.curlyGo l) = (bnd (is_ L [[125]]) fun b => if b then ret l else bnd (Go.Pa.run L nameB j .test) fun k => bnd (must L [58]) fun _ => bnd (Go.Pa.run L nameB j .test) fun v => bnd (take L [44]) fun b => Go.Pa.grow l (if b then Go.Pa.run L nameB j (.curlyGo (l ++ [k] ++ [v])) else ret (l ++ [k] ++ [v]))) from rfl, Go.Pa.bnd_assoc] at hr
    obtain ⟨t, ht, hr⟩ := Go.Pa.is_bnd hr
    refine CX.seq <| CX.seq <| CX.region <| LX.pure (Y.move rfl) rfl rfl rfl <| LX.buildSlice (e := 9) (size := 1) rfl rfl (fun _ => by kernel_rfl) rfl (by decide) rfl rfl rfl ?_
    intro gS
    refine LX.callQ (is_q ht _ (ss := [[125]]) (by decide) (fun w hw => blkL hw (i := 1) rfl) (fun w hw => hL.push hw) (fun w hw => row_at hw (j := 0) rfl rfl (by decide) (fun i z h => map_A (f := str) (xs := [[125]]) h))) Pd.en20 rfl rfl rfl rfl rfl <| LX.world (W' := WA w0 base (PWl bp al L cl s1 m1 (.row g c l.length 3 1 (l.map iv) :: fr))) (fun w hw => hw.drop (List.sublist_cons_self _ _)) <| LX.pure (Y.not rfl) rfl rfl rfl <| LX.sub (l' := [(0, _), (3, _), (4, _), (13, _)]) ⟨rfl, rfl, rfl, rfl, trivial⟩ <| LX.next <| PX.thenN ?_
    refine CX.cond rfl (fun hb1 => ?_) (fun hb1 => ?_)
    · try simp at hb1
      rw [show isB t [[125]] = false from hb1, if_neg Bool.false_ne_true, Go.Pa.bnd_assoc] at hr
      refine CX.skip <| PX.thenN <| CX.block <| CX.seq <| CX.region <| LX.pure (Y.move rfl) rfl rfl rfl <| LX.pure (Y.move rfl) rfl rfl rfl ?_
      obtain ⟨r2, e2, hok2, hst2⟩ := Go.Pa.bnd_some hr
      refine LX.callP (hTest j (by omega) s1 m1 ((.row g c l.length 3 1 (l.map iv) :: fr)) r2 e2 hnd1) Pg.en37 rfl rfl rfl rfl rfl (fun y => fun _ w ha hw => ⟨ha.defs, .inr ⟨y, rfl, hst2 _ _ hw.1, hw.2.drop (.cons_cons _ (List.sublist_cons_self _ _))⟩⟩) ?_
      rintro ⟨k2, s2, m2⟩
      refine LX.have fun ⟨hr2, hnd2, hk2⟩ => ?_
      replace hr := hok2 _ _ hr2
      try dsimp only
      refine LX.buildSlice (e := 3) (size := 1) rfl rfl (fun _ => by kernel_rfl) rfl (by decide) rfl rfl rfl ?_
      intro gT
      refine LX.world (W' := WA w0 base (.row (some gT) 1 1 3 1 [.int .i64 k2] :: .row g c l.length 3 1 (l.map iv) :: PWl bp al L cl s2 m2 fr)) (fun w hw => (show WA w0 base (.row (some gT) 1 1 3 1 [.int .i64 k2] :: PWl bp al L cl s2 m2 (.row g c l.length 3 1 (l.map iv) :: fr)) w from hw).perm (by (refine perm_cnt fun x => ?_; simp only [PWl, PBl, ROl, z1, z2, z3, z4, z5, z6]; omega))) ?_
      refine LX.appendT 0 Pk.el29 rfl rfl rfl rfl rfl rfl rfl (by omega) (by omega) rfl rfl rfl ?_
      intro g' cap'
      rw [show l.length + 1 = (l ++ [k2]).length by simp]
      refine LX.world (W' := WA w0 base (PWl bp al L cl s2 m2 (.row g' cap' (l ++ [k2]).length 3 1 ((l ++ [k2]).map iv) :: fr))) (fun w hw => ?_) ?_
      · have h1 : WA w0 base (.row g' cap' (l ++ [k2]).length 3 1 ((l ++ [k2]).map iv) :: PWl bp al L cl s2 m2 fr) w := by rw [← iv_snoc]; exact hw
        exact h1.perm (by (refine perm_cnt fun x => ?_; simp only [PWl, PBl, ROl, z1, z2, z3, z4, z5, z6]; omega))
      refine LX.pure (Y.assign rfl) rfl rfl rfl <| LX.sub (l' := [(0, _), (3, _), (4, _)]) ⟨rfl, rfl, rfl, trivial⟩ <| LX.next <| PX.thenN <| CX.seq <| CX.region <| LX.pure (Y.move rfl) rfl rfl rfl ?_
      rw [Go.Pa.bnd_assoc] at hr
      obtain ⟨r3, e3, hok3, hst3⟩ := Go.Pa.bnd_some hr
      refine LX.callP (must_p hS hL hln [58] e3) Pf.en41 rfl rfl rfl rfl rfl (fun y => fun _ w ha hw => ⟨ha.defs, .inr ⟨y, rfl, hst3 _ _ hw.1, hw.2.drop (.cons_cons _ (.cons _ ((List.sublist_cons_self _ _).trans (List.sublist_append_right _ _))))⟩⟩) ?_
      rintro ⟨p3, s3⟩
      refine LX.have fun ⟨hr3, hou3, hp3⟩ => ?_
      replace hou3 : s3.out = s2.out := hou3
      have hnd3 : NdsR 3 m2.rs m2.cells s3.out := by rw [hou3]; exact hnd2
      replace hr := hok3 _ _ hr3
      refine LX.world (W' := WA w0 base (PWl bp al L cl s3 m2 (.row g' cap' (l ++ [k2]).length 3 1 ((l ++ [k2]).map iv) :: fr))) (fun w hw => by show WA w0 base (PBl bp al L cl s3 m2 :: .row m2.g m2.c s3.out.length 31 5 m2.cells :: (m2.rs ++ (.row g' cap' (l ++ [k2]).length 3 1 ((l ++ [k2]).map iv) :: fr))) w; rw [hou3]; exact hw) ?_
      try dsimp only
      refine LX.sub (l' := [(0, _), (3, _), (4, _)]) ⟨rfl, rfl, rfl, trivial⟩ <| LX.next <| PX.thenN <| CX.seq <| CX.region <| LX.pure (Y.move rfl) rfl rfl rfl <| LX.pure (Y.move rfl) rfl rfl rfl ?_
      rw [Go.Pa.bnd_assoc] at hr
      obtain ⟨r4, e4, hok4, hst4⟩ := Go.Pa.bnd_some hr
      refine LX.callP (hTest j (by omega) s3 m2 ((.row g' cap' (l ++ [k2]).length 3 1 ((l ++ [k2]).map iv) :: fr)) r4 e4 hnd3) Pg.en37 rfl rfl rfl rfl rfl (fun y => fun _ w ha hw => ⟨ha.defs, .inr ⟨y, rfl, hst4 _ _ hw.1, hw.2.drop (.cons_cons _ (List.sublist_cons_self _ _))⟩⟩) ?_
      rintro ⟨k4, s4, m4⟩
      refine LX.have fun ⟨hr4, hnd4, hk4⟩ => ?_
      replace hr := hok4 _ _ hr4
      try dsimp only
      refine LX.buildSlice (e := 3) (size := 1) rfl rfl (fun _ => by kernel_rfl) rfl (by decide) rfl rfl rfl ?_
      intro gV
      refine LX.world (W' := WA w0 base (.row (some gV) 1 1 3 1 [.int .i64 k4] :: .row g' cap' (l ++ [k2]).length 3 1 ((l ++ [k2]).map iv) :: PWl bp al L cl s4 m4 fr)) (fun w hw => (show WA w0 base (.row (some gV) 1 1 3 1 [.int .i64 k4] :: PWl bp al L cl s4 m4 (.row g' cap' (l ++ [k2]).length 3 1 ((l ++ [k2]).map iv) :: fr)) w from hw).perm (by (refine perm_cnt fun x => ?_; simp only [PWl, PBl, ROl, z1, z2, z3, z4, z5, z6]; omega))) ?_
      refine LX.appendT 0 (g := g') (k := (l ++ [k2]).length) Pk.el29 rfl rfl rfl rfl rfl rfl rfl (by simp only [List.length_append, List.length_cons, List.length_nil]; omega) (by simp only [List.length_append, List.length_cons, List.length_nil]; omega) rfl rfl rfl ?_
      intro g2 cap2
      rw [show (l ++ [k2]).length + 1 = ((l ++ [k2]) ++ [k4]).length by simp]
      refine LX.world (W' := WA w0 base (PWl bp al L cl s4 m4 (.row g2 cap2 ((l ++ [k2]) ++ [k4]).length 3 1 (((l ++ [k2]) ++ [k4]).map iv) :: fr))) (fun w hw => ?_) ?_
      · have h1 : WA w0 base (.row g2 cap2 ((l ++ [k2]) ++ [k4]).length 3 1 (((l ++ [k2]) ++ [k4]).map iv) :: PWl bp al L cl s4 m4 fr) w := by rw [← iv_snoc]; exact hw
        exact h1.perm (by (refine perm_cnt fun x => ?_; simp only [PWl, PBl, ROl, z1, z2, z3, z4, z5, z6]; omega))
      refine LX.pure (Y.assign rfl) rfl rfl rfl <| LX.sub (l' := [(0, _), (3, _), (4, _)]) ⟨rfl, rfl, rfl, trivial⟩ <| LX.next <| PX.thenN <| CX.seq <| CX.region <| LX.pure (Y.move rfl) rfl rfl rfl ?_
      rw [Go.Pa.bnd_assoc] at hr
      obtain ⟨t, ht, hT, hF⟩ := Go.Pa.take_bnd hr
      refine LX.call (take_c hL hln ht [44]) Pd.en40 rfl rfl rfl rfl rfl ?_
      intro _
      refine LX.pure (Y.not rfl) rfl rfl rfl <| LX.sub (l' := [(0, _), (3, _), (4, _), (28, _)]) ⟨rfl, rfl, rfl, rfl, trivial⟩ <| LX.next <| PX.thenN ?_
      refine CX.cond rfl (fun hb2 => ?_) (fun hb2 => ?_)
      · try simp at hb2
        rw [show isB t [[44]] = false from hb2]
        replace hr := hF hb2
        refine CX.world (W' := WA w0 base (PWl bp al L cl s4 m4 (.row g2 cap2 (l ++ [k2] ++ [k4]).length 3 1 ((l ++ [k2] ++ [k4]).map iv) :: fr))) (fun w hw => hw) ?_
        obtain ⟨hlg, hr⟩ := Go.Pa.grow_bnd hr
        rw [if_neg Bool.false_ne_true] at hr
        replace hr := Go.Pa.ret_bnd hr
        refine CX.exit <| PX.blockO rfl <| PX.thenE <| PX.blockE ?_
        exact PX.seam ((l ++ [k2] ++ [k4]), (g2, cap2), s4, m4) ⟨rfl, rfl, rfl, trivial⟩ (fun w hw => ⟨⟨hr, hnd4, gI_snoc (gI_snoc hg hk2) hk4, by show (l ++ [k2] ++ [k4]).length ≤ 1000002; simp only [List.length_append, List.length_cons, List.length_nil]; omega⟩, hw⟩)
      try simp at hb2
      rw [show isB t [[44]] = true from hb2]
      replace hr := hT hb2
      refine CX.world (W' := WA w0 base (PWl bp al L cl s4.adv m4 (.row g2 cap2 (l ++ [k2] ++ [k4]).length 3 1 ((l ++ [k2] ++ [k4]).map iv) :: fr))) (fun w hw => hw) ?_
      obtain ⟨hlg, hr⟩ := Go.Pa.grow_bnd hr
      rw [if_pos rfl] at hr
      refine CX.skip <| PX.blockN ?_
      exact PX.again (μ := fun z => z.2.2.2.2) (i := (l, (g, c), s1, m1, j + 1)) ((l ++ [k2] ++ [k4]), (g2, cap2), s4.adv, m4, j) (by show j < j + 1; omega) ⟨rfl, rfl, rfl, trivial⟩ (fun w hw => ⟨⟨⟨hr, by show j ≤ n; omega⟩, hnd4, gI_snoc (gI_snoc hg hk2) hk4, by show (l ++ [k2] ++ [k4]).length ≤ 1000002; simp only [List.length_append, List.length_cons, List.length_nil]; omega⟩, hw⟩)
    try simp at hb1
    rw [show isB t [[125]] = true from hb1, if_pos rfl] at hr
    replace hr := Go.Pa.ret_bnd hr
    refine CX.exit <| PX.thenE <| PX.thenE <| PX.blockE ?_
    exact PX.seam (l, (g, c), s1, m1) ⟨rfl, rfl, rfl, trivial⟩ (fun w hw => ⟨⟨hr, hnd1, hg, hlm⟩, hw⟩)
  clear hr
  rintro ⟨l, ⟨g, c⟩, s3, m3⟩
  refine CX.have fun ⟨hr, hnd3, hg, hlm⟩ => ?_
  replace hlm : l.length ≤ 1000002 := hlm
  replace hg : ∀ x ∈ l, gI x := hg
  try dsimp only at hr ⊢
  refine CX.seq <| CX.region <| LX.pure (Y.move rfl) rfl rfl rfl ?_
  obtain ⟨r9, e9, hok9, hst9⟩ := Go.Pa.bnd_some hr
  refine LX.callP (must_p hS hL hln [125] e9) Pf.en41 rfl rfl rfl rfl rfl (fun y => fun _ w ha hw => ⟨ha.defs, .inr ⟨y, rfl, hst9 _ _ hw.1, hw.2.drop (.cons_cons _ (.cons _ ((List.sublist_cons_self _ _).trans (List.sublist_append_right _ _))))⟩⟩) ?_
  rintro ⟨p9, s9⟩
  refine LX.have fun ⟨hr9, hou9, hp9⟩ => ?_
  replace hou9 : s9.out = s3.out := hou9
  have hnd9 : NdsR 3 m3.rs m3.cells s9.out := by rw [hou9]; exact hnd3
  replace hr := hok9 _ _ hr9
  refine LX.world (W' := WA w0 base (PWl bp al L cl s9 m3 (.row g c l.length 3 1 (l.map iv) :: fr))) (fun w hw => by show WA w0 base (PBl bp al L cl s9 m3 :: .row m3.g m3.c s9.out.length 31 5 m3.cells :: (m3.rs ++ (.row g c l.length 3 1 (l.map iv) :: fr))) w; rw [hou9]; exact hw) ?_
  try dsimp only
  obtain ⟨a9, o9, d9, f9, g9⟩ := s9
  obtain ⟨d, hd, hdl, hr⟩ := Go.Pa.outn_bnd hr
  obtain rfl : d9 = d + 1 := hd
  try dsimp only
  refine LX.sub (l' := [(0, _), (3, _), (4, _)]) ⟨rfl, rfl, rfl, trivial⟩ <| LX.next <| PX.thenN <| CX.seq <| CX.region <| LX.pure (Y.move rfl) rfl rfl rfl <| LX.pure (Y.nilCheck rfl) rfl rfl rfl <| LX.pure (Y.fieldAddr0 Pd.fo41_3 rfl) rfl rfl rfl <| LX.pure (Y.ldB 0 Pa.one3 rfl rfl rfl) rfl rfl rfl <| LX.pure (Y.subN rfl rfl (by (simp only []; omega)) (by (simp only []; omega))) rfl rfl rfl <| LX.pure (Y.nilCheck rfl) rfl rfl rfl <| LX.pure (Y.fieldAddr0 Pd.fo41_3 rfl) rfl rfl rfl <| LX.storeB 0 Pb.sz3 rfl rfl rfl rfl rfl rfl rfl rfl <| LX.sub (l' := [(0, _), (3, _), (4, _)]) ⟨rfl, rfl, rfl, trivial⟩ <| LX.next <| PX.thenN <| CX.seq <| CX.region <| LX.pure (Y.move rfl) rfl rfl rfl <| LX.pure (Y.move rfl) rfl rfl rfl <| LX.pure (Y.move rfl) rfl rfl rfl ?_
  obtain ⟨hlen, hre⟩ := Go.Pa.node_end hr
  refine LX.call (node_c (s := (⟨a9, o9, d, f9, g9⟩ : Go.Pa.St)) (m := m3) (9) pos [] (g.map fun b => ⟨b, 0, none⟩) l.length c l hlen) Pe.en15 rfl rfl rfl rfl rfl ?_
  intro q
  refine LX.pure (Y.assign rfl) rfl rfl rfl <| LX.sub (l' := [(2, _)]) ⟨rfl, trivial⟩ <| LX.next <| PX.thenN <| CX.ret <| PX.ret1 (by simp) Tryd.results83 rfl ?_
  exact fun w hw0 => by
    have hw := (show WA w0 base (PBl bp al L cl ((⟨a9, o9, d, f9, g9⟩ : Go.Pa.St).nod 9 pos [] l) (m3.put q 9 pos [] (rv g l.length c) (m3.rs)) :: ROl ((⟨a9, o9, d, f9, g9⟩ : Go.Pa.St).nod 9 pos [] l) (m3.put q 9 pos [] (rv g l.length c) (m3.rs)) :: (m3.rs ++ (.row g c l.length 3 1 (l.map iv) :: fr))) w from hw0).perm (show List.Perm (PBl bp al L cl ((⟨a9, o9, d, f9, g9⟩ : Go.Pa.St).nod 9 pos [] l) (m3.put q 9 pos [] (rv g l.length c) (m3.rs)) :: ROl ((⟨a9, o9, d, f9, g9⟩ : Go.Pa.St).nod 9 pos [] l) (m3.put q 9 pos [] (rv g l.length c) (m3.rs)) :: .row g c l.length 3 1 (l.map iv) :: (m3.rs ++ fr)) _ by (refine perm_cnt fun x => ?_; simp only [PWl, PBl, ROl, z1, z2, z3, z4, z5, z6]; omega))
    exact .inl ⟨(((⟨a9, o9, d, f9, g9⟩ : Go.Pa.St).out.length : Int), ((⟨a9, o9, d, f9, g9⟩ : Go.Pa.St).nod 9 pos [] l), (m3.put q 9 pos [] (rv g l.length c) (.row g c l.length 3 1 (l.map iv) :: m3.rs))), rfl, ⟨hre, put_nds (op := 9) (pos := pos) (x := []) hnd9 hw (i := 2) (ks := l) rfl (fun z hz => (hg z hz).inI) (by omega) (by unfold Go.SX.inI; omega) hp0, gI.len hlen⟩, hw⟩
theorem gI3 {a b c : Int} (ha : gI a) (hb : gI b) (hc : gI c) : ∀ z ∈ [a, b, c], gI z := fun z hz => by
  simp only [List.mem_cons, List.not_mem_nil, or_false] at hz
  rcases hz with rfl | rfl | rfl <;> assumption
theorem comp_p {w0 : World} {base : Nat} {aE : Nat → Addr} (hS : EnvS w0 base aE) {bp : Nat} {al : Option Addr} {cl : Nat} {L : List Tk} (hL : SlAt 3 tokA (Lies w0 base) al L) (hln : L.length ≤ 1099511627776) (n : Nat) (hOr : ∀ j, j ≤ n → FI w0 base aE al cl L bp 57 (.left 0) j) (hTgts : ∀ j, j ≤ n → FS w0 base aE al cl L bp 42 #[.pointer (some ⟨bp, 0, none⟩), str [105, 110]] (fun z : Int × Bool => .int .i64 z.1) (fun z => gI z.1) (.some_ [105, 110]) j) (pos item : Int) (hp : inI pos) (hk : gI item) : FS w0 base aE al cl L bp 85 #[.pointer (some ⟨bp, 0, none⟩), .int .i64 pos, .int .i64 item] (fun z : Int => .int .i64 z) gI (.comp pos item) (n + 1) := by
  intro s m fr r hr hnd
  change (bnd (must L [102, 111, 114]) fun _ => bnd (Go.Pa.run L nameB n (.some_ [105, 110])) fun to => bnd (must L [105, 110]) fun _ => bnd (Go.Pa.run L nameB n (.left 0)) fun o => bnd (take L [105, 102]) fun b => bnd (if b then bnd (Go.Pa.run L nameB n (.left 0)) fun c => ret [item, to.1, o, c] else ret [item, to.1, o]) (fun kids => bnd (must L [93]) fun _ => bnd outn fun _ => node 34 pos [] kids)) s = some r at hr
  refine FnP.of_body (fn := Tryd.f85) [(0, _), (1, _), (2, _)] Tryd.func85 rfl Tryd.ntmps85 rfl ⟨rfl, rfl, rfl, trivial⟩ ?_
  refine CX.seq <| CX.region <| LX.pure (Y.assign rfl) rfl rfl rfl <| LX.sub (l' := [(0, _), (1, _), (2, _), (6, _)]) ⟨rfl, rfl, rfl, rfl, trivial⟩ <| LX.next <| PX.thenN <| CX.seq <| CX.region <| LX.pure (Y.move rfl) rfl rfl rfl ?_
  obtain ⟨r0, e0, hok0, hst0⟩ := Go.Pa.bnd_some hr
  refine LX.callP (must_p hS hL hln [102, 111, 114] e0) Pf.en41 rfl rfl rfl rfl rfl (fun y => fun _ w ha hw => ⟨ha.defs, .inr ⟨y, rfl, hst0 _ _ hw.1, hw.2.drop (.cons_cons _ (.cons _ (List.sublist_append_right _ _)))⟩⟩) ?_
  rintro ⟨p0, s0⟩
  refine LX.have fun ⟨hr0, hou0, hp0⟩ => ?_
  replace hou0 : s0.out = s.out := hou0
  have hnd0 : NdsR 3 m.rs m.cells s0.out := by rw [hou0]; exact hnd
  replace hr := hok0 _ _ hr0
  refine LX.world (W' := WA w0 base (PWl bp al L cl s0 m fr)) (fun w hw => by show WA w0 base (PBl bp al L cl s0 m :: .row m.g m.c s0.out.length 31 5 m.cells :: (m.rs ++ fr)) w; rw [hou0]; exact hw) ?_
  try dsimp only
  refine LX.sub (l' := [(0, _), (1, _), (2, _), (6, _)]) ⟨rfl, rfl, rfl, rfl, trivial⟩ <| LX.next <| PX.thenN <| CX.seq <| CX.region <| LX.pure (Y.move rfl) rfl rfl rfl ?_
  obtain ⟨r2, e2, hok2, hst2⟩ := Go.Pa.bnd_some hr
  refine LX.callP (hTgts n (Nat.le_refl _) s0 m (fr) r2 e2 hnd0) Po.en42 rfl rfl rfl rfl rfl (fun y => fun _ w ha hw => ⟨ha.defs, .inr ⟨y, rfl, hst2 _ _ hw.1, hw.2⟩⟩) ?_
  rintro ⟨⟨to, cto⟩, s2, m2⟩
  refine LX.have fun ⟨hr2, hnd2, hk2⟩ => ?_
  replace hr := hok2 _ _ hr2
  try dsimp only
  refine LX.pure (Y.assign rfl) rfl rfl rfl <| LX.sub (l' := [(0, _), (1, _), (2, _), (6, _), (7, _)]) ⟨rfl, rfl, rfl, rfl, rfl, trivial⟩ <| LX.next <| PX.thenN <| CX.seq <| CX.region <| LX.pure (Y.move rfl) rfl rfl rfl ?_
  obtain ⟨r3, e3, hok3, hst3⟩ := Go.Pa.bnd_some hr
  refine LX.callP (must_p hS hL hln [105, 110] e3) Pf.en41 rfl rfl rfl rfl rfl (fun y => fun _ w ha hw => ⟨ha.defs, .inr ⟨y, rfl, hst3 _ _ hw.1, hw.2.drop (.cons_cons _ (.cons _ (List.sublist_append_right _ _)))⟩⟩) ?_
  rintro ⟨p3, s3⟩
  refine LX.have fun ⟨hr3, hou3, hp3⟩ => ?_
  replace hou3 : s3.out = s2.out := hou3
  have hnd3 : NdsR 3 m2.rs m2.cells s3.out := by rw [hou3]; exact hnd2
  replace hr := hok3 _ _ hr3
  refine LX.world (W' := WA w0 base (PWl bp al L cl s3 m2 fr)) (fun w hw => by show WA w0 base (PBl bp al L cl s3 m2 :: .row m2.g m2.c s3.out.length 31 5 m2.cells :: (m2.rs ++ fr)) w; rw [hou3]; exact hw) ?_
  try dsimp only
  refine LX.sub (l' := [(0, _), (1, _), (2, _), (6, _), (7, _)]) ⟨rfl, rfl, rfl, rfl, rfl, trivial⟩ <| LX.next <| PX.thenN <| CX.seq <| CX.region <| LX.pure (Y.move rfl) rfl rfl rfl <| LX.pure (Y.move rfl) rfl rfl rfl <| LX.pure (Y.move rfl) rfl rfl rfl ?_
  obtain ⟨r4, e4, hok4, hst4⟩ := Go.Pa.bnd_some hr
  refine LX.callP (hOr n (Nat.le_refl _) s3 m2 (fr) r4 e4 hnd3) Pg.en57 rfl rfl rfl rfl rfl (fun y => fun _ w ha hw => ⟨ha.defs, .inr ⟨y, rfl, hst4 _ _ hw.1, hw.2⟩⟩) ?_
  rintro ⟨o, s4, m4⟩
  refine LX.have fun ⟨hr4, hnd4, hk4⟩ => ?_
  replace hr := hok4 _ _ hr4
  try dsimp only
  refine LX.buildSlice (e := 3) (size := 1) rfl rfl (fun _ => by kernel_rfl) rfl (by decide) rfl rfl rfl ?_
  intro gL
  refine LX.world (W' := WA w0 base (PWl bp al L cl s4 m4 (.row (some gL) 3 [item, to, o].length 3 1 ([item, to, o].map iv) :: fr))) (fun w hw => (show WA w0 base (.row (some gL) 3 [item, to, o].length 3 1 ([item, to, o].map iv) :: PWl bp al L cl s4 m4 fr) w from hw).perm (by (refine perm_cnt fun x => ?_; simp only [PWl, PBl, ROl, z1, z2, z3, z4, z5, z6]; omega))) ?_
  refine LX.pure (Y.assign rfl) rfl rfl rfl <| LX.sub (l' := [(0, _), (1, _), (6, _), (8, _)]) ⟨rfl, rfl, rfl, rfl, trivial⟩ <| LX.next <| PX.thenN ?_
  refine CX.seqM (fun z : List Int × (Option Nat × Nat) × Go.Pa.St × Mm => [(0, .pointer (some ⟨bp, 0, none⟩)), (1, .int .i64 pos), (8, rv z.2.1.1 z.1.length z.2.1.2)]) (fun (z : List Int × (Option Nat × Nat) × Go.Pa.St × Mm) w => ((bnd (must L [93]) fun _ => bnd outn fun _ => node 34 pos [] z.1) z.2.2.1 = some r ∧ NdsR 3 z.2.2.2.rs z.2.2.2.cells z.2.2.1.out ∧ (∀ x ∈ z.1, gI x) ∧ z.1.length ≤ 1000002) ∧ WA w0 base (PWl bp al L cl z.2.2.1 z.2.2.2 (.row z.2.1.1 z.2.1.2 z.1.length 3 1 (z.1.map iv) :: fr)) w) ?_ ?_
  ·
    refine CX.seq <| CX.region <| LX.pure (Y.move rfl) rfl rfl rfl ?_
    obtain ⟨t, ht, hT, hF⟩ := Go.Pa.take_bnd hr
    refine LX.call (take_c hL hln ht [105, 102]) Pd.en40 rfl rfl rfl rfl rfl ?_
    intro _
    refine LX.sub (l' := [(0, _), (1, _), (6, _), (8, _), (21, _)]) ⟨rfl, rfl, rfl, rfl, rfl, trivial⟩ <| LX.next <| PX.thenN ?_
    refine CX.cond rfl (fun hb1 => ?_) (fun hb1 => ?_)
    · try simp at hb1
      rw [show isB t [[105, 102]] = true from hb1]
      replace hr := hT hb1
      refine CX.world (W' := WA w0 base (PWl bp al L cl s4.adv m4 (.row (some gL) 3 [item, to, o].length 3 1 ([item, to, o].map iv) :: fr))) (fun w hw => hw) ?_
      rw [if_pos rfl, Go.Pa.bnd_assoc] at hr
      refine CX.region <| LX.pure (Y.move rfl) rfl rfl rfl <| LX.pure (Y.move rfl) rfl rfl rfl ?_
      obtain ⟨r5, e5, hok5, hst5⟩ := Go.Pa.bnd_some hr
      refine LX.callP (hOr n (Nat.le_refl _) s4.adv m4 ((.row (some gL) 3 [item, to, o].length 3 1 ([item, to, o].map iv) :: fr)) r5 e5 hnd4) Pg.en57 rfl rfl rfl rfl rfl (fun y => fun _ w ha hw => ⟨ha.defs, .inr ⟨y, rfl, hst5 _ _ hw.1, hw.2.drop (.cons_cons _ (List.sublist_cons_self _ _))⟩⟩) ?_
      rintro ⟨k5, s5, m5⟩
      refine LX.have fun ⟨hr5, hnd5, hk5⟩ => ?_
      replace hr := hok5 _ _ hr5
      try dsimp only
      replace hr := Go.Pa.ret_bnd hr
      refine LX.buildSlice (e := 3) (size := 1) rfl rfl (fun _ => by kernel_rfl) rfl (by decide) rfl rfl rfl ?_
      intro gT
      refine LX.world (W' := WA w0 base (.row (some gT) 1 1 3 1 [.int .i64 k5] :: .row (some gL) 3 [item, to, o].length 3 1 ([item, to, o].map iv) :: PWl bp al L cl s5 m5 fr)) (fun w hw => (show WA w0 base (.row (some gT) 1 1 3 1 [.int .i64 k5] :: PWl bp al L cl s5 m5 (.row (some gL) 3 [item, to, o].length 3 1 ([item, to, o].map iv) :: fr)) w from hw).perm (by (refine perm_cnt fun x => ?_; simp only [PWl, PBl, ROl, z1, z2, z3, z4, z5, z6]; omega))) ?_
      refine LX.appendT 0 (g := (some gL)) (k := [item, to, o].length) Pk.el29 rfl rfl rfl rfl rfl rfl rfl (by simp only [List.length_append, List.length_cons, List.length_nil]; omega) (by simp only [List.length_append, List.length_cons, List.length_nil]; omega) rfl rfl rfl ?_
      intro g' cap'
      rw [show [item, to, o].length + 1 = ([item, to, o] ++ [k5]).length by simp]
      refine LX.world (W' := WA w0 base (PWl bp al L cl s5 m5 (.row g' cap' ([item, to, o] ++ [k5]).length 3 1 (([item, to, o] ++ [k5]).map iv) :: fr))) (fun w hw => ?_) ?_
      · have h1 : WA w0 base (.row g' cap' ([item, to, o] ++ [k5]).length 3 1 (([item, to, o] ++ [k5]).map iv) :: PWl bp al L cl s5 m5 fr) w := by rw [← iv_snoc]; exact hw
        exact h1.perm (by (refine perm_cnt fun x => ?_; simp only [PWl, PBl, ROl, z1, z2, z3, z4, z5, z6]; omega))
      refine LX.pure (Y.assign rfl) rfl rfl rfl <| LX.sub (l' := [(0, _), (1, _), (6, _), (8, _)]) ⟨rfl, rfl, rfl, rfl, trivial⟩ <| LX.next ?_
      exact PX.seam (([item, to, o] ++ [k5]), (g', cap'), s5, m5) ⟨rfl, rfl, rfl, trivial⟩ (fun w hw => ⟨⟨hr, hnd5, gI_snoc (gI3 hk hk2 hk4) hk5, by simp⟩, hw⟩)
    try simp at hb1
    rw [show isB t [[105, 102]] = false from hb1]
    replace hr := hF hb1
    refine CX.world (W' := WA w0 base (PWl bp al L cl s4 m4 (.row (some gL) 3 [item, to, o].length 3 1 ([item, to, o].map iv) :: fr))) (fun w hw => hw) ?_
    rw [if_neg Bool.false_ne_true] at hr
    replace hr := Go.Pa.ret_bnd hr
    refine CX.skip ?_
    exact PX.seam ([item, to, o], (some gL, 3), s4, m4) ⟨rfl, rfl, rfl, trivial⟩ (fun w hw => ⟨⟨hr, hnd4, gI3 hk hk2 hk4, by simp⟩, hw⟩)
  clear hr
  rintro ⟨l, ⟨g, c⟩, s3, m3⟩
  refine CX.have fun ⟨hr, hnd3, hg, hlm⟩ => ?_
  replace hlm : l.length ≤ 1000002 := hlm
  replace hg : ∀ x ∈ l, gI x := hg
  try dsimp only at hr ⊢
  refine CX.seq <| CX.region <| LX.pure (Y.move rfl) rfl rfl rfl ?_
  obtain ⟨r9, e9, hok9, hst9⟩ := Go.Pa.bnd_some hr
  refine LX.callP (must_p hS hL hln [93] e9) Pf.en41 rfl rfl rfl rfl rfl (fun y => fun _ w ha hw => ⟨ha.defs, .inr ⟨y, rfl, hst9 _ _ hw.1, hw.2.drop (.cons_cons _ (.cons _ ((List.sublist_cons_self _ _).trans (List.sublist_append_right _ _))))⟩⟩) ?_
  rintro ⟨p9, s9⟩
  refine LX.have fun ⟨hr9, hou9, hp9⟩ => ?_
  replace hou9 : s9.out = s3.out := hou9
  have hnd9 : NdsR 3 m3.rs m3.cells s9.out := by rw [hou9]; exact hnd3
  replace hr := hok9 _ _ hr9
  refine LX.world (W' := WA w0 base (PWl bp al L cl s9 m3 (.row g c l.length 3 1 (l.map iv) :: fr))) (fun w hw => by show WA w0 base (PBl bp al L cl s9 m3 :: .row m3.g m3.c s9.out.length 31 5 m3.cells :: (m3.rs ++ (.row g c l.length 3 1 (l.map iv) :: fr))) w; rw [hou9]; exact hw) ?_
  try dsimp only
  obtain ⟨a9, o9, d9, f9, g9⟩ := s9
  obtain ⟨d, hd, hdl, hr⟩ := Go.Pa.outn_bnd hr
  obtain rfl : d9 = d + 1 := hd
  try dsimp only
  refine LX.sub (l' := [(0, _), (1, _), (8, _)]) ⟨rfl, rfl, rfl, trivial⟩ <| LX.next <| PX.thenN <| CX.seq <| CX.region <| LX.pure (Y.move rfl) rfl rfl rfl <| LX.pure (Y.nilCheck rfl) rfl rfl rfl <| LX.pure (Y.fieldAddr0 Pd.fo41_3 rfl) rfl rfl rfl <| LX.pure (Y.ldB 0 Pa.one3 rfl rfl rfl) rfl rfl rfl <| LX.pure (Y.subN rfl rfl (by (simp only []; omega)) (by (simp only []; omega))) rfl rfl rfl <| LX.pure (Y.nilCheck rfl) rfl rfl rfl <| LX.pure (Y.fieldAddr0 Pd.fo41_3 rfl) rfl rfl rfl <| LX.storeB 0 Pb.sz3 rfl rfl rfl rfl rfl rfl rfl rfl <| LX.sub (l' := [(0, _), (1, _), (8, _)]) ⟨rfl, rfl, rfl, trivial⟩ <| LX.next <| PX.thenN <| CX.seq <| CX.region <| LX.pure (Y.move rfl) rfl rfl rfl <| LX.pure (Y.move rfl) rfl rfl rfl <| LX.pure (Y.move rfl) rfl rfl rfl ?_
  obtain ⟨hlen, hre⟩ := Go.Pa.node_end hr
  refine LX.call (node_c (s := (⟨a9, o9, d, f9, g9⟩ : Go.Pa.St)) (m := m3) (34) pos [] (g.map fun b => ⟨b, 0, none⟩) l.length c l hlen) Pe.en15 rfl rfl rfl rfl rfl ?_
  intro q
  refine LX.pure (Y.assign rfl) rfl rfl rfl <| LX.sub (l' := [(6, _)]) ⟨rfl, trivial⟩ <| LX.next <| PX.thenN <| CX.ret <| PX.ret1 (by simp) Tryd.results85 rfl ?_
  exact fun w hw0 => by
    have hw := (show WA w0 base (PBl bp al L cl ((⟨a9, o9, d, f9, g9⟩ : Go.Pa.St).nod 34 pos [] l) (m3.put q 34 pos [] (rv g l.length c) (m3.rs)) :: ROl ((⟨a9, o9, d, f9, g9⟩ : Go.Pa.St).nod 34 pos [] l) (m3.put q 34 pos [] (rv g l.length c) (m3.rs)) :: (m3.rs ++ (.row g c l.length 3 1 (l.map iv) :: fr))) w from hw0).perm (show List.Perm (PBl bp al L cl ((⟨a9, o9, d, f9, g9⟩ : Go.Pa.St).nod 34 pos [] l) (m3.put q 34 pos [] (rv g l.length c) (m3.rs)) :: ROl ((⟨a9, o9, d, f9, g9⟩ : Go.Pa.St).nod 34 pos [] l) (m3.put q 34 pos [] (rv g l.length c) (m3.rs)) :: .row g c l.length 3 1 (l.map iv) :: (m3.rs ++ fr)) _ by (refine perm_cnt fun x => ?_; simp only [PWl, PBl, ROl, z1, z2, z3, z4, z5, z6]; omega))
    exact .inl ⟨(((⟨a9, o9, d, f9, g9⟩ : Go.Pa.St).out.length : Int), ((⟨a9, o9, d, f9, g9⟩ : Go.Pa.St).nod 34 pos [] l), (m3.put q 34 pos [] (rv g l.length c) (.row g c l.length 3 1 (l.map iv) :: m3.rs))), rfl, ⟨hre, put_nds (op := 34) (pos := pos) (x := []) hnd9 hw (i := 2) (ks := l) rfl (fun z hz => (hg z hz).inI) (by omega) (by unfold Go.SX.inI; omega) hp, gI.len hlen⟩, hw⟩
end Go.Proofs.YtfbenelagdcdgaaDoor

namespace Go.Proofs.YtfbenelagdcdgaaDoor
open Go.SX Go.RowKit Go.Tr Go.Lex
namespace Pr_
theorem en58 : Enters Tryd.prog 58 := Enters.of Tryd.func58 (by kernel_rfl) (by kernel_rfl)
theorem en68 : Enters Tryd.prog 68 := Enters.of Tryd.func68 (by kernel_rfl) (by kernel_rfl)
end Pr_
open Go.Proofs.YtfbenelagdcdgaaDoor.Env (EnvS errV sentG)
open Go.Pa (Tk Rs bnd ret isB is_ adv bad take must kinds inn outn node nodeAt setPos)
open Go.Ck (NdsR)
theorem some_p {w0 : World} {base : Nat} {aE : Nat → Addr} (hS : EnvS w0 base aE) {bp : Nat} {al : Option Addr} {cl : Nat} {L : List Tk} (hL : SlAt 3 tokA (Lies w0 base) al L) (hln : L.length ≤ 1099511627776) (n : Nat) (hOne : ∀ j, j ≤ n → FI w0 base aE al cl L bp 68 (.one) j) (e : List UInt8) : FS w0 base aE al cl L bp 58 #[.pointer (some ⟨bp, 0, none⟩), str e] (fun z : Int × Bool => .tuple #[.int .i64 z.1, .bool z.2]) (fun z => gI z.1) (.some_ e) (n + 1) := by
  intro s m fr r hr hnd
  change (bnd (Go.Pa.tok L) fun t0 => bnd (Go.Pa.run L nameB n .one) fun k => bnd (Go.Pa.run L nameB n (.someGo e [k] false)) (fun x : List Int × Bool => if x.2 then bnd (node 8 t0.pos [] x.1) fun n => ret (n, true) else ret (x.1.headD 0, false))) s = some r at hr
  refine FnP.of_body (fn := Tryd.f58) [(0, _), (1, _)] Tryd.func58 rfl Tryd.ntmps58 rfl ⟨rfl, rfl, trivial⟩ ?_
  refine CX.seq <| CX.region <| LX.pure (Y.assign rfl) rfl rfl rfl <| LX.pure (Y.assign rfl) rfl rfl rfl <| LX.sub (l' := [(0, _), (1, _), (4, _), (5, _)]) ⟨rfl, rfl, rfl, rfl, trivial⟩ <| LX.next <| PX.thenN <| CX.seq <| CX.region <| LX.pure (Y.move rfl) rfl rfl rfl ?_
  obtain ⟨t0, ht0, hr⟩ := Go.Pa.tok_bnd hr
  have hp0 : inI t0.pos := by obtain ⟨_, _, _, _, _, rfl, _, h⟩ := hL _ _ ht0; exact h
  refine LX.callQ (pos_q ht0 (fun w hw => blkL hw (i := 0) rfl) (fun w hw => hL.push hw)) Pc.en36 rfl rfl rfl rfl rfl <| LX.pure (Y.assign rfl) rfl rfl rfl <| LX.sub (l' := [(0, _), (1, _), (4, _), (5, _), (6, _)]) ⟨rfl, rfl, rfl, rfl, rfl, trivial⟩ <| LX.next <| PX.thenN <| CX.seq <| CX.region <| LX.pure (Y.move rfl) rfl rfl rfl ?_
  obtain ⟨r0, e0, hok0, hst0⟩ := Go.Pa.bnd_some hr
  refine LX.callP (hOne n (Nat.le_refl _) s m (fr) r0 e0 hnd) Pr_.en68 rfl rfl rfl rfl rfl (fun y => fun _ w ha hw => ⟨ha.defs, .inr ⟨y, rfl, hst0 _ _ hw.1, hw.2⟩⟩) ?_
  rintro ⟨k, s0, m0⟩
  refine LX.have fun ⟨hr0, hnd0, hk0⟩ => ?_
  replace hr := hok0 _ _ hr0
  try dsimp only
  refine LX.buildSlice (e := 3) (size := 1) rfl rfl (fun _ => by kernel_rfl) rfl (by decide) rfl rfl rfl ?_
  intro gL
  refine LX.pure (Y.assign rfl) rfl rfl rfl <| LX.sub (l' := [(0, _), (1, _), (4, _), (5, _), (6, _), (7, _)]) ⟨rfl, rfl, rfl, rfl, rfl, rfl, trivial⟩ <| LX.next <| PX.thenN <| CX.seq <| CX.region <| LX.pure (Y.assign rfl) rfl rfl rfl <| LX.sub (l' := [(0, _), (1, _), (4, _), (5, _), (6, _), (7, _), (8, _)]) ⟨rfl, rfl, rfl, rfl, rfl, rfl, rfl, trivial⟩ <| LX.next <| PX.thenN <| CX.seq <| CX.block ?_
  refine CX.loop (fun z : List Int × (Option Nat × Nat) × Bool × Go.Pa.St × Mm × Nat => [(0, .pointer (some ⟨bp, 0, none⟩)), (1, str e), (6, .int .i64 t0.pos), (7, rv z.2.1.1 z.1.length z.2.1.2), (8, .bool z.2.2.1)]) (fun (z : List Int × (Option Nat × Nat) × Bool × Go.Pa.St × Mm × Nat) w => (((bnd (Go.Pa.run L nameB z.2.2.2.2.2 (.someGo e z.1 z.2.2.1)) (fun x : List Int × Bool => if x.2 then bnd (node 8 t0.pos [] x.1) fun n => ret (n, true) else ret (x.1.headD 0, false))) z.2.2.2.1 = some r ∧ z.2.2.2.2.2 ≤ n) ∧ NdsR 3 z.2.2.2.2.1.rs z.2.2.2.2.1.cells z.2.2.2.1.out ∧ z.1 ≠ [] ∧ (∀ x ∈ z.1, gI x) ∧ z.1.length ≤ 1000000) ∧ WA w0 base (PWl bp al L cl z.2.2.2.1 z.2.2.2.2.1 (.row z.2.1.1 z.2.1.2 z.1.length 3 1 (z.1.map iv) :: fr)) w) (fun z => z.2.2.2.2.2) ([k], (some gL, 1), false, s0, m0, n) ⟨rfl, rfl, rfl, rfl, rfl, trivial⟩ (fun w hw => ⟨⟨⟨hr, Nat.le_refl _⟩, hnd0, by simp, (fun z hz => by cases List.mem_singleton.1 hz; exact hk0), by simp⟩, (show WA w0 base (.row (some gL) 1 1 3 1 ([k].map iv) :: PWl bp al L cl s0 m0 fr) w from hw).perm (show List.Perm (PWl bp al L cl s0 m0 (.row (some gL) 1 1 3 1 ([k].map iv) :: fr)) _ by (refine perm_cnt fun x => ?_; simp only [PWl, PBl, ROl, z1, z2, z3, z4, z5, z6]; omega))⟩) ?_
  clear hr hr0 hnd0 hk0 hok0 hst0 e0
  rintro ⟨l, ⟨g, c⟩, cm, s1, m1, j⟩
  refine CX.have fun ⟨⟨hr, hjn⟩, hnd1, hl0, hg, hlm⟩ => ?_
  replace hlm : l.length ≤ 1000000 := hlm
  replace hr : (bnd (Go.Pa.run L nameB j (.someGo e l cm)) (fun x : List Int × Bool => if x.2 then bnd (node 8 t0.pos [] x.1) fun n => ret (n, true) else ret (x.1.headD 0, false))) s1 = some r := hr
  replace hjn : j ≤ n := hjn
  replace hnd1 : NdsR 3 m1.rs m1.cells s1.out := hnd1
  replace hg : ∀ x ∈ l, gI x := hg
  replace hl0 : l ≠ [] := hl0
  try dsimp only
  obtain ⟨j, rfl⟩ : ∃ i, j = i + 1 := by
    cases j with
    | zero => cases hr
    | succ i => exact ⟨i, rfl⟩
  rw [show Go.Pa.run L nameB (j + 1) (.someGo e l cm) = (bnd (take L [44]) fun b => if b then bnd (is_ L [e]) fun b => if b then ret (l, true) else bnd (Go.Pa.run L nameB j .one) fun k => Go.Pa.grow l (Go.Pa.run L nameB j (.someGo e (l ++ [k]) true)) else ret (l, cm)) from rfl, Go.Pa.bnd_assoc] at hr
  obtain ⟨t, ht, hT, hF⟩ := Go.Pa.take_bnd hr
  have hgh : gI (l.headD 0) := by
    cases l with
    | nil => exact absurd rfl hl0
    | cons a r => exact hg a (List.mem_cons_self ..)
  have hll : l.length ≤ 9223372036854775807 := Nat.le_trans hlm (by decide)
  refine CX.seq <| CX.seq <| CX.region <| LX.pure (Y.move rfl) rfl rfl rfl <| LX.call (take_c hL hln ht [44]) Pd.en40 rfl rfl rfl rfl rfl ?_
  intro _
  refine LX.sub (l' := [(0, _), (1, _), (6, _), (7, _), (8, _), (15, _)]) ⟨rfl, rfl, rfl, rfl, rfl, rfl, trivial⟩ <| LX.next <| PX.thenN ?_
  refine CX.cond rfl (fun hb1 => ?_) (fun hb1 => ?_)
  · try simp at hb1
    rw [show isB t [[44]] = true from hb1]
    replace hr := hT hb1
    refine CX.world (W' := WA w0 base (PWl bp al L cl s1.adv m1 (.row g c l.length 3 1 (l.map iv) :: fr))) (fun w hw => hw) ?_
    rw [if_pos rfl, Go.Pa.bnd_assoc] at hr
    obtain ⟨t3, ht3, hr⟩ := Go.Pa.is_bnd hr
    refine CX.skip <| PX.thenN <| CX.block <| CX.seq <| CX.region <| LX.pure (Y.assign rfl) rfl rfl rfl <| LX.sub (l' := [(0, _), (1, _), (6, _), (7, _), (8, _)]) ⟨rfl, rfl, rfl, rfl, rfl, trivial⟩ <| LX.next <| PX.thenN <| CX.seq <| CX.seq <| CX.region <| LX.pure (Y.move rfl) rfl rfl rfl <| LX.pure (Y.move rfl) rfl rfl rfl <| LX.buildSlice (e := 9) (size := 1) rfl rfl (fun _ => by kernel_rfl) rfl (by decide) rfl rfl rfl ?_
    intro gS
    refine LX.callQ (is_q ht3 _ (ss := [e]) (by simp) (fun w hw => blkL hw (i := 1) rfl) (fun w hw => hL.push hw) (fun w hw => row_at hw (j := 0) rfl rfl (by decide) (fun i z h => map_A (f := str) (xs := [e]) h))) Pd.en20 rfl rfl rfl rfl rfl <| LX.world (W' := WA w0 base (PWl bp al L cl s1.adv m1 (.row g c l.length 3 1 (l.map iv) :: fr))) (fun w hw => hw.drop (List.sublist_cons_self _ _)) <| LX.sub (l' := [(0, _), (1, _), (6, _), (7, _), (8, _), (19, _)]) ⟨rfl, rfl, rfl, rfl, rfl, rfl, trivial⟩ <| LX.next <| PX.thenN ?_
    refine CX.cond rfl (fun hb2 => ?_) (fun hb2 => ?_)
    · try simp at hb2
      rw [show isB t3 [e] = true from hb2, if_pos rfl] at hr
      replace hr := Go.Pa.ret_bnd hr
      rw [if_pos rfl] at hr
      refine CX.exit <| PX.thenE <| PX.blockO rfl <| PX.thenE <| PX.blockE <| PX.thenN <| CX.seq <| CX.seq <| CX.region <| LX.pure (Y.move rfl) rfl rfl rfl <| LX.pure (Y.not rfl) rfl rfl rfl <| LX.sub (l' := [(0, _), (6, _), (7, _), (26, _)]) ⟨rfl, rfl, rfl, rfl, trivial⟩ <| LX.next <| PX.thenN ?_
      refine CX.cond rfl (fun hb3 => ?_) (fun hb3 => ?_)
      · try simp at hb3
        done
      try simp at hb3
      refine CX.skip <| PX.thenN <| CX.seq <| CX.region <| LX.pure (Y.move rfl) rfl rfl rfl <| LX.pure (Y.move rfl) rfl rfl rfl <| LX.pure (Y.move rfl) rfl rfl rfl ?_
      obtain ⟨hlen, hr⟩ := Go.Pa.node_bnd hr
      refine LX.call (node_c (s := s1.adv) (m := m1) (8) t0.pos [] (g.map fun b => ⟨b, 0, none⟩) l.length c l hlen) Pe.en15 rfl rfl rfl rfl rfl ?_
      intro q
      refine LX.pure (Y.assign rfl) rfl rfl rfl <| LX.pure (Y.assign rfl) rfl rfl rfl <| LX.sub (l' := [(4, _), (5, _)]) ⟨rfl, rfl, trivial⟩ <| LX.next <| PX.thenN <| CX.ret <| PX.ret2 (by simp) Tryd.results58 rfl rfl ?_
      exact fun w hw0 => by
        have hw := (show WA w0 base (PBl bp al L cl (s1.adv.nod 8 t0.pos [] l) (m1.put q 8 t0.pos [] (rv g l.length c) (m1.rs)) :: ROl (s1.adv.nod 8 t0.pos [] l) (m1.put q 8 t0.pos [] (rv g l.length c) (m1.rs)) :: (m1.rs ++ (.row g c l.length 3 1 (l.map iv) :: fr))) w from hw0).perm (show List.Perm (PBl bp al L cl (s1.adv.nod 8 t0.pos [] l) (m1.put q 8 t0.pos [] (rv g l.length c) (m1.rs)) :: ROl (s1.adv.nod 8 t0.pos [] l) (m1.put q 8 t0.pos [] (rv g l.length c) (m1.rs)) :: .row g c l.length 3 1 (l.map iv) :: (m1.rs ++ fr)) _ by (refine perm_cnt fun x => ?_; simp only [PWl, PBl, ROl, z1, z2, z3, z4, z5, z6]; omega))
        exact .inl ⟨(((s1.adv.out.length : Int), true), (s1.adv.nod 8 t0.pos [] l), (m1.put q 8 t0.pos [] (rv g l.length c) (.row g c l.length 3 1 (l.map iv) :: m1.rs))), rfl, ⟨Go.Pa.ret_end hr, put_nds (op := 8) (pos := t0.pos) (x := []) hnd1 hw (i := 2) (ks := l) rfl (fun z hz => (hg z hz).inI) hll (by unfold Go.SX.inI; omega) hp0, gI.len hlen⟩, hw⟩
    try simp at hb2
    rw [show isB t3 [e] = false from hb2, if_neg Bool.false_ne_true, Go.Pa.bnd_assoc] at hr
    refine CX.skip <| PX.thenN <| CX.region <| LX.pure (Y.move rfl) rfl rfl rfl <| LX.pure (Y.move rfl) rfl rfl rfl ?_
    obtain ⟨r2, e2, hok2, hst2⟩ := Go.Pa.bnd_some hr
    refine LX.callP (hOne j (by omega) s1.adv m1 ((.row g c l.length 3 1 (l.map iv) :: fr)) r2 e2 hnd1) Pr_.en68 rfl rfl rfl rfl rfl (fun y => fun _ w ha hw => ⟨ha.defs, .inr ⟨y, rfl, hst2 _ _ hw.1, hw.2.drop (.cons_cons _ (List.sublist_cons_self _ _))⟩⟩) ?_
    rintro ⟨k2, s2, m2⟩
    refine LX.have fun ⟨hr2, hnd2, hk2⟩ => ?_
    replace hr := hok2 _ _ hr2
    try dsimp only
    obtain ⟨hlg, hr⟩ := Go.Pa.grow_bnd hr
    refine LX.buildSlice (e := 3) (size := 1) rfl rfl (fun _ => by kernel_rfl) rfl (by decide) rfl rfl rfl ?_
    intro gT
    refine LX.world (W' := WA w0 base (.row (some gT) 1 1 3 1 [.int .i64 k2] :: .row g c l.length 3 1 (l.map iv) :: PWl bp al L cl s2 m2 fr)) (fun w hw => (show WA w0 base (.row (some gT) 1 1 3 1 [.int .i64 k2] :: PWl bp al L cl s2 m2 (.row g c l.length 3 1 (l.map iv) :: fr)) w from hw).perm (by (refine perm_cnt fun x => ?_; simp only [PWl, PBl, ROl, z1, z2, z3, z4, z5, z6]; omega))) ?_
    refine LX.appendT 0 Pk.el29 rfl rfl rfl rfl rfl rfl rfl (by omega) (by omega) rfl rfl rfl ?_
    intro g' cap'
    rw [show l.length + 1 = (l ++ [k2]).length by simp]
    refine LX.world (W' := WA w0 base (PWl bp al L cl s2 m2 (.row g' cap' (l ++ [k2]).length 3 1 ((l ++ [k2]).map iv) :: fr))) (fun w hw => ?_) ?_
    · have h1 : WA w0 base (.row g' cap' (l ++ [k2]).length 3 1 ((l ++ [k2]).map iv) :: PWl bp al L cl s2 m2 fr) w := by rw [← iv_snoc]; exact hw
      exact h1.perm (by (refine perm_cnt fun x => ?_; simp only [PWl, PBl, ROl, z1, z2, z3, z4, z5, z6]; omega))
    refine LX.pure (Y.assign rfl) rfl rfl rfl <| LX.sub (l' := [(0, _), (1, _), (6, _), (7, _), (8, _)]) ⟨rfl, rfl, rfl, rfl, rfl, trivial⟩ <| LX.next <| PX.blockN ?_
    exact PX.again (μ := fun z => z.2.2.2.2.2) (i := (l, (g, c), cm, s1, m1, j + 1)) (l ++ [k2], (g', cap'), true, s2, m2, j) (by show j < j + 1; omega) ⟨rfl, rfl, rfl, rfl, rfl, trivial⟩ (fun w hw => ⟨⟨⟨hr, by show j ≤ n; omega⟩, hnd2, by simp, gI_snoc hg hk2, by show (l ++ [k2]).length ≤ 1000000; rw [List.length_append, List.length_singleton]; omega⟩, hw⟩)
  try simp at hb1
  rw [show isB t [[44]] = false from hb1]
  replace hr := hF hb1
  refine CX.world (W' := WA w0 base (PWl bp al L cl s1 m1 (.row g c l.length 3 1 (l.map iv) :: fr))) (fun w hw => hw) ?_
  rw [if_neg Bool.false_ne_true] at hr
  replace hr := Go.Pa.ret_bnd hr
  refine CX.exit <| PX.thenE <| PX.thenE <| PX.blockE <| PX.thenN <| CX.seq <| CX.seq <| CX.region <| LX.pure (Y.move rfl) rfl rfl rfl <| LX.pure (Y.not rfl) rfl rfl rfl <| LX.sub (l' := [(0, _), (6, _), (7, _), (26, _)]) ⟨rfl, rfl, rfl, rfl, trivial⟩ <| LX.next <| PX.thenN ?_
  refine CX.cond rfl (fun hb4 => ?_) (fun hb4 => ?_)
  · try simp at hb4
    subst hb4
    refine CX.seq <| CX.region ?_
    refine LX.world (W' := WA w0 base (.row g c l.length 3 1 (l.map iv) :: PWl bp al L cl s1 m1 fr)) (fun w hw => (show WA w0 base (PWl bp al L cl s1 m1 (.row g c l.length 3 1 (l.map iv) :: fr)) w from hw).perm (by (refine perm_cnt fun x => ?_; simp only [PWl, PBl, ROl, z1, z2, z3, z4, z5, z6]; omega))) ?_
    refine LX.pure (Y.move rfl) rfl rfl rfl <| LX.pure (Y.idxR 0 (i := 0) Pb.un29 Pb.sz3 rfl rfl rfl (List.length_pos_iff.2 hl0)) rfl rfl rfl <| LX.pure (Y.ldR 0 (v := .int .i64 (l.headD 0)) Pa.one3 rfl rfl (iv_head hl0)) rfl rfl rfl <| LX.pure (Y.assign rfl) rfl rfl rfl <| LX.pure (Y.assign rfl) rfl rfl rfl <| LX.sub (l' := [(0, _), (4, _), (5, _), (6, _), (7, _)]) ⟨rfl, rfl, rfl, rfl, rfl, trivial⟩ <| LX.next <| PX.thenN <| CX.ret <| PX.thenR <| PX.ret2 (by simp) Tryd.results58 rfl rfl ?_
    exact fun w hw0 => .inl ⟨((l.headD 0, false), s1, m1), rfl, ⟨by rw [if_neg Bool.false_ne_true] at hr; exact Go.Pa.ret_end hr, hnd1, hgh⟩, hw0.drop (List.sublist_cons_self _ _)⟩
  try simp at hb4
  subst hb4
  rw [if_pos rfl] at hr
  refine CX.skip <| PX.thenN <| CX.seq <| CX.region <| LX.pure (Y.move rfl) rfl rfl rfl <| LX.pure (Y.move rfl) rfl rfl rfl <| LX.pure (Y.move rfl) rfl rfl rfl ?_
  obtain ⟨hlen, hr⟩ := Go.Pa.node_bnd hr
  refine LX.call (node_c (s := s1) (m := m1) (8) t0.pos [] (g.map fun b => ⟨b, 0, none⟩) l.length c l hlen) Pe.en15 rfl rfl rfl rfl rfl ?_
  intro q
  refine LX.pure (Y.assign rfl) rfl rfl rfl <| LX.pure (Y.assign rfl) rfl rfl rfl <| LX.sub (l' := [(4, _), (5, _)]) ⟨rfl, rfl, trivial⟩ <| LX.next <| PX.thenN <| CX.ret <| PX.ret2 (by simp) Tryd.results58 rfl rfl ?_
  exact fun w hw0 => by
    have hw := (show WA w0 base (PBl bp al L cl (s1.nod 8 t0.pos [] l) (m1.put q 8 t0.pos [] (rv g l.length c) (m1.rs)) :: ROl (s1.nod 8 t0.pos [] l) (m1.put q 8 t0.pos [] (rv g l.length c) (m1.rs)) :: (m1.rs ++ (.row g c l.length 3 1 (l.map iv) :: fr))) w from hw0).perm (show List.Perm (PBl bp al L cl (s1.nod 8 t0.pos [] l) (m1.put q 8 t0.pos [] (rv g l.length c) (m1.rs)) :: ROl (s1.nod 8 t0.pos [] l) (m1.put q 8 t0.pos [] (rv g l.length c) (m1.rs)) :: .row g c l.length 3 1 (l.map iv) :: (m1.rs ++ fr)) _ by (refine perm_cnt fun x => ?_; simp only [PWl, PBl, ROl, z1, z2, z3, z4, z5, z6]; omega))
    exact .inl ⟨(((s1.out.length : Int), true), (s1.nod 8 t0.pos [] l), (m1.put q 8 t0.pos [] (rv g l.length c) (.row g c l.length 3 1 (l.map iv) :: m1.rs))), rfl, ⟨Go.Pa.ret_end hr, put_nds (op := 8) (pos := t0.pos) (x := []) hnd1 hw (i := 2) (ks := l) rfl (fun z hz => (hg z hz).inI) hll (by unfold Go.SX.inI; omega) hp0, gI.len hlen⟩, hw⟩
theorem tuple_p {w0 : World} {base : Nat} {aE : Nat → Addr} {bp : Nat} {al : Option Addr} {cl : Nat} {L : List Tk} {n : Nat} (hMany : FS w0 base aE al cl L bp 59 #[.pointer (some ⟨bp, 0, none⟩)] (fun z : Int × Bool => .tuple #[.int .i64 z.1, .bool z.2]) (fun z => gI z.1) (.many) n) : FS w0 base aE al cl L bp 43 #[.pointer (some ⟨bp, 0, none⟩)] (fun z : Int × Bool => .int .i64 z.1) (fun z => gI z.1) (.many) n := by
  intro s m fr r hr hnd
  refine FnP.of_body (fn := Tryd.f43) [(0, _)] Tryd.func43 rfl Tryd.ntmps43 rfl ⟨rfl, trivial⟩ ?_
  refine CX.seq <| CX.region <| LX.pure (Y.assign rfl) rfl rfl rfl <| LX.sub (l' := [(0, _), (2, _)]) ⟨rfl, rfl, trivial⟩ <| LX.next <| PX.thenN <| CX.seq <| CX.region <| LX.pure (Y.move rfl) rfl rfl rfl <| LX.callP (hMany s m fr r hr hnd) Pl.en59 rfl rfl rfl rfl rfl (fun y => fun _ w ha hw => ⟨ha.defs, .inr ⟨y, rfl, hw.1, hw.2⟩⟩) ?_
  rintro ⟨⟨kE, cE⟩, sE, mE⟩
  refine LX.have fun ⟨hrE, hndE, hkE⟩ => ?_
  try dsimp only
  refine LX.pure (Y.move rfl) rfl rfl rfl <| LX.pure (Y.extract rfl rfl) rfl rfl rfl <| LX.pure (Y.extract rfl rfl) rfl rfl rfl <| LX.pure (Y.assign rfl) rfl rfl rfl <| LX.pure (Y.assign rfl) rfl rfl rfl <| LX.sub (l' := [(2, _), (3, _)]) ⟨rfl, rfl, trivial⟩ <| LX.next <| PX.thenN <| CX.seq <| CX.region <| LX.pure (Y.move rfl) rfl rfl rfl <| LX.pure (Y.assign rfl) rfl rfl rfl <| LX.sub (l' := [(2, _)]) ⟨rfl, trivial⟩ <| LX.next <| PX.thenN <| CX.ret <| PX.ret1 (by simp) Tryd.results43 rfl ?_
  exact fun w hw => .inl ⟨((kE, cE), sE, mE), rfl, ⟨hrE, hndE, hkE⟩, hw⟩
theorem targets_p {w0 : World} {base : Nat} {aE : Nat → Addr} {bp : Nat} {al : Option Addr} {cl : Nat} {L : List Tk} {n : Nat} {e : List UInt8} (hSome : FS w0 base aE al cl L bp 58 #[.pointer (some ⟨bp, 0, none⟩), str e] (fun z : Int × Bool => .tuple #[.int .i64 z.1, .bool z.2]) (fun z => gI z.1) (.some_ e) n) : FS w0 base aE al cl L bp 42 #[.pointer (some ⟨bp, 0, none⟩), str e] (fun z : Int × Bool => .int .i64 z.1) (fun z => gI z.1) (.some_ e) n := by
  intro s m fr r hr hnd
  refine FnP.of_body (fn := Tryd.f42) [(0, _), (1, _)] Tryd.func42 rfl Tryd.ntmps42 rfl ⟨rfl, rfl, trivial⟩ ?_
  refine CX.seq <| CX.region <| LX.pure (Y.assign rfl) rfl rfl rfl <| LX.sub (l' := [(0, _), (1, _), (4, _)]) ⟨rfl, rfl, rfl, trivial⟩ <| LX.next <| PX.thenN <| CX.seq <| CX.region <| LX.pure (Y.move rfl) rfl rfl rfl <| LX.pure (Y.move rfl) rfl rfl rfl <| LX.callP (hSome s m fr r hr hnd) Pr_.en58 rfl rfl rfl rfl rfl (fun y => fun _ w ha hw => ⟨ha.defs, .inr ⟨y, rfl, hw.1, hw.2⟩⟩) ?_
  rintro ⟨⟨kE, cE⟩, sE, mE⟩
  refine LX.have fun ⟨hrE, hndE, hkE⟩ => ?_
  try dsimp only
  refine LX.pure (Y.move rfl) rfl rfl rfl <| LX.pure (Y.extract rfl rfl) rfl rfl rfl <| LX.pure (Y.extract rfl rfl) rfl rfl rfl <| LX.pure (Y.assign rfl) rfl rfl rfl <| LX.pure (Y.assign rfl) rfl rfl rfl <| LX.sub (l' := [(4, _), (5, _)]) ⟨rfl, rfl, trivial⟩ <| LX.next <| PX.thenN <| CX.seq <| CX.region <| LX.pure (Y.move rfl) rfl rfl rfl <| LX.pure (Y.assign rfl) rfl rfl rfl <| LX.sub (l' := [(4, _)]) ⟨rfl, trivial⟩ <| LX.next <| PX.thenN <| CX.ret <| PX.ret1 (by simp) Tryd.results42 rfl ?_
  exact fun w hw => .inl ⟨((kE, cE), sE, mE), rfl, ⟨hrE, hndE, hkE⟩, hw⟩
end Go.Proofs.YtfbenelagdcdgaaDoor

namespace Go.Proofs.YtfbenelagdcdgaaDoor
open Go.SX Go.RowKit Go.Tr Go.Lex
namespace Pt_
theorem ag31 : AggT Tryd.prog 31 5 := AggT.of (by kernel_rfl) (by kernel_rfl)
theorem en48 : Enters Tryd.prog 48 := Enters.of Tryd.func48 (by kernel_rfl) (by kernel_rfl)
theorem fa31_0 : FieldOffA Tryd.prog 31 0 0 := fun a w => by kernel_rfl
theorem fa31_4 : FieldOffA Tryd.prog 31 4 4 := fun a w => by kernel_rfl
theorem fo31_0 : FieldOff Tryd.prog 31 0 0 := fun b o w => by kernel_rfl
theorem fo31_4 : FieldOff Tryd.prog 31 4 4 := fun b o w => by kernel_rfl
theorem one29 : One Tryd.prog 29 := fun w => by kernel_rfl
theorem zv31 : ∀ w, (zeroValue 31).run Tryd.prog w = .ok (.agg #[.int .i64 0, .int .i64 0, .int .i64 0, .string ⟨#[]⟩, .slice none 0 0]) w := fun w => by kernel_rfl
end Pt_
open Go.RowKit
section
variable {P : Program} {l : Fr} {t ty : TypeId} {x y : Operand} {w0 : World} {base : Nat} {its : List It} {v : Value}
theorem Y.ldS1 {a : Addr} {dl : List It} (ht : One P t) (hx : evl l x = some (.pointer (some a))) (h : See w0 base dl a [v]) (hs : ∀ it ∈ dl, it ∈ its) : Y P l (WA w0 base its) (.load t x) ty v :=
  Y.load ht hx fun w hw => by have := ((See.lies hw _ _ (See.more hs _ _ h)).at_ 0 v rfl).2; rwa [add_zero2] at this
end
open Go.Proofs.YtfbenelagdcdgaaDoor.Env (EnvS errV sentG)
open Go.Pa (Tk Rs bnd ret isB is_ adv bad take must kinds inn outn node nodeAt setPos)
open Go.Ck (NdsR)
theorem target_same (L : List Tk) (s : Go.Pa.St) : ∀ n, (∀ (k : Int) (r : Rs Bool), Go.Pa.run L nameB n (.target k) s = some r → ∃ b, r = .ok b s) ∧ ∀ (ks : List Int) (r : Rs Bool), Go.Pa.run L nameB n (.targetGo ks) s = some r → ∃ b, r = .ok b s
  | 0 => ⟨fun k r h => (by cases h), fun ks r h => (by cases h)⟩
  | n + 1 => by
    obtain ⟨h1, h2⟩ := target_same L s n
    refine ⟨fun k r h => ?_, fun ks r h => ?_⟩
    · change (bnd (nodeAt k) fun x => if x.op ≠ 8 then ret (decide (x.op = 6) || decide (x.op = 13)) else bnd (Go.Pa.run L nameB n (.targetGo x.kids)) fun b => ret (b && decide (0 < x.kids.length))) s = some r at h
      obtain ⟨x, hk, hx, h⟩ := Go.Pa.nodeAt_bnd h
      by_cases ho : x.op ≠ 8
      · rw [if_pos ho] at h; exact ⟨_, Go.Pa.ret_end h⟩
      rw [if_neg ho] at h
      obtain ⟨r1, e1, hok, hst⟩ := Go.Pa.bnd_some h
      obtain ⟨b, rfl⟩ := h2 _ _ e1
      exact ⟨_, Go.Pa.ret_end (hok _ _ rfl)⟩
    cases ks with
    | nil => exact ⟨_, Go.Pa.ret_end h⟩
    | cons k ks =>
      change (bnd (Go.Pa.run L nameB n (.target k)) fun b => if b then Go.Pa.run L nameB n (.targetGo ks) else ret false) s = some r at h
      obtain ⟨r1, e1, hok, hst⟩ := Go.Pa.bnd_some h
      obtain ⟨b, rfl⟩ := h1 _ _ e1
      have h3 := hok _ _ rfl
      cases b with
      | true => exact h2 _ _ h3
      | false => exact ⟨_, Go.Pa.ret_end h3⟩
/-- whether a node may be set: nothing is changed -/
def TS (w0 : World) (base : Nat) (al : Option Addr) (cl : Nat) (L : List Tk) (bp : Nat) (n : Nat) : Prop :=
  ∀ (k : Int) (s : Go.Pa.St) (m : Mm) (fr : List It) (b : Bool), Go.Pa.run L nameB n (.target k) s = some (.ok b s) → NdsR 3 m.rs m.cells s.out → FnC Tryd.prog 48 #[.pointer (some ⟨bp, 0, none⟩), .int .i64 k] (WA w0 base (PWl bp al L cl s m fr)) (fun _ : Unit => .bool b) (fun _ => WA w0 base (PWl bp al L cl s m fr))
theorem target_c {w0 : World} {base : Nat} {bp : Nat} {al : Option Addr} {cl : Nat} {L : List Tk} (n : Nat) (hSelf : ∀ j, j ≤ n → TS w0 base al cl L bp j) : TS w0 base al cl L bp (n + 1) := by
  intro k s m fr b hr hnd
  change (bnd (nodeAt k) fun x => if x.op ≠ 8 then ret (decide (x.op = 6) || decide (x.op = 13)) else bnd (Go.Pa.run L nameB n (.targetGo x.kids)) fun b => ret (b && decide (0 < x.kids.length))) s = some (.ok b s) at hr
  obtain ⟨x, hx0, hx, hr⟩ := Go.Pa.nodeAt_bnd hr
  obtain ⟨hxl, hxc, vk, h5, ⟨av, ck, rfl, ⟨hc1, hc2⟩, hA⟩, ho1, ho2, ho3⟩ := (hnd.toF w0 base).five hx
  refine FnC.of_body (fn := Tryd.f48) [(0, _), (1, _)] Tryd.func48 rfl Tryd.ntmps48 rfl ⟨rfl, rfl, trivial⟩ ?_
  refine CX.seq <| CX.region <| LX.pure (Y.assign rfl) rfl rfl rfl <| LX.sub (l' := [(0, _), (1, _), (4, _)]) ⟨rfl, rfl, rfl, trivial⟩ <| LX.next <| PX.thenN <| CX.seq <| CX.region <| LX.pure (Y.move rfl) rfl rfl rfl <| LX.pure (Y.nilCheck rfl) rfl rfl rfl <| LX.pure (Y.fieldAddr0 Pd.fo41_2 rfl) rfl rfl rfl <| LX.pure (Y.ldB 0 Pd.one23 rfl rfl rfl) rfl rfl rfl <| LX.pure (Y.move rfl) rfl rfl rfl <| LX.pure (Y.idxRZ 1 (i := k.toNat) Pd.un23 Pl.sz31 rfl rfl (Int.toNat_of_nonneg hx0).symm rfl hxl) rfl rfl rfl <| LX.pure (Y.ldAggR 1 (off := k.toNat * 5) (vs := [.int .i64 x.op, .int .i64 x.n, .int .i64 x.pos, str x.s, .slice av x.kids.length ck]) Pt_.ag31 rfl rfl h5 rfl) rfl rfl rfl <| LX.alloc rfl Pt_.zv31 rfl rfl rfl ?_
  intro b5
  refine LX.storeA 0 Pt_.ag31 rfl rfl rfl rfl rfl rfl rfl rfl rfl <| LX.sub (l' := [(0, _), (4, _), (5, _)]) ⟨rfl, rfl, rfl, trivial⟩ <| LX.next <| PX.thenN <| CX.seq <| CX.seq <| CX.region <| LX.pure (Y.fieldAddr0 Pt_.fo31_0 rfl) rfl rfl rfl <| LX.pure (Y.ldB 0 Pa.one3 rfl rfl rfl) rfl rfl rfl <| LX.pure (Y.neI rfl rfl) rfl rfl rfl <| LX.sub (l' := [(0, _), (4, _), (5, _), (17, _)]) ⟨rfl, rfl, rfl, rfl, trivial⟩ <| LX.next <| PX.thenN ?_
  refine CX.cond rfl (fun hb1 => ?_) (fun hb1 => ?_)
  · try simp at hb1
    rw [if_pos hb1] at hr
    refine CX.seq <| CX.region <| LX.pure (Y.fieldAddr0 Pt_.fo31_0 rfl) rfl rfl rfl <| LX.pure (Y.ldB 0 Pa.one3 rfl rfl rfl) rfl rfl rfl <| LX.pure (Y.eqI rfl rfl) rfl rfl rfl <| LX.pure (Y.move rfl) rfl rfl rfl <| LX.sub (l' := [(0, _), (4, _), (5, _), (21, _)]) ⟨rfl, rfl, rfl, rfl, trivial⟩ ?_
    apply LX.joinOr 4 25 21 rfl
    · intro hb2
      have hb2p := hb2
      try simp at hb2p
      refine LX.gF rfl rfl rfl hb2 rfl rfl <| LX.gF rfl rfl rfl hb2 rfl rfl <| LX.gF rfl rfl rfl hb2 rfl rfl <| LX.pure (Y.pickT rfl hb2 rfl) rfl rfl rfl ?_
      exact LX.left ⟨rfl, rfl, rfl, rfl, rfl, trivial⟩
    · intro hb2
      have hb2p := hb2
      try simp at hb2p
      refine LX.gT rfl rfl rfl hb2 (Y.fieldAddr0 Pt_.fo31_0 rfl) rfl rfl <| LX.gT rfl rfl rfl hb2 (Y.ldB 0 Pa.one3 rfl rfl rfl) rfl rfl <| LX.gT rfl rfl rfl hb2 (Y.eqI rfl rfl) rfl rfl <| LX.pure (Y.pickF rfl hb2 rfl) rfl rfl rfl ?_
      exact LX.left ⟨rfl, rfl, rfl, rfl, rfl, trivial⟩
    refine LX.pure (Y.assign rfl) rfl rfl rfl <| LX.sub (l' := [(0, _), (4, _), (5, _)]) ⟨rfl, rfl, rfl, trivial⟩ <| LX.next <| PX.thenN <| CX.ret <| PX.thenR <| PX.ret1 (by simp) Tryd.results48 rfl ?_
    exact fun w hw => ⟨(), congrArg (fun z => Ending.returned (Value.bool z)) (by have := Go.Pa.ret_end hr; injection this with h1 h2; rw [h1] <;> simp), hw.drop (List.sublist_cons_self _ _)⟩
  try simp at hb1
  rw [if_neg (fun h => h hb1)] at hr
  refine CX.skip <| PX.thenN <| CX.seq <| CX.seq <| CX.region <| LX.pure (Y.fieldAddr0 Pt_.fo31_4 rfl) rfl rfl rfl <| LX.pure (Y.ldB 0 Pt_.one29 rfl rfl rfl) rfl rfl rfl <| LX.pure (Y.lenSl rfl Pb.un29 rfl) rfl rfl rfl <| LX.pure (Y.move rfl) rfl rfl rfl <| LX.sub (l' := [(0, _), (4, _), (5, _), (27, _), (28, _), (29, _)]) ⟨rfl, rfl, rfl, rfl, rfl, rfl, trivial⟩ <| LX.next <| PX.thenN <| CX.block <| CX.loop (fun z : Nat × Nat => [(0, .pointer (some ⟨bp, 0, none⟩)), (5, .pointer (some ⟨b5, 0, none⟩)), (27, .slice av x.kids.length ck), (28, .int .i64 (x.kids.length : Int)), (29, .int .i64 (z.1 : Int))]) (fun (z : Nat × Nat) w => ((bnd (Go.Pa.run L nameB z.2 (.targetGo (x.kids.drop z.1))) (fun b => ret (b && decide (0 < x.kids.length)))) s = some (.ok b s) ∧ z.2 ≤ n ∧ z.1 ≤ x.kids.length) ∧ WA w0 base (blk b5 [.int .i64 x.op, .int .i64 x.n, .int .i64 x.pos, str x.s, .slice av x.kids.length ck] 31 :: PWl bp al L cl s m fr) w) (fun z => z.2) (0, n) ⟨rfl, rfl, rfl, rfl, rfl, trivial⟩ (fun w hw => ⟨⟨hr, Nat.le_refl _, Nat.zero_le _⟩, hw⟩) ?_
  clear hr
  rintro ⟨i, j⟩
  refine CX.have fun ⟨hr, hjn, hi1⟩ => ?_
  replace hr : (bnd (Go.Pa.run L nameB j (.targetGo (x.kids.drop i))) (fun b => ret (b && decide (0 < x.kids.length)))) s = some (.ok b s) := hr
  replace hjn : j ≤ n := hjn
  replace hi1 : i ≤ x.kids.length := hi1
  try dsimp only
  obtain ⟨j, rfl⟩ : ∃ i, j = i + 1 := by
    cases j with
    | zero => cases hr
    | succ i => exact ⟨i, rfl⟩
  refine CX.seq <| CX.region <| LX.pure (Y.ltN rfl rfl) rfl rfl rfl <| LX.sub (l' := [(0, _), (5, _), (27, _), (28, _), (29, _), (30, _)]) ⟨rfl, rfl, rfl, rfl, rfl, rfl, trivial⟩ <| LX.next <| PX.thenN <| CX.seq ?_
  refine CX.cond rfl (fun hb3 => ?_) (fun hb3 => ?_)
  · try simp at hb3
    have hi : i < x.kids.length := by simpa using hb3
    obtain ⟨k2, hk2⟩ : ∃ k2, x.kids[i]? = some k2 := ⟨_, List.getElem?_eq_getElem hi⟩
    obtain ⟨a0, cs, hav, hcl, hsee, rfl, hin2⟩ := hA i k2 hk2
    rw [List.drop_eq_getElem_cons hi, show x.kids[i] = k2 from by rw [List.getElem?_eq_getElem hi] at hk2; exact Option.some.inj hk2, show Go.Pa.run L nameB (j + 1) (.targetGo (k2 :: x.kids.drop (i + 1))) = (bnd (Go.Pa.run L nameB j (.target k2)) fun b => if b then Go.Pa.run L nameB j (.targetGo (x.kids.drop (i + 1))) else ret false) from rfl, Go.Pa.bnd_assoc] at hr
    obtain ⟨r2, e2, hok2, hst2⟩ := Go.Pa.bnd_some hr
    obtain ⟨b2, rfl⟩ := (target_same L s j).1 _ _ e2
    replace hr := hok2 _ _ rfl
    try dsimp only at hr
    refine CX.skip <| PX.thenN <| CX.seq <| CX.block <| CX.seq <| CX.region <| LX.pure (Y.idxZ Pb.un29 Pb.sz3 rfl rfl hav (j := i) rfl hi) rfl rfl rfl <| LX.pure (Y.ldS1 (v := .int .i64 k2) Pa.one3 rfl hsee (fun it hit => List.mem_cons_of_mem _ (List.mem_cons_of_mem _ (List.mem_cons_of_mem _ (List.mem_append_left _ hit))))) rfl rfl rfl <| LX.pure (Y.assign rfl) rfl rfl rfl <| LX.sub (l' := [(0, _), (5, _), (7, _), (27, _), (28, _), (29, _)]) ⟨rfl, rfl, rfl, rfl, rfl, rfl, trivial⟩ <| LX.next <| PX.thenN <| CX.seq <| CX.region <| LX.pure (Y.move rfl) rfl rfl rfl <| LX.pure (Y.move rfl) rfl rfl rfl ?_
    refine LX.world (W' := WA w0 base (PWl bp al L cl s m (blk b5 [.int .i64 x.op, .int .i64 x.n, .int .i64 x.pos, str x.s, .slice av x.kids.length ck] 31 :: fr))) (fun w hw => (show WA w0 base (blk b5 [.int .i64 x.op, .int .i64 x.n, .int .i64 x.pos, str x.s, .slice av x.kids.length ck] 31 :: PWl bp al L cl s m fr) w from hw).perm (by (refine perm_cnt fun x => ?_; simp only [PWl, PBl, ROl, z1, z2, z3, z4, z5, z6]; omega))) ?_
    refine LX.call (hSelf j (by omega) k2 s m (blk b5 [.int .i64 x.op, .int .i64 x.n, .int .i64 x.pos, str x.s, .slice av x.kids.length ck] 31 :: fr) b2 e2 hnd) Pt_.en48 rfl rfl rfl rfl rfl ?_
    intro _
    refine LX.world (W' := WA w0 base (blk b5 [.int .i64 x.op, .int .i64 x.n, .int .i64 x.pos, str x.s, .slice av x.kids.length ck] 31 :: PWl bp al L cl s m fr)) (fun w hw => (show WA w0 base (PWl bp al L cl s m (blk b5 [.int .i64 x.op, .int .i64 x.n, .int .i64 x.pos, str x.s, .slice av x.kids.length ck] 31 :: fr)) w from hw).perm (by (refine perm_cnt fun x => ?_; simp only [PWl, PBl, ROl, z1, z2, z3, z4, z5, z6]; omega))) ?_
    refine LX.pure (Y.not rfl) rfl rfl rfl <| LX.sub (l' := [(0, _), (5, _), (27, _), (28, _), (29, _), (36, _)]) ⟨rfl, rfl, rfl, rfl, rfl, rfl, trivial⟩ <| LX.next <| PX.thenN ?_
    refine CX.cond rfl (fun hb4 => ?_) (fun hb4 => ?_)
    · try simp at hb4
      subst hb4
      rw [if_neg Bool.false_ne_true] at hr
      replace hr := Go.Pa.ret_bnd hr
      have hbv : b = false := by have := Go.Pa.ret_end hr; injection this with h1 h2
      refine CX.seq <| CX.region <| LX.pure (Y.assign rfl) rfl rfl rfl <| LX.sub (l' := [(0, _), (4, _), (5, _), (27, _), (28, _), (29, _)]) ⟨rfl, rfl, rfl, rfl, rfl, rfl, trivial⟩ <| LX.next <| PX.thenN <| CX.ret <| PX.blockR <| PX.thenR <| PX.thenR <| PX.blockR <| PX.thenR <| PX.ret1 (by simp) Tryd.results48 rfl ?_
      exact fun w hw => ⟨(), by rw [hbv], hw.drop (List.sublist_cons_self _ _)⟩
    try simp at hb4
    subst hb4
    rw [if_pos rfl] at hr
    refine CX.skip <| PX.blockN <| PX.thenN <| CX.region <| LX.pure (Y.addN rfl rfl (by (simp only []; omega))) rfl rfl rfl <| LX.pure (Y.move rfl) rfl rfl rfl <| LX.sub (l' := [(0, _), (5, _), (27, _), (28, _), (29, _)]) ⟨rfl, rfl, rfl, rfl, rfl, trivial⟩ <| LX.next ?_
    exact PX.again (μ := fun z => z.2) (i := (i, j + 1)) (i + 1, j) (by show j < j + 1; omega) ⟨rfl, rfl, rfl, rfl, rfl, trivial⟩ (fun w hw => ⟨⟨hr, by show j ≤ n; omega, hi⟩, hw⟩)
  try simp at hb3
  have hi : i = x.kids.length := by omega
  rw [hi, List.drop_length, show Go.Pa.run L nameB (j + 1) (.targetGo []) = ret true from rfl] at hr
  replace hr := Go.Pa.ret_bnd hr
  have hbv : b = decide (0 < x.kids.length) := by have := Go.Pa.ret_end hr; injection this with h1 h2 <;> simpa using h1
  refine CX.exit <| PX.thenE <| PX.thenE <| PX.blockE <| PX.thenN <| CX.seq <| CX.region <| LX.pure (Y.fieldAddr0 Pt_.fo31_4 rfl) rfl rfl rfl <| LX.pure (Y.ldB 0 Pt_.one29 rfl rfl rfl) rfl rfl rfl <| LX.pure (Y.lenSl rfl Pb.un29 rfl) rfl rfl rfl <| LX.pure (Y.gtN rfl rfl) rfl rfl rfl <| LX.pure (Y.assign rfl) rfl rfl rfl <| LX.sub (l' := [(4, _)]) ⟨rfl, trivial⟩ <| LX.next <| PX.thenN <| CX.ret <| PX.ret1 (by simp) Tryd.results48 rfl ?_
  exact fun w hw => ⟨(), congrArg (fun z => Ending.returned (Value.bool z)) (by rw [hbv] <;> simp), hw.drop (List.sublist_cons_self _ _)⟩
end Go.Proofs.YtfbenelagdcdgaaDoor

namespace Go.Proofs.YtfbenelagdcdgaaDoor
open Go.SX Go.RowKit Go.Tr Go.Lex
namespace Pu_

end Pu_
open Go.Proofs.YtfbenelagdcdgaaDoor.Env (EnvS errV sentG)
open Go.Pa (Tk Rs bnd ret isB is_ adv bad take must kinds inn outn node nodeAt setPos)
open Go.Ck (NdsR)
theorem one_p {w0 : World} {base : Nat} {aE : Nat → Addr} (hS : EnvS w0 base aE) {bp : Nat} {al : Option Addr} {cl : Nat} {L : List Tk} (hL : SlAt 3 tokA (Lies w0 base) al L) (hln : L.length ≤ 1099511627776) (n : Nat) (hPrim : ∀ j, j ≤ n → FI w0 base aE al cl L bp 74 (.primary) j) (hSome : ∀ j, j ≤ n → FS w0 base aE al cl L bp 58 #[.pointer (some ⟨bp, 0, none⟩), str [41]] (fun z : Int × Bool => .tuple #[.int .i64 z.1, .bool z.2]) (fun z => gI z.1) (.some_ [41]) j) : FI w0 base aE al cl L bp 68 (.one) (n + 1) := by
  intro s m fr r hr hnd
  change (bnd (Go.Pa.tok L) fun t => if isB t [[40]] then bnd (must L [40]) fun p2 => bnd (inn p2) fun _ => bnd (Go.Pa.run L nameB n (.some_ [41])) fun x => bnd (must L [41]) fun _ => bnd outn fun _ => if x.2 then bnd (setPos x.1 t.pos) fun _ => ret x.1 else ret x.1 else if t.kind ≠ 1 then bad L else bnd (Go.Pa.run L nameB n .primary) fun k => bnd (nodeAt k) fun x => if x.op ≠ 6 ∧ x.op ≠ 13 then fun _ => some (.stop t.pos false) else ret k) s = some r at hr
  obtain ⟨t, ht, hr⟩ := Go.Pa.tok_bnd hr
  obtain ⟨a0, cs, hav, hcl, hLt, rfl, hin1, hin2⟩ := hL _ _ ht
  have hj : s.at_ < L.length := (List.getElem?_eq_some_iff.1 ht).1
  refine FnP.of_body (fn := Tryd.f68) [(0, _)] Tryd.func68 rfl Tryd.ntmps68 rfl ⟨rfl, trivial⟩ ?_
  refine CX.seq <| CX.region <| LX.pure (Y.assign rfl) rfl rfl rfl <| LX.sub (l' := [(0, _), (2, _)]) ⟨rfl, rfl, trivial⟩ <| LX.next <| PX.thenN <| CX.seq <| CX.region <| LX.pure (Y.move rfl) rfl rfl rfl <| LX.callQ (pos_q ht (fun w hw => blkL hw (i := 0) rfl) (fun w hw => hL.push hw)) Pc.en36 rfl rfl rfl rfl rfl <| LX.pure (Y.assign rfl) rfl rfl rfl <| LX.sub (l' := [(0, _), (2, _), (3, _)]) ⟨rfl, rfl, rfl, trivial⟩ <| LX.next <| PX.thenN <| CX.seq <| CX.seq <| CX.region <| LX.pure (Y.move rfl) rfl rfl rfl <| LX.buildSlice (e := 9) (size := 1) rfl rfl (fun _ => by kernel_rfl) rfl (by decide) rfl rfl rfl ?_
  intro gS
  refine LX.callQ (is_q ht _ (ss := [[40]]) (by decide) (fun w hw => blkL hw (i := 1) rfl) (fun w hw => hL.push hw) (fun w hw => row_at hw (j := 0) rfl rfl (by decide) (fun i z h => map_A (f := str) (xs := [[40]]) h))) Pd.en20 rfl rfl rfl rfl rfl <| LX.world (W' := WA w0 base (PWl bp al L cl s m fr)) (fun w hw => hw.drop (List.sublist_cons_self _ _)) <| LX.sub (l' := [(0, _), (2, _), (3, _), (12, _)]) ⟨rfl, rfl, rfl, rfl, trivial⟩ <| LX.next <| PX.thenN ?_
  refine CX.cond rfl (fun hb1 => ?_) (fun hb1 => ?_)
  · try simp at hb1
    rw [show isB t [[40]] = true from hb1, if_pos rfl] at hr
    refine CX.seq <| CX.region <| LX.pure (Y.move rfl) rfl rfl rfl <| LX.pure (Y.move rfl) rfl rfl rfl ?_
    obtain ⟨r1, e1, hok1, hst1⟩ := Go.Pa.bnd_some hr
    refine LX.callP (must_p hS hL hln [40] e1) Pf.en41 rfl rfl rfl rfl rfl (fun y => fun _ w ha hw => ⟨ha.defs, .inr ⟨y, rfl, hst1 _ _ hw.1, hw.2.drop (.cons_cons _ (.cons _ (List.sublist_append_right _ _)))⟩⟩) ?_
    rintro ⟨p1, s1⟩
    refine LX.have fun ⟨hr1, hou1, hp1⟩ => ?_
    replace hou1 : s1.out = s.out := hou1
    have hnd1 : NdsR 3 m.rs m.cells s1.out := by rw [hou1]; exact hnd
    replace hr := hok1 _ _ hr1
    refine LX.world (W' := WA w0 base (PWl bp al L cl s1 m fr)) (fun w hw => by show WA w0 base (PBl bp al L cl s1 m :: .row m.g m.c s1.out.length 31 5 m.cells :: (m.rs ++ fr)) w; rw [hou1]; exact hw) ?_
    try dsimp only
    obtain ⟨r2, e2, hok2, hst2⟩ := Go.Pa.bnd_some hr
    refine LX.callP (in_p hS hL hln p1 e2) Pf.en39 rfl rfl rfl rfl rfl (fun y => fun _ w ha hw => ⟨ha.defs, .inr ⟨y, rfl, hst2 _ _ hw.1, hw.2.drop (.cons_cons _ (.cons _ (List.sublist_append_right _ _)))⟩⟩) ?_
    rintro ⟨_, s2⟩
    refine LX.have fun ⟨hr2, hou2, _⟩ => ?_
    replace hou2 : s2.out = s1.out := hou2
    have hnd2 : NdsR 3 m.rs m.cells s2.out := by rw [hou2]; exact hnd1
    replace hr := hok2 _ _ hr2
    refine LX.world (W' := WA w0 base (PWl bp al L cl s2 m fr)) (fun w hw => by show WA w0 base (PBl bp al L cl s2 m :: .row m.g m.c s2.out.length 31 5 m.cells :: (m.rs ++ fr)) w; rw [hou2]; exact hw) ?_
    try dsimp only
    refine LX.sub (l' := [(0, _), (2, _), (3, _)]) ⟨rfl, rfl, rfl, trivial⟩ <| LX.next <| PX.thenN <| CX.seq <| CX.region <| LX.pure (Y.move rfl) rfl rfl rfl ?_
    obtain ⟨r4, e4, hok4, hst4⟩ := Go.Pa.bnd_some hr
    refine LX.callP (hSome n (Nat.le_refl _) s2 m (fr) r4 e4 hnd2) Pr_.en58 rfl rfl rfl rfl rfl (fun y => fun _ w ha hw => ⟨ha.defs, .inr ⟨y, rfl, hst4 _ _ hw.1, hw.2⟩⟩) ?_
    rintro ⟨⟨k4, c4⟩, s4, m4⟩
    refine LX.have fun ⟨hr4, hnd4, hk4⟩ => ?_
    replace hr := hok4 _ _ hr4
    try dsimp only
    refine LX.pure (Y.move rfl) rfl rfl rfl <| LX.pure (Y.extract rfl rfl) rfl rfl rfl <| LX.pure (Y.extract rfl rfl) rfl rfl rfl <| LX.pure (Y.assign rfl) rfl rfl rfl <| LX.pure (Y.assign rfl) rfl rfl rfl <| LX.sub (l' := [(0, _), (2, _), (3, _), (4, _), (5, _)]) ⟨rfl, rfl, rfl, rfl, rfl, trivial⟩ <| LX.next <| PX.thenN <| CX.seq <| CX.region <| LX.pure (Y.move rfl) rfl rfl rfl ?_
    obtain ⟨r5, e5, hok5, hst5⟩ := Go.Pa.bnd_some hr
    refine LX.callP (must_p hS hL hln [41] e5) Pf.en41 rfl rfl rfl rfl rfl (fun y => fun _ w ha hw => ⟨ha.defs, .inr ⟨y, rfl, hst5 _ _ hw.1, hw.2.drop (.cons_cons _ (.cons _ (List.sublist_append_right _ _)))⟩⟩) ?_
    rintro ⟨p5, s5⟩
    refine LX.have fun ⟨hr5, hou5, hp5⟩ => ?_
    replace hou5 : s5.out = s4.out := hou5
    have hnd5 : NdsR 3 m4.rs m4.cells s5.out := by rw [hou5]; exact hnd4
    replace hr := hok5 _ _ hr5
    refine LX.world (W' := WA w0 base (PWl bp al L cl s5 m4 fr)) (fun w hw => by show WA w0 base (PBl bp al L cl s5 m4 :: .row m4.g m4.c s5.out.length 31 5 m4.cells :: (m4.rs ++ fr)) w; rw [hou5]; exact hw) ?_
    try dsimp only
    obtain ⟨a5, o5, d5, f5, g5⟩ := s5
    obtain ⟨d, hd, hdl, hr⟩ := Go.Pa.outn_bnd hr
    obtain rfl : d5 = d + 1 := hd
    try dsimp only
    refine LX.sub (l' := [(0, _), (2, _), (3, _), (4, _), (5, _)]) ⟨rfl, rfl, rfl, rfl, rfl, trivial⟩ <| LX.next <| PX.thenN <| CX.seq <| CX.region <| LX.pure (Y.move rfl) rfl rfl rfl <| LX.pure (Y.nilCheck rfl) rfl rfl rfl <| LX.pure (Y.fieldAddr0 Pd.fo41_3 rfl) rfl rfl rfl <| LX.pure (Y.ldB 0 Pa.one3 rfl rfl rfl) rfl rfl rfl <| LX.pure (Y.subN rfl rfl (by (simp only []; omega)) (by (simp only []; omega))) rfl rfl rfl <| LX.pure (Y.nilCheck rfl) rfl rfl rfl <| LX.pure (Y.fieldAddr0 Pd.fo41_3 rfl) rfl rfl rfl <| LX.storeB 0 Pb.sz3 rfl rfl rfl rfl rfl rfl rfl rfl <| LX.sub (l' := [(0, _), (2, _), (3, _), (4, _), (5, _)]) ⟨rfl, rfl, rfl, rfl, rfl, trivial⟩ <| LX.next <| PX.thenN <| CX.seq <| CX.seq <| CX.region <| LX.pure (Y.move rfl) rfl rfl rfl <| LX.sub (l' := [(0, _), (2, _), (3, _), (4, _), (31, _)]) ⟨rfl, rfl, rfl, rfl, rfl, trivial⟩ <| LX.next <| PX.thenN ?_
    refine CX.cond rfl (fun hb2 => ?_) (fun hb2 => ?_)
    · try simp at hb2
      subst hb2
      rw [if_pos rfl] at hr
      obtain ⟨x, hx0, hx, hr⟩ := Go.Pa.setPos_bnd (k := k4) hr
      have hxl := (hnd5.lens hx).1
      have hxc := (hnd5.lens hx).2
      refine CX.region <| LX.pure (Y.move rfl) rfl rfl rfl <| LX.pure (Y.nilCheck rfl) rfl rfl rfl <| LX.pure (Y.fieldAddr0 Pd.fo41_2 rfl) rfl rfl rfl <| LX.pure (Y.ldB 0 Pd.one23 rfl rfl rfl) rfl rfl rfl <| LX.pure (Y.move rfl) rfl rfl rfl <| LX.pure (Y.move rfl) rfl rfl rfl <| LX.pure (Y.idxRZ 1 (i := k4.toNat) Pd.un23 Pl.sz31 rfl rfl (Int.toNat_of_nonneg hx0).symm rfl hxl) rfl rfl rfl <| LX.pure (Y.fieldAddr Pl.fo31_2 rfl) rfl rfl rfl <| LX.storeR 1 (off := k4.toNat * 5 + 2) Pb.sz3 rfl rfl rfl rfl rfl (by omega) rfl rfl <| LX.sub (l' := [(0, _), (2, _), (3, _), (4, _)]) ⟨rfl, rfl, rfl, rfl, trivial⟩ <| LX.next <| PX.thenN <| CX.seq <| CX.region <| LX.pure (Y.move rfl) rfl rfl rfl <| LX.pure (Y.assign rfl) rfl rfl rfl <| LX.sub (l' := [(0, _), (2, _), (3, _)]) ⟨rfl, rfl, rfl, trivial⟩ <| LX.next <| PX.thenN <| CX.ret <| PX.thenR <| PX.ret1 (by simp) Tryd.results68 rfl ?_
      exact fun w hw => .inl ⟨(k4, (⟨a5, o5.set k4.toNat { x with pos := t.pos }, d, f5, g5⟩ : Go.Pa.St), (⟨m4.g, m4.c, m4.cells.set (k4.toNat * 5 + 2) (.int .i64 t.pos), m4.rs⟩ : Mm)), rfl, ⟨Go.Pa.ret_end hr, hnd5.setPos hx hin2, hk4⟩, by show WA w0 base (blk bp [.slice al L.length cl, .int .i64 (a5 : Int), rv m4.g (o5.set _ _).length m4.c, .int .i64 (d : Int), .bool f5, .int .i64 (g5 : Int)] 41 :: .row m4.g m4.c (o5.set _ _).length 31 5 _ :: (m4.rs ++ fr)) w; rw [List.length_set]; exact hw⟩
    try simp at hb2
    subst hb2
    rw [if_neg Bool.false_ne_true] at hr
    refine CX.skip <| PX.thenN <| CX.seq <| CX.region <| LX.pure (Y.move rfl) rfl rfl rfl <| LX.pure (Y.assign rfl) rfl rfl rfl <| LX.sub (l' := [(0, _), (2, _), (3, _)]) ⟨rfl, rfl, rfl, trivial⟩ <| LX.next <| PX.thenN <| CX.ret <| PX.thenR <| PX.ret1 (by simp) Tryd.results68 rfl ?_
    exact fun w hw => .inl ⟨(k4, (⟨a5, o5, d, f5, g5⟩ : Go.Pa.St), m4), rfl, ⟨Go.Pa.ret_end hr, hnd5, hk4⟩, hw⟩
  try simp at hb1
  refine CX.skip <| PX.thenN <| CX.seq <| CX.seq <| CX.region <| LX.pure (Y.move rfl) rfl rfl rfl <| LX.callQ (kind_q ht (fun w hw => blkL hw (i := 0) rfl) (fun w hw => hL.push hw)) Pa.en13 rfl rfl rfl rfl rfl <| LX.pure (Y.neI rfl rfl) rfl rfl rfl <| LX.sub (l' := [(0, _), (2, _), (3, _), (43, _)]) ⟨rfl, rfl, rfl, rfl, trivial⟩ <| LX.next <| PX.thenN ?_
  refine CX.cond rfl (fun hb3 => ?_) (fun hb3 => ?_)
  · try simp at hb3
    rw [show isB t [[40]] = false from hb1, if_neg Bool.false_ne_true, if_pos hb3] at hr
    refine CX.region <| LX.pure (Y.move rfl) rfl rfl rfl ?_
    refine LX.callP (bad_p hS hL hln ht) Pd.en23 rfl rfl rfl rfl rfl (fun ax => fun _ w ha hw => ⟨ha.defs, .inr ⟨(t.pos, false, ax), rfl, Go.Pa.bad_eq ht hr, hw.drop (.cons_cons _ (.cons _ (List.sublist_append_right _ _)))⟩⟩) (fun x => x.elim)
  try simp at hb3
  rw [show isB t [[40]] = false from hb1, if_neg Bool.false_ne_true, if_neg (fun h => h hb3)] at hr
  refine CX.skip <| PX.thenN <| CX.seq <| CX.region <| LX.pure (Y.move rfl) rfl rfl rfl ?_
  obtain ⟨r8, e8, hok8, hst8⟩ := Go.Pa.bnd_some hr
  refine LX.callP (hPrim n (Nat.le_refl _) s m (fr) r8 e8 hnd) Pf.en74 rfl rfl rfl rfl rfl (fun y => fun _ w ha hw => ⟨ha.defs, .inr ⟨y, rfl, hst8 _ _ hw.1, hw.2⟩⟩) ?_
  rintro ⟨k8, s8, m8⟩
  refine LX.have fun ⟨hr8, hnd8, hk8⟩ => ?_
  replace hr := hok8 _ _ hr8
  try dsimp only
  obtain ⟨x, hx0, hx, hr⟩ := Go.Pa.nodeAt_bnd (k := k8) hr
  obtain ⟨hxl, hxo, hxp, hxi, hxj⟩ := hnd8.cell hx
  refine LX.pure (Y.assign rfl) rfl rfl rfl <| LX.sub (l' := [(0, _), (2, _), (3, _), (6, _)]) ⟨rfl, rfl, rfl, rfl, trivial⟩ <| LX.next <| PX.thenN <| CX.seq <| CX.seq <| CX.region <| LX.pure (Y.move rfl) rfl rfl rfl <| LX.pure (Y.nilCheck rfl) rfl rfl rfl <| LX.pure (Y.fieldAddr0 Pd.fo41_2 rfl) rfl rfl rfl <| LX.pure (Y.ldB 0 Pd.one23 rfl rfl rfl) rfl rfl rfl <| LX.pure (Y.move rfl) rfl rfl rfl <| LX.pure (Y.idxRZ 1 (i := k8.toNat) Pd.un23 Pl.sz31 rfl rfl (Int.toNat_of_nonneg hx0).symm rfl hxl) rfl rfl rfl <| LX.pure (Y.fieldAddr Pt_.fo31_0 rfl) rfl rfl rfl <| LX.pure (Y.ldR 1 (v := .int .i64 x.op) Pa.one3 rfl rfl hxo) rfl rfl rfl <| LX.pure (Y.assign rfl) rfl rfl rfl <| LX.sub (l' := [(2, _), (3, _), (6, _), (7, _)]) ⟨rfl, rfl, rfl, rfl, trivial⟩ <| LX.next <| PX.thenN <| CX.seq <| CX.region <| LX.pure (Y.move rfl) rfl rfl rfl <| LX.pure (Y.neI rfl rfl) rfl rfl rfl <| LX.pure (Y.move rfl) rfl rfl rfl <| LX.sub (l' := [(2, _), (3, _), (6, _), (7, _), (58, _)]) ⟨rfl, rfl, rfl, rfl, rfl, trivial⟩ ?_
  apply LX.joinAnd 3 61 58 rfl
  · intro hb4
    have hb4p := hb4
    try simp at hb4p
    refine LX.gT rfl rfl rfl hb4 (Y.move rfl) rfl rfl <| LX.gT rfl rfl rfl hb4 (Y.neI rfl rfl) rfl rfl <| LX.pure (Y.pickT rfl hb4 rfl) rfl rfl rfl ?_
    exact LX.left ⟨rfl, rfl, rfl, rfl, rfl, rfl, trivial⟩
  · intro hb4
    have hb4p := hb4
    try simp at hb4p
    refine LX.gF rfl rfl rfl hb4 rfl rfl <| LX.gF rfl rfl rfl hb4 rfl rfl <| LX.pure (Y.pickF rfl hb4 rfl) rfl rfl rfl ?_
    exact LX.left ⟨rfl, rfl, rfl, rfl, rfl, rfl, trivial⟩
  refine LX.sub (l' := [(2, _), (3, _), (6, _), (61, _)]) ⟨rfl, rfl, rfl, rfl, trivial⟩ <| LX.next <| PX.thenN ?_
  refine CX.cond rfl (fun hb5 => ?_) (fun hb5 => ?_)
  · try simp at hb5
    rw [if_pos (by simpa using hb5)] at hr
    have hrs : r = .stop t.pos false := by injection hr with h; exact h.symm
    refine CX.region <| LX.pure (Y.move rfl) rfl rfl rfl <| LX.pure (Y.ldO Pc.one25 rfl (hS.at_ 1 2 rfl) (hS.lt 2 (by decide))) rfl rfl rfl ?_
    refine LX.callP (stop_p t.pos (aE 1)) Pc.en44 rfl rfl rfl rfl rfl (fun ax => fun _ w ha hw => ⟨ha.defs, .inr ⟨(t.pos, false, ax), rfl, hrs, hw.drop (.cons_cons _ (.cons _ (.cons _ (List.sublist_append_right _ _))))⟩⟩) (fun x => x.elim)
  try simp at hb5
  rw [if_neg (by simpa using hb5)] at hr
  refine CX.skip <| PX.thenN <| CX.seq <| CX.region <| LX.pure (Y.move rfl) rfl rfl rfl <| LX.pure (Y.assign rfl) rfl rfl rfl <| LX.sub (l' := [(2, _)]) ⟨rfl, trivial⟩ <| LX.next <| PX.thenN <| CX.ret <| PX.ret1 (by simp) Tryd.results68 rfl ?_
  exact fun w hw => .inl ⟨(k8, s8, m8), rfl, ⟨Go.Pa.ret_end hr, hnd8, hk8⟩, hw⟩
end Go.Proofs.YtfbenelagdcdgaaDoor

namespace Go.Proofs.YtfbenelagdcdgaaDoor
open Go.SX Go.RowKit Go.Tr Go.Lex
namespace Pv_
theorem en45 : Enters Tryd.prog 45 := Enters.of Tryd.func45 (by kernel_rfl) (by kernel_rfl)
theorem el65 : Elem Tryd.prog 65 9 1 16 := Elem.of Fy.un65 (z := .string ⟨#[]⟩) (by kernel_rfl) rfl
end Pv_
open Go.Proofs.YtfbenelagdcdgaaDoor.Env (EnvS errV sentG)
open Go.Pa (Tk Rs bnd ret isB is_ adv bad take must kinds inn outn node nodeAt setPos)
open Go.Ck (NdsR)
/-- the sign behind the next token -/
def aheadV (L : List Tk) (s : Go.Pa.St) (x : List UInt8) : Bool := match L[s.at_ + 1]? with | some t => decide (t.kind = 4) && decide (t.text = x) | none => false
theorem ahead_q {W : World → Prop} [Stab W] {bp : Nat} {al : Option Addr} {cl : Nat} {L : List Tk} {s : Go.Pa.St} {m : Mm} (x : List UInt8) (hln : L.length ≤ 1099511627776) {t : Tk} (ht : L[s.at_]? = some t) (hB : ∀ w, W w → Lies w w.heap.size ⟨bp, 0, none⟩ (psC al L.length cl s m)) (hL : ∀ w, W w → SlAt 3 tokA (Lies w w.heap.size) al L) :
    FnQ Tryd.prog 45 #[.pointer (some ⟨bp, 0, none⟩), str x] W (.bool (aheadV L s x)) := by
  unfold aheadV
  cases h : L[s.at_ + 1]? with
  | some t2 => exact aheadY_q x hln h hB hL
  | none =>
    have h1 := (List.getElem?_eq_some_iff.1 ht).1
    have h2 := List.getElem?_eq_none_iff.1 h
    exact aheadN_q x hln (by omega) h2 hB
theorem bad_bnd {α β : Type} {L : List Tk} {s : Go.Pa.St} {t : Tk} {f : α → Go.Pa.M β} {r : Rs β} (ht : L[s.at_]? = some t) (h : bnd (bad L) f s = some r) : r = .stop t.pos false := by
  unfold bnd bad Go.Pa.tok at h
  simp only [bnd, ht] at h
  injection h with h; exact h.symm
theorem str_snoc (l : List (List UInt8)) (k : List UInt8) : l.map str ++ [str k] = (l ++ [k]).map str := by rw [List.map_append]; rfl
theorem call_p {w0 : World} {base : Nat} {aE : Nat → Addr} (hS : EnvS w0 base aE) {bp : Nat} {al : Option Addr} {cl : Nat} {L : List Tk} (hL : SlAt 3 tokA (Lies w0 base) al L) (hln : L.length ≤ 1099511627776) (n : Nat) (hTest : ∀ j, j ≤ n → FI w0 base aE al cl L bp 37 (.test) j) (k : Int) (hk : gI k) : FS w0 base aE al cl L bp 78 #[.pointer (some ⟨bp, 0, none⟩), .int .i64 k] (fun z : Int => .int .i64 z) gI (.call k) (n + 1) := by
  intro s m fr r hr hnd
  change (bnd (must L [40]) fun pos => bnd (inn pos) fun _ => bnd (Go.Pa.run L nameB n (.callGo [k] [])) (fun kids => bnd (must L [41]) fun _ => bnd outn fun _ => node 10 pos [] kids)) s = some r at hr
  refine FnP.of_body (fn := Tryd.f78) [(0, _), (1, _)] Tryd.func78 rfl Tryd.ntmps78 rfl ⟨rfl, rfl, trivial⟩ ?_
  refine CX.seq <| CX.region <| LX.pure (Y.assign rfl) rfl rfl rfl <| LX.sub (l' := [(0, _), (1, _), (4, _)]) ⟨rfl, rfl, rfl, trivial⟩ <| LX.next <| PX.thenN <| CX.seq <| CX.region <| LX.pure (Y.move rfl) rfl rfl rfl ?_
  obtain ⟨r0, e0, hok0, hst0⟩ := Go.Pa.bnd_some hr
  refine LX.callP (must_p hS hL hln [40] e0) Pf.en41 rfl rfl rfl rfl rfl (fun y => fun _ w ha hw => ⟨ha.defs, .inr ⟨y, rfl, hst0 _ _ hw.1, hw.2.drop (.cons_cons _ (.cons _ (List.sublist_append_right _ _)))⟩⟩) ?_
  rintro ⟨pos, s0⟩
  refine LX.have fun ⟨hr0, hou0, hp0⟩ => ?_
  replace hou0 : s0.out = s.out := hou0
  have hnd0 : NdsR 3 m.rs m.cells s0.out := by rw [hou0]; exact hnd
  replace hr := hok0 _ _ hr0
  refine LX.world (W' := WA w0 base (PWl bp al L cl s0 m fr)) (fun w hw => by show WA w0 base (PBl bp al L cl s0 m :: .row m.g m.c s0.out.length 31 5 m.cells :: (m.rs ++ fr)) w; rw [hou0]; exact hw) ?_
  try dsimp only
  refine LX.pure (Y.assign rfl) rfl rfl rfl <| LX.sub (l' := [(0, _), (1, _), (4, _), (5, _)]) ⟨rfl, rfl, rfl, rfl, trivial⟩ <| LX.next <| PX.thenN <| CX.seq <| CX.region <| LX.pure (Y.move rfl) rfl rfl rfl <| LX.pure (Y.move rfl) rfl rfl rfl ?_
  obtain ⟨ra, ea, hoka, hsta⟩ := Go.Pa.bnd_some hr
  refine LX.callP (in_p hS hL hln pos ea) Pf.en39 rfl rfl rfl rfl rfl (fun y => fun _ w ha hw => ⟨ha.defs, .inr ⟨y, rfl, hsta _ _ hw.1, hw.2.drop (.cons_cons _ (.cons _ (List.sublist_append_right _ _)))⟩⟩) ?_
  rintro ⟨_, sa⟩
  refine LX.have fun ⟨hra, houa, _⟩ => ?_
  replace houa : sa.out = s0.out := houa
  have hnda : NdsR 3 m.rs m.cells sa.out := by rw [houa]; exact hnd0
  replace hr := hoka _ _ hra
  refine LX.world (W' := WA w0 base (PWl bp al L cl sa m fr)) (fun w hw => by show WA w0 base (PBl bp al L cl sa m :: .row m.g m.c sa.out.length 31 5 m.cells :: (m.rs ++ fr)) w; rw [houa]; exact hw) ?_
  try dsimp only
  refine LX.sub (l' := [(0, _), (1, _), (4, _), (5, _)]) ⟨rfl, rfl, rfl, rfl, trivial⟩ <| LX.next <| PX.thenN <| CX.seq <| CX.region <| LX.pure (Y.move rfl) rfl rfl rfl <| LX.buildSlice (e := 3) (size := 1) rfl rfl (fun _ => by kernel_rfl) rfl (by decide) rfl rfl rfl ?_
  intro gL
  refine LX.world (W' := WA w0 base (PWl bp al L cl sa m (.row (some gL) 1 [k].length 3 1 ([k].map iv) :: fr))) (fun w hw => (show WA w0 base (.row (some gL) 1 [k].length 3 1 ([k].map iv) :: PWl bp al L cl sa m fr) w from hw).perm (by (refine perm_cnt fun x => ?_; simp only [PWl, PBl, ROl, z1, z2, z3, z4, z5, z6]; omega))) ?_
  refine LX.pure (Y.assign rfl) rfl rfl rfl <| LX.sub (l' := [(0, _), (4, _), (5, _), (6, _)]) ⟨rfl, rfl, rfl, rfl, trivial⟩ <| LX.next <| PX.thenN <| CX.seq <| CX.region <| LX.pure (Y.assign rfl) rfl rfl rfl <| LX.sub (l' := [(0, _), (4, _), (5, _), (6, _), (7, _)]) ⟨rfl, rfl, rfl, rfl, rfl, trivial⟩ <| LX.next <| PX.thenN ?_
  refine CX.seqM (fun z : List Int × (Option Nat × Nat) × Go.Pa.St × Mm => [(0, .pointer (some ⟨bp, 0, none⟩)), (5, .int .i64 pos), (6, rv z.2.1.1 z.1.length z.2.1.2)]) (fun (z : List Int × (Option Nat × Nat) × Go.Pa.St × Mm) w => ((bnd (must L [41]) fun _ => bnd outn fun _ => node 10 pos [] z.1) z.2.2.1 = some r ∧ NdsR 3 z.2.2.2.rs z.2.2.2.cells z.2.2.1.out ∧ (∀ x ∈ z.1, gI x) ∧ z.1.length ≤ 1000002) ∧ WA w0 base (PWl bp al L cl z.2.2.1 z.2.2.2 (.row z.2.1.1 z.2.1.2 z.1.length 3 1 (z.1.map iv) :: fr)) w) ?_ ?_
  ·
    refine CX.block ?_
    refine CX.loop (fun z : List Int × List (List UInt8) × (Option Nat × Nat) × (Option Nat × Nat) × Go.Pa.St × Mm × Nat => [(0, .pointer (some ⟨bp, 0, none⟩)), (5, .int .i64 pos), (6, rv z.2.2.1.1 z.1.length z.2.2.1.2), (7, rv z.2.2.2.1.1 z.2.1.length z.2.2.2.1.2)]) (fun (z : List Int × List (List UInt8) × (Option Nat × Nat) × (Option Nat × Nat) × Go.Pa.St × Mm × Nat) w => (((bnd (Go.Pa.run L nameB z.2.2.2.2.2.2 (.callGo z.1 z.2.1)) (fun kids => bnd (must L [41]) fun _ => bnd outn fun _ => node 10 pos [] kids)) z.2.2.2.2.1 = some r ∧ z.2.2.2.2.2.2 ≤ n) ∧ NdsR 3 z.2.2.2.2.2.1.rs z.2.2.2.2.2.1.cells z.2.2.2.2.1.out ∧ (∀ x ∈ z.1, gI x) ∧ z.1.length ≤ 1000000 ∧ z.2.1.length ≤ z.1.length) ∧ WA w0 base (PWl bp al L cl z.2.2.2.2.1 z.2.2.2.2.2.1 (.row z.2.2.1.1 z.2.2.1.2 z.1.length 3 1 (z.1.map iv) :: .row z.2.2.2.1.1 z.2.2.2.1.2 z.2.1.length 9 1 (z.2.1.map str) :: fr)) w) (fun z => z.2.2.2.2.2.2) ([k], [], (some gL, 1), (none, 0), sa, m, n) ⟨rfl, rfl, rfl, rfl, trivial⟩ (fun w hw => ⟨⟨⟨hr, Nat.le_refl _⟩, hnda, (fun z hz => by cases List.mem_singleton.1 hz; exact hk), by simp, by simp⟩, by
      have h1 := (show WA w0 base (PWl bp al L cl sa m (.row (some gL) 1 [k].length 3 1 ([k].map iv) :: fr)) w from hw).nilRow 9 1
      exact (show WA w0 base (.row none 0 ([] : List (List UInt8)).length 9 1 (([] : List (List UInt8)).map str) :: PWl bp al L cl sa m (.row (some gL) 1 [k].length 3 1 ([k].map iv) :: fr)) w from h1).perm (show List.Perm (PWl bp al L cl sa m (.row (some gL) 1 [k].length 3 1 ([k].map iv) :: .row none 0 ([] : List (List UInt8)).length 9 1 (([] : List (List UInt8)).map str) :: fr)) (.row none 0 ([] : List (List UInt8)).length 9 1 (([] : List (List UInt8)).map str) :: PWl bp al L cl sa m (.row (some gL) 1 [k].length 3 1 ([k].map iv) :: fr)) by (refine perm_cnt fun x => ?_; simp only [PWl, PBl, ROl, z1, z2, z3, z4, z5, z6]; omega))⟩) ?_
    clear hr
    rintro ⟨l, ns, ⟨g, c⟩, ⟨gn, cn⟩, s1, m1, j⟩
    refine CX.have fun ⟨⟨hr, hjn⟩, hnd1, hg, hlm, hnsl⟩ => ?_
    replace hlm : l.length ≤ 1000000 := hlm
    replace hnsl : ns.length ≤ l.length := hnsl
    replace hr : (bnd (Go.Pa.run L nameB j (.callGo l ns)) (fun kids => bnd (must L [41]) fun _ => bnd outn fun _ => node 10 pos [] kids)) s1 = some r := hr
    replace hjn : j ≤ n := hjn
    replace hnd1 : NdsR 3 m1.rs m1.cells s1.out := hnd1
    replace hg : ∀ x ∈ l, gI x := hg
    have hnl : ns.length ≤ 9223372036854775807 := by omega
    try dsimp only
    obtain ⟨j, rfl⟩ : ∃ i, j = i + 1 := by
      cases j with
      | zero => cases hr
      | succ i => exact ⟨i, rfl⟩
    rw [show Go.Pa.run L nameB (j + 1) (.callGo l ns) = (bnd (Go.Pa.tok L) fun t => if isB t [[41]] then ret l else bnd (Go.Pa.ahead L [61]) fun a => bnd (if decide (t.kind = 1) && a then (if ns.contains t.text then bad L else bnd (kinds L 1) fun x => bnd (must L [61]) fun _ => bnd (Go.Pa.run L nameB j .test) fun k => bnd (node 11 t.pos x.1 [k]) fun n => ret (l ++ [n], ns ++ [x.1])) else if ns ≠ [] then bad L else bnd (Go.Pa.run L nameB j .test) fun k => ret (l ++ [k], ns)) fun x => bnd (take L [44]) fun b => Go.Pa.grow x.1 (if b then Go.Pa.run L nameB j (.callGo x.1 x.2) else ret x.1)) from rfl, Go.Pa.bnd_assoc] at hr
    obtain ⟨t, ht, hr⟩ := Go.Pa.tok_bnd hr
    obtain ⟨a0, cs, hav, hcl, hLt, rfl, hin1, hin2⟩ := hL _ _ ht
    have hj : s1.at_ < L.length := (List.getElem?_eq_some_iff.1 ht).1
    refine CX.seq <| CX.seq <| CX.region <| LX.pure (Y.move rfl) rfl rfl rfl <| LX.buildSlice (e := 9) (size := 1) rfl rfl (fun _ => by kernel_rfl) rfl (by decide) rfl rfl rfl ?_
    intro gS
    refine LX.callQ (is_q ht _ (ss := [[41]]) (by decide) (fun w hw => blkL hw (i := 1) rfl) (fun w hw => hL.push hw) (fun w hw => row_at hw (j := 0) rfl rfl (by decide) (fun i z h => map_A (f := str) (xs := [[41]]) h))) Pd.en20 rfl rfl rfl rfl rfl <| LX.world (W' := WA w0 base (PWl bp al L cl s1 m1 (.row g c l.length 3 1 (l.map iv) :: .row gn cn ns.length 9 1 (ns.map str) :: fr))) (fun w hw => hw.drop (List.sublist_cons_self _ _)) <| LX.pure (Y.not rfl) rfl rfl rfl <| LX.sub (l' := [(0, _), (5, _), (6, _), (7, _), (21, _)]) ⟨rfl, rfl, rfl, rfl, rfl, trivial⟩ <| LX.next <| PX.thenN ?_
    refine CX.cond rfl (fun hb1 => ?_) (fun hb1 => ?_)
    · try simp at hb1
      rw [show isB t [[41]] = false from hb1, if_neg Bool.false_ne_true, Go.Pa.bnd_assoc] at hr
      replace hr : bnd (bnd (if decide (t.kind = 1) && aheadV L s1 [61] then _ else _) _) _ s1 = some r := Go.Pa.ahead_bnd hr
      rw [Go.Pa.bnd_assoc] at hr
      refine CX.skip <| PX.thenN <| CX.block <| CX.seq <| CX.region <| LX.pure (Y.move rfl) rfl rfl rfl <| LX.callQ (pos_q ht (fun w hw => blkL hw (i := 0) rfl) (fun w hw => hL.push hw)) Pc.en36 rfl rfl rfl rfl rfl <| LX.pure (Y.assign rfl) rfl rfl rfl <| LX.sub (l' := [(0, _), (5, _), (6, _), (7, _), (8, _)]) ⟨rfl, rfl, rfl, rfl, rfl, trivial⟩ <| LX.next <| PX.thenN <| CX.seq <| CX.seq <| CX.region <| LX.pure (Y.move rfl) rfl rfl rfl <| LX.callQ (kind_q ht (fun w hw => blkL hw (i := 0) rfl) (fun w hw => hL.push hw)) Pa.en13 rfl rfl rfl rfl rfl <| LX.pure (Y.eqI rfl rfl) rfl rfl rfl <| LX.pure (Y.move rfl) rfl rfl rfl <| LX.sub (l' := [(0, _), (5, _), (6, _), (7, _), (8, _), (27, _)]) ⟨rfl, rfl, rfl, rfl, rfl, rfl, trivial⟩ ?_
      apply LX.joinAnd 3 30 27 rfl
      · intro hb2
        have hb2p := hb2
        try simp at hb2p
        refine LX.gT rfl rfl rfl hb2 (Y.move rfl) rfl rfl <| LX.callQT rfl rfl rfl hb2 (ahead_q [61] hln ht (fun w hw => blkL hw (i := 0) rfl) (fun w hw => hL.push hw)) Pv_.en45 rfl rfl rfl rfl <| LX.pure (Y.pickT rfl hb2 rfl) rfl rfl rfl ?_
        exact LX.left ⟨rfl, rfl, rfl, rfl, rfl, rfl, rfl, trivial⟩
      · intro hb2
        have hb2p := hb2
        try simp at hb2p
        refine LX.gF rfl rfl rfl hb2 rfl rfl <| LX.gF rfl rfl rfl hb2 rfl rfl <| LX.pure (Y.pickF rfl hb2 rfl) rfl rfl rfl ?_
        exact LX.left ⟨rfl, rfl, rfl, rfl, rfl, rfl, rfl, trivial⟩
      refine LX.sub (l' := [(0, _), (5, _), (6, _), (7, _), (8, _), (30, _)]) ⟨rfl, rfl, rfl, rfl, rfl, rfl, trivial⟩ <| LX.next <| PX.thenN ?_
      refine CX.cond rfl (fun hb3 => ?_) (fun hb3 => ?_)
      · try simp at hb3
        rw [if_pos (by simpa using hb3)] at hr
        refine CX.seq <| CX.seq <| CX.regionM [(0, .anywhere), (1, .anywhere), (2, .anywhere), (3, .anywhere), (4, .held), (5, .anywhere), (6, .anywhere), (7, .anywhere), (8, .held), (9, .held), (10, .held), (11, .held), (12, .alone)] rfl (by kernel_rfl) <| MX.lift0 (i := 0) rfl (Y.move rfl) rfl rfl rfl <| MX.lift0 (i := 1) rfl (Y.move rfl) rfl rfl rfl <| MX.lift0 (i := 2) rfl (Y.nilCheck rfl) rfl rfl rfl <| MX.lift0 (i := 3) rfl (Y.fieldAddr0 Pa.fo41_0 rfl) rfl rfl rfl <| MX.lift1 (i := 4) (pend' := []) rfl (fun w hw => by exact hw) (Y.ldB 0 Pa.one37 rfl rfl rfl) rfl rfl rfl (by kernel_rfl) <| MX.lift0 (i := 5) rfl (Y.move rfl) rfl rfl rfl <| MX.lift0 (i := 6) rfl (Y.nilCheck rfl) rfl rfl rfl <| MX.lift0 (i := 7) rfl (Y.fieldAddr0 Pa.fo41_1 rfl) rfl rfl rfl <| MX.lift1 (i := 8) (pend' := [4]) rfl (fun w hw => by exact hw) (Y.ldB 0 Pa.one3 rfl rfl rfl) rfl rfl rfl (by kernel_rfl) <| MX.lift1 (i := 9) (pend' := []) rfl (fun w hw => by exact hw) (Y.idxZ Pa.un37 Pa.sz57 rfl rfl hav (j := s1.at_) rfl hj) rfl rfl rfl (by kernel_rfl) <| MX.lift1 (i := 10) (pend' := []) rfl (fun w hw => by exact hw) (Y.fieldA Pa.fa57_1 rfl) rfl rfl rfl (by kernel_rfl) <| MX.lift1 (i := 11) (pend' := []) rfl (fun w hw => by exact hw) (Y.ldFO (v := str t.text) Fy.one9 rfl hLt rfl) rfl rfl rfl (by kernel_rfl) <| MX.force (i := 12) rfl <| LX.callQ (hasStr_q cn (ss := ns) hnl t.text (fun w hw => row_atM hw (List.mem_cons_of_mem _ (List.mem_cons_of_mem _ (List.mem_append_right _ (List.mem_cons_of_mem _ (List.mem_cons_self ..))))) rfl (by decide) (fun i z h => map_A h))) Fy.en35 rfl rfl rfl rfl rfl <| LX.nextM [] (by kernel_rfl) (fun h => absurd rfl h) <| MX.sub (l' := [(0, _), (5, _), (6, _), (7, _), (8, _), (43, _)]) ⟨rfl, rfl, rfl, rfl, rfl, rfl, trivial⟩ <| MX.done <| PX.thenN ?_
        refine CX.cond rfl (fun hb4 => ?_) (fun hb4 => ?_)
        · try simp at hb4
          rw [if_pos (by simpa using hb4)] at hr
          refine CX.region <| LX.pure (Y.move rfl) rfl rfl rfl ?_
          refine LX.callP (bad_p hS hL hln ht) Pd.en23 rfl rfl rfl rfl rfl (fun ax => fun _ w ha hw => ⟨ha.defs, .inr ⟨(t.pos, false, ax), rfl, bad_bnd ht hr, hw.drop (.cons_cons _ (.cons _ (((List.sublist_cons_self _ _).trans (List.sublist_cons_self _ _)).trans (List.sublist_append_right _ _))))⟩⟩) (fun x => x.elim)
        try simp at hb4
        rw [if_neg (by simpa using hb4), Go.Pa.bnd_assoc] at hr
        refine CX.skip <| PX.thenN <| CX.seq <| CX.region <| LX.pure (Y.move rfl) rfl rfl rfl ?_
        obtain ⟨r3, e3, hok3, hst3⟩ := Go.Pa.bnd_some hr
        refine LX.callP (kinds_p hS hL hln 1 e3) Ph.en26 rfl rfl rfl rfl rfl (fun y => fun _ w ha hw => ⟨ha.defs, .inr ⟨y, rfl, hst3 _ _ hw.1, hw.2.drop (.cons_cons _ (.cons _ (((List.sublist_cons_self _ _).trans (List.sublist_cons_self _ _)).trans (List.sublist_append_right _ _))))⟩⟩) ?_
        rintro ⟨⟨xn, xp⟩, s3⟩
        refine LX.have fun ⟨hr3, hou3, hp3⟩ => ?_
        replace hou3 : s3.out = s1.out := hou3
        have hnd3 : NdsR 3 m1.rs m1.cells s3.out := by rw [hou3]; exact hnd1
        replace hr := hok3 _ _ hr3
        refine LX.world (W' := WA w0 base (PWl bp al L cl s3 m1 (.row g c l.length 3 1 (l.map iv) :: .row gn cn ns.length 9 1 (ns.map str) :: fr))) (fun w hw => by show WA w0 base (PBl bp al L cl s3 m1 :: .row m1.g m1.c s3.out.length 31 5 m1.cells :: (m1.rs ++ (.row g c l.length 3 1 (l.map iv) :: .row gn cn ns.length 9 1 (ns.map str) :: fr))) w; rw [hou3]; exact hw) ?_
        try dsimp only
        refine LX.pure (Y.move rfl) rfl rfl rfl <| LX.pure (Y.extract rfl rfl) rfl rfl rfl <| LX.pure (Y.extract rfl rfl) rfl rfl rfl <| LX.pure (Y.assign rfl) rfl rfl rfl <| LX.pure (Y.assign rfl) rfl rfl rfl <| LX.sub (l' := [(0, _), (5, _), (6, _), (7, _), (8, _), (9, _)]) ⟨rfl, rfl, rfl, rfl, rfl, rfl, trivial⟩ <| LX.next <| PX.thenN <| CX.seq <| CX.region <| LX.pure (Y.move rfl) rfl rfl rfl ?_
        rw [Go.Pa.bnd_assoc] at hr
        obtain ⟨r4, e4, hok4, hst4⟩ := Go.Pa.bnd_some hr
        refine LX.callP (must_p hS hL hln [61] e4) Pf.en41 rfl rfl rfl rfl rfl (fun y => fun _ w ha hw => ⟨ha.defs, .inr ⟨y, rfl, hst4 _ _ hw.1, hw.2.drop (.cons_cons _ (.cons _ (((List.sublist_cons_self _ _).trans (List.sublist_cons_self _ _)).trans (List.sublist_append_right _ _))))⟩⟩) ?_
        rintro ⟨p4, s4⟩
        refine LX.have fun ⟨hr4, hou4, hp4⟩ => ?_
        replace hou4 : s4.out = s3.out := hou4
        have hnd4 : NdsR 3 m1.rs m1.cells s4.out := by rw [hou4]; exact hnd3
        replace hr := hok4 _ _ hr4
        refine LX.world (W' := WA w0 base (PWl bp al L cl s4 m1 (.row g c l.length 3 1 (l.map iv) :: .row gn cn ns.length 9 1 (ns.map str) :: fr))) (fun w hw => by show WA w0 base (PBl bp al L cl s4 m1 :: .row m1.g m1.c s4.out.length 31 5 m1.cells :: (m1.rs ++ (.row g c l.length 3 1 (l.map iv) :: .row gn cn ns.length 9 1 (ns.map str) :: fr))) w; rw [hou4]; exact hw) ?_
        try dsimp only
        refine LX.sub (l' := [(0, _), (5, _), (6, _), (7, _), (8, _), (9, _)]) ⟨rfl, rfl, rfl, rfl, rfl, rfl, trivial⟩ <| LX.next <| PX.thenN <| CX.seq <| CX.region <| LX.pure (Y.move rfl) rfl rfl rfl <| LX.pure (Y.move rfl) rfl rfl rfl <| LX.buildSlice (e := 9) (size := 1) rfl rfl (fun _ => by kernel_rfl) rfl (by decide) rfl rfl rfl ?_
        intro gT
        refine LX.world (W' := WA w0 base (.row (some gT) 1 1 9 1 [str xn] :: .row gn cn ns.length 9 1 (ns.map str) :: PWl bp al L cl s4 m1 (.row g c l.length 3 1 (l.map iv) :: fr))) (fun w hw => (show WA w0 base (.row (some gT) 1 1 9 1 [str xn] :: PWl bp al L cl s4 m1 (.row g c l.length 3 1 (l.map iv) :: .row gn cn ns.length 9 1 (ns.map str) :: fr)) w from hw).perm (by (refine perm_cnt fun x => ?_; simp only [PWl, PBl, ROl, z1, z2, z3, z4, z5, z6]; omega))) ?_
        refine LX.appendT 0 (g := gn) (k := ns.length) Pv_.el65 rfl rfl rfl rfl rfl rfl rfl (by omega) (by omega) rfl rfl rfl ?_
        intro gn2 cn2
        rw [show ns.length + 1 = (ns ++ [xn]).length by simp]
        refine LX.world (W' := WA w0 base (PWl bp al L cl s4 m1 (.row g c l.length 3 1 (l.map iv) :: .row gn2 cn2 (ns ++ [xn]).length 9 1 ((ns ++ [xn]).map str) :: fr))) (fun w hw => ?_) ?_
        · have h1 : WA w0 base (.row gn2 cn2 (ns ++ [xn]).length 9 1 ((ns ++ [xn]).map str) :: PWl bp al L cl s4 m1 (.row g c l.length 3 1 (l.map iv) :: fr)) w := by rw [← str_snoc]; exact hw
          exact h1.perm (by (refine perm_cnt fun x => ?_; simp only [PWl, PBl, ROl, z1, z2, z3, z4, z5, z6]; omega))
        refine LX.pure (Y.assign rfl) rfl rfl rfl <| LX.sub (l' := [(0, _), (5, _), (6, _), (7, _), (8, _), (9, _)]) ⟨rfl, rfl, rfl, rfl, rfl, rfl, trivial⟩ <| LX.next <| PX.thenN <| CX.region <| LX.pure (Y.move rfl) rfl rfl rfl <| LX.pure (Y.move rfl) rfl rfl rfl <| LX.pure (Y.move rfl) rfl rfl rfl <| LX.pure (Y.move rfl) rfl rfl rfl <| LX.pure (Y.move rfl) rfl rfl rfl ?_
        rw [Go.Pa.bnd_assoc] at hr
        obtain ⟨r5, e5, hok5, hst5⟩ := Go.Pa.bnd_some hr
        refine LX.callP (hTest j (by omega) s4 m1 ((.row g c l.length 3 1 (l.map iv) :: .row gn2 cn2 (ns ++ [xn]).length 9 1 ((ns ++ [xn]).map str) :: fr)) r5 e5 hnd4) Pg.en37 rfl rfl rfl rfl rfl (fun y => fun _ w ha hw => ⟨ha.defs, .inr ⟨y, rfl, hst5 _ _ hw.1, hw.2.drop (.cons_cons _ ((List.sublist_cons_self _ _).trans (List.sublist_cons_self _ _)))⟩⟩) ?_
        rintro ⟨k5, s5, m5⟩
        refine LX.have fun ⟨hr5, hnd5, hk5⟩ => ?_
        replace hr := hok5 _ _ hr5
        try dsimp only
        refine LX.buildSlice (e := 3) (size := 1) rfl rfl (fun _ => by kernel_rfl) rfl (by decide) rfl rfl rfl ?_
        intro gK
        rw [Go.Pa.bnd_assoc] at hr
        obtain ⟨hlen, hr⟩ := Go.Pa.node_bnd hr
        replace hr := Go.Pa.ret_bnd hr
        try dsimp only at hr
        refine LX.world (W' := WA w0 base (PBl bp al L cl s5 m5 :: ROl s5 m5 :: .row (some gK) 1 1 3 1 ([k5].map iv) :: (m5.rs ++ (.row g c l.length 3 1 (l.map iv) :: .row gn2 cn2 (ns ++ [xn]).length 9 1 ((ns ++ [xn]).map str) :: fr)))) (fun w hw => (show WA w0 base (.row (some gK) 1 1 3 1 ([k5].map iv) :: PWl bp al L cl s5 m5 (.row g c l.length 3 1 (l.map iv) :: .row gn2 cn2 (ns ++ [xn]).length 9 1 ((ns ++ [xn]).map str) :: fr)) w from hw).perm (by (refine perm_cnt fun x => ?_; simp only [PWl, PBl, ROl, z1, z2, z3, z4, z5, z6]; omega))) ?_
        refine LX.call (node_c (s := s5) (m := m5) (11) t.pos xn (some ⟨gK, 0, none⟩) 1 1 [k5] hlen) Pe.en15 rfl rfl rfl rfl rfl ?_
        intro q
        refine LX.world (W' := fun w => NdsR 3 (.row (some gK) 1 1 3 1 ([k5].map iv) :: m5.rs) ((m5.put q 11 t.pos xn (rv (some gK) 1 1) (.row (some gK) 1 1 3 1 ([k5].map iv) :: m5.rs))).cells ((s5.nod 11 t.pos xn [k5])).out ∧ WA w0 base (PWl bp al L cl (s5.nod 11 t.pos xn [k5]) (m5.put q 11 t.pos xn (rv (some gK) 1 1) (.row (some gK) 1 1 3 1 ([k5].map iv) :: m5.rs)) (.row g c l.length 3 1 (l.map iv) :: .row gn2 cn2 (ns ++ [xn]).length 9 1 ((ns ++ [xn]).map str) :: fr)) w) (fun w hw5 => ⟨put_nds (op := 11) (pos := t.pos) (x := xn) hnd5 hw5 (i := 2) (ks := [k5]) rfl (fun z hz => by cases List.mem_singleton.1 hz; exact hk5.inI) (by simp) (by unfold Go.SX.inI; omega) hin2, hw5⟩) <| LX.have fun hnd6 => LX.buildSlice (e := 3) (size := 1) rfl rfl (fun _ => by kernel_rfl) rfl (by decide) rfl rfl rfl ?_
        intro gT
        refine LX.world (W' := WA w0 base (.row (some gT) 1 1 3 1 [.int .i64 (s5.out.length : Int)] :: .row g c l.length 3 1 (l.map iv) :: PWl bp al L cl (s5.nod 11 t.pos xn [k5]) (m5.put q 11 t.pos xn (rv (some gK) 1 1) (.row (some gK) 1 1 3 1 ([k5].map iv) :: m5.rs)) (.row gn2 cn2 (ns ++ [xn]).length 9 1 ((ns ++ [xn]).map str) :: fr))) (fun w hw => (show WA w0 base (.row (some gT) 1 1 3 1 [.int .i64 (s5.out.length : Int)] :: PWl bp al L cl (s5.nod 11 t.pos xn [k5]) (m5.put q 11 t.pos xn (rv (some gK) 1 1) (.row (some gK) 1 1 3 1 ([k5].map iv) :: m5.rs)) (.row g c l.length 3 1 (l.map iv) :: .row gn2 cn2 (ns ++ [xn]).length 9 1 ((ns ++ [xn]).map str) :: fr)) w from hw).perm (by (refine perm_cnt fun x => ?_; simp only [PWl, PBl, ROl, z1, z2, z3, z4, z5, z6]; omega))) ?_
        refine LX.appendT 0 (g := g) (k := l.length) Pk.el29 rfl rfl rfl rfl rfl rfl rfl (by omega) (by omega) rfl rfl rfl ?_
        intro g' cap'
        rw [show l.length + 1 = (l ++ [(s5.out.length : Int)]).length by simp]
        refine LX.world (W' := WA w0 base (PWl bp al L cl (s5.nod 11 t.pos xn [k5]) (m5.put q 11 t.pos xn (rv (some gK) 1 1) (.row (some gK) 1 1 3 1 ([k5].map iv) :: m5.rs)) (.row g' cap' (l ++ [(s5.out.length : Int)]).length 3 1 ((l ++ [(s5.out.length : Int)]).map iv) :: (.row gn2 cn2 (ns ++ [xn]).length 9 1 ((ns ++ [xn]).map str) :: fr)))) (fun w hw => ?_) ?_
        · have h1 : WA w0 base (.row g' cap' (l ++ [(s5.out.length : Int)]).length 3 1 ((l ++ [(s5.out.length : Int)]).map iv) :: PWl bp al L cl (s5.nod 11 t.pos xn [k5]) (m5.put q 11 t.pos xn (rv (some gK) 1 1) (.row (some gK) 1 1 3 1 ([k5].map iv) :: m5.rs)) (.row gn2 cn2 (ns ++ [xn]).length 9 1 ((ns ++ [xn]).map str) :: fr)) w := by rw [← iv_snoc]; exact hw
          exact h1.perm (by (refine perm_cnt fun x => ?_; simp only [PWl, PBl, ROl, z1, z2, z3, z4, z5, z6]; omega))
        refine LX.pure (Y.assign rfl) rfl rfl rfl <| LX.sub (l' := [(0, _), (5, _), (6, _), (7, _)]) ⟨rfl, rfl, rfl, rfl, trivial⟩ <| LX.next <| PX.thenN <| CX.seq <| CX.region <| LX.pure (Y.move rfl) rfl rfl rfl ?_
        rw [Go.Pa.bnd_assoc] at hr
        obtain ⟨t2, ht2, hT, hF⟩ := Go.Pa.take_bnd hr
        refine LX.call (take_c hL hln ht2 [44]) Pd.en40 rfl rfl rfl rfl rfl ?_
        intro _
        refine LX.pure (Y.not rfl) rfl rfl rfl <| LX.sub (l' := [(0, _), (5, _), (6, _), (7, _), (79, _)]) ⟨rfl, rfl, rfl, rfl, rfl, trivial⟩ <| LX.next <| PX.thenN ?_
        refine CX.cond rfl (fun hb5 => ?_) (fun hb5 => ?_)
        · try simp at hb5
          rw [show isB t2 [[44]] = false from hb5]
          replace hr := hF hb5
          refine CX.world (W' := WA w0 base (PWl bp al L cl (s5.nod 11 t.pos xn [k5]) (m5.put q 11 t.pos xn (rv (some gK) 1 1) (.row (some gK) 1 1 3 1 ([k5].map iv) :: m5.rs)) (.row g' cap' (l ++ [(s5.out.length : Int)]).length 3 1 ((l ++ [(s5.out.length : Int)]).map iv) :: .row gn2 cn2 (ns ++ [xn]).length 9 1 ((ns ++ [xn]).map str) :: fr))) (fun w hw => hw) ?_
          obtain ⟨hlg, hr⟩ := Go.Pa.grow_bnd hr
          rw [if_neg Bool.false_ne_true] at hr
          replace hr := Go.Pa.ret_bnd hr
          refine CX.exit <| PX.blockO rfl <| PX.thenE <| PX.blockE ?_
          exact PX.seam ((l ++ [(s5.out.length : Int)]), (g', cap'), (s5.nod 11 t.pos xn [k5]), (m5.put q 11 t.pos xn (rv (some gK) 1 1) (.row (some gK) 1 1 3 1 ([k5].map iv) :: m5.rs))) ⟨rfl, rfl, rfl, trivial⟩ (fun w hw => ⟨⟨hr, hnd6, gI_snoc hg (gI.len hlen), by show (l ++ [(s5.out.length : Int)]).length ≤ 1000002; simp only [List.length_append, List.length_cons, List.length_nil]; omega⟩, hw.drop (.cons_cons _ (.cons_cons _ (List.Sublist.append (List.Sublist.refl _) (.cons_cons _ (List.sublist_cons_self _ _)))))⟩)
        try simp at hb5
        rw [show isB t2 [[44]] = true from hb5]
        replace hr := hT hb5
        refine CX.world (W' := WA w0 base (PWl bp al L cl (s5.nod 11 t.pos xn [k5]).adv (m5.put q 11 t.pos xn (rv (some gK) 1 1) (.row (some gK) 1 1 3 1 ([k5].map iv) :: m5.rs)) (.row g' cap' (l ++ [(s5.out.length : Int)]).length 3 1 ((l ++ [(s5.out.length : Int)]).map iv) :: .row gn2 cn2 (ns ++ [xn]).length 9 1 ((ns ++ [xn]).map str) :: fr))) (fun w hw => hw) ?_
        obtain ⟨hlg, hr⟩ := Go.Pa.grow_bnd hr
        rw [if_pos rfl] at hr
        refine CX.skip <| PX.blockN ?_
        exact PX.again (μ := fun z => z.2.2.2.2.2.2) (i := (l, ns, (g, c), (gn, cn), s1, m1, j + 1)) ((l ++ [(s5.out.length : Int)]), (ns ++ [xn]), (g', cap'), (gn2, cn2), (s5.nod 11 t.pos xn [k5]).adv, (m5.put q 11 t.pos xn (rv (some gK) 1 1) (.row (some gK) 1 1 3 1 ([k5].map iv) :: m5.rs)), j) (by show j < j + 1; omega) ⟨rfl, rfl, rfl, rfl, trivial⟩ (fun w hw => ⟨⟨⟨hr, by show j ≤ n; omega⟩, hnd6, gI_snoc hg (gI.len hlen), ⟨by show (l ++ [(s5.out.length : Int)]).length ≤ 1000000; omega, by show (ns ++ [xn]).length ≤ (l ++ [(s5.out.length : Int)]).length; simp only [List.length_append, List.length_cons, List.length_nil]; omega⟩⟩, hw⟩)
      try simp at hb3
      rw [if_neg (by simpa using hb3)] at hr
      refine CX.seq <| CX.seq <| CX.region <| LX.pure (Y.move rfl) rfl rfl rfl <| LX.pure (Y.lenSl rfl Fy.un65 rfl) rfl rfl rfl <| LX.pure (Y.gtN rfl rfl) rfl rfl rfl <| LX.sub (l' := [(0, _), (5, _), (6, _), (7, _), (69, _)]) ⟨rfl, rfl, rfl, rfl, rfl, trivial⟩ <| LX.next <| PX.thenN ?_
      refine CX.cond rfl (fun hb6 => ?_) (fun hb6 => ?_)
      · try simp at hb6
        rw [if_pos (by intro h; rw [h] at hb6; simp at hb6)] at hr
        refine CX.region <| LX.pure (Y.move rfl) rfl rfl rfl ?_
        refine LX.callP (bad_p hS hL hln ht) Pd.en23 rfl rfl rfl rfl rfl (fun ax => fun _ w ha hw => ⟨ha.defs, .inr ⟨(t.pos, false, ax), rfl, bad_bnd ht hr, hw.drop (.cons_cons _ (.cons _ (((List.sublist_cons_self _ _).trans (List.sublist_cons_self _ _)).trans (List.sublist_append_right _ _))))⟩⟩) (fun x => x.elim)
      try simp at hb6
      rw [if_neg (fun h => h (by cases ns with | nil => rfl | cons a q => simp at hb6))] at hr
      refine CX.skip <| PX.thenN <| CX.region <| LX.pure (Y.move rfl) rfl rfl rfl <| LX.pure (Y.move rfl) rfl rfl rfl ?_
      rw [Go.Pa.bnd_assoc] at hr
      obtain ⟨r6, e6, hok6, hst6⟩ := Go.Pa.bnd_some hr
      refine LX.callP (hTest j (by omega) s1 m1 ((.row g c l.length 3 1 (l.map iv) :: .row gn cn ns.length 9 1 (ns.map str) :: fr)) r6 e6 hnd1) Pg.en37 rfl rfl rfl rfl rfl (fun y => fun _ w ha hw => ⟨ha.defs, .inr ⟨y, rfl, hst6 _ _ hw.1, hw.2.drop (.cons_cons _ ((List.sublist_cons_self _ _).trans (List.sublist_cons_self _ _)))⟩⟩) ?_
      rintro ⟨k6, s6, m6⟩
      refine LX.have fun ⟨hr6, hnd6, hk6⟩ => ?_
      replace hr := hok6 _ _ hr6
      try dsimp only
      refine LX.buildSlice (e := 3) (size := 1) rfl rfl (fun _ => by kernel_rfl) rfl (by decide) rfl rfl rfl ?_
      intro gT
      refine LX.world (W' := WA w0 base (.row (some gT) 1 1 3 1 [.int .i64 k6] :: .row g c l.length 3 1 (l.map iv) :: PWl bp al L cl s6 m6 (.row gn cn ns.length 9 1 (ns.map str) :: fr))) (fun w hw => (show WA w0 base (.row (some gT) 1 1 3 1 [.int .i64 k6] :: PWl bp al L cl s6 m6 (.row g c l.length 3 1 (l.map iv) :: .row gn cn ns.length 9 1 (ns.map str) :: fr)) w from hw).perm (by (refine perm_cnt fun x => ?_; simp only [PWl, PBl, ROl, z1, z2, z3, z4, z5, z6]; omega))) ?_
      refine LX.appendT 0 (g := g) (k := l.length) Pk.el29 rfl rfl rfl rfl rfl rfl rfl (by omega) (by omega) rfl rfl rfl ?_
      intro g' cap'
      rw [show l.length + 1 = (l ++ [k6]).length by simp]
      refine LX.world (W' := WA w0 base (PWl bp al L cl s6 m6 (.row g' cap' (l ++ [k6]).length 3 1 ((l ++ [k6]).map iv) :: (.row gn cn ns.length 9 1 (ns.map str) :: fr)))) (fun w hw => ?_) ?_
      · have h1 : WA w0 base (.row g' cap' (l ++ [k6]).length 3 1 ((l ++ [k6]).map iv) :: PWl bp al L cl s6 m6 (.row gn cn ns.length 9 1 (ns.map str) :: fr)) w := by rw [← iv_snoc]; exact hw
        exact h1.perm (by (refine perm_cnt fun x => ?_; simp only [PWl, PBl, ROl, z1, z2, z3, z4, z5, z6]; omega))
      replace hr := Go.Pa.ret_bnd hr
      try dsimp only at hr
      refine LX.pure (Y.assign rfl) rfl rfl rfl <| LX.sub (l' := [(0, _), (5, _), (6, _), (7, _)]) ⟨rfl, rfl, rfl, rfl, trivial⟩ <| LX.next <| PX.thenN <| CX.seq <| CX.region <| LX.pure (Y.move rfl) rfl rfl rfl ?_
      rw [Go.Pa.bnd_assoc] at hr
      obtain ⟨t2, ht2, hT, hF⟩ := Go.Pa.take_bnd hr
      refine LX.call (take_c hL hln ht2 [44]) Pd.en40 rfl rfl rfl rfl rfl ?_
      intro _
      refine LX.pure (Y.not rfl) rfl rfl rfl <| LX.sub (l' := [(0, _), (5, _), (6, _), (7, _), (79, _)]) ⟨rfl, rfl, rfl, rfl, rfl, trivial⟩ <| LX.next <| PX.thenN ?_
      refine CX.cond rfl (fun hb7 => ?_) (fun hb7 => ?_)
      · try simp at hb7
        rw [show isB t2 [[44]] = false from hb7]
        replace hr := hF hb7
        refine CX.world (W' := WA w0 base (PWl bp al L cl s6 m6 (.row g' cap' (l ++ [k6]).length 3 1 ((l ++ [k6]).map iv) :: .row gn cn ns.length 9 1 (ns.map str) :: fr))) (fun w hw => hw) ?_
        obtain ⟨hlg, hr⟩ := Go.Pa.grow_bnd hr
        rw [if_neg Bool.false_ne_true] at hr
        replace hr := Go.Pa.ret_bnd hr
        refine CX.exit <| PX.blockO rfl <| PX.thenE <| PX.blockE ?_
        exact PX.seam ((l ++ [k6]), (g', cap'), s6, m6) ⟨rfl, rfl, rfl, trivial⟩ (fun w hw => ⟨⟨hr, hnd6, gI_snoc hg hk6, by show (l ++ [k6]).length ≤ 1000002; simp only [List.length_append, List.length_cons, List.length_nil]; omega⟩, hw.drop (.cons_cons _ (.cons_cons _ (List.Sublist.append (List.Sublist.refl _) (.cons_cons _ (List.sublist_cons_self _ _)))))⟩)
      try simp at hb7
      rw [show isB t2 [[44]] = true from hb7]
      replace hr := hT hb7
      refine CX.world (W' := WA w0 base (PWl bp al L cl s6.adv m6 (.row g' cap' (l ++ [k6]).length 3 1 ((l ++ [k6]).map iv) :: .row gn cn ns.length 9 1 (ns.map str) :: fr))) (fun w hw => hw) ?_
      obtain ⟨hlg, hr⟩ := Go.Pa.grow_bnd hr
      rw [if_pos rfl] at hr
      refine CX.skip <| PX.blockN ?_
      exact PX.again (μ := fun z => z.2.2.2.2.2.2) (i := (l, ns, (g, c), (gn, cn), s1, m1, j + 1)) ((l ++ [k6]), ns, (g', cap'), (gn, cn), s6.adv, m6, j) (by show j < j + 1; omega) ⟨rfl, rfl, rfl, rfl, trivial⟩ (fun w hw => ⟨⟨⟨hr, by show j ≤ n; omega⟩, hnd6, gI_snoc hg hk6, ⟨by show (l ++ [k6]).length ≤ 1000000; omega, by show ns.length ≤ (l ++ [k6]).length; simp only [List.length_append, List.length_cons, List.length_nil]; omega⟩⟩, hw⟩)
    try simp at hb1
    rw [show isB t [[41]] = true from hb1, if_pos rfl] at hr
    replace hr := Go.Pa.ret_bnd hr
    refine CX.exit <| PX.thenE <| PX.thenE <| PX.blockE ?_
    exact PX.seam (l, (g, c), s1, m1) ⟨rfl, rfl, rfl, trivial⟩ (fun w hw => ⟨⟨hr, hnd1, hg, by show l.length ≤ 1000002; omega⟩, hw.drop (.cons_cons _ (.cons_cons _ (List.Sublist.append (List.Sublist.refl _) (.cons_cons _ (List.sublist_cons_self _ _)))))⟩)
  clear hr
  rintro ⟨l, ⟨g, c⟩, s3, m3⟩
  refine CX.have fun ⟨hr, hnd3, hg, hlm⟩ => ?_
  replace hlm : l.length ≤ 1000002 := hlm
  replace hg : ∀ x ∈ l, gI x := hg
  try dsimp only at hr ⊢
  refine CX.seq <| CX.region <| LX.pure (Y.move rfl) rfl rfl rfl ?_
  obtain ⟨r9, e9, hok9, hst9⟩ := Go.Pa.bnd_some hr
  refine LX.callP (must_p hS hL hln [41] e9) Pf.en41 rfl rfl rfl rfl rfl (fun y => fun _ w ha hw => ⟨ha.defs, .inr ⟨y, rfl, hst9 _ _ hw.1, hw.2.drop (.cons_cons _ (.cons _ ((List.sublist_cons_self _ _).trans (List.sublist_append_right _ _))))⟩⟩) ?_
  rintro ⟨p9, s9⟩
  refine LX.have fun ⟨hr9, hou9, hp9⟩ => ?_
  replace hou9 : s9.out = s3.out := hou9
  have hnd9 : NdsR 3 m3.rs m3.cells s9.out := by rw [hou9]; exact hnd3
  replace hr := hok9 _ _ hr9
  refine LX.world (W' := WA w0 base (PWl bp al L cl s9 m3 (.row g c l.length 3 1 (l.map iv) :: fr))) (fun w hw => by show WA w0 base (PBl bp al L cl s9 m3 :: .row m3.g m3.c s9.out.length 31 5 m3.cells :: (m3.rs ++ (.row g c l.length 3 1 (l.map iv) :: fr))) w; rw [hou9]; exact hw) ?_
  try dsimp only
  obtain ⟨a9, o9, d9, f9, g9⟩ := s9
  obtain ⟨d, hd, hdl, hr⟩ := Go.Pa.outn_bnd hr
  obtain rfl : d9 = d + 1 := hd
  try dsimp only
  refine LX.sub (l' := [(0, _), (5, _), (6, _)]) ⟨rfl, rfl, rfl, trivial⟩ <| LX.next <| PX.thenN <| CX.seq <| CX.region <| LX.pure (Y.move rfl) rfl rfl rfl <| LX.pure (Y.nilCheck rfl) rfl rfl rfl <| LX.pure (Y.fieldAddr0 Pd.fo41_3 rfl) rfl rfl rfl <| LX.pure (Y.ldB 0 Pa.one3 rfl rfl rfl) rfl rfl rfl <| LX.pure (Y.subN rfl rfl (by (simp only []; omega)) (by (simp only []; omega))) rfl rfl rfl <| LX.pure (Y.nilCheck rfl) rfl rfl rfl <| LX.pure (Y.fieldAddr0 Pd.fo41_3 rfl) rfl rfl rfl <| LX.storeB 0 Pb.sz3 rfl rfl rfl rfl rfl rfl rfl rfl <| LX.sub (l' := [(0, _), (5, _), (6, _)]) ⟨rfl, rfl, rfl, trivial⟩ <| LX.next <| PX.thenN <| CX.seq <| CX.region <| LX.pure (Y.move rfl) rfl rfl rfl <| LX.pure (Y.move rfl) rfl rfl rfl <| LX.pure (Y.move rfl) rfl rfl rfl ?_
  obtain ⟨hlen, hre⟩ := Go.Pa.node_end hr
  refine LX.call (node_c (s := (⟨a9, o9, d, f9, g9⟩ : Go.Pa.St)) (m := m3) (10) pos [] (g.map fun b => ⟨b, 0, none⟩) l.length c l hlen) Pe.en15 rfl rfl rfl rfl rfl ?_
  intro q
  refine LX.pure (Y.assign rfl) rfl rfl rfl <| LX.sub (l' := [(4, _)]) ⟨rfl, trivial⟩ <| LX.next <| PX.thenN <| CX.ret <| PX.ret1 (by simp) Tryd.results78 rfl ?_
  exact fun w hw0 => by
    have hw := (show WA w0 base (PBl bp al L cl ((⟨a9, o9, d, f9, g9⟩ : Go.Pa.St).nod 10 pos [] l) (m3.put q 10 pos [] (rv g l.length c) (m3.rs)) :: ROl ((⟨a9, o9, d, f9, g9⟩ : Go.Pa.St).nod 10 pos [] l) (m3.put q 10 pos [] (rv g l.length c) (m3.rs)) :: (m3.rs ++ (.row g c l.length 3 1 (l.map iv) :: fr))) w from hw0).perm (show List.Perm (PBl bp al L cl ((⟨a9, o9, d, f9, g9⟩ : Go.Pa.St).nod 10 pos [] l) (m3.put q 10 pos [] (rv g l.length c) (m3.rs)) :: ROl ((⟨a9, o9, d, f9, g9⟩ : Go.Pa.St).nod 10 pos [] l) (m3.put q 10 pos [] (rv g l.length c) (m3.rs)) :: .row g c l.length 3 1 (l.map iv) :: (m3.rs ++ fr)) _ by (refine perm_cnt fun x => ?_; simp only [PWl, PBl, ROl, z1, z2, z3, z4, z5, z6]; omega))
    exact .inl ⟨(((⟨a9, o9, d, f9, g9⟩ : Go.Pa.St).out.length : Int), ((⟨a9, o9, d, f9, g9⟩ : Go.Pa.St).nod 10 pos [] l), (m3.put q 10 pos [] (rv g l.length c) (.row g c l.length 3 1 (l.map iv) :: m3.rs))), rfl, ⟨hre, put_nds (op := 10) (pos := pos) (x := []) hnd9 hw (i := 2) (ks := l) rfl (fun z hz => (hg z hz).inI) (by omega) (by unfold Go.SX.inI; omega) hp0, gI.len hlen⟩, hw⟩
end Go.Proofs.YtfbenelagdcdgaaDoor
