/-
  Proved here: ifs and loops.
-/
import Derived.Test.YtfbenelagdcdgaaDoorPaV
set_option linter.unusedSimpArgs false
namespace Go.Proofs.YtfbenelagdcdgaaDoor
open Go.SX Go.RowKit Go.Tr Go.Lex
namespace Qb_
theorem en38 : Enters Tryd.prog 38 := Enters.of Tryd.func38 (by kernel_rfl) (by kernel_rfl)
end Qb_
open Go.Proofs.YtfbenelagdcdgaaDoor.Env (EnvS errV sentG)
open Go.Pa (Tk Rs bnd ret isB is_ adv bad take must kinds inn outn node nodeAt setPos)
open Go.Ck (NdsR)
theorem gI2 {a b : Int} (ha : gI a) (hb : gI b) : ∀ z ∈ [a, b], gI z := fun z hz => by
  simp only [List.mem_cons, List.not_mem_nil, or_false] at hz
  rcases hz with rfl | rfl <;> assumption
theorem cond_p {w0 : World} {base : Nat} {aE : Nat → Addr} (hS : EnvS w0 base aE) {bp : Nat} {al : Option Addr} {cl : Nat} {L : List Tk} (hL : SlAt 3 tokA (Lies w0 base) al L) (hln : L.length ≤ 1099511627776) (n : Nat) (hTest : ∀ j, j ≤ n → FI w0 base aE al cl L bp 37 (.test) j) (hBlk : ∀ j, j ≤ n → FI w0 base aE al cl L bp 38 (.block) j) (hSelf : ∀ j, j ≤ n → FI w0 base aE al cl L bp 21 (.cond) j) : FI w0 base aE al cl L bp 21 (.cond) (n + 1) := by
  intro s m fr r hr hnd
  change (bnd (Go.Pa.tok L) fun t => bnd adv fun _ => bnd (Go.Pa.run L nameB n .test) fun c => bnd (Go.Pa.run L nameB n .block) fun b => bnd (Go.Pa.tok L) fun t2 => if isB t2 [[101, 108, 105, 102]] then bnd (inn t2.pos) fun _ => bnd (Go.Pa.run L nameB n .cond) fun k => bnd outn fun _ => bnd (node 47 t2.pos [] [k]) fun n => node 43 t.pos [] [c, b, n] else bnd (take L [101, 108, 115, 101]) fun e => if e then bnd (Go.Pa.run L nameB n .block) fun n => node 43 t.pos [] [c, b, n] else node 43 t.pos [] [c, b]) s = some r at hr
  obtain ⟨t, ht, hr⟩ := Go.Pa.tok_bnd hr
  obtain ⟨a0, cs, hav, hcl, hLt, rfl, hin1, hin2⟩ := hL _ _ ht
  have hj : s.at_ < L.length := (List.getElem?_eq_some_iff.1 ht).1
  replace hr := Go.Pa.adv_bnd hr
  refine FnP.of_body (fn := Tryd.f21) [(0, _)] Tryd.func21 rfl Tryd.ntmps21 rfl ⟨rfl, trivial⟩ ?_
  refine CX.seq <| CX.region <| LX.pure (Y.assign rfl) rfl rfl rfl <| LX.sub (l' := [(0, _), (2, _)]) ⟨rfl, rfl, trivial⟩ <| LX.next <| PX.thenN <| CX.seq <| CX.region <| LX.pure (Y.move rfl) rfl rfl rfl <| LX.callQ (pos_q ht (fun w hw => blkL hw (i := 0) rfl) (fun w hw => hL.push hw)) Pc.en36 rfl rfl rfl rfl rfl <| LX.pure (Y.assign rfl) rfl rfl rfl <| LX.sub (l' := [(0, _), (2, _), (3, _)]) ⟨rfl, rfl, rfl, trivial⟩ <| LX.next <| PX.thenN <| CX.seq <| CX.region <| LX.pure (Y.move rfl) rfl rfl rfl <| LX.pure (Y.nilCheck rfl) rfl rfl rfl <| LX.pure (Y.fieldAddr0 Pa.fo41_1 rfl) rfl rfl rfl <| LX.pure (Y.ldB 0 Pa.one3 rfl rfl rfl) rfl rfl rfl <| LX.pure (Y.addN rfl rfl (by (simp only []; omega))) rfl rfl rfl <| LX.pure (Y.nilCheck rfl) rfl rfl rfl <| LX.pure (Y.fieldAddr0 Pa.fo41_1 rfl) rfl rfl rfl <| LX.storeB 0 Pb.sz3 rfl rfl rfl rfl rfl rfl rfl rfl <| LX.sub (l' := [(0, _), (2, _), (3, _)]) ⟨rfl, rfl, rfl, trivial⟩ <| LX.next <| PX.thenN <| CX.seq <| CX.region <| LX.pure (Y.move rfl) rfl rfl rfl ?_
  obtain ⟨r1, e1, hok1, hst1⟩ := Go.Pa.bnd_some hr
  refine LX.callP (hTest n (Nat.le_refl _) s.adv m (fr) r1 e1 hnd) Pg.en37 rfl rfl rfl rfl rfl (fun y => fun _ w ha hw => ⟨ha.defs, .inr ⟨y, rfl, hst1 _ _ hw.1, hw.2⟩⟩) ?_
  rintro ⟨c, s1, m1⟩
  refine LX.have fun ⟨hr1, hnd1, hk1⟩ => ?_
  replace hr := hok1 _ _ hr1
  try dsimp only
  refine LX.pure (Y.move rfl) rfl rfl rfl ?_
  obtain ⟨r2, e2, hok2, hst2⟩ := Go.Pa.bnd_some hr
  refine LX.callP (hBlk n (Nat.le_refl _) s1 m1 (fr) r2 e2 hnd1) Qb_.en38 rfl rfl rfl rfl rfl (fun y => fun _ w ha hw => ⟨ha.defs, .inr ⟨y, rfl, hst2 _ _ hw.1, hw.2⟩⟩) ?_
  rintro ⟨b, s2, m2⟩
  refine LX.have fun ⟨hr2, hnd2, hk2⟩ => ?_
  replace hr := hok2 _ _ hr2
  try dsimp only
  refine LX.buildSlice (e := 3) (size := 1) rfl rfl (fun _ => by kernel_rfl) rfl (by decide) rfl rfl rfl ?_
  intro gL
  refine LX.world (W' := WA w0 base (PWl bp al L cl s2 m2 (.row (some gL) 2 [c, b].length 3 1 ([c, b].map iv) :: fr))) (fun w hw => (show WA w0 base (.row (some gL) 2 [c, b].length 3 1 ([c, b].map iv) :: PWl bp al L cl s2 m2 fr) w from hw).perm (by (refine perm_cnt fun x => ?_; simp only [PWl, PBl, ROl, z1, z2, z3, z4, z5, z6]; omega))) ?_
  obtain ⟨t2, ht2, hr⟩ := Go.Pa.tok_bnd hr
  have hi2 : inI t2.pos := by obtain ⟨_, _, _, _, _, rfl, _, h⟩ := hL _ _ ht2; exact h
  refine LX.pure (Y.assign rfl) rfl rfl rfl <| LX.sub (l' := [(0, _), (2, _), (3, _), (4, _)]) ⟨rfl, rfl, rfl, rfl, trivial⟩ <| LX.next <| PX.thenN ?_
  refine CX.seqM (fun z : List Int × (Option Nat × Nat) × Go.Pa.St × Mm => [(0, .pointer (some ⟨bp, 0, none⟩)), (3, .int .i64 t.pos), (4, rv z.2.1.1 z.1.length z.2.1.2)]) (fun (z : List Int × (Option Nat × Nat) × Go.Pa.St × Mm) w => ((node 43 t.pos [] z.1) z.2.2.1 = some r ∧ NdsR 3 z.2.2.2.rs z.2.2.2.cells z.2.2.1.out ∧ (∀ x ∈ z.1, gI x) ∧ z.1.length ≤ 1000002) ∧ WA w0 base (PWl bp al L cl z.2.2.1 z.2.2.2 (.row z.2.1.1 z.2.1.2 z.1.length 3 1 (z.1.map iv) :: fr)) w) ?_ ?_
  ·
    refine CX.block <| CX.seq <| CX.region <| LX.pure (Y.move rfl) rfl rfl rfl <| LX.buildSlice (e := 9) (size := 1) rfl rfl (fun _ => by kernel_rfl) rfl (by decide) rfl rfl rfl ?_
    intro gS
    refine LX.callQ (is_q ht2 _ (ss := [[101, 108, 105, 102]]) (by decide) (fun w hw => blkL hw (i := 1) rfl) (fun w hw => hL.push hw) (fun w hw => row_at hw (j := 0) rfl rfl (by decide) (fun i z h => map_A (f := str) (xs := [[101, 108, 105, 102]]) h))) Pd.en20 rfl rfl rfl rfl rfl <| LX.world (W' := WA w0 base (PWl bp al L cl s2 m2 (.row (some gL) 2 [c, b].length 3 1 ([c, b].map iv) :: fr))) (fun w hw => hw.drop (List.sublist_cons_self _ _)) <| LX.pure (Y.assign rfl) rfl rfl rfl <| LX.sub (l' := [(0, _), (2, _), (3, _), (4, _), (21, _)]) ⟨rfl, rfl, rfl, rfl, rfl, trivial⟩ <| LX.next <| PX.thenN ?_
    refine CX.cond rfl (fun hb1 => ?_) (fun hb1 => ?_)
    · try simp at hb1
      rw [show isB t2 [[101, 108, 105, 102]] = true from hb1, if_pos rfl] at hr
      refine CX.seq <| CX.region <| LX.pure (Y.move rfl) rfl rfl rfl <| LX.callQ (pos_q ht2 (fun w hw => blkL hw (i := 0) rfl) (fun w hw => hL.push hw)) Pc.en36 rfl rfl rfl rfl rfl <| LX.pure (Y.assign rfl) rfl rfl rfl <| LX.sub (l' := [(0, _), (2, _), (3, _), (4, _), (5, _)]) ⟨rfl, rfl, rfl, rfl, rfl, trivial⟩ <| LX.next <| PX.thenN <| CX.seq <| CX.region <| LX.pure (Y.move rfl) rfl rfl rfl <| LX.pure (Y.move rfl) rfl rfl rfl ?_
      obtain ⟨r4, e4, hok4, hst4⟩ := Go.Pa.bnd_some hr
      refine LX.callP (in_p hS hL hln t2.pos e4) Pf.en39 rfl rfl rfl rfl rfl (fun y => fun _ w ha hw => ⟨ha.defs, .inr ⟨y, rfl, hst4 _ _ hw.1, hw.2.drop (.cons_cons _ (.cons _ ((List.sublist_cons_self _ _).trans (List.sublist_append_right _ _))))⟩⟩) ?_
      rintro ⟨_, s4⟩
      refine LX.have fun ⟨hr4, hou4, _⟩ => ?_
      replace hou4 : s4.out = s2.out := hou4
      have hnd4 : NdsR 3 m2.rs m2.cells s4.out := by rw [hou4]; exact hnd2
      replace hr := hok4 _ _ hr4
      refine LX.world (W' := WA w0 base (PWl bp al L cl s4 m2 (.row (some gL) 2 [c, b].length 3 1 ([c, b].map iv) :: fr))) (fun w hw => by show WA w0 base (PBl bp al L cl s4 m2 :: .row m2.g m2.c s4.out.length 31 5 m2.cells :: (m2.rs ++ (.row (some gL) 2 [c, b].length 3 1 ([c, b].map iv) :: fr))) w; rw [hou4]; exact hw) ?_
      try dsimp only
      refine LX.sub (l' := [(0, _), (2, _), (3, _), (4, _), (5, _)]) ⟨rfl, rfl, rfl, rfl, rfl, trivial⟩ <| LX.next <| PX.thenN <| CX.seq <| CX.region <| LX.pure (Y.move rfl) rfl rfl rfl ?_
      obtain ⟨r5, e5, hok5, hst5⟩ := Go.Pa.bnd_some hr
      refine LX.callP (hSelf n (Nat.le_refl _) s4 m2 ((.row (some gL) 2 [c, b].length 3 1 ([c, b].map iv) :: fr)) r5 e5 hnd4) Py_.en21 rfl rfl rfl rfl rfl (fun y => fun _ w ha hw => ⟨ha.defs, .inr ⟨y, rfl, hst5 _ _ hw.1, hw.2.drop (.cons_cons _ (List.sublist_cons_self _ _))⟩⟩) ?_
      rintro ⟨k5, s5, m5⟩
      refine LX.have fun ⟨hr5, hnd5, hk5⟩ => ?_
      replace hr := hok5 _ _ hr5
      try dsimp only
      obtain ⟨a5, o5, d5, f5, g5⟩ := s5
      obtain ⟨d, hd, hdl, hr⟩ := Go.Pa.outn_bnd hr
      obtain rfl : d5 = d + 1 := hd
      try dsimp only
      refine LX.pure (Y.assign rfl) rfl rfl rfl <| LX.sub (l' := [(0, _), (2, _), (3, _), (4, _), (5, _), (6, _)]) ⟨rfl, rfl, rfl, rfl, rfl, rfl, trivial⟩ <| LX.next <| PX.thenN <| CX.seq <| CX.region <| LX.pure (Y.move rfl) rfl rfl rfl <| LX.pure (Y.nilCheck rfl) rfl rfl rfl <| LX.pure (Y.fieldAddr0 Pd.fo41_3 rfl) rfl rfl rfl <| LX.pure (Y.ldB 0 Pa.one3 rfl rfl rfl) rfl rfl rfl <| LX.pure (Y.subN rfl rfl (by (simp only []; omega)) (by (simp only []; omega))) rfl rfl rfl <| LX.pure (Y.nilCheck rfl) rfl rfl rfl <| LX.pure (Y.fieldAddr0 Pd.fo41_3 rfl) rfl rfl rfl <| LX.storeB 0 Pb.sz3 rfl rfl rfl rfl rfl rfl rfl rfl <| LX.sub (l' := [(0, _), (2, _), (3, _), (4, _), (5, _), (6, _)]) ⟨rfl, rfl, rfl, rfl, rfl, rfl, trivial⟩ <| LX.next <| PX.thenN <| CX.region <| LX.pure (Y.move rfl) rfl rfl rfl <| LX.pure (Y.move rfl) rfl rfl rfl <| LX.pure (Y.move rfl) rfl rfl rfl <| LX.pure (Y.move rfl) rfl rfl rfl <| LX.buildSlice (e := 3) (size := 1) rfl rfl (fun _ => by kernel_rfl) rfl (by decide) rfl rfl rfl ?_
      intro gK
      obtain ⟨hlen, hr⟩ := Go.Pa.node_bnd hr
      try dsimp only at hr
      refine LX.world (W' := WA w0 base (PBl bp al L cl (⟨a5, o5, d, f5, g5⟩ : Go.Pa.St) m5 :: ROl (⟨a5, o5, d, f5, g5⟩ : Go.Pa.St) m5 :: .row (some gK) 1 1 3 1 ([k5].map iv) :: (m5.rs ++ (.row (some gL) 2 [c, b].length 3 1 ([c, b].map iv) :: fr)))) (fun w hw => (show WA w0 base (.row (some gK) 1 1 3 1 ([k5].map iv) :: PWl bp al L cl (⟨a5, o5, d, f5, g5⟩ : Go.Pa.St) m5 (.row (some gL) 2 [c, b].length 3 1 ([c, b].map iv) :: fr)) w from hw).perm (by (refine perm_cnt fun x => ?_; simp only [PWl, PBl, ROl, z1, z2, z3, z4, z5, z6]; omega))) ?_
      refine LX.call (node_c (s := (⟨a5, o5, d, f5, g5⟩ : Go.Pa.St)) (m := m5) (47) t2.pos [] (some ⟨gK, 0, none⟩) 1 1 [k5] hlen) Pe.en15 rfl rfl rfl rfl rfl ?_
      intro q
      refine LX.world (W' := fun w => NdsR 3 ((m5.put q 47 t2.pos [] (rv (some gK) 1 1) (.row (some gK) 1 1 3 1 ([k5].map iv) :: m5.rs))).rs ((m5.put q 47 t2.pos [] (rv (some gK) 1 1) (.row (some gK) 1 1 3 1 ([k5].map iv) :: m5.rs))).cells (⟨a5, o5 ++ [(⟨47, 0, t2.pos, [], [k5]⟩ : Go.Pa.Nd)], d, f5, g5⟩ : Go.Pa.St).out ∧ WA w0 base (PWl bp al L cl (⟨a5, o5 ++ [(⟨47, 0, t2.pos, [], [k5]⟩ : Go.Pa.Nd)], d, f5, g5⟩ : Go.Pa.St) (m5.put q 47 t2.pos [] (rv (some gK) 1 1) (.row (some gK) 1 1 3 1 ([k5].map iv) :: m5.rs)) (.row (some gL) 2 [c, b].length 3 1 ([c, b].map iv) :: fr)) w) (fun w hw5 => ⟨put_nds (op := 47) (pos := t2.pos) (x := []) hnd5 hw5 (i := 2) (ks := [k5]) rfl (fun z hz => by cases List.mem_singleton.1 hz; exact hk5.inI) (by simp) (by unfold Go.SX.inI; omega) hi2, hw5⟩) <| LX.have fun hndB => LX.buildSlice (e := 3) (size := 1) rfl rfl (fun _ => by kernel_rfl) rfl (by decide) rfl rfl rfl ?_
      intro gT
      refine LX.world (W' := WA w0 base (.row (some gT) 1 1 3 1 [.int .i64 (o5.length : Int)] :: .row (some gL) 2 [c, b].length 3 1 ([c, b].map iv) :: PWl bp al L cl (⟨a5, o5 ++ [(⟨47, 0, t2.pos, [], [k5]⟩ : Go.Pa.Nd)], d, f5, g5⟩ : Go.Pa.St) (m5.put q 47 t2.pos [] (rv (some gK) 1 1) (.row (some gK) 1 1 3 1 ([k5].map iv) :: m5.rs)) fr)) (fun w hw => (show WA w0 base (.row (some gT) 1 1 3 1 [.int .i64 (o5.length : Int)] :: PWl bp al L cl (⟨a5, o5 ++ [(⟨47, 0, t2.pos, [], [k5]⟩ : Go.Pa.Nd)], d, f5, g5⟩ : Go.Pa.St) (m5.put q 47 t2.pos [] (rv (some gK) 1 1) (.row (some gK) 1 1 3 1 ([k5].map iv) :: m5.rs)) (.row (some gL) 2 [c, b].length 3 1 ([c, b].map iv) :: fr)) w from hw).perm (by (refine perm_cnt fun x => ?_; simp only [PWl, PBl, ROl, z1, z2, z3, z4, z5, z6]; omega))) ?_
      refine LX.appendT 0 (g := (some gL)) (k := [c, b].length) Pk.el29 rfl rfl rfl rfl rfl rfl rfl (by (simp only [List.length_cons, List.length_nil]; omega)) (by (simp only [List.length_cons, List.length_nil]; omega)) rfl rfl rfl ?_
      intro g' cap'
      rw [show [c, b].length + 1 = ([c, b] ++ [(o5.length : Int)]).length by simp]
      refine LX.world (W' := WA w0 base (PWl bp al L cl (⟨a5, o5 ++ [(⟨47, 0, t2.pos, [], [k5]⟩ : Go.Pa.Nd)], d, f5, g5⟩ : Go.Pa.St) (m5.put q 47 t2.pos [] (rv (some gK) 1 1) (.row (some gK) 1 1 3 1 ([k5].map iv) :: m5.rs)) (.row g' cap' ([c, b] ++ [(o5.length : Int)]).length 3 1 (([c, b] ++ [(o5.length : Int)]).map iv) :: fr))) (fun w hw => ?_) ?_
      · have h1 : WA w0 base (.row g' cap' ([c, b] ++ [(o5.length : Int)]).length 3 1 (([c, b] ++ [(o5.length : Int)]).map iv) :: PWl bp al L cl (⟨a5, o5 ++ [(⟨47, 0, t2.pos, [], [k5]⟩ : Go.Pa.Nd)], d, f5, g5⟩ : Go.Pa.St) (m5.put q 47 t2.pos [] (rv (some gK) 1 1) (.row (some gK) 1 1 3 1 ([k5].map iv) :: m5.rs)) fr) w := by rw [← iv_snoc]; exact hw
        exact h1.perm (by (refine perm_cnt fun x => ?_; simp only [PWl, PBl, ROl, z1, z2, z3, z4, z5, z6]; omega))
      refine LX.pure (Y.assign rfl) rfl rfl rfl <| LX.sub (l' := [(0, _), (2, _), (3, _), (4, _)]) ⟨rfl, rfl, rfl, rfl, trivial⟩ <| LX.next <| PX.blockN ?_
      exact PX.seam (([c, b] ++ [(o5.length : Int)]), (g', cap'), (⟨a5, o5 ++ [(⟨47, 0, t2.pos, [], [k5]⟩ : Go.Pa.Nd)], d, f5, g5⟩ : Go.Pa.St), (m5.put q 47 t2.pos [] (rv (some gK) 1 1) (.row (some gK) 1 1 3 1 ([k5].map iv) :: m5.rs))) ⟨rfl, rfl, rfl, trivial⟩ (fun w hw => ⟨⟨hr, hndB, gI_snoc (gI2 hk1 hk2) (gI.len hlen), by simp⟩, hw⟩)
    try simp at hb1
    rw [show isB t2 [[101, 108, 105, 102]] = false from hb1, if_neg Bool.false_ne_true] at hr
    refine CX.seq <| CX.region <| LX.pure (Y.move rfl) rfl rfl rfl ?_
    obtain ⟨t3, ht3, hT, hF⟩ := Go.Pa.take_bnd hr
    obtain rfl : t2 = t3 := by rw [ht2] at ht3; exact Option.some.inj ht3
    refine LX.call (take_c hL hln ht2 [101, 108, 115, 101]) Pd.en40 rfl rfl rfl rfl rfl ?_
    intro _
    refine LX.pure (Y.assign rfl) rfl rfl rfl <| LX.sub (l' := [(0, _), (2, _), (3, _), (4, _), (47, _)]) ⟨rfl, rfl, rfl, rfl, rfl, trivial⟩ <| LX.next <| PX.thenN ?_
    refine CX.cond rfl (fun hb2 => ?_) (fun hb2 => ?_)
    · try simp at hb2
      rw [show isB t2 [[101, 108, 115, 101]] = true from hb2]
      replace hr := hT hb2
      refine CX.world (W' := WA w0 base (PWl bp al L cl s2.adv m2 (.row (some gL) 2 [c, b].length 3 1 ([c, b].map iv) :: fr))) (fun w hw => hw) ?_
      rw [if_pos rfl] at hr
      refine CX.region <| LX.pure (Y.move rfl) rfl rfl rfl <| LX.pure (Y.move rfl) rfl rfl rfl ?_
      obtain ⟨r6, e6, hok6, hst6⟩ := Go.Pa.bnd_some hr
      refine LX.callP (hBlk n (Nat.le_refl _) s2.adv m2 ((.row (some gL) 2 [c, b].length 3 1 ([c, b].map iv) :: fr)) r6 e6 hnd2) Qb_.en38 rfl rfl rfl rfl rfl (fun y => fun _ w ha hw => ⟨ha.defs, .inr ⟨y, rfl, hst6 _ _ hw.1, hw.2.drop (.cons_cons _ (List.sublist_cons_self _ _))⟩⟩) ?_
      rintro ⟨k6, s6, m6⟩
      refine LX.have fun ⟨hr6, hnd6, hk6⟩ => ?_
      replace hr := hok6 _ _ hr6
      try dsimp only
      refine LX.buildSlice (e := 3) (size := 1) rfl rfl (fun _ => by kernel_rfl) rfl (by decide) rfl rfl rfl ?_
      intro gT
      refine LX.world (W' := WA w0 base (.row (some gT) 1 1 3 1 [.int .i64 k6] :: .row (some gL) 2 [c, b].length 3 1 ([c, b].map iv) :: PWl bp al L cl s6 m6 fr)) (fun w hw => (show WA w0 base (.row (some gT) 1 1 3 1 [.int .i64 k6] :: PWl bp al L cl s6 m6 (.row (some gL) 2 [c, b].length 3 1 ([c, b].map iv) :: fr)) w from hw).perm (by (refine perm_cnt fun x => ?_; simp only [PWl, PBl, ROl, z1, z2, z3, z4, z5, z6]; omega))) ?_
      refine LX.appendT 0 (g := (some gL)) (k := [c, b].length) Pk.el29 rfl rfl rfl rfl rfl rfl rfl (by (simp only [List.length_cons, List.length_nil]; omega)) (by (simp only [List.length_cons, List.length_nil]; omega)) rfl rfl rfl ?_
      intro g' cap'
      rw [show [c, b].length + 1 = ([c, b] ++ [k6]).length by simp]
      refine LX.world (W' := WA w0 base (PWl bp al L cl s6 m6 (.row g' cap' ([c, b] ++ [k6]).length 3 1 (([c, b] ++ [k6]).map iv) :: fr))) (fun w hw => ?_) ?_
      · have h1 : WA w0 base (.row g' cap' ([c, b] ++ [k6]).length 3 1 (([c, b] ++ [k6]).map iv) :: PWl bp al L cl s6 m6 fr) w := by rw [← iv_snoc]; exact hw
        exact h1.perm (by (refine perm_cnt fun x => ?_; simp only [PWl, PBl, ROl, z1, z2, z3, z4, z5, z6]; omega))
      refine LX.pure (Y.assign rfl) rfl rfl rfl <| LX.sub (l' := [(0, _), (2, _), (3, _), (4, _)]) ⟨rfl, rfl, rfl, rfl, trivial⟩ <| LX.next <| PX.blockN ?_
      exact PX.seam (([c, b] ++ [k6]), (g', cap'), s6, m6) ⟨rfl, rfl, rfl, trivial⟩ (fun w hw => ⟨⟨hr, hnd6, gI_snoc (gI2 hk1 hk2) hk6, by simp⟩, hw⟩)
    try simp at hb2
    rw [show isB t2 [[101, 108, 115, 101]] = false from hb2]
    replace hr := hF hb2
    refine CX.world (W' := WA w0 base (PWl bp al L cl s2 m2 (.row (some gL) 2 [c, b].length 3 1 ([c, b].map iv) :: fr))) (fun w hw => hw) ?_
    rw [if_neg Bool.false_ne_true] at hr
    refine CX.skip <| PX.blockN ?_
    exact PX.seam ([c, b], (some gL, 2), s2, m2) ⟨rfl, rfl, rfl, trivial⟩ (fun w hw => ⟨⟨hr, hnd2, gI2 hk1 hk2, by simp⟩, hw⟩)
  clear hr
  rintro ⟨l, ⟨g, c⟩, s3, m3⟩
  refine CX.have fun ⟨hr, hnd3, hg, hlm⟩ => ?_
  replace hlm : l.length ≤ 1000002 := hlm
  replace hg : ∀ x ∈ l, gI x := hg
  try dsimp only at hr ⊢
  refine CX.seq <| CX.region <| LX.pure (Y.move rfl) rfl rfl rfl <| LX.pure (Y.move rfl) rfl rfl rfl <| LX.pure (Y.move rfl) rfl rfl rfl ?_
  obtain ⟨hlen, hre⟩ := Go.Pa.node_end hr
  refine LX.call (node_c (s := s3) (m := m3) (43) t.pos [] (g.map fun b => ⟨b, 0, none⟩) l.length c l hlen) Pe.en15 rfl rfl rfl rfl rfl ?_
  intro q
  refine LX.pure (Y.assign rfl) rfl rfl rfl <| LX.sub (l' := [(2, _)]) ⟨rfl, trivial⟩ <| LX.next <| PX.thenN <| CX.ret <| PX.ret1 (by simp) Tryd.results21 rfl ?_
  exact fun w hw0 => by
    have hw := (show WA w0 base (PBl bp al L cl (s3.nod 43 t.pos [] l) (m3.put q 43 t.pos [] (rv g l.length c) (m3.rs)) :: ROl (s3.nod 43 t.pos [] l) (m3.put q 43 t.pos [] (rv g l.length c) (m3.rs)) :: (m3.rs ++ (.row g c l.length 3 1 (l.map iv) :: fr))) w from hw0).perm (show List.Perm (PBl bp al L cl (s3.nod 43 t.pos [] l) (m3.put q 43 t.pos [] (rv g l.length c) (m3.rs)) :: ROl (s3.nod 43 t.pos [] l) (m3.put q 43 t.pos [] (rv g l.length c) (m3.rs)) :: .row g c l.length 3 1 (l.map iv) :: (m3.rs ++ fr)) _ by (refine perm_cnt fun x => ?_; simp only [PWl, PBl, ROl, z1, z2, z3, z4, z5, z6]; omega))
    exact .inl ⟨((s3.out.length : Int), (s3.nod 43 t.pos [] l), (m3.put q 43 t.pos [] (rv g l.length c) (.row g c l.length 3 1 (l.map iv) :: m3.rs))), rfl, ⟨hre, put_nds (op := 43) (pos := t.pos) (x := []) hnd3 hw (i := 2) (ks := l) rfl (fun z hz => (hg z hz).inI) (by omega) (by unfold Go.SX.inI; omega) hin2, gI.len hlen⟩, hw⟩
theorem loop_p {w0 : World} {base : Nat} {aE : Nat → Addr} (hS : EnvS w0 base aE) {bp : Nat} {al : Option Addr} {cl : Nat} {L : List Tk} (hL : SlAt 3 tokA (Lies w0 base) al L) (hln : L.length ≤ 1099511627776) (n : Nat) (hTgts : ∀ j, j ≤ n → FS w0 base aE al cl L bp 42 #[.pointer (some ⟨bp, 0, none⟩), str [105, 110]] (fun z : Int × Bool => .int .i64 z.1) (fun z => gI z.1) (.some_ [105, 110]) j) (hTup : ∀ j, j ≤ n → FS w0 base aE al cl L bp 43 #[.pointer (some ⟨bp, 0, none⟩)] (fun z : Int × Bool => .int .i64 z.1) (fun z => gI z.1) (.many) j) (hBlk : ∀ j, j ≤ n → FI w0 base aE al cl L bp 38 (.block) j) : FI w0 base aE al cl L bp 22 (.loop) (n + 1) := by
  intro s m fr r hr hnd
  change (bnd (must L [102, 111, 114]) fun pos => bnd (Go.Pa.run L nameB n (.some_ [105, 110])) fun to => bnd (must L [105, 110]) fun _ => bnd (Go.Pa.run L nameB n .many) fun over => bnd Go.Pa.getFors fun nf => bnd (Go.Pa.setFors (nf + 1)) fun _ => bnd (Go.Pa.run L nameB n .block) fun b => bnd Go.Pa.getFors fun m => match m with | 0 => fun _ => none | m + 1 => bnd (Go.Pa.setFors m) fun _ => node 44 pos [] [to.1, over.1, b]) s = some r at hr
  refine FnP.of_body (fn := Tryd.f22) [(0, _)] Tryd.func22 rfl Tryd.ntmps22 rfl ⟨rfl, trivial⟩ ?_
  refine CX.seq <| CX.region <| LX.pure (Y.assign rfl) rfl rfl rfl <| LX.sub (l' := [(0, _), (2, _)]) ⟨rfl, rfl, trivial⟩ <| LX.next <| PX.thenN <| CX.seq <| CX.region <| LX.pure (Y.move rfl) rfl rfl rfl ?_
  obtain ⟨r0, e0, hok0, hst0⟩ := Go.Pa.bnd_some hr
  refine LX.callP (must_p hS hL hln [102, 111, 114] e0) Pf.en41 rfl rfl rfl rfl rfl (fun y => fun _ w ha hw => ⟨ha.defs, .inr ⟨y, rfl, hst0 _ _ hw.1, hw.2.drop (.cons_cons _ (.cons _ (List.sublist_append_right _ _)))⟩⟩) ?_
  rintro ⟨pos, s0⟩
  refine LX.have fun ⟨hr0, hou0, hp0⟩ => ?_
  replace hou0 : s0.out = s.out := hou0
  have hnd0 : NdsR 3 m.rs m.cells s0.out := by rw [hou0]; exact hnd
  replace hr := hok0 _ _ hr0
  refine LX.world (W' := WA w0 base (PWl bp al L cl s0 m fr)) (fun w hw => by show WA w0 base (PBl bp al L cl s0 m :: .row m.g m.c s0.out.length 31 5 m.cells :: (m.rs ++ fr)) w; rw [hou0]; exact hw) ?_
  try dsimp only
  refine LX.pure (Y.assign rfl) rfl rfl rfl <| LX.sub (l' := [(0, _), (2, _), (3, _)]) ⟨rfl, rfl, rfl, trivial⟩ <| LX.next <| PX.thenN <| CX.seq <| CX.region <| LX.pure (Y.move rfl) rfl rfl rfl ?_
  obtain ⟨r1, e1, hok1, hst1⟩ := Go.Pa.bnd_some hr
  refine LX.callP (hTgts n (Nat.le_refl _) s0 m (fr) r1 e1 hnd0) Po.en42 rfl rfl rfl rfl rfl (fun y => fun _ w ha hw => ⟨ha.defs, .inr ⟨y, rfl, hst1 _ _ hw.1, hw.2⟩⟩) ?_
  rintro ⟨⟨to, ct⟩, s1, m1⟩
  refine LX.have fun ⟨hr1, hnd1, hk1⟩ => ?_
  replace hr := hok1 _ _ hr1
  try dsimp only
  refine LX.pure (Y.assign rfl) rfl rfl rfl <| LX.sub (l' := [(0, _), (2, _), (3, _), (4, _)]) ⟨rfl, rfl, rfl, rfl, trivial⟩ <| LX.next <| PX.thenN <| CX.seq <| CX.region <| LX.pure (Y.move rfl) rfl rfl rfl ?_
  obtain ⟨r2, e2, hok2, hst2⟩ := Go.Pa.bnd_some hr
  refine LX.callP (must_p hS hL hln [105, 110] e2) Pf.en41 rfl rfl rfl rfl rfl (fun y => fun _ w ha hw => ⟨ha.defs, .inr ⟨y, rfl, hst2 _ _ hw.1, hw.2.drop (.cons_cons _ (.cons _ (List.sublist_append_right _ _)))⟩⟩) ?_
  rintro ⟨p2, s2⟩
  refine LX.have fun ⟨hr2, hou2, hp2⟩ => ?_
  replace hou2 : s2.out = s1.out := hou2
  have hnd2 : NdsR 3 m1.rs m1.cells s2.out := by rw [hou2]; exact hnd1
  replace hr := hok2 _ _ hr2
  refine LX.world (W' := WA w0 base (PWl bp al L cl s2 m1 fr)) (fun w hw => by show WA w0 base (PBl bp al L cl s2 m1 :: .row m1.g m1.c s2.out.length 31 5 m1.cells :: (m1.rs ++ fr)) w; rw [hou2]; exact hw) ?_
  try dsimp only
  refine LX.sub (l' := [(0, _), (2, _), (3, _), (4, _)]) ⟨rfl, rfl, rfl, rfl, trivial⟩ <| LX.next <| PX.thenN <| CX.seq <| CX.region <| LX.pure (Y.move rfl) rfl rfl rfl ?_
  obtain ⟨r3, e3, hok3, hst3⟩ := Go.Pa.bnd_some hr
  refine LX.callP (hTup n (Nat.le_refl _) s2 m1 (fr) r3 e3 hnd2) Pw_.en43 rfl rfl rfl rfl rfl (fun y => fun _ w ha hw => ⟨ha.defs, .inr ⟨y, rfl, hst3 _ _ hw.1, hw.2⟩⟩) ?_
  rintro ⟨⟨ov, co⟩, s3, m3⟩
  refine LX.have fun ⟨hr3, hnd3, hk3⟩ => ?_
  replace hr := hok3 _ _ hr3
  try dsimp only
  replace hr := Go.Pa.getFors_bnd hr
  obtain ⟨hfs, hr⟩ := Go.Pa.setFors_bnd (k := s3.fors + 1) hr
  refine LX.pure (Y.assign rfl) rfl rfl rfl <| LX.sub (l' := [(0, _), (2, _), (3, _), (4, _), (5, _)]) ⟨rfl, rfl, rfl, rfl, rfl, trivial⟩ <| LX.next <| PX.thenN <| CX.seq <| CX.region <| LX.pure (Y.move rfl) rfl rfl rfl <| LX.pure (Y.nilCheck rfl) rfl rfl rfl <| LX.pure (Y.fieldAddr0 Px_.fo41_5 rfl) rfl rfl rfl <| LX.pure (Y.ldB 0 Pa.one3 rfl rfl rfl) rfl rfl rfl <| LX.pure (Y.addN rfl rfl (by (simp only []; omega))) rfl rfl rfl <| LX.pure (Y.nilCheck rfl) rfl rfl rfl <| LX.pure (Y.fieldAddr0 Px_.fo41_5 rfl) rfl rfl rfl <| LX.storeB 0 Pb.sz3 rfl rfl rfl rfl rfl rfl rfl rfl <| LX.sub (l' := [(0, _), (2, _), (3, _), (4, _), (5, _)]) ⟨rfl, rfl, rfl, rfl, rfl, trivial⟩ <| LX.next <| PX.thenN <| CX.seq <| CX.region <| LX.pure (Y.move rfl) rfl rfl rfl ?_
  obtain ⟨r5, e5, hok5, hst5⟩ := Go.Pa.bnd_some hr
  refine LX.callP (hBlk n (Nat.le_refl _) (⟨s3.at_, s3.out, s3.deep, s3.defs, s3.fors + 1⟩ : Go.Pa.St) m3 (fr) r5 e5 hnd3) Qb_.en38 rfl rfl rfl rfl rfl (fun y => fun _ w ha hw => ⟨ha.defs, .inr ⟨y, rfl, hst5 _ _ hw.1, hw.2⟩⟩) ?_
  rintro ⟨b, s5, m5⟩
  refine LX.have fun ⟨hr5, hnd5, hk5⟩ => ?_
  replace hr := hok5 _ _ hr5
  try dsimp only
  obtain ⟨a5, o5, d5, f5, g5⟩ := s5
  replace hr := Go.Pa.getFors_bnd hr
  obtain ⟨gf, rfl⟩ : ∃ g, g5 = g + 1 := by
    cases g5 with
    | zero => cases hr
    | succ g => exact ⟨g, rfl⟩
  obtain ⟨hfs5, hr⟩ := Go.Pa.setFors_bnd (k := gf) hr
  try dsimp only at hr ⊢
  refine LX.pure (Y.assign rfl) rfl rfl rfl <| LX.sub (l' := [(0, _), (2, _), (3, _), (4, _), (5, _), (6, _)]) ⟨rfl, rfl, rfl, rfl, rfl, rfl, trivial⟩ <| LX.next <| PX.thenN <| CX.seq <| CX.region <| LX.pure (Y.move rfl) rfl rfl rfl <| LX.pure (Y.nilCheck rfl) rfl rfl rfl <| LX.pure (Y.fieldAddr0 Px_.fo41_5 rfl) rfl rfl rfl <| LX.pure (Y.ldB 0 Pa.one3 rfl rfl rfl) rfl rfl rfl <| LX.pure (Y.subN rfl rfl (by (simp only []; omega)) (by (simp only []; omega))) rfl rfl rfl <| LX.pure (Y.nilCheck rfl) rfl rfl rfl <| LX.pure (Y.fieldAddr0 Px_.fo41_5 rfl) rfl rfl rfl <| LX.storeB 0 Pb.sz3 rfl rfl rfl rfl rfl rfl rfl rfl <| LX.sub (l' := [(0, _), (2, _), (3, _), (4, _), (5, _), (6, _)]) ⟨rfl, rfl, rfl, rfl, rfl, rfl, trivial⟩ <| LX.next <| PX.thenN <| CX.seq <| CX.region <| LX.pure (Y.move rfl) rfl rfl rfl <| LX.pure (Y.move rfl) rfl rfl rfl <| LX.pure (Y.move rfl) rfl rfl rfl <| LX.pure (Y.move rfl) rfl rfl rfl <| LX.pure (Y.move rfl) rfl rfl rfl <| LX.buildSlice (e := 3) (size := 1) rfl rfl (fun _ => by kernel_rfl) rfl (by decide) rfl rfl rfl ?_
  intro gK
  obtain ⟨hlen, hre⟩ := Go.Pa.node_end hr
  refine LX.world (W' := WA w0 base (PBl bp al L cl (⟨a5, o5, d5, f5, gf⟩ : Go.Pa.St) m5 :: ROl (⟨a5, o5, d5, f5, gf⟩ : Go.Pa.St) m5 :: .row (some gK) 3 3 3 1 ([to, ov, b].map iv) :: (m5.rs ++ fr))) (fun w hw => (show WA w0 base (.row (some gK) 3 3 3 1 ([to, ov, b].map iv) :: PWl bp al L cl (⟨a5, o5, d5, f5, gf⟩ : Go.Pa.St) m5 fr) w from hw).perm (by (refine perm_cnt fun x => ?_; simp only [PWl, PBl, ROl, z1, z2, z3, z4, z5, z6]; omega))) ?_
  refine LX.call (node_c (s := (⟨a5, o5, d5, f5, gf⟩ : Go.Pa.St)) (m := m5) (44) pos [] (some ⟨gK, 0, none⟩) 3 3 [to, ov, b] hlen) Pe.en15 rfl rfl rfl rfl rfl ?_
  intro q
  refine LX.pure (Y.assign rfl) rfl rfl rfl <| LX.sub (l' := [(2, _)]) ⟨rfl, trivial⟩ <| LX.next <| PX.thenN <| CX.ret <| PX.ret1 (by simp) Tryd.results22 rfl ?_
  exact fun w hw => .inl ⟨(((⟨a5, o5, d5, f5, gf⟩ : Go.Pa.St).out.length : Int), ((⟨a5, o5, d5, f5, gf⟩ : Go.Pa.St).nod 44 pos [] [to, ov, b]), (m5.put q 44 pos [] (rv (some gK) 3 3) (.row (some gK) 3 3 3 1 ([to, ov, b].map iv) :: m5.rs))), rfl, ⟨hre, put_nds (op := 44) (pos := pos) (x := []) hnd5 hw (i := 2) (ks := [to, ov, b]) rfl (fun z hz => by simp only [List.mem_cons, List.not_mem_nil, or_false] at hz; rcases hz with rfl | rfl | rfl; exact hk1.inI; exact hk3.inI; exact hk5.inI) (by simp) (by unfold Go.SX.inI; omega) hp0, gI.len hlen⟩, hw⟩
end Go.Proofs.YtfbenelagdcdgaaDoor

namespace Go.Proofs.YtfbenelagdcdgaaDoor
open Go.SX Go.RowKit Go.Tr Go.Lex
namespace Qc_
theorem sz4 : SizeIs Tryd.prog 4 1 := fun w => by kernel_rfl
end Qc_
open Go.Proofs.YtfbenelagdcdgaaDoor.Env (EnvS errV sentG)
open Go.Pa (Tk Rs bnd ret isB is_ adv bad take must kinds inn outn node nodeAt setPos)
open Go.Ck (NdsR)
theorem def_p {w0 : World} {base : Nat} {aE : Nat → Addr} (hS : EnvS w0 base aE) {bp : Nat} {al : Option Addr} {cl : Nat} {L : List Tk} (hL : SlAt 3 tokA (Lies w0 base) al L) (hln : L.length ≤ 1099511627776) (n : Nat) (hTest : ∀ j, j ≤ n → FI w0 base aE al cl L bp 37 (.test) j) (hBlk : ∀ j, j ≤ n → FI w0 base aE al cl L bp 38 (.block) j) : FI w0 base aE al cl L bp 24 (.def_) (n + 1) := by
  intro s m fr r hr hnd
  change (bnd (must L [100, 101, 102]) fun pos => bnd (kinds L 1) fun nm => bnd (must L [40]) fun _ => bnd (Go.Pa.run L nameB n (.defGo [] [] false)) fun l => bnd (must L [41]) fun _ => bnd (Go.Pa.setDefs true) fun _ => bnd Go.Pa.getFors fun fs => bnd (Go.Pa.setFors 0) fun _ => bnd (Go.Pa.run L nameB n .block) fun b => bnd (Go.Pa.setDefs false) fun _ => bnd (Go.Pa.setFors fs) fun _ => node 45 pos nm.1 (l ++ [b])) s = some r at hr
  refine FnP.of_body (fn := Tryd.f24) [(0, _)] Tryd.func24 rfl Tryd.ntmps24 rfl ⟨rfl, trivial⟩ ?_
  refine CX.seq <| CX.region <| LX.pure (Y.assign rfl) rfl rfl rfl <| LX.sub (l' := [(0, _), (2, _)]) ⟨rfl, rfl, trivial⟩ <| LX.next <| PX.thenN <| CX.seq <| CX.region <| LX.pure (Y.move rfl) rfl rfl rfl ?_
  obtain ⟨r0, e0, hok0, hst0⟩ := Go.Pa.bnd_some hr
  refine LX.callP (must_p hS hL hln [100, 101, 102] e0) Pf.en41 rfl rfl rfl rfl rfl (fun y => fun _ w ha hw => ⟨ha.defs, .inr ⟨y, rfl, hst0 _ _ hw.1, hw.2.drop (.cons_cons _ (.cons _ (List.sublist_append_right _ _)))⟩⟩) ?_
  rintro ⟨pos, s0⟩
  refine LX.have fun ⟨hr0, hou0, hp0⟩ => ?_
  replace hou0 : s0.out = s.out := hou0
  have hnd0 : NdsR 3 m.rs m.cells s0.out := by rw [hou0]; exact hnd
  replace hr := hok0 _ _ hr0
  refine LX.world (W' := WA w0 base (PWl bp al L cl s0 m fr)) (fun w hw => by show WA w0 base (PBl bp al L cl s0 m :: .row m.g m.c s0.out.length 31 5 m.cells :: (m.rs ++ fr)) w; rw [hou0]; exact hw) ?_
  try dsimp only
  refine LX.pure (Y.assign rfl) rfl rfl rfl <| LX.sub (l' := [(0, _), (2, _), (3, _)]) ⟨rfl, rfl, rfl, trivial⟩ <| LX.next <| PX.thenN <| CX.seq <| CX.region <| LX.pure (Y.move rfl) rfl rfl rfl ?_
  obtain ⟨ra, ea, hoka, hsta⟩ := Go.Pa.bnd_some hr
  refine LX.callP (kinds_p hS hL hln 1 ea) Ph.en26 rfl rfl rfl rfl rfl (fun y => fun _ w ha hw => ⟨ha.defs, .inr ⟨y, rfl, hsta _ _ hw.1, hw.2.drop (.cons_cons _ (.cons _ (List.sublist_append_right _ _)))⟩⟩) ?_
  rintro ⟨⟨xm, pa⟩, sa⟩
  refine LX.have fun ⟨hra, houa, hpa⟩ => ?_
  replace houa : sa.out = s0.out := houa
  have hnda : NdsR 3 m.rs m.cells sa.out := by rw [houa]; exact hnd0
  replace hr := hoka _ _ hra
  refine LX.world (W' := WA w0 base (PWl bp al L cl sa m fr)) (fun w hw => by show WA w0 base (PBl bp al L cl sa m :: .row m.g m.c sa.out.length 31 5 m.cells :: (m.rs ++ fr)) w; rw [houa]; exact hw) ?_
  try dsimp only
  refine LX.pure (Y.move rfl) rfl rfl rfl <| LX.pure (Y.extract rfl rfl) rfl rfl rfl <| LX.pure (Y.extract rfl rfl) rfl rfl rfl <| LX.pure (Y.assign rfl) rfl rfl rfl <| LX.pure (Y.assign rfl) rfl rfl rfl <| LX.sub (l' := [(0, _), (2, _), (3, _), (4, _)]) ⟨rfl, rfl, rfl, rfl, trivial⟩ <| LX.next <| PX.thenN <| CX.seq <| CX.region <| LX.pure (Y.move rfl) rfl rfl rfl ?_
  obtain ⟨rb, eb, hokb, hstb⟩ := Go.Pa.bnd_some hr
  refine LX.callP (must_p hS hL hln [40] eb) Pf.en41 rfl rfl rfl rfl rfl (fun y => fun _ w ha hw => ⟨ha.defs, .inr ⟨y, rfl, hstb _ _ hw.1, hw.2.drop (.cons_cons _ (.cons _ (List.sublist_append_right _ _)))⟩⟩) ?_
  rintro ⟨pb, sb⟩
  refine LX.have fun ⟨hrb, houb, hpb⟩ => ?_
  replace houb : sb.out = sa.out := houb
  have hndb : NdsR 3 m.rs m.cells sb.out := by rw [houb]; exact hnda
  replace hr := hokb _ _ hrb
  refine LX.world (W' := WA w0 base (PWl bp al L cl sb m fr)) (fun w hw => by show WA w0 base (PBl bp al L cl sb m :: .row m.g m.c sb.out.length 31 5 m.cells :: (m.rs ++ fr)) w; rw [houb]; exact hw) ?_
  try dsimp only
  refine LX.sub (l' := [(0, _), (2, _), (3, _), (4, _)]) ⟨rfl, rfl, rfl, rfl, trivial⟩ <| LX.next <| PX.thenN <| CX.seq <| CX.region <| LX.pure (Y.assign rfl) rfl rfl rfl <| LX.sub (l' := [(0, _), (2, _), (3, _), (4, _), (6, _)]) ⟨rfl, rfl, rfl, rfl, rfl, trivial⟩ <| LX.next <| PX.thenN <| CX.seq <| CX.region <| LX.pure (Y.assign rfl) rfl rfl rfl <| LX.sub (l' := [(0, _), (2, _), (3, _), (4, _), (6, _), (7, _)]) ⟨rfl, rfl, rfl, rfl, rfl, rfl, trivial⟩ <| LX.next <| PX.thenN <| CX.seq <| CX.region <| LX.pure (Y.assign rfl) rfl rfl rfl <| LX.sub (l' := [(0, _), (2, _), (3, _), (4, _), (6, _), (7, _), (8, _)]) ⟨rfl, rfl, rfl, rfl, rfl, rfl, rfl, trivial⟩ <| LX.next <| PX.thenN ?_
  refine CX.seqM (fun z : List Int × (Option Nat × Nat) × Go.Pa.St × Mm => [(0, .pointer (some ⟨bp, 0, none⟩)), (3, .int .i64 pos), (4, str xm), (6, rv z.2.1.1 z.1.length z.2.1.2)]) (fun (z : List Int × (Option Nat × Nat) × Go.Pa.St × Mm) w => (((fun l => bnd (must L [41]) fun _ => bnd (Go.Pa.setDefs true) fun _ => bnd Go.Pa.getFors fun fs => bnd (Go.Pa.setFors 0) fun _ => bnd (Go.Pa.run L nameB n .block) fun b => bnd (Go.Pa.setDefs false) fun _ => bnd (Go.Pa.setFors fs) fun _ => node 45 pos xm (l ++ [b])) z.1) z.2.2.1 = some r ∧ NdsR 3 z.2.2.2.rs z.2.2.2.cells z.2.2.1.out ∧ (∀ x ∈ z.1, gI x) ∧ z.1.length ≤ 1000002) ∧ WA w0 base (PWl bp al L cl z.2.2.1 z.2.2.2 (.row z.2.1.1 z.2.1.2 z.1.length 3 1 (z.1.map iv) :: fr)) w) ?_ ?_
  ·
    refine CX.block ?_
    refine CX.loop (fun z : List Int × List (List UInt8) × (Option Nat × Nat) × (Option Nat × Nat) × Bool × Go.Pa.St × Mm × Nat => [(0, .pointer (some ⟨bp, 0, none⟩)), (3, .int .i64 pos), (4, str xm), (6, rv z.2.2.1.1 z.1.length z.2.2.1.2), (7, rv z.2.2.2.1.1 z.2.1.length z.2.2.2.1.2), (8, .bool z.2.2.2.2.1)]) (fun (z : List Int × List (List UInt8) × (Option Nat × Nat) × (Option Nat × Nat) × Bool × Go.Pa.St × Mm × Nat) w => (((bnd (Go.Pa.run L nameB z.2.2.2.2.2.2.2 (.defGo z.1 z.2.1 z.2.2.2.2.1)) (fun l => bnd (must L [41]) fun _ => bnd (Go.Pa.setDefs true) fun _ => bnd Go.Pa.getFors fun fs => bnd (Go.Pa.setFors 0) fun _ => bnd (Go.Pa.run L nameB n .block) fun b => bnd (Go.Pa.setDefs false) fun _ => bnd (Go.Pa.setFors fs) fun _ => node 45 pos xm (l ++ [b]))) z.2.2.2.2.2.1 = some r ∧ z.2.2.2.2.2.2.2 ≤ n) ∧ NdsR 3 z.2.2.2.2.2.2.1.rs z.2.2.2.2.2.2.1.cells z.2.2.2.2.2.1.out ∧ (∀ x ∈ z.1, gI x) ∧ z.1.length ≤ 1000000 ∧ z.2.1.length ≤ z.1.length) ∧ WA w0 base (PWl bp al L cl z.2.2.2.2.2.1 z.2.2.2.2.2.2.1 (.row z.2.2.1.1 z.2.2.1.2 z.1.length 3 1 (z.1.map iv) :: .row z.2.2.2.1.1 z.2.2.2.1.2 z.2.1.length 9 1 (z.2.1.map str) :: fr)) w) (fun z => z.2.2.2.2.2.2.2) ([], [], (none, 0), (none, 0), false, sb, m, n) ⟨rfl, rfl, rfl, rfl, rfl, rfl, trivial⟩ (fun w hw => ⟨⟨⟨hr, Nat.le_refl _⟩, hndb, (fun z hz => by cases hz), by simp, by simp⟩, by
      have h1 := ((show WA w0 base (PWl bp al L cl sb m fr) w from hw).nilRow 9 1).nilRow 3 1
      exact (show WA w0 base (.row none 0 ([] : List Int).length 3 1 (([] : List Int).map iv) :: .row none 0 ([] : List (List UInt8)).length 9 1 (([] : List (List UInt8)).map str) :: PWl bp al L cl sb m fr) w from h1).perm (show List.Perm (PWl bp al L cl sb m (.row none 0 ([] : List Int).length 3 1 (([] : List Int).map iv) :: .row none 0 ([] : List (List UInt8)).length 9 1 (([] : List (List UInt8)).map str) :: fr)) (.row none 0 ([] : List Int).length 3 1 (([] : List Int).map iv) :: .row none 0 ([] : List (List UInt8)).length 9 1 (([] : List (List UInt8)).map str) :: PWl bp al L cl sb m fr) by (refine perm_cnt fun x => ?_; simp only [PWl, PBl, ROl, z1, z2, z3, z4, z5, z6]; omega))⟩) ?_
    clear hr
    rintro ⟨l, ns, ⟨g, c⟩, ⟨gn, cn⟩, gv, s1, m1, j⟩
    refine CX.have fun ⟨⟨hr, hjn⟩, hnd1, hg, hlm, hnsl⟩ => ?_
    replace hlm : l.length ≤ 1000000 := hlm
    replace hnsl : ns.length ≤ l.length := hnsl
    replace hr : (bnd (Go.Pa.run L nameB j (.defGo l ns gv)) (fun l => bnd (must L [41]) fun _ => bnd (Go.Pa.setDefs true) fun _ => bnd Go.Pa.getFors fun fs => bnd (Go.Pa.setFors 0) fun _ => bnd (Go.Pa.run L nameB n .block) fun b => bnd (Go.Pa.setDefs false) fun _ => bnd (Go.Pa.setFors fs) fun _ => node 45 pos xm (l ++ [b]))) s1 = some r := hr
    replace hjn : j ≤ n := hjn
    replace hnd1 : NdsR 3 m1.rs m1.cells s1.out := hnd1
    replace hg : ∀ x ∈ l, gI x := hg
    have hnl : ns.length ≤ 9223372036854775807 := by omega
    try dsimp only
    obtain ⟨j, rfl⟩ : ∃ i, j = i + 1 := by
      cases j with
      | zero => cases hr
      | succ i => exact ⟨i, rfl⟩
    rw [show Go.Pa.run L nameB (j + 1) (.defGo l ns gv) = (bnd (Go.Pa.tok L) fun t => if isB t [[41]] then ret l else bnd (Go.Pa.ahead L [61]) fun a => if t.kind ≠ 1 ∨ ns.contains t.text = true ∨ (gv = true ∧ a = false) then bad L else bnd (kinds L 1) fun x => bnd (take L [61]) fun e => bnd (if e then bnd (Go.Pa.run L nameB j .test) fun k => bnd (node 46 x.2 x.1 [k]) fun n => ret (n, true) else bnd (node 46 x.2 x.1 []) fun n => ret (n, gv)) fun y => bnd (take L [44]) fun b => Go.Pa.grow l (if b then Go.Pa.run L nameB j (.defGo (l ++ [y.1]) (ns ++ [x.1]) y.2) else ret (l ++ [y.1]))) from rfl, Go.Pa.bnd_assoc] at hr
    obtain ⟨t, ht, hr⟩ := Go.Pa.tok_bnd hr
    obtain ⟨a0, cs, hav, hcl, hLt, rfl, hin1, hin2⟩ := hL _ _ ht
    have hj : s1.at_ < L.length := (List.getElem?_eq_some_iff.1 ht).1
    refine CX.seq <| CX.seq <| CX.region <| LX.pure (Y.move rfl) rfl rfl rfl <| LX.buildSlice (e := 9) (size := 1) rfl rfl (fun _ => by kernel_rfl) rfl (by decide) rfl rfl rfl ?_
    intro gS
    refine LX.callQ (is_q ht _ (ss := [[41]]) (by decide) (fun w hw => blkL hw (i := 1) rfl) (fun w hw => hL.push hw) (fun w hw => row_at hw (j := 0) rfl rfl (by decide) (fun i z h => map_A (f := str) (xs := [[41]]) h))) Pd.en20 rfl rfl rfl rfl rfl <| LX.world (W' := WA w0 base (PWl bp al L cl s1 m1 (.row g c l.length 3 1 (l.map iv) :: .row gn cn ns.length 9 1 (ns.map str) :: fr))) (fun w hw => hw.drop (List.sublist_cons_self _ _)) <| LX.pure (Y.not rfl) rfl rfl rfl <| LX.sub (l' := [(0, _), (3, _), (4, _), (6, _), (7, _), (8, _), (24, _)]) ⟨rfl, rfl, rfl, rfl, rfl, rfl, rfl, trivial⟩ <| LX.next <| PX.thenN ?_
    refine CX.cond rfl (fun hb1 => ?_) (fun hb1 => ?_)
    · try simp at hb1
      rw [show isB t [[41]] = false from hb1, if_neg Bool.false_ne_true, Go.Pa.bnd_assoc] at hr
      replace hr : bnd (if t.kind ≠ 1 ∨ ns.contains t.text = true ∨ (gv = true ∧ aheadV L s1 [61] = false) then _ else _) _ s1 = some r := Go.Pa.ahead_bnd hr
      refine CX.skip <| PX.thenN <| CX.block <| CX.seq <| CX.seq <| CX.regionQ rfl (by kernel_rfl) <| LX.pure (Y.move rfl) rfl rfl rfl <| LX.callQ (kind_q ht (fun w hw => blkL hw (i := 0) rfl) (fun w hw => hL.push hw)) Pa.en13 rfl rfl rfl rfl rfl <| LX.pure (Y.neI rfl rfl) rfl rfl rfl <| LX.pure (Y.move rfl) rfl rfl rfl <| LX.sub (l' := [(0, _), (3, _), (4, _), (6, _), (7, _), (8, _), (28, _)]) ⟨rfl, rfl, rfl, rfl, rfl, rfl, rfl, trivial⟩ ?_
      apply LX.joinOr 14 42 28 rfl
      · intro hb2
        have hb2p := hb2
        try simp at hb2p
        refine LX.gF rfl rfl rfl hb2 rfl rfl <| LX.gF rfl rfl rfl hb2 rfl rfl <| LX.gF rfl rfl rfl hb2 rfl rfl <| LX.gF rfl rfl rfl hb2 rfl rfl <| LX.gF rfl rfl rfl hb2 rfl rfl <| LX.gF rfl rfl rfl hb2 rfl rfl <| LX.gF rfl rfl rfl hb2 rfl rfl <| LX.gF rfl rfl rfl hb2 rfl rfl <| LX.gF rfl rfl rfl hb2 rfl rfl <| LX.gF rfl rfl rfl hb2 rfl rfl <| LX.gF rfl rfl rfl hb2 rfl rfl <| LX.gF rfl rfl rfl hb2 rfl rfl <| LX.gF rfl rfl rfl hb2 rfl rfl <| LX.pure (Y.pickT rfl hb2 rfl) rfl rfl rfl ?_
        exact LX.left ⟨rfl, rfl, rfl, rfl, rfl, rfl, rfl, rfl, trivial⟩
      · intro hb2
        have hb2p := hb2
        try simp at hb2p
        refine LX.gT rfl rfl rfl hb2 (Y.move rfl) rfl rfl <| LX.gT rfl rfl rfl hb2 (Y.move rfl) rfl rfl <| LX.gT rfl rfl rfl hb2 (Y.nilCheck rfl) rfl rfl <| LX.gT rfl rfl rfl hb2 (Y.fieldAddr0 Pa.fo41_0 rfl) rfl rfl <| LX.gT rfl rfl rfl hb2 (Y.ldB 0 Pa.one37 rfl rfl rfl) rfl rfl <| LX.gT rfl rfl rfl hb2 (Y.move rfl) rfl rfl <| LX.gT rfl rfl rfl hb2 (Y.nilCheck rfl) rfl rfl <| LX.gT rfl rfl rfl hb2 (Y.fieldAddr0 Pa.fo41_1 rfl) rfl rfl <| LX.gT rfl rfl rfl hb2 (Y.ldB 0 Pa.one3 rfl rfl rfl) rfl rfl <| LX.gT rfl rfl rfl hb2 (Y.idxZ Pa.un37 Pa.sz57 rfl rfl hav (j := s1.at_) rfl hj) rfl rfl <| LX.gT rfl rfl rfl hb2 (Y.fieldA Pa.fa57_1 rfl) rfl rfl <| LX.gT rfl rfl rfl hb2 (Y.ldFO (v := str t.text) Fy.one9 rfl hLt rfl) rfl rfl <| LX.callQT rfl rfl rfl hb2 (hasStr_q cn (ss := ns) hnl t.text (fun w hw => row_atM hw (List.mem_cons_of_mem _ (List.mem_cons_of_mem _ (List.mem_append_right _ (List.mem_cons_of_mem _ (List.mem_cons_self ..))))) rfl (by decide) (fun i z h => map_A h))) Fy.en35 rfl rfl rfl rfl <| LX.pure (Y.pickF rfl hb2 rfl) rfl rfl rfl ?_
        exact LX.left ⟨rfl, rfl, rfl, rfl, rfl, rfl, rfl, rfl, trivial⟩
      refine LX.pure (Y.move rfl) rfl rfl rfl <| LX.sub (l' := [(0, _), (3, _), (4, _), (6, _), (7, _), (8, _), (43, _)]) ⟨rfl, rfl, rfl, rfl, rfl, rfl, rfl, trivial⟩ ?_
      apply LX.joinOr 7 50 43 rfl
      · intro hb3
        have hb3p := hb3
        try simp at hb3p
        refine LX.gF rfl rfl rfl hb3 rfl rfl <| LX.gF rfl rfl rfl hb3 rfl rfl <| LX.gU rfl rfl rfl rfl rfl <| LX.gU rfl rfl rfl rfl rfl <| LX.gU rfl rfl rfl rfl rfl <| LX.gF rfl rfl rfl hb3 rfl rfl <| LX.pure (Y.pickT rfl hb3 rfl) rfl rfl rfl ?_
        exact LX.left ⟨rfl, rfl, rfl, rfl, rfl, rfl, rfl, rfl, trivial⟩
      · intro hb3
        have hb3p := hb3
        try simp at hb3p
        refine LX.gT rfl rfl rfl hb3 (Y.move rfl) rfl rfl <| LX.gT rfl rfl rfl hb3 (Y.move rfl) rfl rfl <| LX.sub (l' := [(0, _), (3, _), (4, _), (6, _), (7, _), (8, _), (43, _), (45, _)]) ⟨rfl, rfl, rfl, rfl, rfl, rfl, rfl, rfl, trivial⟩ ?_
        apply LX.joinAnd 4 49 45 rfl
        · intro hb4
          have hb4p := hb4
          try simp at hb4p
          refine LX.gT rfl rfl rfl hb4 (Y.move rfl) rfl rfl <| LX.callQT rfl rfl rfl hb4 (ahead_q [61] hln ht (fun w hw => blkL hw (i := 0) rfl) (fun w hw => hL.push hw)) Pv_.en45 rfl rfl rfl rfl <| LX.gT rfl rfl rfl hb4 (Y.not rfl) rfl rfl <| LX.gT rfl rfl rfl hb3 (Y.pickT rfl hb4 rfl) rfl rfl ?_
          exact LX.left ⟨rfl, rfl, rfl, rfl, rfl, rfl, rfl, rfl, rfl, trivial⟩
        · intro hb4
          have hb4p := hb4
          try simp at hb4p
          refine LX.gF rfl rfl rfl hb4 rfl rfl <| LX.gF rfl rfl rfl hb4 rfl rfl <| LX.gF rfl rfl rfl hb4 rfl rfl <| LX.gT rfl rfl rfl hb3 (Y.pickF rfl hb4 rfl) rfl rfl ?_
          exact LX.left ⟨rfl, rfl, rfl, rfl, rfl, rfl, rfl, rfl, rfl, trivial⟩
        refine LX.pure (Y.pickF rfl hb3 rfl) rfl rfl rfl ?_
        exact LX.left ⟨rfl, rfl, rfl, rfl, rfl, rfl, rfl, rfl, trivial⟩
      refine LX.sub (l' := [(0, _), (3, _), (4, _), (6, _), (7, _), (8, _), (50, _)]) ⟨rfl, rfl, rfl, rfl, rfl, rfl, rfl, trivial⟩ <| LX.nextQ <| PX.thenN ?_
      refine CX.cond rfl (fun hb5 => ?_) (fun hb5 => ?_)
      · try simp at hb5
        rw [if_pos (by simpa [or_assoc] using hb5)] at hr
        refine CX.region <| LX.pure (Y.move rfl) rfl rfl rfl ?_
        refine LX.callP (bad_p hS hL hln ht) Pd.en23 rfl rfl rfl rfl rfl (fun ax => fun _ w ha hw => ⟨ha.defs, .inr ⟨(t.pos, false, ax), rfl, bad_bnd ht hr, hw.drop (.cons_cons _ (.cons _ (((List.sublist_cons_self _ _).trans (List.sublist_cons_self _ _)).trans (List.sublist_append_right _ _))))⟩⟩) (fun x => x.elim)
      try simp at hb5
      rw [if_neg (by simpa [and_assoc] using hb5), Go.Pa.bnd_assoc] at hr
      refine CX.skip <| PX.thenN <| CX.seq <| CX.region <| LX.pure (Y.move rfl) rfl rfl rfl ?_
      obtain ⟨r3, e3, hok3, hst3⟩ := Go.Pa.bnd_some hr
      refine LX.callP (kinds_p hS hL hln 1 e3) Ph.en26 rfl rfl rfl rfl rfl (fun y => fun _ w ha hw => ⟨ha.defs, .inr ⟨y, rfl, hst3 _ _ hw.1, hw.2.drop (.cons_cons _ (.cons _ (((List.sublist_cons_self _ _).trans (List.sublist_cons_self _ _)).trans (List.sublist_append_right _ _))))⟩⟩) ?_
      rintro ⟨⟨xn, xp⟩, s3⟩
      refine LX.have fun ⟨hr3, hou3, hp3⟩ => ?_
      replace hou3 : s3.out = s1.out := hou3
      have hnd3 : NdsR 3 m1.rs m1.cells s3.out := by rw [hou3]; exact hnd1
      replace hr := hok3 _ _ hr3
      refine LX.world (W' := WA w0 base (PWl bp al L cl s3 m1 (.row g c l.length 3 1 (l.map iv) :: .row gn cn ns.length 9 1 (ns.map str) :: fr))) (fun w hw => by show WA w0 base (PBl bp al L cl s3 m1 :: .row m1.g m1.c s3.out.length 31 5 m1.cells :: (m1.rs ++ (.row g c l.length 3 1 (l.map iv) :: .row gn cn ns.length 9 1 (ns.map str) :: fr))) w; rw [hou3]; exact hw) ?_
      try dsimp only
      refine LX.pure (Y.move rfl) rfl rfl rfl <| LX.pure (Y.extract rfl rfl) rfl rfl rfl <| LX.pure (Y.extract rfl rfl) rfl rfl rfl <| LX.pure (Y.assign rfl) rfl rfl rfl <| LX.pure (Y.assign rfl) rfl rfl rfl <| LX.sub (l' := [(0, _), (3, _), (4, _), (6, _), (7, _), (8, _), (9, _), (10, _)]) ⟨rfl, rfl, rfl, rfl, rfl, rfl, rfl, rfl, trivial⟩ <| LX.next <| PX.thenN <| CX.seq <| CX.region <| LX.pure (Y.move rfl) rfl rfl rfl <| LX.pure (Y.move rfl) rfl rfl rfl <| LX.buildSlice (e := 9) (size := 1) rfl rfl (fun _ => by kernel_rfl) rfl (by decide) rfl rfl rfl ?_
      intro gT
      refine LX.world (W' := WA w0 base (.row (some gT) 1 1 9 1 [str xn] :: .row gn cn ns.length 9 1 (ns.map str) :: PWl bp al L cl s3 m1 (.row g c l.length 3 1 (l.map iv) :: fr))) (fun w hw => (show WA w0 base (.row (some gT) 1 1 9 1 [str xn] :: PWl bp al L cl s3 m1 (.row g c l.length 3 1 (l.map iv) :: .row gn cn ns.length 9 1 (ns.map str) :: fr)) w from hw).perm (by (refine perm_cnt fun x => ?_; simp only [PWl, PBl, ROl, z1, z2, z3, z4, z5, z6]; omega))) ?_
      refine LX.appendT 0 (g := gn) (k := ns.length) Pv_.el65 rfl rfl rfl rfl rfl rfl rfl (by omega) (by omega) rfl rfl rfl ?_
      intro gn2 cn2
      rw [show ns.length + 1 = (ns ++ [xn]).length by simp]
      refine LX.world (W' := WA w0 base (PWl bp al L cl s3 m1 (.row g c l.length 3 1 (l.map iv) :: .row gn2 cn2 (ns ++ [xn]).length 9 1 ((ns ++ [xn]).map str) :: fr))) (fun w hw => ?_) ?_
      · have h1 : WA w0 base (.row gn2 cn2 (ns ++ [xn]).length 9 1 ((ns ++ [xn]).map str) :: PWl bp al L cl s3 m1 (.row g c l.length 3 1 (l.map iv) :: fr)) w := by rw [← str_snoc]; exact hw
        exact h1.perm (by (refine perm_cnt fun x => ?_; simp only [PWl, PBl, ROl, z1, z2, z3, z4, z5, z6]; omega))
      refine LX.pure (Y.assign rfl) rfl rfl rfl <| LX.sub (l' := [(0, _), (3, _), (4, _), (6, _), (7, _), (8, _), (9, _), (10, _)]) ⟨rfl, rfl, rfl, rfl, rfl, rfl, rfl, rfl, trivial⟩ <| LX.next <| PX.thenN <| CX.seq <| CX.seq <| CX.region <| LX.pure (Y.move rfl) rfl rfl rfl ?_
      rw [Go.Pa.bnd_assoc] at hr
      obtain ⟨t4, ht4, hT, hF⟩ := Go.Pa.take_bnd hr
      refine LX.call (take_c hL hln ht4 [61]) Pd.en40 rfl rfl rfl rfl rfl ?_
      intro _
      refine LX.sub (l' := [(0, _), (3, _), (4, _), (6, _), (7, _), (8, _), (9, _), (10, _), (63, _)]) ⟨rfl, rfl, rfl, rfl, rfl, rfl, rfl, rfl, rfl, trivial⟩ <| LX.next <| PX.thenN ?_
      refine CX.cond rfl (fun hb6 => ?_) (fun hb6 => ?_)
      · try simp at hb6
        rw [show isB t4 [[61]] = true from hb6]
        replace hr := hT hb6
        refine CX.world (W' := WA w0 base (PWl bp al L cl s3.adv m1 (.row g c l.length 3 1 (l.map iv) :: .row gn2 cn2 (ns ++ [xn]).length 9 1 ((ns ++ [xn]).map str) :: fr))) (fun w hw => hw) ?_
        rw [if_pos rfl, Go.Pa.bnd_assoc, Go.Pa.bnd_assoc] at hr
        refine CX.seq <| CX.region <| LX.pure (Y.assign rfl) rfl rfl rfl <| LX.sub (l' := [(0, _), (3, _), (4, _), (6, _), (7, _), (8, _), (9, _), (10, _)]) ⟨rfl, rfl, rfl, rfl, rfl, rfl, rfl, rfl, trivial⟩ <| LX.next <| PX.thenN <| CX.region <| LX.pure (Y.move rfl) rfl rfl rfl <| LX.pure (Y.move rfl) rfl rfl rfl <| LX.pure (Y.move rfl) rfl rfl rfl <| LX.pure (Y.move rfl) rfl rfl rfl <| LX.pure (Y.move rfl) rfl rfl rfl ?_
        obtain ⟨r4, e4, hok4, hst4⟩ := Go.Pa.bnd_some hr
        refine LX.callP (hTest j (by omega) s3.adv m1 ((.row g c l.length 3 1 (l.map iv) :: .row gn2 cn2 (ns ++ [xn]).length 9 1 ((ns ++ [xn]).map str) :: fr)) r4 e4 hnd3) Pg.en37 rfl rfl rfl rfl rfl (fun y => fun _ w ha hw => ⟨ha.defs, .inr ⟨y, rfl, hst4 _ _ hw.1, hw.2.drop (.cons_cons _ ((List.sublist_cons_self _ _).trans (List.sublist_cons_self _ _)))⟩⟩) ?_
        rintro ⟨k4, s4, m4⟩
        refine LX.have fun ⟨hr4, hnd4, hk4⟩ => ?_
        replace hr := hok4 _ _ hr4
        try dsimp only
        refine LX.buildSlice (e := 3) (size := 1) rfl rfl (fun _ => by kernel_rfl) rfl (by decide) rfl rfl rfl ?_
        intro gK
        rw [Go.Pa.bnd_assoc] at hr
        obtain ⟨hlen, hr⟩ := Go.Pa.node_bnd hr
        replace hr := Go.Pa.ret_bnd hr
        try dsimp only at hr
        refine LX.world (W' := WA w0 base (PBl bp al L cl s4 m4 :: ROl s4 m4 :: .row (some gK) 1 1 3 1 ([k4].map iv) :: (m4.rs ++ (.row g c l.length 3 1 (l.map iv) :: .row gn2 cn2 (ns ++ [xn]).length 9 1 ((ns ++ [xn]).map str) :: fr)))) (fun w hw => (show WA w0 base (.row (some gK) 1 1 3 1 ([k4].map iv) :: PWl bp al L cl s4 m4 (.row g c l.length 3 1 (l.map iv) :: .row gn2 cn2 (ns ++ [xn]).length 9 1 ((ns ++ [xn]).map str) :: fr)) w from hw).perm (by (refine perm_cnt fun x => ?_; simp only [PWl, PBl, ROl, z1, z2, z3, z4, z5, z6]; omega))) ?_
        refine LX.call (node_c (s := s4) (m := m4) (46) xp xn (some ⟨gK, 0, none⟩) 1 1 [k4] hlen) Pe.en15 rfl rfl rfl rfl rfl ?_
        intro q
        refine LX.world (W' := fun w => NdsR 3 ((m4.put q 46 xp xn (rv (some gK) 1 1) (.row (some gK) 1 1 3 1 ([k4].map iv) :: m4.rs))).rs ((m4.put q 46 xp xn (rv (some gK) 1 1) (.row (some gK) 1 1 3 1 ([k4].map iv) :: m4.rs))).cells (s4.nod 46 xp xn [k4]).out ∧ WA w0 base (PWl bp al L cl (s4.nod 46 xp xn [k4]) (m4.put q 46 xp xn (rv (some gK) 1 1) (.row (some gK) 1 1 3 1 ([k4].map iv) :: m4.rs)) (.row g c l.length 3 1 (l.map iv) :: .row gn2 cn2 (ns ++ [xn]).length 9 1 ((ns ++ [xn]).map str) :: fr)) w) (fun w hw5 => ⟨put_nds (op := 46) (pos := xp) (x := xn) hnd4 hw5 (i := 2) (ks := [k4]) rfl (fun z hz => by cases List.mem_singleton.1 hz; exact hk4.inI) (by simp) (by unfold Go.SX.inI; omega) hp3, hw5⟩) <| LX.have fun hnd6 => LX.buildSlice (e := 3) (size := 1) rfl rfl (fun _ => by kernel_rfl) rfl (by decide) rfl rfl rfl ?_
        intro gT
        refine LX.world (W' := WA w0 base (.row (some gT) 1 1 3 1 [.int .i64 (s4.out.length : Int)] :: .row g c l.length 3 1 (l.map iv) :: PWl bp al L cl (s4.nod 46 xp xn [k4]) (m4.put q 46 xp xn (rv (some gK) 1 1) (.row (some gK) 1 1 3 1 ([k4].map iv) :: m4.rs)) (.row gn2 cn2 (ns ++ [xn]).length 9 1 ((ns ++ [xn]).map str) :: fr))) (fun w hw => (show WA w0 base (.row (some gT) 1 1 3 1 [.int .i64 (s4.out.length : Int)] :: PWl bp al L cl (s4.nod 46 xp xn [k4]) (m4.put q 46 xp xn (rv (some gK) 1 1) (.row (some gK) 1 1 3 1 ([k4].map iv) :: m4.rs)) (.row g c l.length 3 1 (l.map iv) :: .row gn2 cn2 (ns ++ [xn]).length 9 1 ((ns ++ [xn]).map str) :: fr)) w from hw).perm (by (refine perm_cnt fun x => ?_; simp only [PWl, PBl, ROl, z1, z2, z3, z4, z5, z6]; omega))) ?_
        refine LX.appendT 0 (g := g) (k := l.length) Pk.el29 rfl rfl rfl rfl rfl rfl rfl (by omega) (by omega) rfl rfl rfl ?_
        intro g' cap'
        rw [show l.length + 1 = (l ++ [(s4.out.length : Int)]).length by simp]
        refine LX.world (W' := WA w0 base (PWl bp al L cl (s4.nod 46 xp xn [k4]) (m4.put q 46 xp xn (rv (some gK) 1 1) (.row (some gK) 1 1 3 1 ([k4].map iv) :: m4.rs)) (.row g' cap' (l ++ [(s4.out.length : Int)]).length 3 1 ((l ++ [(s4.out.length : Int)]).map iv) :: (.row gn2 cn2 (ns ++ [xn]).length 9 1 ((ns ++ [xn]).map str) :: fr)))) (fun w hw => ?_) ?_
        · have h1 : WA w0 base (.row g' cap' (l ++ [(s4.out.length : Int)]).length 3 1 ((l ++ [(s4.out.length : Int)]).map iv) :: PWl bp al L cl (s4.nod 46 xp xn [k4]) (m4.put q 46 xp xn (rv (some gK) 1 1) (.row (some gK) 1 1 3 1 ([k4].map iv) :: m4.rs)) (.row gn2 cn2 (ns ++ [xn]).length 9 1 ((ns ++ [xn]).map str) :: fr)) w := by rw [← iv_snoc]; exact hw
          exact h1.perm (by (refine perm_cnt fun x => ?_; simp only [PWl, PBl, ROl, z1, z2, z3, z4, z5, z6]; omega))
        refine LX.pure (Y.assign rfl) rfl rfl rfl <| LX.sub (l' := [(0, _), (3, _), (4, _), (6, _), (7, _), (8, _)]) ⟨rfl, rfl, rfl, rfl, rfl, rfl, trivial⟩ <| LX.next <| PX.thenN <| CX.seq <| CX.region <| LX.pure (Y.move rfl) rfl rfl rfl ?_
        rw [Go.Pa.bnd_assoc] at hr
        obtain ⟨t2, ht2, hT, hF⟩ := Go.Pa.take_bnd hr
        refine LX.call (take_c hL hln ht2 [44]) Pd.en40 rfl rfl rfl rfl rfl ?_
        intro _
        refine LX.pure (Y.not rfl) rfl rfl rfl <| LX.sub (l' := [(0, _), (3, _), (4, _), (6, _), (7, _), (8, _), (83, _)]) ⟨rfl, rfl, rfl, rfl, rfl, rfl, rfl, trivial⟩ <| LX.next <| PX.thenN ?_
        refine CX.cond rfl (fun hb7 => ?_) (fun hb7 => ?_)
        · try simp at hb7
          rw [show isB t2 [[44]] = false from hb7]
          replace hr := hF hb7
          refine CX.world (W' := WA w0 base (PWl bp al L cl (s4.nod 46 xp xn [k4]) (m4.put q 46 xp xn (rv (some gK) 1 1) (.row (some gK) 1 1 3 1 ([k4].map iv) :: m4.rs)) (.row g' cap' (l ++ [(s4.out.length : Int)]).length 3 1 ((l ++ [(s4.out.length : Int)]).map iv) :: .row gn2 cn2 (ns ++ [xn]).length 9 1 ((ns ++ [xn]).map str) :: fr))) (fun w hw => hw) ?_
          obtain ⟨hlg, hr⟩ := Go.Pa.grow_bnd hr
          rw [if_neg Bool.false_ne_true] at hr
          replace hr := Go.Pa.ret_bnd hr
          refine CX.exit <| PX.blockO rfl <| PX.thenE <| PX.blockE ?_
          exact PX.seam ((l ++ [(s4.out.length : Int)]), (g', cap'), (s4.nod 46 xp xn [k4]), (m4.put q 46 xp xn (rv (some gK) 1 1) (.row (some gK) 1 1 3 1 ([k4].map iv) :: m4.rs))) ⟨rfl, rfl, rfl, rfl, trivial⟩ (fun w hw => ⟨⟨hr, hnd6, gI_snoc hg (gI.len hlen), by show (l ++ [(s4.out.length : Int)]).length ≤ 1000002; simp only [List.length_append, List.length_cons, List.length_nil]; omega⟩, hw.drop (.cons_cons _ (.cons_cons _ (List.Sublist.append (List.Sublist.refl _) (.cons_cons _ (List.sublist_cons_self _ _)))))⟩)
        try simp at hb7
        rw [show isB t2 [[44]] = true from hb7]
        replace hr := hT hb7
        refine CX.world (W' := WA w0 base (PWl bp al L cl (s4.nod 46 xp xn [k4]).adv (m4.put q 46 xp xn (rv (some gK) 1 1) (.row (some gK) 1 1 3 1 ([k4].map iv) :: m4.rs)) (.row g' cap' (l ++ [(s4.out.length : Int)]).length 3 1 ((l ++ [(s4.out.length : Int)]).map iv) :: .row gn2 cn2 (ns ++ [xn]).length 9 1 ((ns ++ [xn]).map str) :: fr))) (fun w hw => hw) ?_
        obtain ⟨hlg, hr⟩ := Go.Pa.grow_bnd hr
        rw [if_pos rfl] at hr
        refine CX.skip <| PX.blockN ?_
        exact PX.again (μ := fun z => z.2.2.2.2.2.2.2) (i := (l, ns, (g, c), (gn, cn), gv, s1, m1, j + 1)) ((l ++ [(s4.out.length : Int)]), (ns ++ [xn]), (g', cap'), (gn2, cn2), true, (s4.nod 46 xp xn [k4]).adv, (m4.put q 46 xp xn (rv (some gK) 1 1) (.row (some gK) 1 1 3 1 ([k4].map iv) :: m4.rs)), j) (by show j < j + 1; omega) ⟨rfl, rfl, rfl, rfl, rfl, rfl, trivial⟩ (fun w hw => ⟨⟨⟨hr, by show j ≤ n; omega⟩, hnd6, gI_snoc hg (gI.len hlen), ⟨by show (l ++ [(s4.out.length : Int)]).length ≤ 1000000; simp only [List.length_append, List.length_cons, List.length_nil]; omega, by show (ns ++ [xn]).length ≤ (l ++ [(s4.out.length : Int)]).length; simp only [List.length_append, List.length_cons, List.length_nil]; omega⟩⟩, hw⟩)
      try simp at hb6
      rw [show isB t4 [[61]] = false from hb6]
      replace hr := hF hb6
      refine CX.world (W' := WA w0 base (PWl bp al L cl s3 m1 (.row g c l.length 3 1 (l.map iv) :: .row gn2 cn2 (ns ++ [xn]).length 9 1 ((ns ++ [xn]).map str) :: fr))) (fun w hw => hw) ?_
      rw [if_neg Bool.false_ne_true, Go.Pa.bnd_assoc, Go.Pa.bnd_assoc] at hr
      refine CX.region <| LX.pure (Y.move rfl) rfl rfl rfl <| LX.pure (Y.move rfl) rfl rfl rfl <| LX.pure (Y.move rfl) rfl rfl rfl <| LX.pure (Y.move rfl) rfl rfl rfl ?_
      obtain ⟨hlen, hr⟩ := Go.Pa.node_bnd hr
      replace hr := Go.Pa.ret_bnd hr
      try dsimp only at hr
      refine LX.call (node_c (s := s3) (m := m1) (46) xp xn none 0 0 [] hlen) Pe.en15 rfl rfl rfl rfl rfl ?_
      intro q
      have hnd6 : NdsR 3 (m1.put q 46 xp xn (.slice none 0 0) (m1.rs)).rs (m1.put q 46 xp xn (.slice none 0 0) (m1.rs)).cells (s3.nod 46 xp xn []).out := put_nil (op := 46) (pos := xp) (x := xn) hnd3 (by unfold Go.SX.inI; omega) hp3
      refine LX.buildSlice (e := 3) (size := 1) rfl rfl (fun _ => by kernel_rfl) rfl (by decide) rfl rfl rfl ?_
      intro gT
      refine LX.world (W' := WA w0 base (.row (some gT) 1 1 3 1 [.int .i64 (s3.out.length : Int)] :: .row g c l.length 3 1 (l.map iv) :: PWl bp al L cl (s3.nod 46 xp xn []) (m1.put q 46 xp xn (.slice none 0 0) (m1.rs)) (.row gn2 cn2 (ns ++ [xn]).length 9 1 ((ns ++ [xn]).map str) :: fr))) (fun w hw => (show WA w0 base (.row (some gT) 1 1 3 1 [.int .i64 (s3.out.length : Int)] :: PWl bp al L cl (s3.nod 46 xp xn []) (m1.put q 46 xp xn (.slice none 0 0) (m1.rs)) (.row g c l.length 3 1 (l.map iv) :: .row gn2 cn2 (ns ++ [xn]).length 9 1 ((ns ++ [xn]).map str) :: fr)) w from hw).perm (by (refine perm_cnt fun x => ?_; simp only [PWl, PBl, ROl, z1, z2, z3, z4, z5, z6]; omega))) ?_
      refine LX.appendT 0 (g := g) (k := l.length) Pk.el29 rfl rfl rfl rfl rfl rfl rfl (by omega) (by omega) rfl rfl rfl ?_
      intro g' cap'
      rw [show l.length + 1 = (l ++ [(s3.out.length : Int)]).length by simp]
      refine LX.world (W' := WA w0 base (PWl bp al L cl (s3.nod 46 xp xn []) (m1.put q 46 xp xn (.slice none 0 0) (m1.rs)) (.row g' cap' (l ++ [(s3.out.length : Int)]).length 3 1 ((l ++ [(s3.out.length : Int)]).map iv) :: (.row gn2 cn2 (ns ++ [xn]).length 9 1 ((ns ++ [xn]).map str) :: fr)))) (fun w hw => ?_) ?_
      · have h1 : WA w0 base (.row g' cap' (l ++ [(s3.out.length : Int)]).length 3 1 ((l ++ [(s3.out.length : Int)]).map iv) :: PWl bp al L cl (s3.nod 46 xp xn []) (m1.put q 46 xp xn (.slice none 0 0) (m1.rs)) (.row gn2 cn2 (ns ++ [xn]).length 9 1 ((ns ++ [xn]).map str) :: fr)) w := by rw [← iv_snoc]; exact hw
        exact h1.perm (by (refine perm_cnt fun x => ?_; simp only [PWl, PBl, ROl, z1, z2, z3, z4, z5, z6]; omega))
      refine LX.pure (Y.assign rfl) rfl rfl rfl <| LX.sub (l' := [(0, _), (3, _), (4, _), (6, _), (7, _), (8, _)]) ⟨rfl, rfl, rfl, rfl, rfl, rfl, trivial⟩ <| LX.next <| PX.thenN <| CX.seq <| CX.region <| LX.pure (Y.move rfl) rfl rfl rfl ?_
      rw [Go.Pa.bnd_assoc] at hr
      obtain ⟨t2, ht2, hT, hF⟩ := Go.Pa.take_bnd hr
      refine LX.call (take_c hL hln ht2 [44]) Pd.en40 rfl rfl rfl rfl rfl ?_
      intro _
      refine LX.pure (Y.not rfl) rfl rfl rfl <| LX.sub (l' := [(0, _), (3, _), (4, _), (6, _), (7, _), (8, _), (83, _)]) ⟨rfl, rfl, rfl, rfl, rfl, rfl, rfl, trivial⟩ <| LX.next <| PX.thenN ?_
      refine CX.cond rfl (fun hb8 => ?_) (fun hb8 => ?_)
      · try simp at hb8
        rw [show isB t2 [[44]] = false from hb8]
        replace hr := hF hb8
        refine CX.world (W' := WA w0 base (PWl bp al L cl (s3.nod 46 xp xn []) (m1.put q 46 xp xn (.slice none 0 0) (m1.rs)) (.row g' cap' (l ++ [(s3.out.length : Int)]).length 3 1 ((l ++ [(s3.out.length : Int)]).map iv) :: .row gn2 cn2 (ns ++ [xn]).length 9 1 ((ns ++ [xn]).map str) :: fr))) (fun w hw => hw) ?_
        obtain ⟨hlg, hr⟩ := Go.Pa.grow_bnd hr
        rw [if_neg Bool.false_ne_true] at hr
        replace hr := Go.Pa.ret_bnd hr
        refine CX.exit <| PX.blockO rfl <| PX.thenE <| PX.blockE ?_
        exact PX.seam ((l ++ [(s3.out.length : Int)]), (g', cap'), (s3.nod 46 xp xn []), (m1.put q 46 xp xn (.slice none 0 0) (m1.rs))) ⟨rfl, rfl, rfl, rfl, trivial⟩ (fun w hw => ⟨⟨hr, hnd6, gI_snoc hg (gI.len hlen), by show (l ++ [(s3.out.length : Int)]).length ≤ 1000002; simp only [List.length_append, List.length_cons, List.length_nil]; omega⟩, hw.drop (.cons_cons _ (.cons_cons _ (List.Sublist.append (List.Sublist.refl _) (.cons_cons _ (List.sublist_cons_self _ _)))))⟩)
      try simp at hb8
      rw [show isB t2 [[44]] = true from hb8]
      replace hr := hT hb8
      refine CX.world (W' := WA w0 base (PWl bp al L cl (s3.nod 46 xp xn []).adv (m1.put q 46 xp xn (.slice none 0 0) (m1.rs)) (.row g' cap' (l ++ [(s3.out.length : Int)]).length 3 1 ((l ++ [(s3.out.length : Int)]).map iv) :: .row gn2 cn2 (ns ++ [xn]).length 9 1 ((ns ++ [xn]).map str) :: fr))) (fun w hw => hw) ?_
      obtain ⟨hlg, hr⟩ := Go.Pa.grow_bnd hr
      rw [if_pos rfl] at hr
      refine CX.skip <| PX.blockN ?_
      exact PX.again (μ := fun z => z.2.2.2.2.2.2.2) (i := (l, ns, (g, c), (gn, cn), gv, s1, m1, j + 1)) ((l ++ [(s3.out.length : Int)]), (ns ++ [xn]), (g', cap'), (gn2, cn2), gv, (s3.nod 46 xp xn []).adv, (m1.put q 46 xp xn (.slice none 0 0) (m1.rs)), j) (by show j < j + 1; omega) ⟨rfl, rfl, rfl, rfl, rfl, rfl, trivial⟩ (fun w hw => ⟨⟨⟨hr, by show j ≤ n; omega⟩, hnd6, gI_snoc hg (gI.len hlen), ⟨by show (l ++ [(s3.out.length : Int)]).length ≤ 1000000; simp only [List.length_append, List.length_cons, List.length_nil]; omega, by show (ns ++ [xn]).length ≤ (l ++ [(s3.out.length : Int)]).length; simp only [List.length_append, List.length_cons, List.length_nil]; omega⟩⟩, hw⟩)
    try simp at hb1
    rw [show isB t [[41]] = true from hb1, if_pos rfl] at hr
    replace hr := Go.Pa.ret_bnd hr
    refine CX.exit <| PX.thenE <| PX.thenE <| PX.blockE ?_
    exact PX.seam (l, (g, c), s1, m1) ⟨rfl, rfl, rfl, rfl, trivial⟩ (fun w hw => ⟨⟨hr, hnd1, hg, by show l.length ≤ 1000002; omega⟩, hw.drop (.cons_cons _ (.cons_cons _ (List.Sublist.append (List.Sublist.refl _) (.cons_cons _ (List.sublist_cons_self _ _)))))⟩)
  clear hr
  rintro ⟨l, ⟨g, c⟩, s3, m3⟩
  refine CX.have fun ⟨hr, hnd3, hg, hlm⟩ => ?_
  replace hlm : l.length ≤ 1000002 := hlm
  replace hg : ∀ x ∈ l, gI x := hg
  try dsimp only at hr ⊢
  refine CX.seq <| CX.region <| LX.pure (Y.move rfl) rfl rfl rfl ?_
  obtain ⟨r9, e9, hok9, hst9⟩ := Go.Pa.bnd_some hr
  refine LX.callP (must_p hS hL hln [41] e9) Pf.en41 rfl rfl rfl rfl rfl (fun y => fun _ w ha hw => ⟨ha.defs, .inr ⟨y, rfl, hst9 _ _ hw.1, hw.2.drop (.cons_cons _ (.cons _ ((List.sublist_cons_self _ _).trans (List.sublist_append_right _ _))))⟩⟩) ?_
  rintro ⟨p9, s9⟩
  refine LX.have fun ⟨hr9, hou9, hp9⟩ => ?_
  replace hou9 : s9.out = s3.out := hou9
  have hnd9 : NdsR 3 m3.rs m3.cells s9.out := by rw [hou9]; exact hnd3
  replace hr := hok9 _ _ hr9
  refine LX.world (W' := WA w0 base (PWl bp al L cl s9 m3 (.row g c l.length 3 1 (l.map iv) :: fr))) (fun w hw => by show WA w0 base (PBl bp al L cl s9 m3 :: .row m3.g m3.c s9.out.length 31 5 m3.cells :: (m3.rs ++ (.row g c l.length 3 1 (l.map iv) :: fr))) w; rw [hou9]; exact hw) ?_
  try dsimp only
  replace hr := Go.Pa.setDefs_bnd hr
  replace hr := Go.Pa.getFors_bnd hr
  obtain ⟨_, hr⟩ := Go.Pa.setFors_bnd (k := 0) hr
  try dsimp only at hr
  refine LX.sub (l' := [(0, _), (3, _), (4, _), (6, _)]) ⟨rfl, rfl, rfl, rfl, trivial⟩ <| LX.next <| PX.thenN <| CX.seq <| CX.region <| LX.pure (Y.move rfl) rfl rfl rfl <| LX.pure (Y.nilCheck rfl) rfl rfl rfl <| LX.pure (Y.fieldAddr0 Pw_.fo41_4 rfl) rfl rfl rfl <| LX.storeB 0 Qc_.sz4 rfl rfl rfl rfl rfl rfl rfl rfl <| LX.sub (l' := [(0, _), (3, _), (4, _), (6, _)]) ⟨rfl, rfl, rfl, rfl, trivial⟩ <| LX.next <| PX.thenN <| CX.seq <| CX.region <| LX.pure (Y.move rfl) rfl rfl rfl <| LX.pure (Y.nilCheck rfl) rfl rfl rfl <| LX.pure (Y.fieldAddr0 Px_.fo41_5 rfl) rfl rfl rfl <| LX.pure (Y.ldB 0 Pa.one3 rfl rfl rfl) rfl rfl rfl <| LX.pure (Y.assign rfl) rfl rfl rfl <| LX.sub (l' := [(0, _), (3, _), (4, _), (6, _), (11, _)]) ⟨rfl, rfl, rfl, rfl, rfl, trivial⟩ <| LX.next <| PX.thenN <| CX.seq <| CX.region <| LX.pure (Y.move rfl) rfl rfl rfl <| LX.pure (Y.nilCheck rfl) rfl rfl rfl <| LX.pure (Y.fieldAddr0 Px_.fo41_5 rfl) rfl rfl rfl <| LX.storeB 0 Pb.sz3 rfl rfl rfl rfl rfl rfl rfl rfl <| LX.sub (l' := [(0, _), (3, _), (4, _), (6, _), (11, _)]) ⟨rfl, rfl, rfl, rfl, rfl, trivial⟩ <| LX.next <| PX.thenN <| CX.seq <| CX.region <| LX.pure (Y.move rfl) rfl rfl rfl <| LX.pure (Y.move rfl) rfl rfl rfl ?_
  obtain ⟨r5, e5, hok5, hst5⟩ := Go.Pa.bnd_some hr
  refine LX.callP (hBlk n (Nat.le_refl _) (⟨s9.at_, s9.out, s9.deep, true, 0⟩ : Go.Pa.St) m3 ((.row g c l.length 3 1 (l.map iv) :: fr)) r5 e5 hnd9) Qb_.en38 rfl rfl rfl rfl rfl (fun y => fun _ w ha hw => ⟨ha.defs, .inr ⟨y, rfl, hst5 _ _ hw.1, hw.2.drop (.cons_cons _ (List.sublist_cons_self _ _))⟩⟩) ?_
  rintro ⟨b, s5, m5⟩
  refine LX.have fun ⟨hr5, hnd5, hk5⟩ => ?_
  replace hr := hok5 _ _ hr5
  try dsimp only
  replace hr := Go.Pa.setDefs_bnd hr
  obtain ⟨_, hr⟩ := Go.Pa.setFors_bnd hr
  try dsimp only at hr
  refine LX.buildSlice (e := 3) (size := 1) rfl rfl (fun _ => by kernel_rfl) rfl (by decide) rfl rfl rfl ?_
  intro gT
  refine LX.world (W' := WA w0 base (.row (some gT) 1 1 3 1 [.int .i64 b] :: .row g c l.length 3 1 (l.map iv) :: PWl bp al L cl s5 m5 fr)) (fun w hw => (show WA w0 base (.row (some gT) 1 1 3 1 [.int .i64 b] :: PWl bp al L cl s5 m5 (.row g c l.length 3 1 (l.map iv) :: fr)) w from hw).perm (by (refine perm_cnt fun x => ?_; simp only [PWl, PBl, ROl, z1, z2, z3, z4, z5, z6]; omega))) ?_
  refine LX.appendT 0 (g := g) (k := l.length) Pk.el29 rfl rfl rfl rfl rfl rfl rfl (by omega) (by omega) rfl rfl rfl ?_
  intro g' cap'
  rw [show l.length + 1 = (l ++ [b]).length by simp]
  refine LX.world (W' := WA w0 base (PWl bp al L cl s5 m5 (.row g' cap' (l ++ [b]).length 3 1 ((l ++ [b]).map iv) :: fr))) (fun w hw => ?_) ?_
  · have h1 : WA w0 base (.row g' cap' (l ++ [b]).length 3 1 ((l ++ [b]).map iv) :: PWl bp al L cl s5 m5 fr) w := by rw [← iv_snoc]; exact hw
    exact h1.perm (by (refine perm_cnt fun x => ?_; simp only [PWl, PBl, ROl, z1, z2, z3, z4, z5, z6]; omega))
  refine LX.pure (Y.assign rfl) rfl rfl rfl <| LX.sub (l' := [(0, _), (3, _), (4, _), (6, _), (11, _)]) ⟨rfl, rfl, rfl, rfl, rfl, trivial⟩ <| LX.next <| PX.thenN <| CX.seq <| CX.region <| LX.pure (Y.move rfl) rfl rfl rfl <| LX.pure (Y.move rfl) rfl rfl rfl <| LX.pure (Y.move rfl) rfl rfl rfl <| LX.pure (Y.nilCheck rfl) rfl rfl rfl <| LX.pure (Y.fieldAddr0 Pw_.fo41_4 rfl) rfl rfl rfl <| LX.storeB 0 Qc_.sz4 rfl rfl rfl rfl rfl rfl rfl rfl <| LX.pure (Y.nilCheck rfl) rfl rfl rfl <| LX.pure (Y.fieldAddr0 Px_.fo41_5 rfl) rfl rfl rfl <| LX.storeB 0 Pb.sz3 rfl rfl rfl rfl rfl rfl rfl rfl <| LX.sub (l' := [(0, _), (3, _), (4, _), (6, _)]) ⟨rfl, rfl, rfl, rfl, trivial⟩ <| LX.next <| PX.thenN <| CX.seq <| CX.region <| LX.pure (Y.move rfl) rfl rfl rfl <| LX.pure (Y.move rfl) rfl rfl rfl <| LX.pure (Y.move rfl) rfl rfl rfl <| LX.pure (Y.move rfl) rfl rfl rfl ?_
  obtain ⟨hlen, hre⟩ := Go.Pa.node_end hr
  refine LX.call (node_c (s := (⟨s5.at_, s5.out, s5.deep, false, s9.fors⟩ : Go.Pa.St)) (m := m5) (45) pos xm (g'.map fun b => ⟨b, 0, none⟩) (l ++ [b]).length cap' (l ++ [b]) hlen) Pe.en15 rfl rfl rfl rfl rfl ?_
  intro q
  refine LX.pure (Y.assign rfl) rfl rfl rfl <| LX.sub (l' := [(2, _)]) ⟨rfl, trivial⟩ <| LX.next <| PX.thenN <| CX.ret <| PX.ret1 (by simp) Tryd.results24 rfl ?_
  exact fun w hw0 => by
    have hw := (show WA w0 base (PBl bp al L cl ((⟨s5.at_, s5.out, s5.deep, false, s9.fors⟩ : Go.Pa.St).nod 45 pos xm (l ++ [b])) (m5.put q 45 pos xm (rv g' (l ++ [b]).length cap') (m5.rs)) :: ROl ((⟨s5.at_, s5.out, s5.deep, false, s9.fors⟩ : Go.Pa.St).nod 45 pos xm (l ++ [b])) (m5.put q 45 pos xm (rv g' (l ++ [b]).length cap') (m5.rs)) :: (m5.rs ++ (.row g' cap' (l ++ [b]).length 3 1 ((l ++ [b]).map iv) :: fr))) w from hw0).perm (show List.Perm (PBl bp al L cl ((⟨s5.at_, s5.out, s5.deep, false, s9.fors⟩ : Go.Pa.St).nod 45 pos xm (l ++ [b])) (m5.put q 45 pos xm (rv g' (l ++ [b]).length cap') (m5.rs)) :: ROl ((⟨s5.at_, s5.out, s5.deep, false, s9.fors⟩ : Go.Pa.St).nod 45 pos xm (l ++ [b])) (m5.put q 45 pos xm (rv g' (l ++ [b]).length cap') (m5.rs)) :: .row g' cap' (l ++ [b]).length 3 1 ((l ++ [b]).map iv) :: (m5.rs ++ fr)) _ by (refine perm_cnt fun x => ?_; simp only [PWl, PBl, ROl, z1, z2, z3, z4, z5, z6]; omega))
    exact .inl ⟨(((⟨s5.at_, s5.out, s5.deep, false, s9.fors⟩ : Go.Pa.St).out.length : Int), ((⟨s5.at_, s5.out, s5.deep, false, s9.fors⟩ : Go.Pa.St).nod 45 pos xm (l ++ [b])), (m5.put q 45 pos xm (rv g' (l ++ [b]).length cap') (.row g' cap' (l ++ [b]).length 3 1 ((l ++ [b]).map iv) :: m5.rs))), rfl, ⟨hre, put_nds (op := 45) (pos := pos) (x := xm) hnd5 hw (i := 2) (ks := (l ++ [b])) rfl (fun z hz => ((gI_snoc hg hk5) z hz).inI) (by simp only [List.length_append, List.length_cons, List.length_nil]; omega) (by unfold Go.SX.inI; omega) hp0, gI.len hlen⟩, hw⟩
end Go.Proofs.YtfbenelagdcdgaaDoor

namespace Go.Proofs.YtfbenelagdcdgaaDoor
open Go.SX Go.RowKit Go.Tr Go.Lex
namespace Qd_

end Qd_
open Go.Proofs.YtfbenelagdcdgaaDoor.Env (EnvS errV sentG)
open Go.Pa (Tk Rs bnd ret isB is_ adv bad take must kinds inn outn node nodeAt setPos)
open Go.Ck (NdsR)
theorem file_p {w0 : World} {base : Nat} {aE : Nat → Addr} (hS : EnvS w0 base aE) {bp : Nat} {al : Option Addr} {cl : Nat} {L : List Tk} (hL : SlAt 3 tokA (Lies w0 base) al L) (hln : L.length ≤ 1099511627776) (n : Nat) (hStm : ∀ wh, ∀ j, j ≤ n → FS w0 base aE al cl L bp 14 #[.pointer (some ⟨bp, 0, none⟩), .bool wh] (fun z : Int => .int .i64 z) gI (.statement wh) j) : FS w0 base aE al cl L bp 9 #[.pointer (some ⟨bp, 0, none⟩)] (fun _ : Unit => .tuple #[]) (fun _ => True) (.file) (n + 1) := by
  intro s m fr r hr hnd
  change (bnd (Go.Pa.run L nameB n (.fileGo [])) (fun l => bnd (if l = [] then bnd (node 38 0 [] []) fun n => ret [n] else ret l) (fun l => bnd (nodeAt (l.headD 0)) fun x => bnd (node 47 x.pos [] l) fun _ => ret ()))) s = some r at hr
  refine FnP.of_body (fn := Tryd.f9) [(0, _)] Tryd.func9 rfl Tryd.ntmps9 rfl ⟨rfl, trivial⟩ ?_
  refine CX.seq <| CX.region <| LX.pure (Y.assign rfl) rfl rfl rfl <| LX.sub (l' := [(0, _), (2, _)]) ⟨rfl, rfl, trivial⟩ <| LX.next <| PX.thenN ?_
  refine CX.seqM (fun z : List Int × (Option Nat × Nat) × Go.Pa.St × Mm => [(0, .pointer (some ⟨bp, 0, none⟩)), (2, rv z.2.1.1 z.1.length z.2.1.2)]) (fun (z : List Int × (Option Nat × Nat) × Go.Pa.St × Mm) w => (((fun l => bnd (if l = [] then bnd (node 38 0 [] []) fun n => ret [n] else ret l) (fun l => bnd (nodeAt (l.headD 0)) fun x => bnd (node 47 x.pos [] l) fun _ => ret ())) z.1) z.2.2.1 = some r ∧ NdsR 3 z.2.2.2.rs z.2.2.2.cells z.2.2.1.out ∧ (∀ x ∈ z.1, gI x) ∧ z.1.length ≤ 1000002) ∧ WA w0 base (PWl bp al L cl z.2.2.1 z.2.2.2 (.row z.2.1.1 z.2.1.2 z.1.length 3 1 (z.1.map iv) :: fr)) w) ?_ ?_
  ·
    refine CX.block ?_
    refine CX.loop (fun z : List Int × (Option Nat × Nat) × Go.Pa.St × Mm × Nat => [(0, .pointer (some ⟨bp, 0, none⟩)), (2, rv z.2.1.1 z.1.length z.2.1.2)]) (fun (z : List Int × (Option Nat × Nat) × Go.Pa.St × Mm × Nat) w => (((bnd (Go.Pa.run L nameB z.2.2.2.2 (.fileGo z.1)) (fun l => bnd (if l = [] then bnd (node 38 0 [] []) fun n => ret [n] else ret l) (fun l => bnd (nodeAt (l.headD 0)) fun x => bnd (node 47 x.pos [] l) fun _ => ret ()))) z.2.2.1 = some r ∧ z.2.2.2.2 ≤ n) ∧ NdsR 3 z.2.2.2.1.rs z.2.2.2.1.cells z.2.2.1.out ∧ (∀ x ∈ z.1, gI x) ∧ z.1.length ≤ 1000002) ∧ WA w0 base (PWl bp al L cl z.2.2.1 z.2.2.2.1 (.row z.2.1.1 z.2.1.2 z.1.length 3 1 (z.1.map iv) :: fr)) w) (fun z => z.2.2.2.2) ([], (none, 0), s, m, n) ⟨rfl, rfl, trivial⟩ (fun w hw => ⟨⟨⟨hr, Nat.le_refl _⟩, hnd, (fun z hz => by cases hz), by simp⟩, by
      have h1 := (show WA w0 base (PWl bp al L cl s m fr) w from hw).nilRow 3 1
      exact (show WA w0 base (.row none 0 ([] : List Int).length 3 1 (([] : List Int).map iv) :: PWl bp al L cl s m fr) w from h1).perm (show List.Perm (PWl bp al L cl s m (.row none 0 ([] : List Int).length 3 1 (([] : List Int).map iv) :: fr)) (.row none 0 ([] : List Int).length 3 1 (([] : List Int).map iv) :: PWl bp al L cl s m fr) by (refine perm_cnt fun x => ?_; simp only [PWl, PBl, ROl, z1, z2, z3, z4, z5, z6]; omega))⟩) ?_
    clear hr
    rintro ⟨l, ⟨g, c⟩, s1, m1, j⟩
    refine CX.have fun ⟨⟨hr, hjn⟩, hnd1, hg, hlm⟩ => ?_
    replace hlm : l.length ≤ 1000002 := hlm
    replace hr : (bnd (Go.Pa.run L nameB j (.fileGo l)) (fun l => bnd (if l = [] then bnd (node 38 0 [] []) fun n => ret [n] else ret l) (fun l => bnd (nodeAt (l.headD 0)) fun x => bnd (node 47 x.pos [] l) fun _ => ret ()))) s1 = some r := hr
    replace hjn : j ≤ n := hjn
    replace hnd1 : NdsR 3 m1.rs m1.cells s1.out := hnd1
    replace hg : ∀ x ∈ l, gI x := hg
    try dsimp only
    obtain ⟨j, rfl⟩ : ∃ i, j = i + 1 := by
      cases j with
      | zero => cases hr
      | succ i => exact ⟨i, rfl⟩
    rw [show Go.Pa.run L nameB (j + 1) (.fileGo l) = (bnd (Go.Pa.tok L) fun t => if t.kind ≠ 8 then bnd (Go.Pa.run L nameB j (.statement true)) fun k => Go.Pa.grow l (Go.Pa.run L nameB j (.fileGo (l ++ [k]))) else ret l) from rfl, Go.Pa.bnd_assoc] at hr
    obtain ⟨t1, ht1, hr⟩ := Go.Pa.tok_bnd hr
    have hj1 : s1.at_ < L.length := (List.getElem?_eq_some_iff.1 ht1).1
    refine CX.seq <| CX.seq <| CX.region <| LX.pure (Y.move rfl) rfl rfl rfl <| LX.callQ (kind_q ht1 (fun w hw => blkL hw (i := 0) rfl) (fun w hw => hL.push hw)) Pa.en13 rfl rfl rfl rfl rfl <| LX.pure (Y.neI rfl rfl) rfl rfl rfl <| LX.sub (l' := [(0, _), (2, _), (5, _)]) ⟨rfl, rfl, rfl, trivial⟩ <| LX.next <| PX.thenN ?_
    refine CX.cond rfl (fun hb1 => ?_) (fun hb1 => ?_)
    · try simp at hb1
      rw [if_pos (by simpa using hb1), Go.Pa.bnd_assoc] at hr
      refine CX.skip <| PX.thenN <| CX.block <| CX.region <| LX.pure (Y.move rfl) rfl rfl rfl <| LX.pure (Y.move rfl) rfl rfl rfl ?_
      obtain ⟨r2, e2, hok2, hst2⟩ := Go.Pa.bnd_some hr
      refine LX.callP ((hStm true) j (by omega) s1 m1 ((.row g c l.length 3 1 (l.map iv) :: fr)) r2 e2 hnd1) Qa_.en14 rfl rfl rfl rfl rfl (fun y => fun _ w ha hw => ⟨ha.defs, .inr ⟨y, rfl, hst2 _ _ hw.1, hw.2.drop (.cons_cons _ (List.sublist_cons_self _ _))⟩⟩) ?_
      rintro ⟨k2, s2, m2⟩
      refine LX.have fun ⟨hr2, hnd2, hk2⟩ => ?_
      replace hr := hok2 _ _ hr2
      try dsimp only
      obtain ⟨hlg, hr⟩ := Go.Pa.grow_bnd hr
      refine LX.buildSlice (e := 3) (size := 1) rfl rfl (fun _ => by kernel_rfl) rfl (by decide) rfl rfl rfl ?_
      intro gT
      refine LX.world (W' := WA w0 base (.row (some gT) 1 1 3 1 [.int .i64 k2] :: .row g c l.length 3 1 (l.map iv) :: PWl bp al L cl s2 m2 fr)) (fun w hw => (show WA w0 base (.row (some gT) 1 1 3 1 [.int .i64 k2] :: PWl bp al L cl s2 m2 (.row g c l.length 3 1 (l.map iv) :: fr)) w from hw).perm (by (refine perm_cnt fun x => ?_; simp only [PWl, PBl, ROl, z1, z2, z3, z4, z5, z6]; omega))) ?_
      refine LX.appendT 0 Pk.el29 rfl rfl rfl rfl rfl rfl rfl (by omega) (by omega) rfl rfl rfl ?_
      intro g' cap'
      rw [show l.length + 1 = (l ++ [k2]).length by simp]
      refine LX.world (W' := WA w0 base (PWl bp al L cl s2 m2 (.row g' cap' (l ++ [k2]).length 3 1 ((l ++ [k2]).map iv) :: fr))) (fun w hw => ?_) ?_
      · have h1 : WA w0 base (.row g' cap' (l ++ [k2]).length 3 1 ((l ++ [k2]).map iv) :: PWl bp al L cl s2 m2 fr) w := by rw [← iv_snoc]; exact hw
        exact h1.perm (by (refine perm_cnt fun x => ?_; simp only [PWl, PBl, ROl, z1, z2, z3, z4, z5, z6]; omega))
      refine LX.pure (Y.assign rfl) rfl rfl rfl <| LX.sub (l' := [(0, _), (2, _)]) ⟨rfl, rfl, trivial⟩ <| LX.next <| PX.blockN ?_
      exact PX.again (μ := fun z => z.2.2.2.2) (i := (l, (g, c), s1, m1, j + 1)) ((l ++ [k2]), (g', cap'), s2, m2, j) (by show j < j + 1; omega) ⟨rfl, rfl, trivial⟩ (fun w hw => ⟨⟨⟨hr, by show j ≤ n; omega⟩, hnd2, gI_snoc hg hk2, by show (l ++ [k2]).length ≤ 1000002; simp only [List.length_append, List.length_cons, List.length_nil]; omega⟩, hw⟩)
    try simp at hb1
    rw [if_neg (by simpa using hb1)] at hr
    replace hr := Go.Pa.ret_bnd hr
    refine CX.exit <| PX.thenE <| PX.thenE <| PX.blockE ?_
    exact PX.seam (l, (g, c), s1, m1) ⟨rfl, rfl, trivial⟩ (fun w hw => ⟨⟨hr, hnd1, hg, hlm⟩, hw⟩)
  clear hr
  rintro ⟨l, ⟨g, c⟩, s3, m3⟩
  refine CX.have fun ⟨hr, hnd3, hg, hlm⟩ => ?_
  replace hlm : l.length ≤ 1000002 := hlm
  replace hg : ∀ x ∈ l, gI x := hg
  try dsimp only at hr ⊢
  refine CX.seqM (fun z : List Int × (Option Nat × Nat) × Go.Pa.St × Mm => [(0, .pointer (some ⟨bp, 0, none⟩)), (2, rv z.2.1.1 z.1.length z.2.1.2)]) (fun (z : List Int × (Option Nat × Nat) × Go.Pa.St × Mm) w => (((fun l => bnd (nodeAt (l.headD 0)) fun x => bnd (node 47 x.pos [] l) fun _ => ret ()) z.1) z.2.2.1 = some r ∧ NdsR 3 z.2.2.2.rs z.2.2.2.cells z.2.2.1.out ∧ z.1 ≠ [] ∧ (∀ x ∈ z.1, gI x) ∧ z.1.length ≤ 1000002) ∧ WA w0 base (PWl bp al L cl z.2.2.1 z.2.2.2 (.row z.2.1.1 z.2.1.2 z.1.length 3 1 (z.1.map iv) :: fr)) w) ?_ ?_
  ·
    refine CX.seq <| CX.region <| LX.pure (Y.move rfl) rfl rfl rfl <| LX.pure (Y.lenSl rfl Pb.un29 rfl) rfl rfl rfl <| LX.pure (Y.eqN rfl rfl) rfl rfl rfl <| LX.sub (l' := [(0, _), (2, _), (13, _)]) ⟨rfl, rfl, rfl, trivial⟩ <| LX.next <| PX.thenN ?_
    refine CX.cond rfl (fun hb2 => ?_) (fun hb2 => ?_)
    · try simp at hb2
      have hl0 : l = [] := List.length_eq_zero_iff.1 (by simpa using hb2)
      rw [if_pos hl0, Go.Pa.bnd_assoc] at hr
      refine CX.region <| LX.pure (Y.move rfl) rfl rfl rfl ?_
      obtain ⟨hlen, hr⟩ := Go.Pa.node_bnd hr
      replace hr := Go.Pa.ret_bnd hr
      try dsimp only at hr
      refine LX.call (node_c (s := s3) (m := m3) (38) 0 [] none 0 0 [] hlen) Pe.en15 rfl rfl rfl rfl rfl ?_
      intro q
      have hnd5 : NdsR 3 (m3.put q 38 0 [] (.slice none 0 0) (m3.rs)).rs (m3.put q 38 0 [] (.slice none 0 0) (m3.rs)).cells (s3.nod 38 0 [] []).out := put_nil (op := 38) (pos := 0) (x := []) hnd3 (by unfold Go.SX.inI; omega) (by unfold Go.SX.inI; omega)
      refine LX.buildSlice (e := 3) (size := 1) rfl rfl (fun _ => by kernel_rfl) rfl (by decide) rfl rfl rfl ?_
      intro gL
      refine LX.pure (Y.assign rfl) rfl rfl rfl <| LX.sub (l' := [(0, _), (2, _)]) ⟨rfl, rfl, trivial⟩ <| LX.next ?_
      exact PX.seam ([(s3.out.length : Int)], (some gL, 1), (s3.nod 38 0 [] []), (m3.put q 38 0 [] (.slice none 0 0) (m3.rs))) ⟨rfl, rfl, trivial⟩ (fun w hw => ⟨⟨hr, hnd5, by simp, (fun z hz => by cases List.mem_singleton.1 hz; exact gI.len hlen), by simp⟩, ((show WA w0 base (.row (some gL) 1 [(s3.out.length : Int)].length 3 1 ([(s3.out.length : Int)].map iv) :: PWl bp al L cl (s3.nod 38 0 [] []) (m3.put q 38 0 [] (.slice none 0 0) (m3.rs)) (.row g c l.length 3 1 (l.map iv) :: fr)) w from hw).drop (.cons_cons _ (.cons_cons _ (.cons_cons _ (List.Sublist.append (List.Sublist.refl _) (List.sublist_cons_self _ _)))))).perm (by (refine perm_cnt fun x => ?_; simp only [PWl, PBl, ROl, z1, z2, z3, z4, z5, z6]; omega))⟩)
    try simp at hb2
    have hl0 : l ≠ [] := fun e => hb2 (by simp [e])
    rw [if_neg hl0] at hr
    replace hr := Go.Pa.ret_bnd hr
    refine CX.skip ?_
    exact PX.seam (l, (g, c), s3, m3) ⟨rfl, rfl, trivial⟩ (fun w hw => ⟨⟨hr, hnd3, hl0, hg, hlm⟩, hw⟩)
  clear hr
  rintro ⟨l, ⟨g, c⟩, s3, m3⟩
  refine CX.have fun ⟨hr, hnd3, hl0, hg, hlm⟩ => ?_
  replace hlm : l.length ≤ 1000002 := hlm
  replace hg : ∀ x ∈ l, gI x := hg
  replace hl0 : l ≠ [] := hl0
  try dsimp only at hr ⊢
  obtain ⟨x, hx0, hx, hr⟩ := Go.Pa.nodeAt_bnd (k := l.headD 0) hr
  obtain ⟨hxl, hxo, hxp, hxi, hxj⟩ := hnd3.cell hx
  refine CX.regionM [(0, .anywhere), (1, .anywhere), (2, .anywhere), (3, .anywhere), (4, .held), (5, .anywhere), (6, .held), (7, .held), (8, .held), (9, .held), (10, .held), (11, .anywhere), (12, .alone)] rfl (by kernel_rfl) <| MX.lift0 (i := 0) rfl (Y.move rfl) rfl rfl rfl <| MX.lift0 (i := 1) rfl (Y.move rfl) rfl rfl rfl <| MX.lift0 (i := 2) rfl (Y.nilCheck rfl) rfl rfl rfl <| MX.lift0 (i := 3) rfl (Y.fieldAddr0 Pd.fo41_2 rfl) rfl rfl rfl <| MX.lift1 (i := 4) (pend' := []) rfl (fun w hw => by exact hw) (Y.ldB 0 Pd.one23 rfl rfl rfl) rfl rfl rfl (by kernel_rfl) <| MX.lift0 (i := 5) rfl (Y.move rfl) rfl rfl rfl <| MX.lift1 (i := 6) (pend' := [4]) rfl (fun w hw => by exact hw) (Y.idxR1M (i := 0) Pb.un29 Pb.sz3 rfl rfl (List.mem_cons_of_mem _ (List.mem_cons_of_mem _ (List.mem_append_right _ (List.mem_cons_self ..)))) (List.length_pos_iff.2 hl0)) rfl rfl rfl (by kernel_rfl) <| MX.lift1 (i := 7) (pend' := [4]) rfl (fun w hw => by exact hw) (Y.ldRM (v := .int .i64 (l.headD 0)) Pa.one3 rfl (List.mem_cons_of_mem _ (List.mem_cons_of_mem _ (List.mem_append_right _ (List.mem_cons_self ..)))) (iv_head hl0)) rfl rfl rfl (by kernel_rfl) <| MX.lift1 (i := 8) (pend' := []) rfl (fun w hw => by exact hw) (Y.idxRZ 1 (i := (l.headD 0).toNat) Pd.un23 Pl.sz31 rfl rfl (Int.toNat_of_nonneg hx0).symm rfl hxl) rfl rfl rfl (by kernel_rfl) <| MX.lift1 (i := 9) (pend' := []) rfl (fun w hw => by exact hw) (Y.fieldAddr Pl.fo31_2 rfl) rfl rfl rfl (by kernel_rfl) <| MX.lift1 (i := 10) (pend' := []) rfl (fun w hw => by exact hw) (Y.ldR 1 (v := .int .i64 x.pos) Pa.one3 rfl rfl hxp) rfl rfl rfl (by kernel_rfl) <| MX.lift0 (i := 11) rfl (Y.move rfl) rfl rfl rfl <| MX.force (i := 12) rfl ?_
  obtain ⟨hlen, hr⟩ := Go.Pa.node_bnd hr
  refine LX.call (node_c (s := s3) (m := m3) (47) x.pos [] (g.map fun b => ⟨b, 0, none⟩) l.length c l hlen) Pe.en15 rfl rfl rfl rfl rfl ?_
  intro q
  refine LX.nextM [] (by kernel_rfl) (fun h => absurd rfl h) <| MX.sub (l' := []) trivial <| MX.done <| PX.ret0 (by simp) Tryd.results9 ?_
  exact fun w hw0 => by
    have hw := (show WA w0 base (PBl bp al L cl (s3.nod 47 x.pos [] l) (m3.put q 47 x.pos [] (rv g l.length c) (m3.rs)) :: ROl (s3.nod 47 x.pos [] l) (m3.put q 47 x.pos [] (rv g l.length c) (m3.rs)) :: (m3.rs ++ (.row g c l.length 3 1 (l.map iv) :: fr))) w from hw0).perm (show List.Perm (PBl bp al L cl (s3.nod 47 x.pos [] l) (m3.put q 47 x.pos [] (rv g l.length c) (m3.rs)) :: ROl (s3.nod 47 x.pos [] l) (m3.put q 47 x.pos [] (rv g l.length c) (m3.rs)) :: .row g c l.length 3 1 (l.map iv) :: (m3.rs ++ fr)) _ by (refine perm_cnt fun x => ?_; simp only [PWl, PBl, ROl, z1, z2, z3, z4, z5, z6]; omega))
    exact .inl ⟨((), (s3.nod 47 x.pos [] l), (m3.put q 47 x.pos [] (rv g l.length c) (.row g c l.length 3 1 (l.map iv) :: m3.rs))), rfl, ⟨Go.Pa.ret_end hr, put_nds (op := 47) (pos := x.pos) (x := []) hnd3 hw (i := 2) (ks := l) rfl (fun z hz => (hg z hz).inI) (by omega) (by unfold Go.SX.inI; omega) hxj, trivial⟩, hw⟩
end Go.Proofs.YtfbenelagdcdgaaDoor

namespace Go.Proofs.YtfbenelagdcdgaaDoor
open Go.SX Go.RowKit Go.Tr Go.Lex
namespace Qe_

end Qe_
open Go.Proofs.YtfbenelagdcdgaaDoor.Env (EnvS errV sentG)
open Go.Pa (Tk Rs bnd ret isB is_ adv bad take must kinds inn outn node nodeAt setPos)
open Go.Ck (NdsR)
theorem FS.zero {w0 : World} {base : Nat} {aE : Nat → Addr} {al : Option Addr} {cl : Nat} {L : List Tk} {bp : Nat} {α : Type} {go : FuncId} {args : Array Value} {v : α → Value} {Gd : α → Prop} {f : Go.Pa.F α} : FS w0 base aE al cl L bp go args v Gd f 0 := fun _ _ _ _ hr _ => by cases hr
theorem TS.zero {w0 : World} {base : Nat} {al : Option Addr} {cl : Nat} {L : List Tk} {bp : Nat} : TS w0 base al cl L bp 0 := fun _ _ _ _ _ hr _ => by cases hr
/-- what the parser's functions do, with so much fuel -/
structure Sps (w0 : World) (base : Nat) (aE : Nat → Addr) (al : Option Addr) (cl : Nat) (L : List Tk) (bp : Nat) (n : Nat) : Prop where
  or_ : FI w0 base aE al cl L bp 57 (.left 0) n
  and_ : FI w0 base aE al cl L bp 67 (.left 1) n
  sum_ : FI w0 base aE al cl L bp 80 (.left 2) n
  product_ : FI w0 base aE al cl L bp 84 (.left 3) n
  not_ : FI w0 base aE al cl L bp 73 (.not_) n
  unary_ : FI w0 base aE al cl L bp 86 (.unary) n
  test_ : FI w0 base aE al cl L bp 37 (.test) n
  compare_ : FI w0 base aE al cl L bp 76 (.compare) n
  primary_ : FI w0 base aE al cl L bp 74 (.primary) n
  index_ : ∀ k, gI k → FS w0 base aE al cl L bp 79 #[.pointer (some ⟨bp, 0, none⟩), .int .i64 k] (fun z : Int => .int .i64 z) gI (.index k) n
  many_ : FS w0 base aE al cl L bp 59 #[.pointer (some ⟨bp, 0, none⟩)] (fun z : Int × Bool => .tuple #[.int .i64 z.1, .bool z.2]) (fun z => gI z.1) (.many) n
  round_ : FI w0 base aE al cl L bp 81 (.round) n
  atom_ : FI w0 base aE al cl L bp 77 (.atom) n
  square_ : FI w0 base aE al cl L bp 82 (.square) n
  curly_ : FI w0 base aE al cl L bp 83 (.curly) n
  comp_ : ∀ pos k, inI pos → gI k → FS w0 base aE al cl L bp 85 #[.pointer (some ⟨bp, 0, none⟩), .int .i64 pos, .int .i64 k] (fun z : Int => .int .i64 z) gI (.comp pos k) n
  some_ : ∀ e, FS w0 base aE al cl L bp 58 #[.pointer (some ⟨bp, 0, none⟩), str e] (fun z : Int × Bool => .tuple #[.int .i64 z.1, .bool z.2]) (fun z => gI z.1) (.some_ e) n
  tuple_ : FS w0 base aE al cl L bp 43 #[.pointer (some ⟨bp, 0, none⟩)] (fun z : Int × Bool => .int .i64 z.1) (fun z => gI z.1) (.many) n
  targets_ : ∀ e, FS w0 base aE al cl L bp 42 #[.pointer (some ⟨bp, 0, none⟩), str e] (fun z : Int × Bool => .int .i64 z.1) (fun z => gI z.1) (.some_ e) n
  target_ : TS w0 base al cl L bp n
  one_ : FI w0 base aE al cl L bp 68 (.one) n
  call_ : ∀ k, gI k → FS w0 base aE al cl L bp 78 #[.pointer (some ⟨bp, 0, none⟩), .int .i64 k] (fun z : Int => .int .i64 z) gI (.call k) n
  answer_ : FI w0 base aE al cl L bp 46 (.answer) n
  simple_ : ∀ wh, FS w0 base aE al cl L bp 25 #[.pointer (some ⟨bp, 0, none⟩), .bool wh] (fun z : Int => .int .i64 z) gI (.simple wh) n
  statement_ : ∀ wh, FS w0 base aE al cl L bp 14 #[.pointer (some ⟨bp, 0, none⟩), .bool wh] (fun z : Int => .int .i64 z) gI (.statement wh) n
  load_ : FI w0 base aE al cl L bp 47 (.load) n
  block_ : FI w0 base aE al cl L bp 38 (.block) n
  cond_ : FI w0 base aE al cl L bp 21 (.cond) n
  loop_ : FI w0 base aE al cl L bp 22 (.loop) n
  def_ : FI w0 base aE al cl L bp 24 (.def_) n
  file_ : FS w0 base aE al cl L bp 9 #[.pointer (some ⟨bp, 0, none⟩)] (fun _ : Unit => .tuple #[]) (fun _ => True) (.file) n
theorem sps_next {w0 : World} {base : Nat} {aE : Nat → Addr} (hS : EnvS w0 base aE) {bp : Nat} {al : Option Addr} {cl : Nat} {L : List Tk} (hL : SlAt 3 tokA (Lies w0 base) al L) (hln : L.length ≤ 1099511627776) (n : Nat) (hTx : ∀ (i : Nat) (t : Tk), L[i]? = some t → t.text.length ≤ 9223372036854775807) (H : ∀ j, j ≤ n → Sps w0 base aE al cl L bp j) : Sps w0 base aE al cl L bp (n + 1) where
  or_ := or_p hS hL hln n (fun j hj => (H j hj).and_)
  and_ := and_p hS hL hln n (fun j hj => (H j hj).not_)
  sum_ := sum_p hS hL hln n (fun j hj => (H j hj).product_)
  product_ := product_p hS hL hln n (fun j hj => (H j hj).unary_)
  not_ := not_p hS hL hln n (fun j hj => (H j hj).not_) (fun j hj => (H j hj).compare_)
  unary_ := unary_p hS hL hln n (fun j hj => (H j hj).unary_) (fun j hj => (H j hj).primary_)
  test_ := test_p hS hL hln n (fun j hj => (H j hj).or_) (fun j hj => (H j hj).test_)
  compare_ := compare_p hS hL hln n (fun j hj => (H j hj).sum_)
  primary_ := primary_p hS hL hln n (fun j hj => (H j hj).atom_) (fun k hk j hj => (H j hj).call_ k hk) (fun k hk j hj => (H j hj).index_ k hk)
  index_ := fun k hk => index_p hS hL hln n (fun j hj => (H j hj).test_) k hk
  many_ := many_p hS hL hln n (fun j hj => (H j hj).test_)
  round_ := round_p hS hL hln n (fun j hj => (H j hj).many_)
  atom_ := atom_p hS hL hln n (fun j hj => (H j hj).round_) (fun j hj => (H j hj).square_) (fun j hj => (H j hj).curly_)
  square_ := square_p hS hL hln n (fun j hj => (H j hj).test_) (fun pos k hp hk j hj => (H j hj).comp_ pos k hp hk)
  curly_ := curly_p hS hL hln n (fun j hj => (H j hj).test_)
  comp_ := fun pos k hp hk => comp_p hS hL hln n (fun j hj => (H j hj).or_) (fun j hj => (H j hj).targets_ [105, 110]) pos k hp hk
  some_ := fun e => some_p hS hL hln n (fun j hj => (H j hj).one_) e
  tuple_ := tuple_p (many_p hS hL hln n (fun j hj => (H j hj).test_))
  targets_ := fun e => targets_p (some_p hS hL hln n (fun j hj => (H j hj).one_) e)
  target_ := target_c n (fun j hj => (H j hj).target_)
  one_ := one_p hS hL hln n (fun j hj => (H j hj).primary_) (fun j hj => (H j hj).some_ [41])
  call_ := fun k hk => call_p hS hL hln n (fun j hj => (H j hj).test_) k hk
  answer_ := answer_p hS hL hln n (fun j hj => (H j hj).tuple_)
  simple_ := fun wh => simple_p hS hL hln n (fun j hj => (H j hj).answer_) (fun j hj => (H j hj).load_) (fun j hj => (H j hj).tuple_) (fun j hj => (H j hj).target_) wh
  statement_ := fun wh => statement_p hS hL hln n (fun j hj => (H j hj).cond_) (fun j hj => (H j hj).loop_) (fun j hj => (H j hj).def_) (fun wh j hj => (H j hj).simple_ wh) wh
  load_ := load_p hS hL hln n hTx
  block_ := block_p hS hL hln n (fun wh j hj => (H j hj).statement_ wh) (fun wh j hj => (H j hj).simple_ wh)
  cond_ := cond_p hS hL hln n (fun j hj => (H j hj).test_) (fun j hj => (H j hj).block_) (fun j hj => (H j hj).cond_)
  loop_ := loop_p hS hL hln n (fun j hj => (H j hj).targets_ [105, 110]) (fun j hj => (H j hj).tuple_) (fun j hj => (H j hj).block_)
  def_ := def_p hS hL hln n (fun j hj => (H j hj).test_) (fun j hj => (H j hj).block_)
  file_ := file_p hS hL hln n (fun wh j hj => (H j hj).statement_ wh)
theorem sps_zero {w0 : World} {base : Nat} {aE : Nat → Addr} {al : Option Addr} {cl : Nat} {L : List Tk} {bp : Nat} : Sps w0 base aE al cl L bp 0 where
  or_ := FS.zero
  and_ := FS.zero
  sum_ := FS.zero
  product_ := FS.zero
  not_ := FS.zero
  unary_ := FS.zero
  test_ := FS.zero
  compare_ := FS.zero
  primary_ := FS.zero
  index_ := fun _ _ => FS.zero
  many_ := FS.zero
  round_ := FS.zero
  atom_ := FS.zero
  square_ := FS.zero
  curly_ := FS.zero
  comp_ := fun _ _ _ _ => FS.zero
  some_ := fun _ => FS.zero
  tuple_ := FS.zero
  targets_ := fun _ => FS.zero
  target_ := TS.zero
  one_ := FS.zero
  call_ := fun _ _ => FS.zero
  answer_ := FS.zero
  simple_ := fun _ => FS.zero
  statement_ := fun _ => FS.zero
  load_ := FS.zero
  block_ := FS.zero
  cond_ := FS.zero
  loop_ := FS.zero
  def_ := FS.zero
  file_ := FS.zero
theorem sps {w0 : World} {base : Nat} {aE : Nat → Addr} (hS : EnvS w0 base aE) {bp : Nat} {al : Option Addr} {cl : Nat} {L : List Tk} (hL : SlAt 3 tokA (Lies w0 base) al L) (hln : L.length ≤ 1099511627776) (n : Nat) (hTx : ∀ (i : Nat) (t : Tk), L[i]? = some t → t.text.length ≤ 9223372036854775807) : Sps w0 base aE al cl L bp n := by
  induction n using Nat.strongRecOn with
  | ind n ih =>
    cases n with
    | zero => exact sps_zero
    | succ n => exact sps_next hS hL hln n hTx fun j hj => ih j (Nat.lt_succ_of_le hj)
end Go.Proofs.YtfbenelagdcdgaaDoor
