/-
  Proved here: expressions: or, and, sums, products, nots, minuses.
-/
import Derived.Test.YtfbenelagdcdgaaDoorPaE
set_option linter.unusedSimpArgs false
namespace Go.Proofs.YtfbenelagdcdgaaDoor
open Go.SX Go.RowKit Go.Tr Go.Lex
namespace Pf
theorem en39 : Enters Tryd.prog 39 := Enters.of Tryd.func39 (by kernel_rfl) (by kernel_rfl)
theorem en41 : Enters Tryd.prog 41 := Enters.of Tryd.func41 (by kernel_rfl) (by kernel_rfl)
theorem en66 : Enters Tryd.prog 66 := Enters.of Tryd.func66 (by kernel_rfl) (by kernel_rfl)
theorem en67 : Enters Tryd.prog 67 := Enters.of Tryd.func67 (by kernel_rfl) (by kernel_rfl)
theorem en73 : Enters Tryd.prog 73 := Enters.of Tryd.func73 (by kernel_rfl) (by kernel_rfl)
theorem en74 : Enters Tryd.prog 74 := Enters.of Tryd.func74 (by kernel_rfl) (by kernel_rfl)
theorem en76 : Enters Tryd.prog 76 := Enters.of Tryd.func76 (by kernel_rfl) (by kernel_rfl)
theorem en84 : Enters Tryd.prog 84 := Enters.of Tryd.func84 (by kernel_rfl) (by kernel_rfl)
theorem en86 : Enters Tryd.prog 86 := Enters.of Tryd.func86 (by kernel_rfl) (by kernel_rfl)
end Pf
open Go.Proofs.YtfbenelagdcdgaaDoor.Env (EnvS errV sentG)
open Go.Pa (Tk Rs bnd ret isB is_ adv bad take must kinds inn outn node nodeAt setPos)
open Go.Ck (NdsR)
theorem or_p {w0 : World} {base : Nat} {aE : Nat → Addr} (hS : EnvS w0 base aE) {bp : Nat} {al : Option Addr} {cl : Nat} {L : List Tk} (hL : SlAt 3 tokA (Lies w0 base) al L) (hln : L.length ≤ 1099511627776) (n : Nat) (hPart : ∀ j, j ≤ n → FI w0 base aE al cl L bp 67 (.left 1) j) : FI w0 base aE al cl L bp 57 (.left 0) (n + 1) := by
  intro s m fr r hr hnd
  skip
  refine FnP.of_body (fn := Tryd.f57) [(0, _)] Tryd.func57 rfl Tryd.ntmps57 rfl ⟨rfl, trivial⟩ ?_
  refine CX.seq <| CX.region <| LX.pure (Y.assign rfl) rfl rfl rfl <| LX.sub (l' := [(0, _), (2, _)]) ⟨rfl, rfl, trivial⟩ <| LX.next <| PX.thenN <| CX.seq <| CX.region <| LX.pure (Y.move rfl) rfl rfl rfl <| LX.pure (Y.move rfl) rfl rfl rfl <| LX.pure (Y.mkFunc rfl rfl) rfl rfl rfl <| LX.buildSlice (e := 9) (size := 1) rfl rfl (fun _ => by kernel_rfl) rfl (by decide) rfl rfl rfl ?_
  intro gS
  refine LX.world (W' := WA w0 base (PWl bp al L cl s m (.row (some gS) 1 1 9 1 ([[111, 114]].map str) :: fr))) (fun w hw => (show WA w0 base (.row (some gS) 1 1 9 1 ([[111, 114]].map str) :: PWl bp al L cl s m fr) w from hw).perm (by (refine perm_cnt fun x => ?_; simp only [PWl, PBl, ROl, z1, z2, z3, z4, z5, z6]; omega))) ?_
  refine LX.callP (left_p hS hL hln 0 (gs := gS) Pf.en67 n hPart s m (List.mem_cons_self ..) r hr hnd) Pf.en66 rfl rfl rfl rfl rfl (fun y => fun _ w ha hw => ⟨ha.defs, .inr ⟨y, rfl, hw.1, hw.2.drop (.cons_cons _ (List.sublist_cons_self _ _))⟩⟩) ?_
  rintro ⟨kE, sE, mE⟩
  refine LX.have fun ⟨hrE, hndE, hkE⟩ => ?_
  try dsimp only
  refine LX.pure (Y.assign rfl) rfl rfl rfl <| LX.sub (l' := [(2, _)]) ⟨rfl, trivial⟩ <| LX.next <| PX.thenN <| CX.ret <| PX.ret1 (by simp) Tryd.results57 rfl ?_
  exact fun w hw => .inl ⟨(kE, sE, mE), rfl, ⟨hrE, hndE, hkE⟩, hw.drop (.cons_cons _ (.cons_cons _ (List.Sublist.append (List.Sublist.refl _) (List.sublist_cons_self _ _))))⟩
theorem and_p {w0 : World} {base : Nat} {aE : Nat → Addr} (hS : EnvS w0 base aE) {bp : Nat} {al : Option Addr} {cl : Nat} {L : List Tk} (hL : SlAt 3 tokA (Lies w0 base) al L) (hln : L.length ≤ 1099511627776) (n : Nat) (hPart : ∀ j, j ≤ n → FI w0 base aE al cl L bp 73 (.not_) j) : FI w0 base aE al cl L bp 67 (.left 1) (n + 1) := by
  intro s m fr r hr hnd
  skip
  refine FnP.of_body (fn := Tryd.f67) [(0, _)] Tryd.func67 rfl Tryd.ntmps67 rfl ⟨rfl, trivial⟩ ?_
  refine CX.seq <| CX.region <| LX.pure (Y.assign rfl) rfl rfl rfl <| LX.sub (l' := [(0, _), (2, _)]) ⟨rfl, rfl, trivial⟩ <| LX.next <| PX.thenN <| CX.seq <| CX.region <| LX.pure (Y.move rfl) rfl rfl rfl <| LX.pure (Y.move rfl) rfl rfl rfl <| LX.pure (Y.mkFunc rfl rfl) rfl rfl rfl <| LX.buildSlice (e := 9) (size := 1) rfl rfl (fun _ => by kernel_rfl) rfl (by decide) rfl rfl rfl ?_
  intro gS
  refine LX.world (W' := WA w0 base (PWl bp al L cl s m (.row (some gS) 1 1 9 1 ([[97, 110, 100]].map str) :: fr))) (fun w hw => (show WA w0 base (.row (some gS) 1 1 9 1 ([[97, 110, 100]].map str) :: PWl bp al L cl s m fr) w from hw).perm (by (refine perm_cnt fun x => ?_; simp only [PWl, PBl, ROl, z1, z2, z3, z4, z5, z6]; omega))) ?_
  refine LX.callP (left_p hS hL hln 1 (gs := gS) Pf.en73 n hPart s m (List.mem_cons_self ..) r hr hnd) Pf.en66 rfl rfl rfl rfl rfl (fun y => fun _ w ha hw => ⟨ha.defs, .inr ⟨y, rfl, hw.1, hw.2.drop (.cons_cons _ (List.sublist_cons_self _ _))⟩⟩) ?_
  rintro ⟨kE, sE, mE⟩
  refine LX.have fun ⟨hrE, hndE, hkE⟩ => ?_
  try dsimp only
  refine LX.pure (Y.assign rfl) rfl rfl rfl <| LX.sub (l' := [(2, _)]) ⟨rfl, trivial⟩ <| LX.next <| PX.thenN <| CX.ret <| PX.ret1 (by simp) Tryd.results67 rfl ?_
  exact fun w hw => .inl ⟨(kE, sE, mE), rfl, ⟨hrE, hndE, hkE⟩, hw.drop (.cons_cons _ (.cons_cons _ (List.Sublist.append (List.Sublist.refl _) (List.sublist_cons_self _ _))))⟩
theorem sum_p {w0 : World} {base : Nat} {aE : Nat → Addr} (hS : EnvS w0 base aE) {bp : Nat} {al : Option Addr} {cl : Nat} {L : List Tk} (hL : SlAt 3 tokA (Lies w0 base) al L) (hln : L.length ≤ 1099511627776) (n : Nat) (hPart : ∀ j, j ≤ n → FI w0 base aE al cl L bp 84 (.left 3) j) : FI w0 base aE al cl L bp 80 (.left 2) (n + 1) := by
  intro s m fr r hr hnd
  skip
  refine FnP.of_body (fn := Tryd.f80) [(0, _)] Tryd.func80 rfl Tryd.ntmps80 rfl ⟨rfl, trivial⟩ ?_
  refine CX.seq <| CX.region <| LX.pure (Y.assign rfl) rfl rfl rfl <| LX.sub (l' := [(0, _), (2, _)]) ⟨rfl, rfl, trivial⟩ <| LX.next <| PX.thenN <| CX.seq <| CX.region <| LX.pure (Y.move rfl) rfl rfl rfl <| LX.pure (Y.move rfl) rfl rfl rfl <| LX.pure (Y.mkFunc rfl rfl) rfl rfl rfl <| LX.buildSlice (e := 9) (size := 1) rfl rfl (fun _ => by kernel_rfl) rfl (by decide) rfl rfl rfl ?_
  intro gS
  refine LX.world (W' := WA w0 base (PWl bp al L cl s m (.row (some gS) 2 2 9 1 ([[43], [45]].map str) :: fr))) (fun w hw => (show WA w0 base (.row (some gS) 2 2 9 1 ([[43], [45]].map str) :: PWl bp al L cl s m fr) w from hw).perm (by (refine perm_cnt fun x => ?_; simp only [PWl, PBl, ROl, z1, z2, z3, z4, z5, z6]; omega))) ?_
  refine LX.callP (left_p hS hL hln 2 (gs := gS) Pf.en84 n hPart s m (List.mem_cons_self ..) r hr hnd) Pf.en66 rfl rfl rfl rfl rfl (fun y => fun _ w ha hw => ⟨ha.defs, .inr ⟨y, rfl, hw.1, hw.2.drop (.cons_cons _ (List.sublist_cons_self _ _))⟩⟩) ?_
  rintro ⟨kE, sE, mE⟩
  refine LX.have fun ⟨hrE, hndE, hkE⟩ => ?_
  try dsimp only
  refine LX.pure (Y.assign rfl) rfl rfl rfl <| LX.sub (l' := [(2, _)]) ⟨rfl, trivial⟩ <| LX.next <| PX.thenN <| CX.ret <| PX.ret1 (by simp) Tryd.results80 rfl ?_
  exact fun w hw => .inl ⟨(kE, sE, mE), rfl, ⟨hrE, hndE, hkE⟩, hw.drop (.cons_cons _ (.cons_cons _ (List.Sublist.append (List.Sublist.refl _) (List.sublist_cons_self _ _))))⟩
theorem product_p {w0 : World} {base : Nat} {aE : Nat → Addr} (hS : EnvS w0 base aE) {bp : Nat} {al : Option Addr} {cl : Nat} {L : List Tk} (hL : SlAt 3 tokA (Lies w0 base) al L) (hln : L.length ≤ 1099511627776) (n : Nat) (hPart : ∀ j, j ≤ n → FI w0 base aE al cl L bp 86 (.unary) j) : FI w0 base aE al cl L bp 84 (.left 3) (n + 1) := by
  intro s m fr r hr hnd
  skip
  refine FnP.of_body (fn := Tryd.f84) [(0, _)] Tryd.func84 rfl Tryd.ntmps84 rfl ⟨rfl, trivial⟩ ?_
  refine CX.seq <| CX.region <| LX.pure (Y.assign rfl) rfl rfl rfl <| LX.sub (l' := [(0, _), (2, _)]) ⟨rfl, rfl, trivial⟩ <| LX.next <| PX.thenN <| CX.seq <| CX.region <| LX.pure (Y.move rfl) rfl rfl rfl <| LX.pure (Y.move rfl) rfl rfl rfl <| LX.pure (Y.mkFunc rfl rfl) rfl rfl rfl <| LX.buildSlice (e := 9) (size := 1) rfl rfl (fun _ => by kernel_rfl) rfl (by decide) rfl rfl rfl ?_
  intro gS
  refine LX.world (W' := WA w0 base (PWl bp al L cl s m (.row (some gS) 3 3 9 1 ([[42], [47, 47], [37]].map str) :: fr))) (fun w hw => (show WA w0 base (.row (some gS) 3 3 9 1 ([[42], [47, 47], [37]].map str) :: PWl bp al L cl s m fr) w from hw).perm (by (refine perm_cnt fun x => ?_; simp only [PWl, PBl, ROl, z1, z2, z3, z4, z5, z6]; omega))) ?_
  refine LX.callP (left_p hS hL hln 3 (gs := gS) Pf.en86 n hPart s m (List.mem_cons_self ..) r hr hnd) Pf.en66 rfl rfl rfl rfl rfl (fun y => fun _ w ha hw => ⟨ha.defs, .inr ⟨y, rfl, hw.1, hw.2.drop (.cons_cons _ (List.sublist_cons_self _ _))⟩⟩) ?_
  rintro ⟨kE, sE, mE⟩
  refine LX.have fun ⟨hrE, hndE, hkE⟩ => ?_
  try dsimp only
  refine LX.pure (Y.assign rfl) rfl rfl rfl <| LX.sub (l' := [(2, _)]) ⟨rfl, trivial⟩ <| LX.next <| PX.thenN <| CX.ret <| PX.ret1 (by simp) Tryd.results84 rfl ?_
  exact fun w hw => .inl ⟨(kE, sE, mE), rfl, ⟨hrE, hndE, hkE⟩, hw.drop (.cons_cons _ (.cons_cons _ (List.Sublist.append (List.Sublist.refl _) (List.sublist_cons_self _ _))))⟩
theorem not_p {w0 : World} {base : Nat} {aE : Nat → Addr} (hS : EnvS w0 base aE) {bp : Nat} {al : Option Addr} {cl : Nat} {L : List Tk} (hL : SlAt 3 tokA (Lies w0 base) al L) (hln : L.length ≤ 1099511627776) (n : Nat) (hSelf : ∀ j, j ≤ n → FI w0 base aE al cl L bp 73 (.not_) j) (hNext : ∀ j, j ≤ n → FI w0 base aE al cl L bp 76 (.compare) j) : FI w0 base aE al cl L bp 73 (.not_) (n + 1) := by
  intro s m fr r hr hnd
  change (bnd (is_ L [[110, 111, 116]]) fun b => if b then bnd (must L [110, 111, 116]) fun pos => bnd (inn pos) fun _ => bnd (Go.Pa.run L nameB n (.not_)) fun k => bnd outn fun _ => node 17 pos [] [k] else Go.Pa.run L nameB n (.compare)) s = some r at hr
  obtain ⟨t, ht, hr⟩ := Go.Pa.is_bnd hr
  refine FnP.of_body (fn := Tryd.f73) [(0, _)] Tryd.func73 rfl Tryd.ntmps73 rfl ⟨rfl, trivial⟩ ?_
  refine CX.seq <| CX.region <| LX.pure (Y.assign rfl) rfl rfl rfl <| LX.sub (l' := [(0, _), (2, _)]) ⟨rfl, rfl, trivial⟩ <| LX.next <| PX.thenN <| CX.seq <| CX.seq <| CX.region <| LX.pure (Y.move rfl) rfl rfl rfl <| LX.buildSlice (e := 9) (size := 1) rfl rfl (fun _ => by kernel_rfl) rfl (by decide) rfl rfl rfl ?_
  intro gS
  refine LX.callQ (is_q ht _ (ss := [[110, 111, 116]]) (by decide) (fun w hw => blkL hw (i := 1) rfl) (fun w hw => hL.push hw) (fun w hw => row_at hw (j := 0) rfl rfl (by decide) (fun i z h => map_A (f := str) (xs := [[110, 111, 116]]) h))) Pd.en20 rfl rfl rfl rfl rfl <| LX.world (W' := WA w0 base (PWl bp al L cl s m fr)) (fun w hw => hw.drop (List.sublist_cons_self _ _)) <| LX.pure (Y.not rfl) rfl rfl rfl <| LX.sub (l' := [(0, _), (2, _), (8, _)]) ⟨rfl, rfl, rfl, trivial⟩ <| LX.next <| PX.thenN ?_
  refine CX.cond rfl (fun hb1 => ?_) (fun hb1 => ?_)
  · try simp at hb1
    rw [show isB t [[110, 111, 116]] = false from hb1] at hr
    refine CX.seq <| CX.region <| LX.pure (Y.move rfl) rfl rfl rfl <| LX.callP (hNext n (Nat.le_refl _) s m (fr) r hr hnd) Pf.en76 rfl rfl rfl rfl rfl (fun y => fun _ w ha hw => ⟨ha.defs, .inr ⟨y, rfl, hw.1, hw.2⟩⟩) ?_
    rintro ⟨kE, sE, mE⟩
    refine LX.have fun ⟨hrE, hndE, hkE⟩ => ?_
    try dsimp only
    refine LX.pure (Y.assign rfl) rfl rfl rfl <| LX.sub (l' := [(0, _), (2, _)]) ⟨rfl, rfl, trivial⟩ <| LX.next <| PX.thenN <| CX.ret <| PX.thenR <| PX.ret1 (by simp) Tryd.results73 rfl ?_
    exact fun w hw => .inl ⟨(kE, sE, mE), rfl, ⟨hrE, hndE, hkE⟩, hw⟩
  try simp at hb1
  rw [show isB t [[110, 111, 116]] = true from hb1] at hr
  refine CX.skip <| PX.thenN <| CX.seq <| CX.region <| LX.pure (Y.move rfl) rfl rfl rfl ?_
  obtain ⟨r1, e1, hok1, hst1⟩ := Go.Pa.bnd_some hr
  refine LX.callP (must_p hS hL hln [110, 111, 116] e1) Pf.en41 rfl rfl rfl rfl rfl (fun y => fun _ w ha hw => ⟨ha.defs, .inr ⟨y, rfl, hst1 _ _ hw.1, hw.2.drop (.cons_cons _ (.cons _ (List.sublist_append_right _ _)))⟩⟩) ?_
  rintro ⟨pos, s1⟩
  refine LX.have fun ⟨hr1, hou1, hp1⟩ => ?_
  replace hou1 : s1.out = s.out := hou1
  have hnd1 : NdsR 3 m.rs m.cells s1.out := by rw [hou1]; exact hnd
  replace hr := hok1 _ _ hr1
  refine LX.world (W' := WA w0 base (PWl bp al L cl s1 m fr)) (fun w hw => by show WA w0 base (PBl bp al L cl s1 m :: .row m.g m.c s1.out.length 31 5 m.cells :: (m.rs ++ fr)) w; rw [hou1]; exact hw) ?_
  try dsimp only
  refine LX.pure (Y.assign rfl) rfl rfl rfl <| LX.sub (l' := [(0, _), (2, _), (3, _)]) ⟨rfl, rfl, rfl, trivial⟩ <| LX.next <| PX.thenN <| CX.seq <| CX.region <| LX.pure (Y.move rfl) rfl rfl rfl <| LX.pure (Y.move rfl) rfl rfl rfl ?_
  obtain ⟨r2, e2, hok2, hst2⟩ := Go.Pa.bnd_some hr
  refine LX.callP (in_p hS hL hln pos e2) Pf.en39 rfl rfl rfl rfl rfl (fun y => fun _ w ha hw => ⟨ha.defs, .inr ⟨y, rfl, hst2 _ _ hw.1, hw.2.drop (.cons_cons _ (.cons _ (List.sublist_append_right _ _)))⟩⟩) ?_
  rintro ⟨_, s2⟩
  refine LX.have fun ⟨hr2, hou2, _⟩ => ?_
  replace hou2 : s2.out = s1.out := hou2
  have hnd2 : NdsR 3 m.rs m.cells s2.out := by rw [hou2]; exact hnd1
  replace hr := hok2 _ _ hr2
  refine LX.world (W' := WA w0 base (PWl bp al L cl s2 m fr)) (fun w hw => by show WA w0 base (PBl bp al L cl s2 m :: .row m.g m.c s2.out.length 31 5 m.cells :: (m.rs ++ fr)) w; rw [hou2]; exact hw) ?_
  try dsimp only
  refine LX.sub (l' := [(0, _), (2, _), (3, _)]) ⟨rfl, rfl, rfl, trivial⟩ <| LX.next <| PX.thenN <| CX.seq <| CX.region <| LX.pure (Y.move rfl) rfl rfl rfl ?_
  obtain ⟨r3, e3, hok3, hst3⟩ := Go.Pa.bnd_some hr
  refine LX.callP (hSelf n (Nat.le_refl _) s2 m (fr) r3 e3 hnd2) Pf.en73 rfl rfl rfl rfl rfl (fun y => fun _ w ha hw => ⟨ha.defs, .inr ⟨y, rfl, hst3 _ _ hw.1, hw.2⟩⟩) ?_
  rintro ⟨k, s3, m3⟩
  refine LX.have fun ⟨hr3, hnd3, hk3⟩ => ?_
  replace hr := hok3 _ _ hr3
  try dsimp only
  obtain ⟨a3, o3, d3, f3, g3⟩ := s3
  obtain ⟨d, hd, hdl, hr⟩ := Go.Pa.outn_bnd hr
  obtain rfl : d3 = d + 1 := hd
  try dsimp only
  refine LX.pure (Y.assign rfl) rfl rfl rfl <| LX.sub (l' := [(0, _), (2, _), (3, _), (4, _)]) ⟨rfl, rfl, rfl, rfl, trivial⟩ <| LX.next <| PX.thenN <| CX.seq <| CX.region <| LX.pure (Y.move rfl) rfl rfl rfl <| LX.pure (Y.nilCheck rfl) rfl rfl rfl <| LX.pure (Y.fieldAddr0 Pd.fo41_3 rfl) rfl rfl rfl <| LX.pure (Y.ldB 0 Pa.one3 rfl rfl rfl) rfl rfl rfl <| LX.pure (Y.subN rfl rfl (by (simp only []; omega)) (by (simp only []; omega))) rfl rfl rfl <| LX.pure (Y.nilCheck rfl) rfl rfl rfl <| LX.pure (Y.fieldAddr0 Pd.fo41_3 rfl) rfl rfl rfl <| LX.storeB 0 Pb.sz3 rfl rfl rfl rfl rfl rfl rfl rfl <| LX.sub (l' := [(0, _), (2, _), (3, _), (4, _)]) ⟨rfl, rfl, rfl, rfl, trivial⟩ <| LX.next <| PX.thenN <| CX.seq <| CX.region ?_
  obtain ⟨hlen, hre⟩ := Go.Pa.node_end hr
  refine LX.pure (Y.move rfl) rfl rfl rfl <| LX.pure (Y.move rfl) rfl rfl rfl <| LX.pure (Y.move rfl) rfl rfl rfl <| LX.buildSlice (e := 3) (size := 1) rfl rfl (fun _ => by kernel_rfl) rfl (by decide) rfl rfl rfl ?_
  intro gK
  refine LX.world (W' := WA w0 base (PBl bp al L cl (⟨a3, o3, d, f3, g3⟩ : Go.Pa.St) m3 :: ROl (⟨a3, o3, d, f3, g3⟩ : Go.Pa.St) m3 :: .row (some gK) 1 1 3 1 ([k].map iv) :: (m3.rs ++ fr))) (fun w hw => (show WA w0 base (.row (some gK) 1 1 3 1 ([k].map iv) :: PWl bp al L cl (⟨a3, o3, d, f3, g3⟩ : Go.Pa.St) m3 fr) w from hw).perm (by (refine perm_cnt fun x => ?_; simp only [PWl, PBl, ROl, z1, z2, z3, z4, z5, z6]; omega))) ?_
  refine LX.call (node_c (s := (⟨a3, o3, d, f3, g3⟩ : Go.Pa.St)) (m := m3) (17) pos [] (some ⟨gK, 0, none⟩) 1 1 [k] hlen) Pe.en15 rfl rfl rfl rfl rfl ?_
  intro q
  refine LX.pure (Y.assign rfl) rfl rfl rfl <| LX.sub (l' := [(2, _)]) ⟨rfl, trivial⟩ <| LX.next <| PX.thenN <| CX.ret <| PX.ret1 (by simp) Tryd.results73 rfl ?_
  exact fun w hw => .inl ⟨(((⟨a3, o3, d, f3, g3⟩ : Go.Pa.St).out.length : Int), ((⟨a3, o3, d, f3, g3⟩ : Go.Pa.St).nod 17 pos [] [k]), (m3.put q 17 pos [] (rv (some gK) 1 1) (.row (some gK) 1 1 3 1 ([k].map iv) :: m3.rs))), rfl, ⟨hre, put_nds (op := 17) (pos := pos) (x := []) hnd3 hw (i := 2) (ks := [k]) rfl (fun z hz => by cases List.mem_singleton.1 hz; exact hk3.inI) (by simp) (by unfold Go.SX.inI; omega) hp1, gI.len hlen⟩, hw⟩
theorem unary_p {w0 : World} {base : Nat} {aE : Nat → Addr} (hS : EnvS w0 base aE) {bp : Nat} {al : Option Addr} {cl : Nat} {L : List Tk} (hL : SlAt 3 tokA (Lies w0 base) al L) (hln : L.length ≤ 1099511627776) (n : Nat) (hSelf : ∀ j, j ≤ n → FI w0 base aE al cl L bp 86 (.unary) j) (hNext : ∀ j, j ≤ n → FI w0 base aE al cl L bp 74 (.primary) j) : FI w0 base aE al cl L bp 86 (.unary) (n + 1) := by
  intro s m fr r hr hnd
  change (bnd (is_ L [[45]]) fun b => if b then bnd (must L [45]) fun pos => bnd (inn pos) fun _ => bnd (Go.Pa.run L nameB n (.unary)) fun k => bnd outn fun _ => node 16 pos [] [k] else Go.Pa.run L nameB n (.primary)) s = some r at hr
  obtain ⟨t, ht, hr⟩ := Go.Pa.is_bnd hr
  refine FnP.of_body (fn := Tryd.f86) [(0, _)] Tryd.func86 rfl Tryd.ntmps86 rfl ⟨rfl, trivial⟩ ?_
  refine CX.seq <| CX.region <| LX.pure (Y.assign rfl) rfl rfl rfl <| LX.sub (l' := [(0, _), (2, _)]) ⟨rfl, rfl, trivial⟩ <| LX.next <| PX.thenN <| CX.seq <| CX.seq <| CX.region <| LX.pure (Y.move rfl) rfl rfl rfl <| LX.buildSlice (e := 9) (size := 1) rfl rfl (fun _ => by kernel_rfl) rfl (by decide) rfl rfl rfl ?_
  intro gS
  refine LX.callQ (is_q ht _ (ss := [[45]]) (by decide) (fun w hw => blkL hw (i := 1) rfl) (fun w hw => hL.push hw) (fun w hw => row_at hw (j := 0) rfl rfl (by decide) (fun i z h => map_A (f := str) (xs := [[45]]) h))) Pd.en20 rfl rfl rfl rfl rfl <| LX.world (W' := WA w0 base (PWl bp al L cl s m fr)) (fun w hw => hw.drop (List.sublist_cons_self _ _)) <| LX.pure (Y.not rfl) rfl rfl rfl <| LX.sub (l' := [(0, _), (2, _), (8, _)]) ⟨rfl, rfl, rfl, trivial⟩ <| LX.next <| PX.thenN ?_
  refine CX.cond rfl (fun hb1 => ?_) (fun hb1 => ?_)
  · try simp at hb1
    rw [show isB t [[45]] = false from hb1] at hr
    refine CX.seq <| CX.region <| LX.pure (Y.move rfl) rfl rfl rfl <| LX.callP (hNext n (Nat.le_refl _) s m (fr) r hr hnd) Pf.en74 rfl rfl rfl rfl rfl (fun y => fun _ w ha hw => ⟨ha.defs, .inr ⟨y, rfl, hw.1, hw.2⟩⟩) ?_
    rintro ⟨kE, sE, mE⟩
    refine LX.have fun ⟨hrE, hndE, hkE⟩ => ?_
    try dsimp only
    refine LX.pure (Y.assign rfl) rfl rfl rfl <| LX.sub (l' := [(0, _), (2, _)]) ⟨rfl, rfl, trivial⟩ <| LX.next <| PX.thenN <| CX.ret <| PX.thenR <| PX.ret1 (by simp) Tryd.results86 rfl ?_
    exact fun w hw => .inl ⟨(kE, sE, mE), rfl, ⟨hrE, hndE, hkE⟩, hw⟩
  try simp at hb1
  rw [show isB t [[45]] = true from hb1] at hr
  refine CX.skip <| PX.thenN <| CX.seq <| CX.region <| LX.pure (Y.move rfl) rfl rfl rfl ?_
  obtain ⟨r1, e1, hok1, hst1⟩ := Go.Pa.bnd_some hr
  refine LX.callP (must_p hS hL hln [45] e1) Pf.en41 rfl rfl rfl rfl rfl (fun y => fun _ w ha hw => ⟨ha.defs, .inr ⟨y, rfl, hst1 _ _ hw.1, hw.2.drop (.cons_cons _ (.cons _ (List.sublist_append_right _ _)))⟩⟩) ?_
  rintro ⟨pos, s1⟩
  refine LX.have fun ⟨hr1, hou1, hp1⟩ => ?_
  replace hou1 : s1.out = s.out := hou1
  have hnd1 : NdsR 3 m.rs m.cells s1.out := by rw [hou1]; exact hnd
  replace hr := hok1 _ _ hr1
  refine LX.world (W' := WA w0 base (PWl bp al L cl s1 m fr)) (fun w hw => by show WA w0 base (PBl bp al L cl s1 m :: .row m.g m.c s1.out.length 31 5 m.cells :: (m.rs ++ fr)) w; rw [hou1]; exact hw) ?_
  try dsimp only
  refine LX.pure (Y.assign rfl) rfl rfl rfl <| LX.sub (l' := [(0, _), (2, _), (3, _)]) ⟨rfl, rfl, rfl, trivial⟩ <| LX.next <| PX.thenN <| CX.seq <| CX.region <| LX.pure (Y.move rfl) rfl rfl rfl <| LX.pure (Y.move rfl) rfl rfl rfl ?_
  obtain ⟨r2, e2, hok2, hst2⟩ := Go.Pa.bnd_some hr
  refine LX.callP (in_p hS hL hln pos e2) Pf.en39 rfl rfl rfl rfl rfl (fun y => fun _ w ha hw => ⟨ha.defs, .inr ⟨y, rfl, hst2 _ _ hw.1, hw.2.drop (.cons_cons _ (.cons _ (List.sublist_append_right _ _)))⟩⟩) ?_
  rintro ⟨_, s2⟩
  refine LX.have fun ⟨hr2, hou2, _⟩ => ?_
  replace hou2 : s2.out = s1.out := hou2
  have hnd2 : NdsR 3 m.rs m.cells s2.out := by rw [hou2]; exact hnd1
  replace hr := hok2 _ _ hr2
  refine LX.world (W' := WA w0 base (PWl bp al L cl s2 m fr)) (fun w hw => by show WA w0 base (PBl bp al L cl s2 m :: .row m.g m.c s2.out.length 31 5 m.cells :: (m.rs ++ fr)) w; rw [hou2]; exact hw) ?_
  try dsimp only
  refine LX.sub (l' := [(0, _), (2, _), (3, _)]) ⟨rfl, rfl, rfl, trivial⟩ <| LX.next <| PX.thenN <| CX.seq <| CX.region <| LX.pure (Y.move rfl) rfl rfl rfl ?_
  obtain ⟨r3, e3, hok3, hst3⟩ := Go.Pa.bnd_some hr
  refine LX.callP (hSelf n (Nat.le_refl _) s2 m (fr) r3 e3 hnd2) Pf.en86 rfl rfl rfl rfl rfl (fun y => fun _ w ha hw => ⟨ha.defs, .inr ⟨y, rfl, hst3 _ _ hw.1, hw.2⟩⟩) ?_
  rintro ⟨k, s3, m3⟩
  refine LX.have fun ⟨hr3, hnd3, hk3⟩ => ?_
  replace hr := hok3 _ _ hr3
  try dsimp only
  obtain ⟨a3, o3, d3, f3, g3⟩ := s3
  obtain ⟨d, hd, hdl, hr⟩ := Go.Pa.outn_bnd hr
  obtain rfl : d3 = d + 1 := hd
  try dsimp only
  refine LX.pure (Y.assign rfl) rfl rfl rfl <| LX.sub (l' := [(0, _), (2, _), (3, _), (4, _)]) ⟨rfl, rfl, rfl, rfl, trivial⟩ <| LX.next <| PX.thenN <| CX.seq <| CX.region <| LX.pure (Y.move rfl) rfl rfl rfl <| LX.pure (Y.nilCheck rfl) rfl rfl rfl <| LX.pure (Y.fieldAddr0 Pd.fo41_3 rfl) rfl rfl rfl <| LX.pure (Y.ldB 0 Pa.one3 rfl rfl rfl) rfl rfl rfl <| LX.pure (Y.subN rfl rfl (by (simp only []; omega)) (by (simp only []; omega))) rfl rfl rfl <| LX.pure (Y.nilCheck rfl) rfl rfl rfl <| LX.pure (Y.fieldAddr0 Pd.fo41_3 rfl) rfl rfl rfl <| LX.storeB 0 Pb.sz3 rfl rfl rfl rfl rfl rfl rfl rfl <| LX.sub (l' := [(0, _), (2, _), (3, _), (4, _)]) ⟨rfl, rfl, rfl, rfl, trivial⟩ <| LX.next <| PX.thenN <| CX.seq <| CX.region ?_
  obtain ⟨hlen, hre⟩ := Go.Pa.node_end hr
  refine LX.pure (Y.move rfl) rfl rfl rfl <| LX.pure (Y.move rfl) rfl rfl rfl <| LX.pure (Y.move rfl) rfl rfl rfl <| LX.buildSlice (e := 3) (size := 1) rfl rfl (fun _ => by kernel_rfl) rfl (by decide) rfl rfl rfl ?_
  intro gK
  refine LX.world (W' := WA w0 base (PBl bp al L cl (⟨a3, o3, d, f3, g3⟩ : Go.Pa.St) m3 :: ROl (⟨a3, o3, d, f3, g3⟩ : Go.Pa.St) m3 :: .row (some gK) 1 1 3 1 ([k].map iv) :: (m3.rs ++ fr))) (fun w hw => (show WA w0 base (.row (some gK) 1 1 3 1 ([k].map iv) :: PWl bp al L cl (⟨a3, o3, d, f3, g3⟩ : Go.Pa.St) m3 fr) w from hw).perm (by (refine perm_cnt fun x => ?_; simp only [PWl, PBl, ROl, z1, z2, z3, z4, z5, z6]; omega))) ?_
  refine LX.call (node_c (s := (⟨a3, o3, d, f3, g3⟩ : Go.Pa.St)) (m := m3) (16) pos [] (some ⟨gK, 0, none⟩) 1 1 [k] hlen) Pe.en15 rfl rfl rfl rfl rfl ?_
  intro q
  refine LX.pure (Y.assign rfl) rfl rfl rfl <| LX.sub (l' := [(2, _)]) ⟨rfl, trivial⟩ <| LX.next <| PX.thenN <| CX.ret <| PX.ret1 (by simp) Tryd.results86 rfl ?_
  exact fun w hw => .inl ⟨(((⟨a3, o3, d, f3, g3⟩ : Go.Pa.St).out.length : Int), ((⟨a3, o3, d, f3, g3⟩ : Go.Pa.St).nod 16 pos [] [k]), (m3.put q 16 pos [] (rv (some gK) 1 1) (.row (some gK) 1 1 3 1 ([k].map iv) :: m3.rs))), rfl, ⟨hre, put_nds (op := 16) (pos := pos) (x := []) hnd3 hw (i := 2) (ks := [k]) rfl (fun z hz => by cases List.mem_singleton.1 hz; exact hk3.inI) (by simp) (by unfold Go.SX.inI; omega) hp1, gI.len hlen⟩, hw⟩
end Go.Proofs.YtfbenelagdcdgaaDoor

namespace Go.Proofs.YtfbenelagdcdgaaDoor
open Go.SX Go.RowKit Go.Tr Go.Lex
namespace Pg
theorem en37 : Enters Tryd.prog 37 := Enters.of Tryd.func37 (by kernel_rfl) (by kernel_rfl)
theorem en57 : Enters Tryd.prog 57 := Enters.of Tryd.func57 (by kernel_rfl) (by kernel_rfl)
theorem en80 : Enters Tryd.prog 80 := Enters.of Tryd.func80 (by kernel_rfl) (by kernel_rfl)
end Pg
open Go.Proofs.YtfbenelagdcdgaaDoor.Env (EnvS errV sentG)
open Go.Pa (Tk Rs bnd ret isB is_ adv bad take must kinds inn outn node nodeAt setPos)
open Go.Ck (NdsR)
theorem test_p {w0 : World} {base : Nat} {aE : Nat → Addr} (hS : EnvS w0 base aE) {bp : Nat} {al : Option Addr} {cl : Nat} {L : List Tk} (hL : SlAt 3 tokA (Lies w0 base) al L) (hln : L.length ≤ 1099511627776) (n : Nat) (hOr : ∀ j, j ≤ n → FI w0 base aE al cl L bp 57 (.left 0) j) (hSelf : ∀ j, j ≤ n → FI w0 base aE al cl L bp 37 (.test) j) : FI w0 base aE al cl L bp 37 (.test) (n + 1) := by
  intro s m fr r hr hnd
  change (bnd (Go.Pa.run L nameB n (.left 0)) fun a => bnd (is_ L [[105, 102]]) fun b => if b then bnd (must L [105, 102]) fun pos => bnd (inn pos) fun _ => bnd (Go.Pa.run L nameB n (.left 0)) fun c => bnd (must L [101, 108, 115, 101]) fun _ => bnd (Go.Pa.run L nameB n .test) fun last => bnd outn fun _ => node 20 pos [] [c, a, last] else ret a) s = some r at hr
  refine FnP.of_body (fn := Tryd.f37) [(0, _)] Tryd.func37 rfl Tryd.ntmps37 rfl ⟨rfl, trivial⟩ ?_
  refine CX.seq <| CX.region <| LX.pure (Y.assign rfl) rfl rfl rfl <| LX.sub (l' := [(0, _), (2, _)]) ⟨rfl, rfl, trivial⟩ <| LX.next <| PX.thenN <| CX.seq <| CX.region <| LX.pure (Y.move rfl) rfl rfl rfl ?_
  obtain ⟨r1, e1, hok1, hst1⟩ := Go.Pa.bnd_some hr
  refine LX.callP (hOr n (Nat.le_refl _) s m (fr) r1 e1 hnd) Pg.en57 rfl rfl rfl rfl rfl (fun y => fun _ w ha hw => ⟨ha.defs, .inr ⟨y, rfl, hst1 _ _ hw.1, hw.2⟩⟩) ?_
  rintro ⟨a, s1, m1⟩
  refine LX.have fun ⟨hr1, hnd1, hk1⟩ => ?_
  replace hr := hok1 _ _ hr1
  try dsimp only
  refine LX.pure (Y.assign rfl) rfl rfl rfl <| LX.sub (l' := [(0, _), (2, _), (3, _)]) ⟨rfl, rfl, rfl, trivial⟩ <| LX.next <| PX.thenN <| CX.seq <| CX.seq <| CX.region <| LX.pure (Y.move rfl) rfl rfl rfl <| LX.buildSlice (e := 9) (size := 1) rfl rfl (fun _ => by kernel_rfl) rfl (by decide) rfl rfl rfl ?_
  intro gS
  obtain ⟨t, ht, hr⟩ := Go.Pa.is_bnd hr
  refine LX.callQ (is_q ht _ (ss := [[105, 102]]) (by decide) (fun w hw => blkL hw (i := 1) rfl) (fun w hw => hL.push hw) (fun w hw => row_at hw (j := 0) rfl rfl (by decide) (fun i z h => map_A (f := str) (xs := [[105, 102]]) h))) Pd.en20 rfl rfl rfl rfl rfl <| LX.world (W' := WA w0 base (PWl bp al L cl s1 m1 fr)) (fun w hw => hw.drop (List.sublist_cons_self _ _)) <| LX.pure (Y.not rfl) rfl rfl rfl <| LX.sub (l' := [(0, _), (2, _), (3, _), (12, _)]) ⟨rfl, rfl, rfl, rfl, trivial⟩ <| LX.next <| PX.thenN ?_
  refine CX.cond rfl (fun hb1 => ?_) (fun hb1 => ?_)
  · try simp at hb1
    rw [show isB t [[105, 102]] = false from hb1] at hr
    refine CX.seq <| CX.region <| LX.pure (Y.move rfl) rfl rfl rfl <| LX.pure (Y.assign rfl) rfl rfl rfl <| LX.sub (l' := [(0, _), (2, _), (3, _)]) ⟨rfl, rfl, rfl, trivial⟩ <| LX.next <| PX.thenN <| CX.ret <| PX.thenR <| PX.ret1 (by simp) Tryd.results37 rfl ?_
    exact fun w hw => .inl ⟨(a, s1, m1), rfl, ⟨Go.Pa.ret_end hr, hnd1, hk1⟩, hw⟩
  try simp at hb1
  rw [show isB t [[105, 102]] = true from hb1] at hr
  refine CX.skip <| PX.thenN <| CX.seq <| CX.region <| LX.pure (Y.move rfl) rfl rfl rfl ?_
  obtain ⟨r2, e2, hok2, hst2⟩ := Go.Pa.bnd_some hr
  refine LX.callP (must_p hS hL hln [105, 102] e2) Pf.en41 rfl rfl rfl rfl rfl (fun y => fun _ w ha hw => ⟨ha.defs, .inr ⟨y, rfl, hst2 _ _ hw.1, hw.2.drop (.cons_cons _ (.cons _ (List.sublist_append_right _ _)))⟩⟩) ?_
  rintro ⟨pos, s2⟩
  refine LX.have fun ⟨hr2, hou2, hp2⟩ => ?_
  replace hou2 : s2.out = s1.out := hou2
  have hnd2 : NdsR 3 m1.rs m1.cells s2.out := by rw [hou2]; exact hnd1
  replace hr := hok2 _ _ hr2
  refine LX.world (W' := WA w0 base (PWl bp al L cl s2 m1 fr)) (fun w hw => by show WA w0 base (PBl bp al L cl s2 m1 :: .row m1.g m1.c s2.out.length 31 5 m1.cells :: (m1.rs ++ fr)) w; rw [hou2]; exact hw) ?_
  try dsimp only
  refine LX.pure (Y.assign rfl) rfl rfl rfl <| LX.sub (l' := [(0, _), (2, _), (3, _), (4, _)]) ⟨rfl, rfl, rfl, rfl, trivial⟩ <| LX.next <| PX.thenN <| CX.seq <| CX.region <| LX.pure (Y.move rfl) rfl rfl rfl <| LX.pure (Y.move rfl) rfl rfl rfl ?_
  obtain ⟨r3, e3, hok3, hst3⟩ := Go.Pa.bnd_some hr
  refine LX.callP (in_p hS hL hln pos e3) Pf.en39 rfl rfl rfl rfl rfl (fun y => fun _ w ha hw => ⟨ha.defs, .inr ⟨y, rfl, hst3 _ _ hw.1, hw.2.drop (.cons_cons _ (.cons _ (List.sublist_append_right _ _)))⟩⟩) ?_
  rintro ⟨_, s3⟩
  refine LX.have fun ⟨hr3, hou3, _⟩ => ?_
  replace hou3 : s3.out = s2.out := hou3
  have hnd3 : NdsR 3 m1.rs m1.cells s3.out := by rw [hou3]; exact hnd2
  replace hr := hok3 _ _ hr3
  refine LX.world (W' := WA w0 base (PWl bp al L cl s3 m1 fr)) (fun w hw => by show WA w0 base (PBl bp al L cl s3 m1 :: .row m1.g m1.c s3.out.length 31 5 m1.cells :: (m1.rs ++ fr)) w; rw [hou3]; exact hw) ?_
  try dsimp only
  refine LX.sub (l' := [(0, _), (2, _), (3, _), (4, _)]) ⟨rfl, rfl, rfl, rfl, trivial⟩ <| LX.next <| PX.thenN <| CX.seq <| CX.region <| LX.pure (Y.move rfl) rfl rfl rfl ?_
  obtain ⟨r4, e4, hok4, hst4⟩ := Go.Pa.bnd_some hr
  refine LX.callP (hOr n (Nat.le_refl _) s3 m1 (fr) r4 e4 hnd3) Pg.en57 rfl rfl rfl rfl rfl (fun y => fun _ w ha hw => ⟨ha.defs, .inr ⟨y, rfl, hst4 _ _ hw.1, hw.2⟩⟩) ?_
  rintro ⟨c, s4, m4⟩
  refine LX.have fun ⟨hr4, hnd4, hk4⟩ => ?_
  replace hr := hok4 _ _ hr4
  try dsimp only
  refine LX.pure (Y.assign rfl) rfl rfl rfl <| LX.sub (l' := [(0, _), (2, _), (3, _), (4, _), (5, _)]) ⟨rfl, rfl, rfl, rfl, rfl, trivial⟩ <| LX.next <| PX.thenN <| CX.seq <| CX.region <| LX.pure (Y.move rfl) rfl rfl rfl ?_
  obtain ⟨r5, e5, hok5, hst5⟩ := Go.Pa.bnd_some hr
  refine LX.callP (must_p hS hL hln [101, 108, 115, 101] e5) Pf.en41 rfl rfl rfl rfl rfl (fun y => fun _ w ha hw => ⟨ha.defs, .inr ⟨y, rfl, hst5 _ _ hw.1, hw.2.drop (.cons_cons _ (.cons _ (List.sublist_append_right _ _)))⟩⟩) ?_
  rintro ⟨p5, s5⟩
  refine LX.have fun ⟨hr5, hou5, hp5⟩ => ?_
  replace hou5 : s5.out = s4.out := hou5
  have hnd5 : NdsR 3 m4.rs m4.cells s5.out := by rw [hou5]; exact hnd4
  replace hr := hok5 _ _ hr5
  refine LX.world (W' := WA w0 base (PWl bp al L cl s5 m4 fr)) (fun w hw => by show WA w0 base (PBl bp al L cl s5 m4 :: .row m4.g m4.c s5.out.length 31 5 m4.cells :: (m4.rs ++ fr)) w; rw [hou5]; exact hw) ?_
  try dsimp only
  refine LX.sub (l' := [(0, _), (2, _), (3, _), (4, _), (5, _)]) ⟨rfl, rfl, rfl, rfl, rfl, trivial⟩ <| LX.next <| PX.thenN <| CX.seq <| CX.region <| LX.pure (Y.move rfl) rfl rfl rfl ?_
  obtain ⟨r6, e6, hok6, hst6⟩ := Go.Pa.bnd_some hr
  refine LX.callP (hSelf n (Nat.le_refl _) s5 m4 (fr) r6 e6 hnd5) Pg.en37 rfl rfl rfl rfl rfl (fun y => fun _ w ha hw => ⟨ha.defs, .inr ⟨y, rfl, hst6 _ _ hw.1, hw.2⟩⟩) ?_
  rintro ⟨l6, s6, m6⟩
  refine LX.have fun ⟨hr6, hnd6, hk6⟩ => ?_
  replace hr := hok6 _ _ hr6
  try dsimp only
  obtain ⟨a6, o6, d6, f6, g6⟩ := s6
  obtain ⟨d, hd, hdl, hr⟩ := Go.Pa.outn_bnd hr
  obtain rfl : d6 = d + 1 := hd
  try dsimp only
  refine LX.pure (Y.assign rfl) rfl rfl rfl <| LX.sub (l' := [(0, _), (2, _), (3, _), (4, _), (5, _), (6, _)]) ⟨rfl, rfl, rfl, rfl, rfl, rfl, trivial⟩ <| LX.next <| PX.thenN <| CX.seq <| CX.region <| LX.pure (Y.move rfl) rfl rfl rfl <| LX.pure (Y.nilCheck rfl) rfl rfl rfl <| LX.pure (Y.fieldAddr0 Pd.fo41_3 rfl) rfl rfl rfl <| LX.pure (Y.ldB 0 Pa.one3 rfl rfl rfl) rfl rfl rfl <| LX.pure (Y.subN rfl rfl (by (simp only []; omega)) (by (simp only []; omega))) rfl rfl rfl <| LX.pure (Y.nilCheck rfl) rfl rfl rfl <| LX.pure (Y.fieldAddr0 Pd.fo41_3 rfl) rfl rfl rfl <| LX.storeB 0 Pb.sz3 rfl rfl rfl rfl rfl rfl rfl rfl <| LX.sub (l' := [(0, _), (2, _), (3, _), (4, _), (5, _), (6, _)]) ⟨rfl, rfl, rfl, rfl, rfl, rfl, trivial⟩ <| LX.next <| PX.thenN <| CX.seq <| CX.region <| LX.pure (Y.move rfl) rfl rfl rfl <| LX.pure (Y.move rfl) rfl rfl rfl <| LX.pure (Y.move rfl) rfl rfl rfl <| LX.pure (Y.move rfl) rfl rfl rfl <| LX.pure (Y.move rfl) rfl rfl rfl <| LX.buildSlice (e := 3) (size := 1) rfl rfl (fun _ => by kernel_rfl) rfl (by decide) rfl rfl rfl ?_
  intro gK
  obtain ⟨hlen, hre⟩ := Go.Pa.node_end hr
  refine LX.world (W' := WA w0 base (PBl bp al L cl (⟨a6, o6, d, f6, g6⟩ : Go.Pa.St) m6 :: ROl (⟨a6, o6, d, f6, g6⟩ : Go.Pa.St) m6 :: .row (some gK) 3 3 3 1 ([c, a, l6].map iv) :: (m6.rs ++ fr))) (fun w hw => (show WA w0 base (.row (some gK) 3 3 3 1 ([c, a, l6].map iv) :: PWl bp al L cl (⟨a6, o6, d, f6, g6⟩ : Go.Pa.St) m6 fr) w from hw).perm (by (refine perm_cnt fun x => ?_; simp only [PWl, PBl, ROl, z1, z2, z3, z4, z5, z6]; omega))) ?_
  refine LX.call (node_c (s := (⟨a6, o6, d, f6, g6⟩ : Go.Pa.St)) (m := m6) (20) pos [] (some ⟨gK, 0, none⟩) 3 3 [c, a, l6] hlen) Pe.en15 rfl rfl rfl rfl rfl ?_
  intro q
  refine LX.pure (Y.assign rfl) rfl rfl rfl <| LX.sub (l' := [(2, _)]) ⟨rfl, trivial⟩ <| LX.next <| PX.thenN <| CX.ret <| PX.ret1 (by simp) Tryd.results37 rfl ?_
  exact fun w hw => .inl ⟨(((⟨a6, o6, d, f6, g6⟩ : Go.Pa.St).out.length : Int), ((⟨a6, o6, d, f6, g6⟩ : Go.Pa.St).nod 20 pos [] [c, a, l6]), (m6.put q 20 pos [] (rv (some gK) 3 3) (.row (some gK) 3 3 3 1 ([c, a, l6].map iv) :: m6.rs))), rfl, ⟨hre, put_nds (op := 20) (pos := pos) (x := []) hnd6 hw (i := 2) (ks := [c, a, l6]) rfl (fun z hz => by simp only [List.mem_cons, List.not_mem_nil, or_false] at hz; rcases hz with rfl | rfl | rfl; exact hk4.inI; exact hk1.inI; exact hk6.inI) (by simp) (by unfold Go.SX.inI; omega) hp2, gI.len hlen⟩, hw⟩
theorem compare_p {w0 : World} {base : Nat} {aE : Nat → Addr} (hS : EnvS w0 base aE) {bp : Nat} {al : Option Addr} {cl : Nat} {L : List Tk} (hL : SlAt 3 tokA (Lies w0 base) al L) (hln : L.length ≤ 1099511627776) (n : Nat) (hSum : ∀ j, j ≤ n → FI w0 base aE al cl L bp 80 (.left 2) j) : FI w0 base aE al cl L bp 76 (.compare) (n + 1) := by
  intro s m fr r hr hnd
  change (bnd (Go.Pa.run L nameB n (.left 2)) fun a => bnd (Go.Pa.tok L) fun t => if isB t [[110, 111, 116]] then bnd adv fun _ => bnd (must L [105, 110]) fun _ => bnd (Go.Pa.run L nameB n (.left 2)) fun b => node 33 t.pos [] [a, b] else if isB t [[61, 61], [33, 61], [60], [60, 61], [62], [62, 61], [105, 110]] then bnd adv fun _ => bnd (Go.Pa.op_ t.text) fun o => bnd (Go.Pa.run L nameB n (.left 2)) fun b => node o t.pos [] [a, b] else ret a) s = some r at hr
  refine FnP.of_body (fn := Tryd.f76) [(0, _)] Tryd.func76 rfl Tryd.ntmps76 rfl ⟨rfl, trivial⟩ ?_
  refine CX.seq <| CX.region <| LX.pure (Y.assign rfl) rfl rfl rfl <| LX.sub (l' := [(0, _), (2, _)]) ⟨rfl, rfl, trivial⟩ <| LX.next <| PX.thenN <| CX.seq <| CX.region <| LX.pure (Y.move rfl) rfl rfl rfl ?_
  obtain ⟨r1, e1, hok1, hst1⟩ := Go.Pa.bnd_some hr
  refine LX.callP (hSum n (Nat.le_refl _) s m (fr) r1 e1 hnd) Pg.en80 rfl rfl rfl rfl rfl (fun y => fun _ w ha hw => ⟨ha.defs, .inr ⟨y, rfl, hst1 _ _ hw.1, hw.2⟩⟩) ?_
  rintro ⟨a, s1, m1⟩
  refine LX.have fun ⟨hr1, hnd1, hk1⟩ => ?_
  replace hr := hok1 _ _ hr1
  try dsimp only
  refine LX.pure (Y.assign rfl) rfl rfl rfl <| LX.sub (l' := [(0, _), (2, _), (3, _)]) ⟨rfl, rfl, rfl, trivial⟩ <| LX.next <| PX.thenN <| CX.seq <| CX.region <| LX.pure (Y.move rfl) rfl rfl rfl ?_
  obtain ⟨t, ht, hr⟩ := Go.Pa.tok_bnd hr
  obtain ⟨a0, cs, hav, hcl, hLt, rfl, hin1, hin2⟩ := hL _ _ ht
  have hj : s1.at_ < L.length := (List.getElem?_eq_some_iff.1 ht).1
  refine LX.callQ (pos_q ht (fun w hw => blkL hw (i := 0) rfl) (fun w hw => hL.push hw)) Pc.en36 rfl rfl rfl rfl rfl <| LX.pure (Y.assign rfl) rfl rfl rfl <| LX.sub (l' := [(0, _), (2, _), (3, _), (4, _)]) ⟨rfl, rfl, rfl, rfl, trivial⟩ <| LX.next <| PX.thenN <| CX.seq <| CX.block <| CX.seq <| CX.region <| LX.pure (Y.move rfl) rfl rfl rfl <| LX.buildSlice (e := 9) (size := 1) rfl rfl (fun _ => by kernel_rfl) rfl (by decide) rfl rfl rfl ?_
  intro gS
  refine LX.callQ (is_q ht _ (ss := [[110, 111, 116]]) (by decide) (fun w hw => blkL hw (i := 1) rfl) (fun w hw => hL.push hw) (fun w hw => row_at hw (j := 0) rfl rfl (by decide) (fun i z h => map_A (f := str) (xs := [[110, 111, 116]]) h))) Pd.en20 rfl rfl rfl rfl rfl <| LX.world (W' := WA w0 base (PWl bp al L cl s1 m1 fr)) (fun w hw => hw.drop (List.sublist_cons_self _ _)) <| LX.pure (Y.assign rfl) rfl rfl rfl <| LX.sub (l' := [(0, _), (2, _), (3, _), (4, _), (10, _)]) ⟨rfl, rfl, rfl, rfl, rfl, trivial⟩ <| LX.next <| PX.thenN ?_
  refine CX.cond rfl (fun hb1 => ?_) (fun hb1 => ?_)
  · try simp at hb1
    rw [show isB t [[110, 111, 116]] = true from hb1, if_pos rfl] at hr
    replace hr := Go.Pa.adv_bnd hr
    refine CX.seq <| CX.region <| LX.pure (Y.move rfl) rfl rfl rfl <| LX.pure (Y.nilCheck rfl) rfl rfl rfl <| LX.pure (Y.fieldAddr0 Pa.fo41_1 rfl) rfl rfl rfl <| LX.pure (Y.ldB 0 Pa.one3 rfl rfl rfl) rfl rfl rfl <| LX.pure (Y.addN rfl rfl (by (simp only []; omega))) rfl rfl rfl <| LX.pure (Y.nilCheck rfl) rfl rfl rfl <| LX.pure (Y.fieldAddr0 Pa.fo41_1 rfl) rfl rfl rfl <| LX.storeB 0 Pb.sz3 rfl rfl rfl rfl rfl rfl rfl rfl <| LX.sub (l' := [(0, _), (2, _), (3, _), (4, _)]) ⟨rfl, rfl, rfl, rfl, trivial⟩ <| LX.next <| PX.thenN <| CX.seq <| CX.region <| LX.pure (Y.move rfl) rfl rfl rfl ?_
    obtain ⟨r2, e2, hok2, hst2⟩ := Go.Pa.bnd_some hr
    refine LX.callP (must_p hS hL hln [105, 110] e2) Pf.en41 rfl rfl rfl rfl rfl (fun y => fun _ w ha hw => ⟨ha.defs, .inr ⟨y, rfl, hst2 _ _ hw.1, hw.2.drop (.cons_cons _ (.cons _ (List.sublist_append_right _ _)))⟩⟩) ?_
    rintro ⟨p2, s2⟩
    refine LX.have fun ⟨hr2, hou2, hp2⟩ => ?_
    replace hou2 : s2.out = s1.adv.out := hou2
    have hnd2 : NdsR 3 m1.rs m1.cells s2.out := by rw [hou2]; exact hnd1
    replace hr := hok2 _ _ hr2
    refine LX.world (W' := WA w0 base (PWl bp al L cl s2 m1 fr)) (fun w hw => by show WA w0 base (PBl bp al L cl s2 m1 :: .row m1.g m1.c s2.out.length 31 5 m1.cells :: (m1.rs ++ fr)) w; rw [hou2]; exact hw) ?_
    try dsimp only
    refine LX.sub (l' := [(0, _), (2, _), (3, _), (4, _)]) ⟨rfl, rfl, rfl, rfl, trivial⟩ <| LX.next <| PX.thenN <| CX.seq <| CX.region <| LX.pure (Y.move rfl) rfl rfl rfl <| LX.pure (Y.move rfl) rfl rfl rfl <| LX.pure (Y.move rfl) rfl rfl rfl <| LX.pure (Y.move rfl) rfl rfl rfl ?_
    obtain ⟨r3, e3, hok3, hst3⟩ := Go.Pa.bnd_some hr
    refine LX.callP (hSum n (Nat.le_refl _) s2 m1 (fr) r3 e3 hnd2) Pg.en80 rfl rfl rfl rfl rfl (fun y => fun _ w ha hw => ⟨ha.defs, .inr ⟨y, rfl, hst3 _ _ hw.1, hw.2⟩⟩) ?_
    rintro ⟨b3, s3, m3⟩
    refine LX.have fun ⟨hr3, hnd3, hk3⟩ => ?_
    replace hr := hok3 _ _ hr3
    try dsimp only
    refine LX.buildSlice (e := 3) (size := 1) rfl rfl (fun _ => by kernel_rfl) rfl (by decide) rfl rfl rfl ?_
    intro gK
    obtain ⟨hlen, hre⟩ := Go.Pa.node_end hr
    refine LX.world (W' := WA w0 base (PBl bp al L cl s3 m3 :: ROl s3 m3 :: .row (some gK) 2 2 3 1 ([a, b3].map iv) :: (m3.rs ++ fr))) (fun w hw => (show WA w0 base (.row (some gK) 2 2 3 1 ([a, b3].map iv) :: PWl bp al L cl s3 m3 fr) w from hw).perm (by (refine perm_cnt fun x => ?_; simp only [PWl, PBl, ROl, z1, z2, z3, z4, z5, z6]; omega))) ?_
    refine LX.call (node_c (s := s3) (m := m3) (33) t.pos [] (some ⟨gK, 0, none⟩) 2 2 [a, b3] hlen) Pe.en15 rfl rfl rfl rfl rfl ?_
    intro q
    refine LX.pure (Y.assign rfl) rfl rfl rfl <| LX.sub (l' := [(2, _), (3, _)]) ⟨rfl, rfl, trivial⟩ <| LX.next <| PX.thenN <| CX.ret <| PX.blockR <| PX.thenR <| PX.ret1 (by simp) Tryd.results76 rfl ?_
    exact fun w hw => .inl ⟨((s3.out.length : Int), (s3.nod 33 t.pos [] [a, b3]), (m3.put q 33 t.pos [] (rv (some gK) 2 2) (.row (some gK) 2 2 3 1 ([a, b3].map iv) :: m3.rs))), rfl, ⟨hre, put_nds (op := 33) (pos := t.pos) (x := []) hnd3 hw (i := 2) (ks := [a, b3]) rfl (fun z hz => by simp only [List.mem_cons, List.not_mem_nil, or_false] at hz; rcases hz with rfl | rfl; exact hk1.inI; exact hk3.inI) (by simp) (by unfold Go.SX.inI; omega) hin2, gI.len hlen⟩, hw⟩
  try simp at hb1
  rw [show isB t [[110, 111, 116]] = false from hb1, if_neg Bool.false_ne_true] at hr
  refine CX.seq <| CX.region <| LX.pure (Y.move rfl) rfl rfl rfl <| LX.buildSlice (e := 9) (size := 1) rfl rfl (fun _ => by kernel_rfl) rfl (by decide) rfl rfl rfl ?_
  intro gS
  refine LX.callQ (is_q ht _ (ss := [[61, 61], [33, 61], [60], [60, 61], [62], [62, 61], [105, 110]]) (by decide) (fun w hw => blkL hw (i := 1) rfl) (fun w hw => hL.push hw) (fun w hw => row_at hw (j := 0) rfl rfl (by decide) (fun i z h => map_A (f := str) (xs := [[61, 61], [33, 61], [60], [60, 61], [62], [62, 61], [105, 110]]) h))) Pd.en20 rfl rfl rfl rfl rfl <| LX.world (W' := WA w0 base (PWl bp al L cl s1 m1 fr)) (fun w hw => hw.drop (List.sublist_cons_self _ _)) <| LX.pure (Y.assign rfl) rfl rfl rfl <| LX.sub (l' := [(0, _), (2, _), (3, _), (4, _), (30, _)]) ⟨rfl, rfl, rfl, rfl, rfl, trivial⟩ <| LX.next <| PX.thenN ?_
  refine CX.cond rfl (fun hb2 => ?_) (fun hb2 => ?_)
  · try simp at hb2
    rw [show isB t [[61, 61], [33, 61], [60], [60, 61], [62], [62, 61], [105, 110]] = true from hb2, if_pos rfl] at hr
    replace hr := Go.Pa.adv_bnd hr
    obtain ⟨o, ho, hr⟩ := Go.Pa.op_bnd hr
    refine CX.seq <| CX.regionQ rfl (by kernel_rfl) <| LX.pure (Y.move rfl) rfl rfl rfl <| LX.pure (Y.nilCheck rfl) rfl rfl rfl <| LX.pure (Y.fieldAddr0 Pa.fo41_0 rfl) rfl rfl rfl <| LX.pure (Y.ldB 0 Pa.one37 rfl rfl rfl) rfl rfl rfl <| LX.pure (Y.move rfl) rfl rfl rfl <| LX.pure (Y.nilCheck rfl) rfl rfl rfl <| LX.pure (Y.fieldAddr0 Pa.fo41_1 rfl) rfl rfl rfl <| LX.pure (Y.ldB 0 Pa.one3 rfl rfl rfl) rfl rfl rfl <| LX.pure (Y.idxZ Pa.un37 Pa.sz57 rfl rfl hav (j := s1.at_) rfl hj) rfl rfl rfl <| LX.pure (Y.fieldA Pa.fa57_1 rfl) rfl rfl rfl <| LX.pure (Y.ldFO (v := str t.text) Fy.one9 rfl hLt rfl) rfl rfl rfl <| LX.pure (Y.assign rfl) rfl rfl rfl <| LX.sub (l' := [(0, _), (2, _), (3, _), (4, _), (5, _)]) ⟨rfl, rfl, rfl, rfl, rfl, trivial⟩ <| LX.nextQ <| PX.thenN <| CX.seq <| CX.region <| LX.pure (Y.move rfl) rfl rfl rfl <| LX.pure (Y.nilCheck rfl) rfl rfl rfl <| LX.pure (Y.fieldAddr0 Pa.fo41_1 rfl) rfl rfl rfl <| LX.pure (Y.ldB 0 Pa.one3 rfl rfl rfl) rfl rfl rfl <| LX.pure (Y.addN rfl rfl (by (simp only []; omega))) rfl rfl rfl <| LX.pure (Y.nilCheck rfl) rfl rfl rfl <| LX.pure (Y.fieldAddr0 Pa.fo41_1 rfl) rfl rfl rfl <| LX.storeB 0 Pb.sz3 rfl rfl rfl rfl rfl rfl rfl rfl <| LX.sub (l' := [(0, _), (2, _), (3, _), (4, _), (5, _)]) ⟨rfl, rfl, rfl, rfl, rfl, trivial⟩ <| LX.next <| PX.thenN <| CX.seq <| CX.region <| LX.pure (Y.move rfl) rfl rfl rfl <| LX.pure (Y.move rfl) rfl rfl rfl <| LX.callQ (psop_q ho) Pe.en72 rfl rfl rfl rfl rfl <| LX.pure (Y.move rfl) rfl rfl rfl <| LX.pure (Y.move rfl) rfl rfl rfl <| LX.pure (Y.move rfl) rfl rfl rfl ?_
    obtain ⟨r4, e4, hok4, hst4⟩ := Go.Pa.bnd_some hr
    refine LX.callP (hSum n (Nat.le_refl _) s1.adv m1 (fr) r4 e4 hnd1) Pg.en80 rfl rfl rfl rfl rfl (fun y => fun _ w ha hw => ⟨ha.defs, .inr ⟨y, rfl, hst4 _ _ hw.1, hw.2⟩⟩) ?_
    rintro ⟨b4, s4, m4⟩
    refine LX.have fun ⟨hr4, hnd4, hk4⟩ => ?_
    replace hr := hok4 _ _ hr4
    try dsimp only
    refine LX.buildSlice (e := 3) (size := 1) rfl rfl (fun _ => by kernel_rfl) rfl (by decide) rfl rfl rfl ?_
    intro gK
    obtain ⟨hlen, hre⟩ := Go.Pa.node_end hr
    refine LX.world (W' := WA w0 base (PBl bp al L cl s4 m4 :: ROl s4 m4 :: .row (some gK) 2 2 3 1 ([a, b4].map iv) :: (m4.rs ++ fr))) (fun w hw => (show WA w0 base (.row (some gK) 2 2 3 1 ([a, b4].map iv) :: PWl bp al L cl s4 m4 fr) w from hw).perm (by (refine perm_cnt fun x => ?_; simp only [PWl, PBl, ROl, z1, z2, z3, z4, z5, z6]; omega))) ?_
    refine LX.call (node_c (s := s4) (m := m4) (o) t.pos [] (some ⟨gK, 0, none⟩) 2 2 [a, b4] hlen) Pe.en15 rfl rfl rfl rfl rfl ?_
    intro q
    refine LX.pure (Y.assign rfl) rfl rfl rfl <| LX.sub (l' := [(2, _), (3, _)]) ⟨rfl, rfl, trivial⟩ <| LX.next <| PX.thenN <| CX.ret <| PX.blockR <| PX.thenR <| PX.ret1 (by simp) Tryd.results76 rfl ?_
    exact fun w hw => .inl ⟨((s4.out.length : Int), (s4.nod o t.pos [] [a, b4]), (m4.put q o t.pos [] (rv (some gK) 2 2) (.row (some gK) 2 2 3 1 ([a, b4].map iv) :: m4.rs))), rfl, ⟨hre, put_nds (op := o) (pos := t.pos) (x := []) hnd4 hw (i := 2) (ks := [a, b4]) rfl (fun z hz => by simp only [List.mem_cons, List.not_mem_nil, or_false] at hz; rcases hz with rfl | rfl; exact hk1.inI; exact hk4.inI) (by simp) (by have := Go.Pa.op_in ho; unfold Go.SX.inI; omega) hin2, gI.len hlen⟩, hw⟩
  try simp at hb2
  rw [show isB t [[61, 61], [33, 61], [60], [60, 61], [62], [62, 61], [105, 110]] = false from hb2, if_neg Bool.false_ne_true] at hr
  refine CX.skip <| PX.blockN <| PX.thenN <| CX.seq <| CX.region <| LX.pure (Y.move rfl) rfl rfl rfl <| LX.pure (Y.assign rfl) rfl rfl rfl <| LX.sub (l' := [(2, _)]) ⟨rfl, trivial⟩ <| LX.next <| PX.thenN <| CX.ret <| PX.ret1 (by simp) Tryd.results76 rfl ?_
  exact fun w hw => .inl ⟨(a, s1, m1), rfl, ⟨Go.Pa.ret_end hr, hnd1, hk1⟩, hw⟩
end Go.Proofs.YtfbenelagdcdgaaDoor

namespace Go.Proofs.YtfbenelagdcdgaaDoor
open Go.SX Go.RowKit Go.Tr Go.Lex
namespace Ph
theorem en26 : Enters Tryd.prog 26 := Enters.of Tryd.func26 (by kernel_rfl) (by kernel_rfl)
theorem en77 : Enters Tryd.prog 77 := Enters.of Tryd.func77 (by kernel_rfl) (by kernel_rfl)
theorem en78 : Enters Tryd.prog 78 := Enters.of Tryd.func78 (by kernel_rfl) (by kernel_rfl)
theorem en79 : Enters Tryd.prog 79 := Enters.of Tryd.func79 (by kernel_rfl) (by kernel_rfl)
end Ph
open Go.Proofs.YtfbenelagdcdgaaDoor.Env (EnvS errV sentG)
open Go.Pa (Tk Rs bnd ret isB is_ adv bad take must kinds inn outn node nodeAt setPos)
open Go.Ck (NdsR)
theorem primary_p {w0 : World} {base : Nat} {aE : Nat → Addr} (hS : EnvS w0 base aE) {bp : Nat} {al : Option Addr} {cl : Nat} {L : List Tk} (hL : SlAt 3 tokA (Lies w0 base) al L) (hln : L.length ≤ 1099511627776) (n : Nat) (hAtom : ∀ j, j ≤ n → FI w0 base aE al cl L bp 77 (.atom) j) (hCall : ∀ k, gI k → ∀ j, j ≤ n → FS w0 base aE al cl L bp 78 #[.pointer (some ⟨bp, 0, none⟩), .int .i64 k] (fun z : Int => .int .i64 z) gI (.call k) j) (hIndex : ∀ k, gI k → ∀ j, j ≤ n → FS w0 base aE al cl L bp 79 #[.pointer (some ⟨bp, 0, none⟩), .int .i64 k] (fun z : Int => .int .i64 z) gI (.index k) j) : FI w0 base aE al cl L bp 74 (.primary) (n + 1) := by
  intro s m fr r hr hnd
  change (bnd (Go.Pa.run L nameB n .atom) fun k => Go.Pa.run L nameB n (.primGo k)) s = some r at hr
  refine FnP.of_body (fn := Tryd.f74) [(0, _)] Tryd.func74 rfl Tryd.ntmps74 rfl ⟨rfl, trivial⟩ ?_
  refine CX.seq <| CX.region <| LX.pure (Y.assign rfl) rfl rfl rfl <| LX.sub (l' := [(0, _), (2, _)]) ⟨rfl, rfl, trivial⟩ <| LX.next <| PX.thenN <| CX.seq <| CX.region <| LX.pure (Y.move rfl) rfl rfl rfl ?_
  obtain ⟨r0, e0, hok0, hst0⟩ := Go.Pa.bnd_some hr
  refine LX.callP (hAtom n (Nat.le_refl _) s m (fr) r0 e0 hnd) Ph.en77 rfl rfl rfl rfl rfl (fun y => fun _ w ha hw => ⟨ha.defs, .inr ⟨y, rfl, hst0 _ _ hw.1, hw.2⟩⟩) ?_
  rintro ⟨k0, s0, m0⟩
  refine LX.have fun ⟨hr0, hnd0, hk0⟩ => ?_
  replace hr := hok0 _ _ hr0
  try dsimp only
  refine LX.pure (Y.assign rfl) rfl rfl rfl <| LX.sub (l' := [(0, _), (2, _), (3, _)]) ⟨rfl, rfl, rfl, trivial⟩ <| LX.next <| PX.thenN <| CX.block <| CX.loop (fun z : Int × Go.Pa.St × Mm × Nat => [(0, .pointer (some ⟨bp, 0, none⟩)), (3, .int .i64 z.1)]) (fun (z : Int × Go.Pa.St × Mm × Nat) w => ((Go.Pa.run L nameB z.2.2.2 (.primGo z.1) z.2.1 = some r ∧ z.2.2.2 ≤ n) ∧ NdsR 3 z.2.2.1.rs z.2.2.1.cells z.2.1.out ∧ gI z.1) ∧ WA w0 base (PWl bp al L cl z.2.1 z.2.2.1 fr) w) (fun z => z.2.2.2) (k0, s0, m0, n) ⟨rfl, rfl, trivial⟩ (fun w hw => ⟨⟨⟨hr, Nat.le_refl _⟩, hnd0, hk0⟩, hw⟩) ?_
  clear hr hr0 hnd0 hk0 hok0 hst0 e0
  rintro ⟨k, s1, m1, j⟩
  refine CX.have fun ⟨⟨hr, hjn⟩, hnd1, hk1⟩ => ?_
  replace hr : Go.Pa.run L nameB j (.primGo k) s1 = some r := hr
  replace hjn : j ≤ n := hjn
  replace hnd1 : NdsR 3 m1.rs m1.cells s1.out := hnd1
  replace hk1 : gI k := hk1
  try dsimp only
  obtain ⟨j, rfl⟩ : ∃ i, j = i + 1 := by
    cases j with
    | zero => cases hr
    | succ i => exact ⟨i, rfl⟩
  change (bnd (Go.Pa.tok L) fun t => bnd (take L [46]) fun b => if b then bnd (kinds L 1) fun x => bnd (node 12 t.pos x.1 [k]) fun n => Go.Pa.run L nameB j (.primGo n) else if isB t [[40]] then bnd (Go.Pa.run L nameB j (.call k)) fun n => Go.Pa.run L nameB j (.primGo n) else if isB t [[91]] then bnd (Go.Pa.run L nameB j (.index k)) fun n => Go.Pa.run L nameB j (.primGo n) else ret k) s1 = some r at hr
  obtain ⟨t, ht, hr⟩ := Go.Pa.tok_bnd hr
  refine CX.block <| CX.seq <| CX.region <| LX.pure (Y.move rfl) rfl rfl rfl ?_
  obtain ⟨a0, cs, hav, hcl, hLt, rfl, hin1, hin2⟩ := hL _ _ ht
  have hj : s1.at_ < L.length := (List.getElem?_eq_some_iff.1 ht).1
  refine LX.callQ (pos_q ht (fun w hw => blkL hw (i := 0) rfl) (fun w hw => hL.push hw)) Pc.en36 rfl rfl rfl rfl rfl <| LX.pure (Y.assign rfl) rfl rfl rfl <| LX.sub (l' := [(0, _), (3, _), (4, _)]) ⟨rfl, rfl, rfl, trivial⟩ <| LX.next <| PX.thenN <| CX.block <| CX.seq <| CX.region <| LX.pure (Y.move rfl) rfl rfl rfl ?_
  obtain ⟨t2, ht2, hT, hF⟩ := Go.Pa.take_bnd hr
  obtain rfl : t = t2 := by rw [ht] at ht2; exact Option.some.inj ht2
  refine LX.call (take_c hL hln ht [46]) Pd.en40 rfl rfl rfl rfl rfl ?_
  intro _
  refine LX.pure (Y.assign rfl) rfl rfl rfl <| LX.sub (l' := [(0, _), (3, _), (4, _), (12, _)]) ⟨rfl, rfl, rfl, rfl, trivial⟩ <| LX.next <| PX.thenN ?_
  refine CX.cond rfl (fun hb1 => ?_) (fun hb1 => ?_)
  · try simp at hb1
    rw [show isB t [[46]] = true from hb1]
    replace hr := hT hb1
    refine CX.world (W' := WA w0 base (PWl bp al L cl s1.adv m1 fr)) (fun w hw => hw) <| CX.seq <| CX.region <| LX.pure (Y.move rfl) rfl rfl rfl ?_
    obtain ⟨r2, e2, hok2, hst2⟩ := Go.Pa.bnd_some hr
    refine LX.callP (kinds_p hS hL hln 1 e2) Ph.en26 rfl rfl rfl rfl rfl (fun y => fun _ w ha hw => ⟨ha.defs, .inr ⟨y, rfl, hst2 _ _ hw.1, hw.2.drop (.cons_cons _ (.cons _ (List.sublist_append_right _ _)))⟩⟩) ?_
    rintro ⟨x, s2⟩
    refine LX.have fun ⟨hr2, hou2, hp2⟩ => ?_
    replace hou2 : s2.out = s1.adv.out := hou2
    have hnd2 : NdsR 3 m1.rs m1.cells s2.out := by rw [hou2]; exact hnd1
    replace hr := hok2 _ _ hr2
    refine LX.world (W' := WA w0 base (PWl bp al L cl s2 m1 fr)) (fun w hw => by show WA w0 base (PBl bp al L cl s2 m1 :: .row m1.g m1.c s2.out.length 31 5 m1.cells :: (m1.rs ++ fr)) w; rw [hou2]; exact hw) ?_
    try dsimp only
    refine LX.pure (Y.move rfl) rfl rfl rfl <| LX.pure (Y.extract rfl rfl) rfl rfl rfl <| LX.pure (Y.extract rfl rfl) rfl rfl rfl <| LX.pure (Y.assign rfl) rfl rfl rfl <| LX.pure (Y.assign rfl) rfl rfl rfl <| LX.sub (l' := [(0, _), (3, _), (4, _), (5, _)]) ⟨rfl, rfl, rfl, rfl, trivial⟩ <| LX.next <| PX.thenN <| CX.region <| LX.pure (Y.move rfl) rfl rfl rfl <| LX.pure (Y.move rfl) rfl rfl rfl <| LX.pure (Y.move rfl) rfl rfl rfl <| LX.pure (Y.move rfl) rfl rfl rfl <| LX.buildSlice (e := 3) (size := 1) rfl rfl (fun _ => by kernel_rfl) rfl (by decide) rfl rfl rfl ?_
    intro gK
    obtain ⟨hlen, hr⟩ := Go.Pa.node_bnd hr
    refine LX.world (W' := WA w0 base (PBl bp al L cl s2 m1 :: ROl s2 m1 :: .row (some gK) 1 1 3 1 ([k].map iv) :: (m1.rs ++ fr))) (fun w hw => (show WA w0 base (.row (some gK) 1 1 3 1 ([k].map iv) :: PWl bp al L cl s2 m1 fr) w from hw).perm (by (refine perm_cnt fun x => ?_; simp only [PWl, PBl, ROl, z1, z2, z3, z4, z5, z6]; omega))) ?_
    refine LX.call (node_c (s := s2) (m := m1) (12) t.pos x.1 (some ⟨gK, 0, none⟩) 1 1 [k] hlen) Pe.en15 rfl rfl rfl rfl rfl ?_
    intro q
    refine LX.pure (Y.assign rfl) rfl rfl rfl <| LX.sub (l' := [(0, _), (3, _)]) ⟨rfl, rfl, trivial⟩ <| LX.next <| PX.blockN <| PX.blockN ?_
    exact PX.again (μ := fun z => z.2.2.2) (i := (k, s1, m1, j + 1)) ((s2.out.length : Int), (s2.nod 12 t.pos x.1 [k]), (m1.put q 12 t.pos x.1 (rv (some gK) 1 1) (.row (some gK) 1 1 3 1 ([k].map iv) :: m1.rs)), j) (by show j < j + 1; omega) ⟨rfl, rfl, trivial⟩ (fun w hw => ⟨⟨⟨hr, by show j ≤ n; omega⟩, put_nds (op := 12) (pos := t.pos) (x := x.1) hnd2 hw (i := 2) (ks := [k]) rfl (fun z hz => by cases List.mem_singleton.1 hz; exact hk1.inI) (by simp) (by unfold Go.SX.inI; omega) hin2, gI.len hlen⟩, hw⟩)
  try simp at hb1
  rw [show isB t [[46]] = false from hb1]
  replace hr := hF hb1
  refine CX.world (W' := WA w0 base (PWl bp al L cl s1 m1 fr)) (fun w hw => hw) <| CX.seq <| CX.region <| LX.pure (Y.move rfl) rfl rfl rfl <| LX.buildSlice (e := 9) (size := 1) rfl rfl (fun _ => by kernel_rfl) rfl (by decide) rfl rfl rfl ?_
  intro gS
  refine LX.callQ (is_q ht _ (ss := [[40]]) (by decide) (fun w hw => blkL hw (i := 1) rfl) (fun w hw => hL.push hw) (fun w hw => row_at hw (j := 0) rfl rfl (by decide) (fun i z h => map_A (f := str) (xs := [[40]]) h))) Pd.en20 rfl rfl rfl rfl rfl <| LX.world (W' := WA w0 base (PWl bp al L cl s1 m1 fr)) (fun w hw => hw.drop (List.sublist_cons_self _ _)) <| LX.pure (Y.assign rfl) rfl rfl rfl <| LX.sub (l' := [(0, _), (3, _), (26, _)]) ⟨rfl, rfl, rfl, trivial⟩ <| LX.next <| PX.thenN ?_
  refine CX.cond rfl (fun hb2 => ?_) (fun hb2 => ?_)
  · try simp at hb2
    rw [if_neg Bool.false_ne_true, show isB t [[40]] = true from hb2, if_pos rfl] at hr
    refine CX.region <| LX.pure (Y.move rfl) rfl rfl rfl <| LX.pure (Y.move rfl) rfl rfl rfl ?_
    obtain ⟨r3, e3, hok3, hst3⟩ := Go.Pa.bnd_some hr
    refine LX.callP ((hCall k hk1) j (by omega) s1 m1 (fr) r3 e3 hnd1) Ph.en78 rfl rfl rfl rfl rfl (fun y => fun _ w ha hw => ⟨ha.defs, .inr ⟨y, rfl, hst3 _ _ hw.1, hw.2⟩⟩) ?_
    rintro ⟨n3, s3, m3⟩
    refine LX.have fun ⟨hr3, hnd3, hk3⟩ => ?_
    replace hr := hok3 _ _ hr3
    try dsimp only
    refine LX.pure (Y.assign rfl) rfl rfl rfl <| LX.sub (l' := [(0, _), (3, _)]) ⟨rfl, rfl, trivial⟩ <| LX.next <| PX.blockN <| PX.blockN ?_
    exact PX.again (μ := fun z => z.2.2.2) (i := (k, s1, m1, j + 1)) (n3, s3, m3, j) (by show j < j + 1; omega) ⟨rfl, rfl, trivial⟩ (fun w hw => ⟨⟨⟨hr, by show j ≤ n; omega⟩, hnd3, hk3⟩, hw⟩)
  try simp at hb2
  rw [if_neg Bool.false_ne_true, show isB t [[40]] = false from hb2, if_neg Bool.false_ne_true] at hr
  refine CX.seq <| CX.region <| LX.pure (Y.move rfl) rfl rfl rfl <| LX.buildSlice (e := 9) (size := 1) rfl rfl (fun _ => by kernel_rfl) rfl (by decide) rfl rfl rfl ?_
  intro gS
  refine LX.callQ (is_q ht _ (ss := [[91]]) (by decide) (fun w hw => blkL hw (i := 1) rfl) (fun w hw => hL.push hw) (fun w hw => row_at hw (j := 0) rfl rfl (by decide) (fun i z h => map_A (f := str) (xs := [[91]]) h))) Pd.en20 rfl rfl rfl rfl rfl <| LX.world (W' := WA w0 base (PWl bp al L cl s1 m1 fr)) (fun w hw => hw.drop (List.sublist_cons_self _ _)) <| LX.pure (Y.assign rfl) rfl rfl rfl <| LX.sub (l' := [(0, _), (3, _), (33, _)]) ⟨rfl, rfl, rfl, trivial⟩ <| LX.next <| PX.thenN ?_
  refine CX.cond rfl (fun hb3 => ?_) (fun hb3 => ?_)
  · try simp at hb3
    rw [show isB t [[91]] = true from hb3, if_pos rfl] at hr
    refine CX.region <| LX.pure (Y.move rfl) rfl rfl rfl <| LX.pure (Y.move rfl) rfl rfl rfl ?_
    obtain ⟨r4, e4, hok4, hst4⟩ := Go.Pa.bnd_some hr
    refine LX.callP ((hIndex k hk1) j (by omega) s1 m1 (fr) r4 e4 hnd1) Ph.en79 rfl rfl rfl rfl rfl (fun y => fun _ w ha hw => ⟨ha.defs, .inr ⟨y, rfl, hst4 _ _ hw.1, hw.2⟩⟩) ?_
    rintro ⟨n4, s4, m4⟩
    refine LX.have fun ⟨hr4, hnd4, hk4⟩ => ?_
    replace hr := hok4 _ _ hr4
    try dsimp only
    refine LX.pure (Y.assign rfl) rfl rfl rfl <| LX.sub (l' := [(0, _), (3, _)]) ⟨rfl, rfl, trivial⟩ <| LX.next <| PX.blockN <| PX.blockN ?_
    exact PX.again (μ := fun z => z.2.2.2) (i := (k, s1, m1, j + 1)) (n4, s4, m4, j) (by show j < j + 1; omega) ⟨rfl, rfl, trivial⟩ (fun w hw => ⟨⟨⟨hr, by show j ≤ n; omega⟩, hnd4, hk4⟩, hw⟩)
  try simp at hb3
  rw [show isB t [[91]] = false from hb3, if_neg Bool.false_ne_true] at hr
  refine CX.seq <| CX.region <| LX.pure (Y.move rfl) rfl rfl rfl <| LX.pure (Y.assign rfl) rfl rfl rfl <| LX.sub (l' := [(0, _), (2, _), (3, _)]) ⟨rfl, rfl, rfl, trivial⟩ <| LX.next <| PX.thenN <| CX.ret <| PX.blockR <| PX.blockR <| PX.thenR <| PX.blockR <| PX.ret1 (by simp) Tryd.results74 rfl ?_
  exact fun w hw => .inl ⟨(k, s1, m1), rfl, ⟨Go.Pa.ret_end hr, hnd1, hk1⟩, hw⟩
end Go.Proofs.YtfbenelagdcdgaaDoor

namespace Go.Proofs.YtfbenelagdcdgaaDoor
open Go.SX Go.RowKit Go.Tr Go.Lex
namespace Pi

end Pi
open Go.Proofs.YtfbenelagdcdgaaDoor.Env (EnvS errV sentG)
open Go.Pa (Tk Rs bnd ret isB is_ adv bad take must kinds inn outn node nodeAt setPos)
open Go.Ck (NdsR)
theorem put_nil {m : Mm} {l : List Nd} (h : NdsR 3 m.rs m.cells l) {op pos : Int} {x : List UInt8} (ho : Go.SX.inI op) (hp : Go.SX.inI pos) :
    NdsR 3 m.rs (m.cells ++ [.int .i64 op, .int .i64 0, .int .i64 pos, str x, .slice none 0 0]) (l ++ [⟨op, 0, pos, x, []⟩]) := h.putN ho hp
theorem index_p {w0 : World} {base : Nat} {aE : Nat → Addr} (hS : EnvS w0 base aE) {bp : Nat} {al : Option Addr} {cl : Nat} {L : List Tk} (hL : SlAt 3 tokA (Lies w0 base) al L) (hln : L.length ≤ 1099511627776) (n : Nat) (hTest : ∀ j, j ≤ n → FI w0 base aE al cl L bp 37 (.test) j) (k : Int) (hk : gI k) : FS w0 base aE al cl L bp 79 #[.pointer (some ⟨bp, 0, none⟩), .int .i64 k] (fun z : Int => .int .i64 z) gI (.index k) (n + 1) := by
  intro s m fr r hr hnd
  change (bnd (must L [91]) fun pos => bnd (inn pos) fun _ => bnd (Go.Pa.tok L) fun t => bnd (if isB t [[58]] then node 15 t.pos [] [] else Go.Pa.run L nameB n .test) fun fr5 => bnd (take L [93]) fun b => if b then bnd outn fun _ => node 13 pos [] [k, fr5] else bnd (must L [58]) fun _ => bnd (Go.Pa.tok L) fun t => bnd (if isB t [[93]] then node 15 t.pos [] [] else Go.Pa.run L nameB n .test) fun to => bnd (must L [93]) fun _ => bnd outn fun _ => node 14 pos [] [k, fr5, to]) s = some r at hr
  refine FnP.of_body (fn := Tryd.f79) [(0, _), (1, _)] Tryd.func79 rfl Tryd.ntmps79 rfl ⟨rfl, rfl, trivial⟩ ?_
  refine CX.seq <| CX.region <| LX.pure (Y.assign rfl) rfl rfl rfl <| LX.sub (l' := [(0, _), (1, _), (4, _)]) ⟨rfl, rfl, rfl, trivial⟩ <| LX.next <| PX.thenN <| CX.seq <| CX.region <| LX.pure (Y.move rfl) rfl rfl rfl ?_
  obtain ⟨r1, e1, hok1, hst1⟩ := Go.Pa.bnd_some hr
  refine LX.callP (must_p hS hL hln [91] e1) Pf.en41 rfl rfl rfl rfl rfl (fun y => fun _ w ha hw => ⟨ha.defs, .inr ⟨y, rfl, hst1 _ _ hw.1, hw.2.drop (.cons_cons _ (.cons _ (List.sublist_append_right _ _)))⟩⟩) ?_
  rintro ⟨pos, s1⟩
  refine LX.have fun ⟨hr1, hou1, hp1⟩ => ?_
  replace hou1 : s1.out = s.out := hou1
  have hnd1 : NdsR 3 m.rs m.cells s1.out := by rw [hou1]; exact hnd
  replace hr := hok1 _ _ hr1
  refine LX.world (W' := WA w0 base (PWl bp al L cl s1 m fr)) (fun w hw => by show WA w0 base (PBl bp al L cl s1 m :: .row m.g m.c s1.out.length 31 5 m.cells :: (m.rs ++ fr)) w; rw [hou1]; exact hw) ?_
  try dsimp only
  refine LX.pure (Y.assign rfl) rfl rfl rfl <| LX.sub (l' := [(0, _), (1, _), (4, _), (5, _)]) ⟨rfl, rfl, rfl, rfl, trivial⟩ <| LX.next <| PX.thenN <| CX.seq <| CX.region <| LX.pure (Y.move rfl) rfl rfl rfl <| LX.pure (Y.move rfl) rfl rfl rfl ?_
  obtain ⟨r2, e2, hok2, hst2⟩ := Go.Pa.bnd_some hr
  refine LX.callP (in_p hS hL hln pos e2) Pf.en39 rfl rfl rfl rfl rfl (fun y => fun _ w ha hw => ⟨ha.defs, .inr ⟨y, rfl, hst2 _ _ hw.1, hw.2.drop (.cons_cons _ (.cons _ (List.sublist_append_right _ _)))⟩⟩) ?_
  rintro ⟨_, s2⟩
  refine LX.have fun ⟨hr2, hou2, _⟩ => ?_
  replace hou2 : s2.out = s1.out := hou2
  have hnd2 : NdsR 3 m.rs m.cells s2.out := by rw [hou2]; exact hnd1
  replace hr := hok2 _ _ hr2
  refine LX.world (W' := WA w0 base (PWl bp al L cl s2 m fr)) (fun w hw => by show WA w0 base (PBl bp al L cl s2 m :: .row m.g m.c s2.out.length 31 5 m.cells :: (m.rs ++ fr)) w; rw [hou2]; exact hw) ?_
  try dsimp only
  refine LX.sub (l' := [(0, _), (1, _), (4, _), (5, _)]) ⟨rfl, rfl, rfl, rfl, trivial⟩ <| LX.next <| PX.thenN <| CX.seq <| CX.region <| LX.pure (Y.assign rfl) rfl rfl rfl <| LX.sub (l' := [(0, _), (1, _), (4, _), (5, _)]) ⟨rfl, rfl, rfl, rfl, trivial⟩ <| LX.next <| PX.thenN ?_
  refine CX.seqM (fun z : Int × Go.Pa.St × Mm => [(0, .pointer (some ⟨bp, 0, none⟩)), (1, .int .i64 k), (5, .int .i64 pos), (6, .int .i64 z.1)]) (fun (z : Int × Go.Pa.St × Mm) w => ((bnd (take L [93]) fun b => if b then bnd outn fun _ => node 13 pos [] [k, z.1] else bnd (must L [58]) fun _ => bnd (Go.Pa.tok L) fun t => bnd (if isB t [[93]] then node 15 t.pos [] [] else Go.Pa.run L nameB n .test) fun to => bnd (must L [93]) fun _ => bnd outn fun _ => node 14 pos [] [k, z.1, to]) z.2.1 = some r ∧ NdsR 3 z.2.2.rs z.2.2.cells z.2.1.out ∧ gI z.1) ∧ WA w0 base (PWl bp al L cl z.2.1 z.2.2 fr) w) ?_ ?_
  ·
    refine CX.seq <| CX.region <| LX.pure (Y.move rfl) rfl rfl rfl <| LX.buildSlice (e := 9) (size := 1) rfl rfl (fun _ => by kernel_rfl) rfl (by decide) rfl rfl rfl ?_
    intro gS
    obtain ⟨t, ht, hr⟩ := Go.Pa.tok_bnd hr
    obtain ⟨a0, cs, hav, hcl, hLt, rfl, hin1, hin2⟩ := hL _ _ ht
    have hj : s2.at_ < L.length := (List.getElem?_eq_some_iff.1 ht).1
    refine LX.callQ (is_q ht _ (ss := [[58]]) (by decide) (fun w hw => blkL hw (i := 1) rfl) (fun w hw => hL.push hw) (fun w hw => row_at hw (j := 0) rfl rfl (by decide) (fun i z h => map_A (f := str) (xs := [[58]]) h))) Pd.en20 rfl rfl rfl rfl rfl <| LX.world (W' := WA w0 base (PWl bp al L cl s2 m fr)) (fun w hw => hw.drop (List.sublist_cons_self _ _)) <| LX.sub (l' := [(0, _), (1, _), (4, _), (5, _), (15, _)]) ⟨rfl, rfl, rfl, rfl, rfl, trivial⟩ <| LX.next <| PX.thenN ?_
    refine CX.cond rfl (fun hb1 => ?_) (fun hb1 => ?_)
    · try simp at hb1
      rw [show isB t [[58]] = true from hb1, if_pos rfl] at hr
      refine CX.region <| LX.pure (Y.move rfl) rfl rfl rfl <| LX.pure (Y.move rfl) rfl rfl rfl <| LX.callQ (pos_q ht (fun w hw => blkL hw (i := 0) rfl) (fun w hw => hL.push hw)) Pc.en36 rfl rfl rfl rfl rfl ?_
      obtain ⟨hlen, hr⟩ := Go.Pa.node_bnd hr
      refine LX.call (node_c (s := s2) (m := m) (15) t.pos [] none 0 0 [] hlen) Pe.en15 rfl rfl rfl rfl rfl ?_
      intro q
      refine LX.pure (Y.assign rfl) rfl rfl rfl <| LX.sub (l' := [(0, _), (1, _), (4, _), (5, _), (6, _)]) ⟨rfl, rfl, rfl, rfl, rfl, trivial⟩ <| LX.next ?_
      exact PX.seam ((s2.out.length : Int), (s2.nod 15 t.pos [] []), (m.put q 15 t.pos [] (.slice none 0 0) (m.rs))) ⟨rfl, rfl, rfl, rfl, trivial⟩ (fun w hw => ⟨⟨hr, put_nil (op := 15) (pos := t.pos) (x := []) hnd2 (by unfold Go.SX.inI; omega) hin2, gI.len hlen⟩, hw⟩)
    try simp at hb1
    rw [show isB t [[58]] = false from hb1, if_neg Bool.false_ne_true] at hr
    refine CX.region <| LX.pure (Y.move rfl) rfl rfl rfl ?_
    obtain ⟨r3, e3, hok3, hst3⟩ := Go.Pa.bnd_some hr
    refine LX.callP (hTest n (Nat.le_refl _) s2 m (fr) r3 e3 hnd2) Pg.en37 rfl rfl rfl rfl rfl (fun y => fun _ w ha hw => ⟨ha.defs, .inr ⟨y, rfl, hst3 _ _ hw.1, hw.2⟩⟩) ?_
    rintro ⟨k3, s3, m3⟩
    refine LX.have fun ⟨hr3, hnd3, hk3⟩ => ?_
    replace hr := hok3 _ _ hr3
    try dsimp only
    refine LX.pure (Y.assign rfl) rfl rfl rfl <| LX.sub (l' := [(0, _), (1, _), (4, _), (5, _), (6, _)]) ⟨rfl, rfl, rfl, rfl, rfl, trivial⟩ <| LX.next ?_
    exact PX.seam (k3, s3, m3) ⟨rfl, rfl, rfl, rfl, trivial⟩ (fun w hw => ⟨⟨hr, hnd3, hk3⟩, hw⟩)
  clear hr
  rintro ⟨fr5, s5, m5⟩
  refine CX.have fun ⟨hr, hnd5, hk5⟩ => ?_
  try dsimp only at hr ⊢
  refine CX.seq <| CX.seq <| CX.region <| LX.pure (Y.move rfl) rfl rfl rfl ?_
  obtain ⟨t, ht, hT, hF⟩ := Go.Pa.take_bnd hr
  refine LX.call (take_c hL hln ht [93]) Pd.en40 rfl rfl rfl rfl rfl ?_
  intro _
  refine LX.sub (l' := [(0, _), (1, _), (5, _), (6, _), (23, _)]) ⟨rfl, rfl, rfl, rfl, rfl, trivial⟩ <| LX.next <| PX.thenN ?_
  refine CX.cond rfl (fun hb2 => ?_) (fun hb2 => ?_)
  · try simp at hb2
    rw [show isB t [[93]] = true from hb2]
    replace hr := hT hb2
    refine CX.world (W' := WA w0 base (PWl bp al L cl s5.adv m5 fr)) (fun w hw => hw) ?_
    obtain ⟨a5, o5, d5, f5, g5⟩ := s5
    obtain ⟨d, hd, hdl, hr⟩ := Go.Pa.outn_bnd hr
    obtain rfl : d5 = d + 1 := hd
    try dsimp only
    refine CX.seq <| CX.region <| LX.pure (Y.move rfl) rfl rfl rfl <| LX.pure (Y.nilCheck rfl) rfl rfl rfl <| LX.pure (Y.fieldAddr0 Pd.fo41_3 rfl) rfl rfl rfl <| LX.pure (Y.ldB 0 Pa.one3 rfl rfl rfl) rfl rfl rfl <| LX.pure (Y.subN rfl rfl (by (simp only []; omega)) (by (simp only []; omega))) rfl rfl rfl <| LX.pure (Y.nilCheck rfl) rfl rfl rfl <| LX.pure (Y.fieldAddr0 Pd.fo41_3 rfl) rfl rfl rfl <| LX.storeB 0 Pb.sz3 rfl rfl rfl rfl rfl rfl rfl rfl <| LX.sub (l' := [(0, _), (1, _), (5, _), (6, _)]) ⟨rfl, rfl, rfl, rfl, trivial⟩ <| LX.next <| PX.thenN <| CX.seq <| CX.region <| LX.pure (Y.move rfl) rfl rfl rfl <| LX.pure (Y.move rfl) rfl rfl rfl <| LX.pure (Y.move rfl) rfl rfl rfl <| LX.pure (Y.move rfl) rfl rfl rfl <| LX.buildSlice (e := 3) (size := 1) rfl rfl (fun _ => by kernel_rfl) rfl (by decide) rfl rfl rfl ?_
    intro gK
    obtain ⟨hlen, hre⟩ := Go.Pa.node_end hr
    refine LX.world (W' := WA w0 base (PBl bp al L cl (⟨a5 + 1, o5, d, f5, g5⟩ : Go.Pa.St) m5 :: ROl (⟨a5 + 1, o5, d, f5, g5⟩ : Go.Pa.St) m5 :: .row (some gK) 2 2 3 1 ([k, fr5].map iv) :: (m5.rs ++ fr))) (fun w hw => (show WA w0 base (.row (some gK) 2 2 3 1 ([k, fr5].map iv) :: PWl bp al L cl (⟨a5 + 1, o5, d, f5, g5⟩ : Go.Pa.St) m5 fr) w from hw).perm (by (refine perm_cnt fun x => ?_; simp only [PWl, PBl, ROl, z1, z2, z3, z4, z5, z6]; omega))) ?_
    refine LX.call (node_c (s := (⟨a5 + 1, o5, d, f5, g5⟩ : Go.Pa.St)) (m := m5) (13) pos [] (some ⟨gK, 0, none⟩) 2 2 [k, fr5] hlen) Pe.en15 rfl rfl rfl rfl rfl ?_
    intro q
    refine LX.pure (Y.assign rfl) rfl rfl rfl <| LX.sub (l' := [(0, _), (1, _), (4, _), (5, _), (6, _)]) ⟨rfl, rfl, rfl, rfl, rfl, trivial⟩ <| LX.next <| PX.thenN <| CX.ret <| PX.thenR <| PX.ret1 (by simp) Tryd.results79 rfl ?_
    exact fun w hw => .inl ⟨(((⟨a5 + 1, o5, d, f5, g5⟩ : Go.Pa.St).out.length : Int), ((⟨a5 + 1, o5, d, f5, g5⟩ : Go.Pa.St).nod 13 pos [] [k, fr5]), (m5.put q 13 pos [] (rv (some gK) 2 2) (.row (some gK) 2 2 3 1 ([k, fr5].map iv) :: m5.rs))), rfl, ⟨hre, put_nds (op := 13) (pos := pos) (x := []) hnd5 hw (i := 2) (ks := [k, fr5]) rfl (fun z hz => by simp only [List.mem_cons, List.not_mem_nil, or_false] at hz; rcases hz with rfl | rfl; exact hk.inI; exact hk5.inI) (by simp) (by unfold Go.SX.inI; omega) hp1, gI.len hlen⟩, hw⟩
  try simp at hb2
  rw [show isB t [[93]] = false from hb2]
  replace hr := hF hb2
  refine CX.world (W' := WA w0 base (PWl bp al L cl s5 m5 fr)) (fun w hw => hw) <| CX.skip <| PX.thenN <| CX.seq <| CX.region <| LX.pure (Y.move rfl) rfl rfl rfl ?_
  obtain ⟨r7, e7, hok7, hst7⟩ := Go.Pa.bnd_some hr
  refine LX.callP (must_p hS hL hln [58] e7) Pf.en41 rfl rfl rfl rfl rfl (fun y => fun _ w ha hw => ⟨ha.defs, .inr ⟨y, rfl, hst7 _ _ hw.1, hw.2.drop (.cons_cons _ (.cons _ (List.sublist_append_right _ _)))⟩⟩) ?_
  rintro ⟨p7, s7⟩
  refine LX.have fun ⟨hr7, hou7, hp7⟩ => ?_
  replace hou7 : s7.out = s5.out := hou7
  have hnd7 : NdsR 3 m5.rs m5.cells s7.out := by rw [hou7]; exact hnd5
  replace hr := hok7 _ _ hr7
  refine LX.world (W' := WA w0 base (PWl bp al L cl s7 m5 fr)) (fun w hw => by show WA w0 base (PBl bp al L cl s7 m5 :: .row m5.g m5.c s7.out.length 31 5 m5.cells :: (m5.rs ++ fr)) w; rw [hou7]; exact hw) ?_
  try dsimp only
  refine LX.sub (l' := [(0, _), (1, _), (5, _), (6, _)]) ⟨rfl, rfl, rfl, rfl, trivial⟩ <| LX.next <| PX.thenN <| CX.seq <| CX.region <| LX.pure (Y.assign rfl) rfl rfl rfl <| LX.sub (l' := [(0, _), (1, _), (5, _), (6, _)]) ⟨rfl, rfl, rfl, rfl, trivial⟩ <| LX.next <| PX.thenN ?_
  refine CX.seqM (fun z : Int × Go.Pa.St × Mm => [(0, .pointer (some ⟨bp, 0, none⟩)), (1, .int .i64 k), (5, .int .i64 pos), (6, .int .i64 fr5), (7, .int .i64 z.1)]) (fun (z : Int × Go.Pa.St × Mm) w => ((bnd (must L [93]) fun _ => bnd outn fun _ => node 14 pos [] [k, fr5, z.1]) z.2.1 = some r ∧ NdsR 3 z.2.2.rs z.2.2.cells z.2.1.out ∧ gI z.1) ∧ WA w0 base (PWl bp al L cl z.2.1 z.2.2 fr) w) ?_ ?_
  ·
    refine CX.seq <| CX.region <| LX.pure (Y.move rfl) rfl rfl rfl <| LX.buildSlice (e := 9) (size := 1) rfl rfl (fun _ => by kernel_rfl) rfl (by decide) rfl rfl rfl ?_
    intro gS
    obtain ⟨t, ht, hr⟩ := Go.Pa.tok_bnd hr
    obtain ⟨a0, cs, hav, hcl, hLt, rfl, hin1, hin2⟩ := hL _ _ ht
    have hj : s7.at_ < L.length := (List.getElem?_eq_some_iff.1 ht).1
    refine LX.callQ (is_q ht _ (ss := [[93]]) (by decide) (fun w hw => blkL hw (i := 1) rfl) (fun w hw => hL.push hw) (fun w hw => row_at hw (j := 0) rfl rfl (by decide) (fun i z h => map_A (f := str) (xs := [[93]]) h))) Pd.en20 rfl rfl rfl rfl rfl <| LX.world (W' := WA w0 base (PWl bp al L cl s7 m5 fr)) (fun w hw => hw.drop (List.sublist_cons_self _ _)) <| LX.sub (l' := [(0, _), (1, _), (5, _), (6, _), (41, _)]) ⟨rfl, rfl, rfl, rfl, rfl, trivial⟩ <| LX.next <| PX.thenN ?_
    refine CX.cond rfl (fun hb3 => ?_) (fun hb3 => ?_)
    · try simp at hb3
      rw [show isB t [[93]] = true from hb3, if_pos rfl] at hr
      refine CX.region <| LX.pure (Y.move rfl) rfl rfl rfl <| LX.pure (Y.move rfl) rfl rfl rfl <| LX.callQ (pos_q ht (fun w hw => blkL hw (i := 0) rfl) (fun w hw => hL.push hw)) Pc.en36 rfl rfl rfl rfl rfl ?_
      obtain ⟨hlen, hr⟩ := Go.Pa.node_bnd hr
      refine LX.call (node_c (s := s7) (m := m5) (15) t.pos [] none 0 0 [] hlen) Pe.en15 rfl rfl rfl rfl rfl ?_
      intro q
      refine LX.pure (Y.assign rfl) rfl rfl rfl <| LX.sub (l' := [(0, _), (1, _), (5, _), (6, _), (7, _)]) ⟨rfl, rfl, rfl, rfl, rfl, trivial⟩ <| LX.next ?_
      exact PX.seam ((s7.out.length : Int), (s7.nod 15 t.pos [] []), (m5.put q 15 t.pos [] (.slice none 0 0) (m5.rs))) ⟨rfl, rfl, rfl, rfl, rfl, trivial⟩ (fun w hw => ⟨⟨hr, put_nil (op := 15) (pos := t.pos) (x := []) hnd7 (by unfold Go.SX.inI; omega) hin2, gI.len hlen⟩, hw⟩)
    try simp at hb3
    rw [show isB t [[93]] = false from hb3, if_neg Bool.false_ne_true] at hr
    refine CX.region <| LX.pure (Y.move rfl) rfl rfl rfl ?_
    obtain ⟨r8, e8, hok8, hst8⟩ := Go.Pa.bnd_some hr
    refine LX.callP (hTest n (Nat.le_refl _) s7 m5 (fr) r8 e8 hnd7) Pg.en37 rfl rfl rfl rfl rfl (fun y => fun _ w ha hw => ⟨ha.defs, .inr ⟨y, rfl, hst8 _ _ hw.1, hw.2⟩⟩) ?_
    rintro ⟨k8, s8, m8⟩
    refine LX.have fun ⟨hr8, hnd8, hk8⟩ => ?_
    replace hr := hok8 _ _ hr8
    try dsimp only
    refine LX.pure (Y.assign rfl) rfl rfl rfl <| LX.sub (l' := [(0, _), (1, _), (5, _), (6, _), (7, _)]) ⟨rfl, rfl, rfl, rfl, rfl, trivial⟩ <| LX.next ?_
    exact PX.seam (k8, s8, m8) ⟨rfl, rfl, rfl, rfl, rfl, trivial⟩ (fun w hw => ⟨⟨hr, hnd8, hk8⟩, hw⟩)
  clear hr
  rintro ⟨to, s10, m10⟩
  refine CX.have fun ⟨hr, hnd10, hk10⟩ => ?_
  try dsimp only at hr ⊢
  refine CX.seq <| CX.region <| LX.pure (Y.move rfl) rfl rfl rfl ?_
  obtain ⟨r9, e9, hok9, hst9⟩ := Go.Pa.bnd_some hr
  refine LX.callP (must_p hS hL hln [93] e9) Pf.en41 rfl rfl rfl rfl rfl (fun y => fun _ w ha hw => ⟨ha.defs, .inr ⟨y, rfl, hst9 _ _ hw.1, hw.2.drop (.cons_cons _ (.cons _ (List.sublist_append_right _ _)))⟩⟩) ?_
  rintro ⟨p9, s9⟩
  refine LX.have fun ⟨hr9, hou9, hp9⟩ => ?_
  replace hou9 : s9.out = s10.out := hou9
  have hnd9 : NdsR 3 m10.rs m10.cells s9.out := by rw [hou9]; exact hnd10
  replace hr := hok9 _ _ hr9
  refine LX.world (W' := WA w0 base (PWl bp al L cl s9 m10 fr)) (fun w hw => by show WA w0 base (PBl bp al L cl s9 m10 :: .row m10.g m10.c s9.out.length 31 5 m10.cells :: (m10.rs ++ fr)) w; rw [hou9]; exact hw) ?_
  try dsimp only
  obtain ⟨a9, o9, d9, f9, g9⟩ := s9
  obtain ⟨d, hd, hdl, hr⟩ := Go.Pa.outn_bnd hr
  obtain rfl : d9 = d + 1 := hd
  try dsimp only
  refine LX.sub (l' := [(0, _), (1, _), (5, _), (6, _), (7, _)]) ⟨rfl, rfl, rfl, rfl, rfl, trivial⟩ <| LX.next <| PX.thenN <| CX.seq <| CX.region <| LX.pure (Y.move rfl) rfl rfl rfl <| LX.pure (Y.nilCheck rfl) rfl rfl rfl <| LX.pure (Y.fieldAddr0 Pd.fo41_3 rfl) rfl rfl rfl <| LX.pure (Y.ldB 0 Pa.one3 rfl rfl rfl) rfl rfl rfl <| LX.pure (Y.subN rfl rfl (by (simp only []; omega)) (by (simp only []; omega))) rfl rfl rfl <| LX.pure (Y.nilCheck rfl) rfl rfl rfl <| LX.pure (Y.fieldAddr0 Pd.fo41_3 rfl) rfl rfl rfl <| LX.storeB 0 Pb.sz3 rfl rfl rfl rfl rfl rfl rfl rfl <| LX.sub (l' := [(0, _), (1, _), (5, _), (6, _), (7, _)]) ⟨rfl, rfl, rfl, rfl, rfl, trivial⟩ <| LX.next <| PX.thenN <| CX.seq <| CX.region <| LX.pure (Y.move rfl) rfl rfl rfl <| LX.pure (Y.move rfl) rfl rfl rfl <| LX.pure (Y.move rfl) rfl rfl rfl <| LX.pure (Y.move rfl) rfl rfl rfl <| LX.pure (Y.move rfl) rfl rfl rfl <| LX.buildSlice (e := 3) (size := 1) rfl rfl (fun _ => by kernel_rfl) rfl (by decide) rfl rfl rfl ?_
  intro gK
  obtain ⟨hlen, hre⟩ := Go.Pa.node_end hr
  refine LX.world (W' := WA w0 base (PBl bp al L cl (⟨a9, o9, d, f9, g9⟩ : Go.Pa.St) m10 :: ROl (⟨a9, o9, d, f9, g9⟩ : Go.Pa.St) m10 :: .row (some gK) 3 3 3 1 ([k, fr5, to].map iv) :: (m10.rs ++ fr))) (fun w hw => (show WA w0 base (.row (some gK) 3 3 3 1 ([k, fr5, to].map iv) :: PWl bp al L cl (⟨a9, o9, d, f9, g9⟩ : Go.Pa.St) m10 fr) w from hw).perm (by (refine perm_cnt fun x => ?_; simp only [PWl, PBl, ROl, z1, z2, z3, z4, z5, z6]; omega))) ?_
  refine LX.call (node_c (s := (⟨a9, o9, d, f9, g9⟩ : Go.Pa.St)) (m := m10) (14) pos [] (some ⟨gK, 0, none⟩) 3 3 [k, fr5, to] hlen) Pe.en15 rfl rfl rfl rfl rfl ?_
  intro q
  refine LX.pure (Y.assign rfl) rfl rfl rfl <| LX.sub (l' := [(4, _)]) ⟨rfl, trivial⟩ <| LX.next <| PX.thenN <| CX.ret <| PX.ret1 (by simp) Tryd.results79 rfl ?_
  exact fun w hw => .inl ⟨(((⟨a9, o9, d, f9, g9⟩ : Go.Pa.St).out.length : Int), ((⟨a9, o9, d, f9, g9⟩ : Go.Pa.St).nod 14 pos [] [k, fr5, to]), (m10.put q 14 pos [] (rv (some gK) 3 3) (.row (some gK) 3 3 3 1 ([k, fr5, to].map iv) :: m10.rs))), rfl, ⟨hre, put_nds (op := 14) (pos := pos) (x := []) hnd9 hw (i := 2) (ks := [k, fr5, to]) rfl (fun z hz => by simp only [List.mem_cons, List.not_mem_nil, or_false] at hz; rcases hz with rfl | rfl | rfl; exact hk.inI; exact hk5.inI; exact hk10.inI) (by simp) (by unfold Go.SX.inI; omega) hp1, gI.len hlen⟩, hw⟩
end Go.Proofs.YtfbenelagdcdgaaDoor

namespace Go.Proofs.YtfbenelagdcdgaaDoor
open Go.SX Go.RowKit Go.Tr Go.Lex
namespace Pj

end Pj
open Go.Proofs.YtfbenelagdcdgaaDoor.Env (EnvS errV sentG)
open Go.Pa (Tk Rs bnd ret isB is_ adv bad take must kinds inn outn node nodeAt setPos)
open Go.Ck (NdsR)
theorem ends_c {w0 : World} {base : Nat} {fr : List It} {bp : Nat} {al : Option Addr} {cl : Nat} {L : List Tk} {s : Go.Pa.St} {m : Mm} (hL : SlAt 3 tokA (Lies w0 base) al L) (hln : L.length ≤ 1099511627776) {t : Tk} (ht : L[s.at_]? = some t) : FnC Tryd.prog 69 #[.pointer (some ⟨bp, 0, none⟩)] (WA w0 base (PBl bp al L cl s m :: fr)) (fun _ : Unit => .bool (decide (t.kind = 5) || decide (t.kind = 8) || isB t [[41], [93], [125], [61], [43, 61], [58]])) (fun _ => WA w0 base (PBl bp al L cl s m :: fr)) := by
  refine FnC.of_body (fn := Tryd.f69) [(0, _)] Tryd.func69 rfl Tryd.ntmps69 rfl ⟨rfl, trivial⟩ ?_
  refine CX.seq <| CX.region <| LX.pure (Y.assign rfl) rfl rfl rfl <| LX.sub (l' := [(0, _), (2, _)]) ⟨rfl, rfl, trivial⟩ <| LX.next <| PX.thenN <| CX.seq <| CX.region <| LX.pure (Y.move rfl) rfl rfl rfl <| LX.callQ (kind_q ht (fun w hw => blkL hw (i := 0) rfl) (fun w hw => hL.push hw)) Pa.en13 rfl rfl rfl rfl rfl <| LX.pure (Y.eqI rfl rfl) rfl rfl rfl <| LX.pure (Y.move rfl) rfl rfl rfl <| LX.sub (l' := [(0, _), (2, _), (6, _)]) ⟨rfl, rfl, rfl, trivial⟩ ?_
  apply LX.joinOr 4 10 6 rfl
  · intro hb1
    have hb1p := hb1
    try simp at hb1p
    refine LX.gF rfl rfl rfl hb1 rfl rfl <| LX.gF rfl rfl rfl hb1 rfl rfl <| LX.gF rfl rfl rfl hb1 rfl rfl <| LX.pure (Y.pickT rfl hb1 rfl) rfl rfl rfl ?_
    exact LX.left ⟨rfl, rfl, rfl, rfl, trivial⟩
  · intro hb1
    have hb1p := hb1
    try simp at hb1p
    refine LX.unguard rfl rfl rfl hb1 <| LX.pure (Y.move rfl) rfl rfl rfl <| LX.unguard rfl rfl rfl hb1 <| LX.callQ (kind_q ht (fun w hw => blkL hw (i := 0) rfl) (fun w hw => hL.push hw)) Pa.en13 rfl rfl rfl rfl rfl <| LX.unguard rfl rfl rfl hb1 <| LX.pure (Y.eqI rfl rfl) rfl rfl rfl <| LX.pure (Y.pickF rfl hb1 rfl) rfl rfl rfl ?_
    exact LX.leftP ⟨rfl, rfl, rfl, rfl, trivial⟩
  refine LX.pure (Y.move rfl) rfl rfl rfl <| LX.sub (l' := [(0, _), (2, _), (11, _)]) ⟨rfl, rfl, rfl, trivial⟩ ?_
  apply LX.joinOr 4 15 11 rfl
  · intro hb2
    have hb2p := hb2
    try simp at hb2p
    refine LX.gF rfl rfl rfl hb2 rfl rfl <| LX.gF rfl rfl rfl hb2 rfl rfl <| LX.gF rfl rfl rfl hb2 rfl rfl <| LX.pure (Y.pickT rfl hb2 rfl) rfl rfl rfl ?_
    exact LX.left ⟨rfl, rfl, rfl, rfl, trivial⟩
  · intro hb2
    have hb2p := hb2
    try simp at hb2p
    refine LX.unguard rfl rfl rfl hb2 <| LX.pure (Y.move rfl) rfl rfl rfl <| LX.unguard rfl rfl rfl hb2 <| LX.buildSlice (e := 9) (size := 1) rfl rfl (fun _ => by kernel_rfl) rfl (by decide) rfl rfl rfl ?_
    intro gS
    refine LX.unguard rfl rfl rfl hb2 <| LX.callQ (is_q ht _ (ss := [[41], [93], [125], [61], [43, 61], [58]]) (by decide) (fun w hw => blkL hw (i := 1) rfl) (fun w hw => hL.push hw) (fun w hw => row_at hw (j := 0) rfl rfl (by decide) (fun i z h => map_A (f := str) (xs := [[41], [93], [125], [61], [43, 61], [58]]) h))) Pd.en20 rfl rfl rfl rfl rfl <| LX.world (W' := WA w0 base (PBl bp al L cl s m :: fr)) (fun w hw => hw.drop (List.sublist_cons_self _ _)) <| LX.pure (Y.pickF rfl hb2 rfl) rfl rfl rfl ?_
    exact LX.leftP ⟨rfl, rfl, rfl, rfl, trivial⟩
  refine LX.pure (Y.assign rfl) rfl rfl rfl <| LX.sub (l' := [(2, _)]) ⟨rfl, trivial⟩ <| LX.next <| PX.thenN <| CX.ret <| PX.ret1 (by simp) Tryd.results69 rfl ?_
  exact fun w hw => ⟨(), congrArg (fun z => Ending.returned (Value.bool z)) (by simp), hw⟩
end Go.Proofs.YtfbenelagdcdgaaDoor

namespace Go.Proofs.YtfbenelagdcdgaaDoor
open Go.SX Go.RowKit Go.Tr Go.Lex
namespace Pk
theorem en69 : Enters Tryd.prog 69 := Enters.of Tryd.func69 (by kernel_rfl) (by kernel_rfl)
theorem el29 : Elem Tryd.prog 29 3 1 8 := Elem.of Pb.un29 (z := .int .i64 0) (by kernel_rfl) rfl
end Pk
open Go.Proofs.YtfbenelagdcdgaaDoor.Env (EnvS errV sentG)
open Go.Pa (Tk Rs bnd ret isB is_ adv bad take must kinds inn outn node nodeAt setPos)
open Go.Ck (NdsR)
theorem iv_head {l : List Int} (h : l ≠ []) : (l.map iv)[0 * 1]? = some (.int .i64 (l.headD 0)) := by
  cases l with
  | nil => exact absurd rfl h
  | cons a r => rfl
theorem iv_snoc (l : List Int) (k : Int) : l.map iv ++ [.int .i64 k] = (l ++ [k]).map iv := by rw [List.map_append]; rfl
theorem gI_snoc {l : List Int} {k : Int} (h : ∀ z ∈ l, gI z) (hk : gI k) : ∀ z ∈ l ++ [k], gI z := fun z hz => (List.mem_append.1 hz).elim (h z) fun h => by cases List.mem_singleton.1 h; exact hk
theorem many_p {w0 : World} {base : Nat} {aE : Nat → Addr} (hS : EnvS w0 base aE) {bp : Nat} {al : Option Addr} {cl : Nat} {L : List Tk} (hL : SlAt 3 tokA (Lies w0 base) al L) (hln : L.length ≤ 1099511627776) (n : Nat) (hTest : ∀ j, j ≤ n → FI w0 base aE al cl L bp 37 (.test) j) : FS w0 base aE al cl L bp 59 #[.pointer (some ⟨bp, 0, none⟩)] (fun z : Int × Bool => .tuple #[.int .i64 z.1, .bool z.2]) (fun z => gI z.1) (.many) (n + 1) := by
  intro s m fr r hr hnd
  change (bnd (Go.Pa.tok L) fun t0 => bnd (Go.Pa.run L nameB n .test) fun k => bnd (Go.Pa.run L nameB n (.manyGo [k] false)) (fun x : List Int × Bool => if x.2 then bnd (node 8 t0.pos [] x.1) fun n => ret (n, true) else ret (x.1.headD 0, false))) s = some r at hr
  refine FnP.of_body (fn := Tryd.f59) [(0, _)] Tryd.func59 rfl Tryd.ntmps59 rfl ⟨rfl, trivial⟩ ?_
  refine CX.seq <| CX.region <| LX.pure (Y.assign rfl) rfl rfl rfl <| LX.pure (Y.assign rfl) rfl rfl rfl <| LX.sub (l' := [(0, _), (2, _), (3, _)]) ⟨rfl, rfl, rfl, trivial⟩ <| LX.next <| PX.thenN <| CX.seq <| CX.region <| LX.pure (Y.move rfl) rfl rfl rfl ?_
  obtain ⟨t0, ht0, hr⟩ := Go.Pa.tok_bnd hr
  have hp0 : inI t0.pos := by obtain ⟨_, _, _, _, _, rfl, _, h⟩ := hL _ _ ht0; exact h
  refine LX.callQ (pos_q ht0 (fun w hw => blkL hw (i := 0) rfl) (fun w hw => hL.push hw)) Pc.en36 rfl rfl rfl rfl rfl <| LX.pure (Y.assign rfl) rfl rfl rfl <| LX.sub (l' := [(0, _), (2, _), (3, _), (4, _)]) ⟨rfl, rfl, rfl, rfl, trivial⟩ <| LX.next <| PX.thenN <| CX.seq <| CX.region <| LX.pure (Y.move rfl) rfl rfl rfl ?_
  obtain ⟨r0, e0, hok0, hst0⟩ := Go.Pa.bnd_some hr
  refine LX.callP (hTest n (Nat.le_refl _) s m (fr) r0 e0 hnd) Pg.en37 rfl rfl rfl rfl rfl (fun y => fun _ w ha hw => ⟨ha.defs, .inr ⟨y, rfl, hst0 _ _ hw.1, hw.2⟩⟩) ?_
  rintro ⟨k, s0, m0⟩
  refine LX.have fun ⟨hr0, hnd0, hk0⟩ => ?_
  replace hr := hok0 _ _ hr0
  try dsimp only
  refine LX.buildSlice (e := 3) (size := 1) rfl rfl (fun _ => by kernel_rfl) rfl (by decide) rfl rfl rfl ?_
  intro gL
  refine LX.pure (Y.assign rfl) rfl rfl rfl <| LX.sub (l' := [(0, _), (2, _), (3, _), (4, _), (5, _)]) ⟨rfl, rfl, rfl, rfl, rfl, trivial⟩ <| LX.next <| PX.thenN <| CX.seq <| CX.region <| LX.pure (Y.assign rfl) rfl rfl rfl <| LX.sub (l' := [(0, _), (2, _), (3, _), (4, _), (5, _), (6, _)]) ⟨rfl, rfl, rfl, rfl, rfl, rfl, trivial⟩ <| LX.next <| PX.thenN <| CX.seq <| CX.block ?_
  refine CX.loop (fun z : List Int × (Option Nat × Nat) × Bool × Go.Pa.St × Mm × Nat => [(0, .pointer (some ⟨bp, 0, none⟩)), (4, .int .i64 t0.pos), (5, rv z.2.1.1 z.1.length z.2.1.2), (6, .bool z.2.2.1)]) (fun (z : List Int × (Option Nat × Nat) × Bool × Go.Pa.St × Mm × Nat) w => (((bnd (Go.Pa.run L nameB z.2.2.2.2.2 (.manyGo z.1 z.2.2.1)) (fun x : List Int × Bool => if x.2 then bnd (node 8 t0.pos [] x.1) fun n => ret (n, true) else ret (x.1.headD 0, false))) z.2.2.2.1 = some r ∧ z.2.2.2.2.2 ≤ n) ∧ NdsR 3 z.2.2.2.2.1.rs z.2.2.2.2.1.cells z.2.2.2.1.out ∧ z.1 ≠ [] ∧ (∀ x ∈ z.1, gI x) ∧ z.1.length ≤ 1000000) ∧ WA w0 base (PWl bp al L cl z.2.2.2.1 z.2.2.2.2.1 (.row z.2.1.1 z.2.1.2 z.1.length 3 1 (z.1.map iv) :: fr)) w) (fun z => z.2.2.2.2.2) ([k], (some gL, 1), false, s0, m0, n) ⟨rfl, rfl, rfl, rfl, trivial⟩ (fun w hw => ⟨⟨⟨hr, Nat.le_refl _⟩, hnd0, by simp, (fun z hz => by cases List.mem_singleton.1 hz; exact hk0), by simp⟩, (show WA w0 base (.row (some gL) 1 1 3 1 ([k].map iv) :: PWl bp al L cl s0 m0 fr) w from hw).perm (show List.Perm (PWl bp al L cl s0 m0 (.row (some gL) 1 1 3 1 ([k].map iv) :: fr)) _ by (refine perm_cnt fun x => ?_; simp only [PWl, PBl, ROl, z1, z2, z3, z4, z5, z6]; omega))⟩) ?_
  clear hr hr0 hnd0 hk0 hok0 hst0 e0
  rintro ⟨l, ⟨g, c⟩, cm, s1, m1, j⟩
  refine CX.have fun ⟨⟨hr, hjn⟩, hnd1, hl0, hg, hlm⟩ => ?_
  replace hlm : l.length ≤ 1000000 := hlm
  replace hr : (bnd (Go.Pa.run L nameB j (.manyGo l cm)) (fun x : List Int × Bool => if x.2 then bnd (node 8 t0.pos [] x.1) fun n => ret (n, true) else ret (x.1.headD 0, false))) s1 = some r := hr
  replace hjn : j ≤ n := hjn
  replace hnd1 : NdsR 3 m1.rs m1.cells s1.out := hnd1
  replace hg : ∀ x ∈ l, gI x := hg
  replace hl0 : l ≠ [] := hl0
  try dsimp only
  obtain ⟨j, rfl⟩ : ∃ i, j = i + 1 := by
    cases j with
    | zero => cases hr
    | succ i => exact ⟨i, rfl⟩
  rw [show Go.Pa.run L nameB (j + 1) (.manyGo l cm) = (bnd (take L [44]) fun b => if b then bnd (Go.Pa.tok L) fun t => if (decide (t.kind = 5) || decide (t.kind = 8) || isB t [[41], [93], [125], [61], [43, 61], [58]]) then ret (l, true) else bnd (Go.Pa.run L nameB j .test) fun k => Go.Pa.grow l (Go.Pa.run L nameB j (.manyGo (l ++ [k]) true)) else ret (l, cm)) from rfl, Go.Pa.bnd_assoc] at hr
  obtain ⟨t, ht, hT, hF⟩ := Go.Pa.take_bnd hr
  have hgh : gI (l.headD 0) := by
    cases l with
    | nil => exact absurd rfl hl0
    | cons a r => exact hg a (List.mem_cons_self ..)
  have hll : l.length ≤ 9223372036854775807 := Nat.le_trans hlm (by decide)
  refine CX.seq <| CX.seq <| CX.region <| LX.pure (Y.move rfl) rfl rfl rfl <| LX.call (take_c hL hln ht [44]) Pd.en40 rfl rfl rfl rfl rfl ?_
  intro _
  refine LX.sub (l' := [(0, _), (4, _), (5, _), (6, _), (13, _)]) ⟨rfl, rfl, rfl, rfl, rfl, trivial⟩ <| LX.next <| PX.thenN ?_
  refine CX.cond rfl (fun hb1 => ?_) (fun hb1 => ?_)
  · try simp at hb1
    rw [show isB t [[44]] = true from hb1]
    replace hr := hT hb1
    refine CX.world (W' := WA w0 base (PWl bp al L cl s1.adv m1 (.row g c l.length 3 1 (l.map iv) :: fr))) (fun w hw => hw) ?_
    rw [if_pos rfl, Go.Pa.bnd_assoc] at hr
    obtain ⟨t3, ht3, hr⟩ := Go.Pa.tok_bnd hr
    refine CX.skip <| PX.thenN <| CX.block <| CX.seq <| CX.region <| LX.pure (Y.assign rfl) rfl rfl rfl <| LX.sub (l' := [(0, _), (4, _), (5, _), (6, _)]) ⟨rfl, rfl, rfl, rfl, trivial⟩ <| LX.next <| PX.thenN <| CX.seq <| CX.seq <| CX.region <| LX.pure (Y.move rfl) rfl rfl rfl <| LX.call (ends_c hL hln ht3) Pk.en69 rfl rfl rfl rfl rfl ?_
    intro _
    refine LX.sub (l' := [(0, _), (4, _), (5, _), (6, _), (15, _)]) ⟨rfl, rfl, rfl, rfl, rfl, trivial⟩ <| LX.next <| PX.thenN ?_
    refine CX.cond rfl (fun hb2 => ?_) (fun hb2 => ?_)
    · try simp at hb2
      rw [if_pos (by simpa using hb2)] at hr
      replace hr := Go.Pa.ret_bnd hr
      rw [if_pos rfl] at hr
      refine CX.exit <| PX.thenE <| PX.blockO rfl <| PX.thenE <| PX.blockE <| PX.thenN <| CX.seq <| CX.seq <| CX.region <| LX.pure (Y.move rfl) rfl rfl rfl <| LX.pure (Y.not rfl) rfl rfl rfl <| LX.sub (l' := [(0, _), (4, _), (5, _), (22, _)]) ⟨rfl, rfl, rfl, rfl, trivial⟩ <| LX.next <| PX.thenN ?_
      refine CX.cond rfl (fun hb3 => ?_) (fun hb3 => ?_)
      · try simp at hb3
        done
      try simp at hb3
      refine CX.skip <| PX.thenN <| CX.seq <| CX.region <| LX.pure (Y.move rfl) rfl rfl rfl <| LX.pure (Y.move rfl) rfl rfl rfl <| LX.pure (Y.move rfl) rfl rfl rfl ?_
      obtain ⟨hlen, hr⟩ := Go.Pa.node_bnd hr
      refine LX.call (node_c (s := s1.adv) (m := m1) (8) t0.pos [] (g.map fun b => ⟨b, 0, none⟩) l.length c l hlen) Pe.en15 rfl rfl rfl rfl rfl ?_
      intro q
      refine LX.pure (Y.assign rfl) rfl rfl rfl <| LX.pure (Y.assign rfl) rfl rfl rfl <| LX.sub (l' := [(2, _), (3, _)]) ⟨rfl, rfl, trivial⟩ <| LX.next <| PX.thenN <| CX.ret <| PX.ret2 (by simp) Tryd.results59 rfl rfl ?_
      exact fun w hw0 => by
        have hw := (show WA w0 base (PBl bp al L cl (s1.adv.nod 8 t0.pos [] l) (m1.put q 8 t0.pos [] (rv g l.length c) (m1.rs)) :: ROl (s1.adv.nod 8 t0.pos [] l) (m1.put q 8 t0.pos [] (rv g l.length c) (m1.rs)) :: (m1.rs ++ (.row g c l.length 3 1 (l.map iv) :: fr))) w from hw0).perm (show List.Perm (PBl bp al L cl (s1.adv.nod 8 t0.pos [] l) (m1.put q 8 t0.pos [] (rv g l.length c) (m1.rs)) :: ROl (s1.adv.nod 8 t0.pos [] l) (m1.put q 8 t0.pos [] (rv g l.length c) (m1.rs)) :: .row g c l.length 3 1 (l.map iv) :: (m1.rs ++ fr)) _ by (refine perm_cnt fun x => ?_; simp only [PWl, PBl, ROl, z1, z2, z3, z4, z5, z6]; omega))
        exact .inl ⟨(((s1.adv.out.length : Int), true), (s1.adv.nod 8 t0.pos [] l), (m1.put q 8 t0.pos [] (rv g l.length c) (.row g c l.length 3 1 (l.map iv) :: m1.rs))), rfl, ⟨Go.Pa.ret_end hr, put_nds (op := 8) (pos := t0.pos) (x := []) hnd1 hw (i := 2) (ks := l) rfl (fun z hz => (hg z hz).inI) hll (by unfold Go.SX.inI; omega) hp0, gI.len hlen⟩, hw⟩
    try simp at hb2
    rw [if_neg (by simpa using hb2), Go.Pa.bnd_assoc] at hr
    refine CX.skip <| PX.thenN <| CX.region <| LX.pure (Y.move rfl) rfl rfl rfl <| LX.pure (Y.move rfl) rfl rfl rfl ?_
    obtain ⟨r2, e2, hok2, hst2⟩ := Go.Pa.bnd_some hr
    refine LX.callP (hTest j (by omega) s1.adv m1 ((.row g c l.length 3 1 (l.map iv) :: fr)) r2 e2 hnd1) Pg.en37 rfl rfl rfl rfl rfl (fun y => fun _ w ha hw => ⟨ha.defs, .inr ⟨y, rfl, hst2 _ _ hw.1, hw.2.drop (.cons_cons _ (List.sublist_cons_self _ _))⟩⟩) ?_
    rintro ⟨k2, s2, m2⟩
    refine LX.have fun ⟨hr2, hnd2, hk2⟩ => ?_
    replace hr := hok2 _ _ hr2
    try dsimp only
    obtain ⟨hlg, hr⟩ := Go.Pa.grow_bnd hr
    refine LX.buildSlice (e := 3) (size := 1) rfl rfl (fun _ => by kernel_rfl) rfl (by decide) rfl rfl rfl ?_
    intro gT
    refine LX.world (W' := WA w0 base (.row (some gT) 1 1 3 1 [.int .i64 k2] :: .row g c l.length 3 1 (l.map iv) :: PWl bp al L cl s2 m2 fr)) (fun w hw => (show WA w0 base (.row (some gT) 1 1 3 1 [.int .i64 k2] :: PWl bp al L cl s2 m2 (.row g c l.length 3 1 (l.map iv) :: fr)) w from hw).perm (by (refine perm_cnt fun x => ?_; simp only [PWl, PBl, ROl, z1, z2, z3, z4, z5, z6]; omega))) ?_
    refine LX.appendT 0 Pk.el29 rfl rfl rfl rfl rfl rfl rfl (by omega) (by omega) rfl rfl rfl ?_
    intro g' cap'
    rw [show l.length + 1 = (l ++ [k2]).length by simp]
    refine LX.world (W' := WA w0 base (PWl bp al L cl s2 m2 (.row g' cap' (l ++ [k2]).length 3 1 ((l ++ [k2]).map iv) :: fr))) (fun w hw => ?_) ?_
    · have h1 : WA w0 base (.row g' cap' (l ++ [k2]).length 3 1 ((l ++ [k2]).map iv) :: PWl bp al L cl s2 m2 fr) w := by rw [← iv_snoc]; exact hw
      exact h1.perm (by (refine perm_cnt fun x => ?_; simp only [PWl, PBl, ROl, z1, z2, z3, z4, z5, z6]; omega))
    refine LX.pure (Y.assign rfl) rfl rfl rfl <| LX.sub (l' := [(0, _), (4, _), (5, _), (6, _)]) ⟨rfl, rfl, rfl, rfl, trivial⟩ <| LX.next <| PX.blockN ?_
    exact PX.again (μ := fun z => z.2.2.2.2.2) (i := (l, (g, c), cm, s1, m1, j + 1)) (l ++ [k2], (g', cap'), true, s2, m2, j) (by show j < j + 1; omega) ⟨rfl, rfl, rfl, rfl, trivial⟩ (fun w hw => ⟨⟨⟨hr, by show j ≤ n; omega⟩, hnd2, by simp, gI_snoc hg hk2, by show (l ++ [k2]).length ≤ 1000000; rw [List.length_append, List.length_singleton]; omega⟩, hw⟩)
  try simp at hb1
  rw [show isB t [[44]] = false from hb1]
  replace hr := hF hb1
  refine CX.world (W' := WA w0 base (PWl bp al L cl s1 m1 (.row g c l.length 3 1 (l.map iv) :: fr))) (fun w hw => hw) ?_
  rw [if_neg Bool.false_ne_true] at hr
  replace hr := Go.Pa.ret_bnd hr
  refine CX.exit <| PX.thenE <| PX.thenE <| PX.blockE <| PX.thenN <| CX.seq <| CX.seq <| CX.region <| LX.pure (Y.move rfl) rfl rfl rfl <| LX.pure (Y.not rfl) rfl rfl rfl <| LX.sub (l' := [(0, _), (4, _), (5, _), (22, _)]) ⟨rfl, rfl, rfl, rfl, trivial⟩ <| LX.next <| PX.thenN ?_
  refine CX.cond rfl (fun hb4 => ?_) (fun hb4 => ?_)
  · try simp at hb4
    subst hb4
    refine CX.seq <| CX.region ?_
    refine LX.world (W' := WA w0 base (.row g c l.length 3 1 (l.map iv) :: PWl bp al L cl s1 m1 fr)) (fun w hw => (show WA w0 base (PWl bp al L cl s1 m1 (.row g c l.length 3 1 (l.map iv) :: fr)) w from hw).perm (by (refine perm_cnt fun x => ?_; simp only [PWl, PBl, ROl, z1, z2, z3, z4, z5, z6]; omega))) ?_
    refine LX.pure (Y.move rfl) rfl rfl rfl <| LX.pure (Y.idxR 0 (i := 0) Pb.un29 Pb.sz3 rfl rfl rfl (List.length_pos_iff.2 hl0)) rfl rfl rfl <| LX.pure (Y.ldR 0 (v := .int .i64 (l.headD 0)) Pa.one3 rfl rfl (iv_head hl0)) rfl rfl rfl <| LX.pure (Y.assign rfl) rfl rfl rfl <| LX.pure (Y.assign rfl) rfl rfl rfl <| LX.sub (l' := [(0, _), (2, _), (3, _), (4, _), (5, _)]) ⟨rfl, rfl, rfl, rfl, rfl, trivial⟩ <| LX.next <| PX.thenN <| CX.ret <| PX.thenR <| PX.ret2 (by simp) Tryd.results59 rfl rfl ?_
    exact fun w hw0 => .inl ⟨((l.headD 0, false), s1, m1), rfl, ⟨by rw [if_neg Bool.false_ne_true] at hr; exact Go.Pa.ret_end hr, hnd1, hgh⟩, hw0.drop (List.sublist_cons_self _ _)⟩
  try simp at hb4
  subst hb4
  rw [if_pos rfl] at hr
  refine CX.skip <| PX.thenN <| CX.seq <| CX.region <| LX.pure (Y.move rfl) rfl rfl rfl <| LX.pure (Y.move rfl) rfl rfl rfl <| LX.pure (Y.move rfl) rfl rfl rfl ?_
  obtain ⟨hlen, hr⟩ := Go.Pa.node_bnd hr
  refine LX.call (node_c (s := s1) (m := m1) (8) t0.pos [] (g.map fun b => ⟨b, 0, none⟩) l.length c l hlen) Pe.en15 rfl rfl rfl rfl rfl ?_
  intro q
  refine LX.pure (Y.assign rfl) rfl rfl rfl <| LX.pure (Y.assign rfl) rfl rfl rfl <| LX.sub (l' := [(2, _), (3, _)]) ⟨rfl, rfl, trivial⟩ <| LX.next <| PX.thenN <| CX.ret <| PX.ret2 (by simp) Tryd.results59 rfl rfl ?_
  exact fun w hw0 => by
    have hw := (show WA w0 base (PBl bp al L cl (s1.nod 8 t0.pos [] l) (m1.put q 8 t0.pos [] (rv g l.length c) (m1.rs)) :: ROl (s1.nod 8 t0.pos [] l) (m1.put q 8 t0.pos [] (rv g l.length c) (m1.rs)) :: (m1.rs ++ (.row g c l.length 3 1 (l.map iv) :: fr))) w from hw0).perm (show List.Perm (PBl bp al L cl (s1.nod 8 t0.pos [] l) (m1.put q 8 t0.pos [] (rv g l.length c) (m1.rs)) :: ROl (s1.nod 8 t0.pos [] l) (m1.put q 8 t0.pos [] (rv g l.length c) (m1.rs)) :: .row g c l.length 3 1 (l.map iv) :: (m1.rs ++ fr)) _ by (refine perm_cnt fun x => ?_; simp only [PWl, PBl, ROl, z1, z2, z3, z4, z5, z6]; omega))
    exact .inl ⟨(((s1.out.length : Int), true), (s1.nod 8 t0.pos [] l), (m1.put q 8 t0.pos [] (rv g l.length c) (.row g c l.length 3 1 (l.map iv) :: m1.rs))), rfl, ⟨Go.Pa.ret_end hr, put_nds (op := 8) (pos := t0.pos) (x := []) hnd1 hw (i := 2) (ks := l) rfl (fun z hz => (hg z hz).inI) hll (by unfold Go.SX.inI; omega) hp0, gI.len hlen⟩, hw⟩
end Go.Proofs.YtfbenelagdcdgaaDoor

namespace Go.Proofs.YtfbenelagdcdgaaDoor
open Go.SX Go.RowKit Go.Tr Go.Lex
namespace Pl
theorem en59 : Enters Tryd.prog 59 := Enters.of Tryd.func59 (by kernel_rfl) (by kernel_rfl)
theorem fa31_2 : FieldOffA Tryd.prog 31 2 2 := fun a w => by kernel_rfl
theorem fo31_2 : FieldOff Tryd.prog 31 2 2 := fun b o w => by kernel_rfl
theorem sz31 : SizeIs Tryd.prog 31 5 := fun w => by kernel_rfl
end Pl
open Go.Proofs.YtfbenelagdcdgaaDoor.Env (EnvS errV sentG)
open Go.Pa (Tk Rs bnd ret isB is_ adv bad take must kinds inn outn node nodeAt setPos)
open Go.Ck (NdsR)
theorem round_p {w0 : World} {base : Nat} {aE : Nat → Addr} (hS : EnvS w0 base aE) {bp : Nat} {al : Option Addr} {cl : Nat} {L : List Tk} (hL : SlAt 3 tokA (Lies w0 base) al L) (hln : L.length ≤ 1099511627776) (n : Nat) (hMany : ∀ j, j ≤ n → FS w0 base aE al cl L bp 59 #[.pointer (some ⟨bp, 0, none⟩)] (fun z : Int × Bool => .tuple #[.int .i64 z.1, .bool z.2]) (fun z => gI z.1) (.many) j) : FI w0 base aE al cl L bp 81 (.round) (n + 1) := by
  intro s m fr r hr hnd
  change (bnd (must L [40]) fun pos => bnd (inn pos) fun _ => bnd (take L [41]) fun b => if b then bnd outn fun _ => node 8 pos [] [] else bnd (Go.Pa.run L nameB n .many) fun x => bnd (must L [41]) fun _ => bnd outn fun _ => if x.2 then bnd (setPos x.1 pos) fun _ => ret x.1 else ret x.1) s = some r at hr
  refine FnP.of_body (fn := Tryd.f81) [(0, _)] Tryd.func81 rfl Tryd.ntmps81 rfl ⟨rfl, trivial⟩ ?_
  refine CX.seq <| CX.region <| LX.pure (Y.assign rfl) rfl rfl rfl <| LX.sub (l' := [(0, _), (2, _)]) ⟨rfl, rfl, trivial⟩ <| LX.next <| PX.thenN <| CX.seq <| CX.region <| LX.pure (Y.move rfl) rfl rfl rfl ?_
  obtain ⟨r1, e1, hok1, hst1⟩ := Go.Pa.bnd_some hr
  refine LX.callP (must_p hS hL hln [40] e1) Pf.en41 rfl rfl rfl rfl rfl (fun y => fun _ w ha hw => ⟨ha.defs, .inr ⟨y, rfl, hst1 _ _ hw.1, hw.2.drop (.cons_cons _ (.cons _ (List.sublist_append_right _ _)))⟩⟩) ?_
  rintro ⟨pos, s1⟩
  refine LX.have fun ⟨hr1, hou1, hp1⟩ => ?_
  replace hou1 : s1.out = s.out := hou1
  have hnd1 : NdsR 3 m.rs m.cells s1.out := by rw [hou1]; exact hnd
  replace hr := hok1 _ _ hr1
  refine LX.world (W' := WA w0 base (PWl bp al L cl s1 m fr)) (fun w hw => by show WA w0 base (PBl bp al L cl s1 m :: .row m.g m.c s1.out.length 31 5 m.cells :: (m.rs ++ fr)) w; rw [hou1]; exact hw) ?_
  try dsimp only
  refine LX.pure (Y.assign rfl) rfl rfl rfl <| LX.sub (l' := [(0, _), (2, _), (3, _)]) ⟨rfl, rfl, rfl, trivial⟩ <| LX.next <| PX.thenN <| CX.seq <| CX.region <| LX.pure (Y.move rfl) rfl rfl rfl <| LX.pure (Y.move rfl) rfl rfl rfl ?_
  obtain ⟨r2, e2, hok2, hst2⟩ := Go.Pa.bnd_some hr
  refine LX.callP (in_p hS hL hln pos e2) Pf.en39 rfl rfl rfl rfl rfl (fun y => fun _ w ha hw => ⟨ha.defs, .inr ⟨y, rfl, hst2 _ _ hw.1, hw.2.drop (.cons_cons _ (.cons _ (List.sublist_append_right _ _)))⟩⟩) ?_
  rintro ⟨_, s2⟩
  refine LX.have fun ⟨hr2, hou2, _⟩ => ?_
  replace hou2 : s2.out = s1.out := hou2
  have hnd2 : NdsR 3 m.rs m.cells s2.out := by rw [hou2]; exact hnd1
  replace hr := hok2 _ _ hr2
  refine LX.world (W' := WA w0 base (PWl bp al L cl s2 m fr)) (fun w hw => by show WA w0 base (PBl bp al L cl s2 m :: .row m.g m.c s2.out.length 31 5 m.cells :: (m.rs ++ fr)) w; rw [hou2]; exact hw) ?_
  try dsimp only
  refine LX.sub (l' := [(0, _), (2, _), (3, _)]) ⟨rfl, rfl, rfl, trivial⟩ <| LX.next <| PX.thenN <| CX.seq <| CX.seq <| CX.region <| LX.pure (Y.move rfl) rfl rfl rfl ?_
  obtain ⟨t, ht, hT, hF⟩ := Go.Pa.take_bnd hr
  refine LX.call (take_c hL hln ht [41]) Pd.en40 rfl rfl rfl rfl rfl ?_
  intro _
  refine LX.sub (l' := [(0, _), (2, _), (3, _), (12, _)]) ⟨rfl, rfl, rfl, rfl, trivial⟩ <| LX.next <| PX.thenN ?_
  refine CX.cond rfl (fun hb1 => ?_) (fun hb1 => ?_)
  · try simp at hb1
    rw [show isB t [[41]] = true from hb1]
    replace hr := hT hb1
    refine CX.world (W' := WA w0 base (PWl bp al L cl s2.adv m fr)) (fun w hw => hw) ?_
    obtain ⟨a2, o2, d2, f2, g2⟩ := s2
    obtain ⟨d, hd, hdl, hr⟩ := Go.Pa.outn_bnd hr
    obtain rfl : d2 = d + 1 := hd
    try dsimp only
    refine CX.seq <| CX.region <| LX.pure (Y.move rfl) rfl rfl rfl <| LX.pure (Y.nilCheck rfl) rfl rfl rfl <| LX.pure (Y.fieldAddr0 Pd.fo41_3 rfl) rfl rfl rfl <| LX.pure (Y.ldB 0 Pa.one3 rfl rfl rfl) rfl rfl rfl <| LX.pure (Y.subN rfl rfl (by (simp only []; omega)) (by (simp only []; omega))) rfl rfl rfl <| LX.pure (Y.nilCheck rfl) rfl rfl rfl <| LX.pure (Y.fieldAddr0 Pd.fo41_3 rfl) rfl rfl rfl <| LX.storeB 0 Pb.sz3 rfl rfl rfl rfl rfl rfl rfl rfl <| LX.sub (l' := [(0, _), (2, _), (3, _)]) ⟨rfl, rfl, rfl, trivial⟩ <| LX.next <| PX.thenN <| CX.seq <| CX.region <| LX.pure (Y.move rfl) rfl rfl rfl <| LX.pure (Y.move rfl) rfl rfl rfl ?_
    obtain ⟨hlen, hre⟩ := Go.Pa.node_end hr
    refine LX.call (node_c (s := (⟨a2 + 1, o2, d, f2, g2⟩ : Go.Pa.St)) (m := m) (8) pos [] none 0 0 [] hlen) Pe.en15 rfl rfl rfl rfl rfl ?_
    intro q
    refine LX.pure (Y.assign rfl) rfl rfl rfl <| LX.sub (l' := [(0, _), (2, _), (3, _)]) ⟨rfl, rfl, rfl, trivial⟩ <| LX.next <| PX.thenN <| CX.ret <| PX.thenR <| PX.ret1 (by simp) Tryd.results81 rfl ?_
    exact fun w hw => .inl ⟨(((⟨a2 + 1, o2, d, f2, g2⟩ : Go.Pa.St).out.length : Int), ((⟨a2 + 1, o2, d, f2, g2⟩ : Go.Pa.St).nod 8 pos [] []), (m.put q 8 pos [] (.slice none 0 0) (m.rs))), rfl, ⟨hre, put_nil (op := 8) (pos := pos) (x := []) hnd2 (by unfold Go.SX.inI; omega) hp1, gI.len hlen⟩, hw⟩
  try simp at hb1
  rw [show isB t [[41]] = false from hb1]
  replace hr := hF hb1
  refine CX.world (W' := WA w0 base (PWl bp al L cl s2 m fr)) (fun w hw => hw) <| CX.skip <| PX.thenN <| CX.seq <| CX.region <| LX.pure (Y.move rfl) rfl rfl rfl ?_
  obtain ⟨r4, e4, hok4, hst4⟩ := Go.Pa.bnd_some hr
  refine LX.callP (hMany n (Nat.le_refl _) s2 m (fr) r4 e4 hnd2) Pl.en59 rfl rfl rfl rfl rfl (fun y => fun _ w ha hw => ⟨ha.defs, .inr ⟨y, rfl, hst4 _ _ hw.1, hw.2⟩⟩) ?_
  rintro ⟨⟨k4, c4⟩, s4, m4⟩
  refine LX.have fun ⟨hr4, hnd4, hk4⟩ => ?_
  replace hr := hok4 _ _ hr4
  try dsimp only
  refine LX.pure (Y.move rfl) rfl rfl rfl <| LX.pure (Y.extract rfl rfl) rfl rfl rfl <| LX.pure (Y.extract rfl rfl) rfl rfl rfl <| LX.pure (Y.assign rfl) rfl rfl rfl <| LX.pure (Y.assign rfl) rfl rfl rfl <| LX.sub (l' := [(0, _), (2, _), (3, _), (4, _), (5, _)]) ⟨rfl, rfl, rfl, rfl, rfl, trivial⟩ <| LX.next <| PX.thenN <| CX.seq <| CX.region <| LX.pure (Y.move rfl) rfl rfl rfl ?_
  obtain ⟨r5, e5, hok5, hst5⟩ := Go.Pa.bnd_some hr
  refine LX.callP (must_p hS hL hln [41] e5) Pf.en41 rfl rfl rfl rfl rfl (fun y => fun _ w ha hw => ⟨ha.defs, .inr ⟨y, rfl, hst5 _ _ hw.1, hw.2.drop (.cons_cons _ (.cons _ (List.sublist_append_right _ _)))⟩⟩) ?_
  rintro ⟨p5, s5⟩
  refine LX.have fun ⟨hr5, hou5, hp5⟩ => ?_
  replace hou5 : s5.out = s4.out := hou5
  have hnd5 : NdsR 3 m4.rs m4.cells s5.out := by rw [hou5]; exact hnd4
  replace hr := hok5 _ _ hr5
  refine LX.world (W' := WA w0 base (PWl bp al L cl s5 m4 fr)) (fun w hw => by show WA w0 base (PBl bp al L cl s5 m4 :: .row m4.g m4.c s5.out.length 31 5 m4.cells :: (m4.rs ++ fr)) w; rw [hou5]; exact hw) ?_
  try dsimp only
  obtain ⟨a5, o5, d5, f5, g5⟩ := s5
  obtain ⟨d, hd, hdl, hr⟩ := Go.Pa.outn_bnd hr
  obtain rfl : d5 = d + 1 := hd
  try dsimp only
  refine LX.sub (l' := [(0, _), (2, _), (3, _), (4, _), (5, _)]) ⟨rfl, rfl, rfl, rfl, rfl, trivial⟩ <| LX.next <| PX.thenN <| CX.seq <| CX.region <| LX.pure (Y.move rfl) rfl rfl rfl <| LX.pure (Y.nilCheck rfl) rfl rfl rfl <| LX.pure (Y.fieldAddr0 Pd.fo41_3 rfl) rfl rfl rfl <| LX.pure (Y.ldB 0 Pa.one3 rfl rfl rfl) rfl rfl rfl <| LX.pure (Y.subN rfl rfl (by (simp only []; omega)) (by (simp only []; omega))) rfl rfl rfl <| LX.pure (Y.nilCheck rfl) rfl rfl rfl <| LX.pure (Y.fieldAddr0 Pd.fo41_3 rfl) rfl rfl rfl <| LX.storeB 0 Pb.sz3 rfl rfl rfl rfl rfl rfl rfl rfl <| LX.sub (l' := [(0, _), (2, _), (3, _), (4, _), (5, _)]) ⟨rfl, rfl, rfl, rfl, rfl, trivial⟩ <| LX.next <| PX.thenN <| CX.seq <| CX.seq <| CX.region <| LX.pure (Y.move rfl) rfl rfl rfl <| LX.sub (l' := [(0, _), (2, _), (3, _), (4, _), (37, _)]) ⟨rfl, rfl, rfl, rfl, rfl, trivial⟩ <| LX.next <| PX.thenN ?_
  refine CX.cond rfl (fun hb2 => ?_) (fun hb2 => ?_)
  · try simp at hb2
    subst hb2
    rw [if_pos rfl] at hr
    obtain ⟨x, hx0, hx, hr⟩ := Go.Pa.setPos_bnd (k := k4) hr
    have hxl := (hnd5.lens hx).1
    have hxc := (hnd5.lens hx).2
    refine CX.region <| LX.pure (Y.move rfl) rfl rfl rfl <| LX.pure (Y.nilCheck rfl) rfl rfl rfl <| LX.pure (Y.fieldAddr0 Pd.fo41_2 rfl) rfl rfl rfl <| LX.pure (Y.ldB 0 Pd.one23 rfl rfl rfl) rfl rfl rfl <| LX.pure (Y.move rfl) rfl rfl rfl <| LX.pure (Y.move rfl) rfl rfl rfl <| LX.pure (Y.idxRZ 1 (i := k4.toNat) Pd.un23 Pl.sz31 rfl rfl (Int.toNat_of_nonneg hx0).symm rfl hxl) rfl rfl rfl <| LX.pure (Y.fieldAddr Pl.fo31_2 rfl) rfl rfl rfl <| LX.storeR 1 (off := k4.toNat * 5 + 2) Pb.sz3 rfl rfl rfl rfl rfl (by omega) rfl rfl <| LX.sub (l' := [(2, _), (4, _)]) ⟨rfl, rfl, trivial⟩ <| LX.next <| PX.thenN <| CX.seq <| CX.region <| LX.pure (Y.move rfl) rfl rfl rfl <| LX.pure (Y.assign rfl) rfl rfl rfl <| LX.sub (l' := [(2, _)]) ⟨rfl, trivial⟩ <| LX.next <| PX.thenN <| CX.ret <| PX.ret1 (by simp) Tryd.results81 rfl ?_
    exact fun w hw => .inl ⟨(k4, (⟨a5, o5.set k4.toNat { x with pos := pos }, d, f5, g5⟩ : Go.Pa.St), (⟨m4.g, m4.c, m4.cells.set (k4.toNat * 5 + 2) (.int .i64 pos), m4.rs⟩ : Mm)), rfl, ⟨Go.Pa.ret_end hr, hnd5.setPos hx hp1, hk4⟩, by show WA w0 base (blk bp [.slice al L.length cl, .int .i64 (a5 : Int), rv m4.g (o5.set _ _).length m4.c, .int .i64 (d : Int), .bool f5, .int .i64 (g5 : Int)] 41 :: .row m4.g m4.c (o5.set _ _).length 31 5 _ :: (m4.rs ++ fr)) w; rw [List.length_set]; exact hw⟩
  try simp at hb2
  subst hb2
  rw [if_neg Bool.false_ne_true] at hr
  refine CX.skip <| PX.thenN <| CX.seq <| CX.region <| LX.pure (Y.move rfl) rfl rfl rfl <| LX.pure (Y.assign rfl) rfl rfl rfl <| LX.sub (l' := [(2, _)]) ⟨rfl, trivial⟩ <| LX.next <| PX.thenN <| CX.ret <| PX.ret1 (by simp) Tryd.results81 rfl ?_
  exact fun w hw => .inl ⟨(k4, (⟨a5, o5, d, f5, g5⟩ : Go.Pa.St), m4), rfl, ⟨Go.Pa.ret_end hr, hnd5, hk4⟩, hw⟩
end Go.Proofs.YtfbenelagdcdgaaDoor

namespace Go.Proofs.YtfbenelagdcdgaaDoor
open Go.SX Go.RowKit Go.Tr Go.Lex
namespace Pm
theorem en81 : Enters Tryd.prog 81 := Enters.of Tryd.func81 (by kernel_rfl) (by kernel_rfl)
theorem en82 : Enters Tryd.prog 82 := Enters.of Tryd.func82 (by kernel_rfl) (by kernel_rfl)
theorem en83 : Enters Tryd.prog 83 := Enters.of Tryd.func83 (by kernel_rfl) (by kernel_rfl)
end Pm
open Go.Proofs.YtfbenelagdcdgaaDoor.Env (EnvS errV sentG)
open Go.Pa (Tk Rs bnd ret isB is_ adv bad take must kinds inn outn node nodeAt setPos)
open Go.Ck (NdsR)
theorem atom_p {w0 : World} {base : Nat} {aE : Nat → Addr} (hS : EnvS w0 base aE) {bp : Nat} {al : Option Addr} {cl : Nat} {L : List Tk} (hL : SlAt 3 tokA (Lies w0 base) al L) (hln : L.length ≤ 1099511627776) (n : Nat) (hRound : ∀ j, j ≤ n → FI w0 base aE al cl L bp 81 (.round) j) (hSquare : ∀ j, j ≤ n → FI w0 base aE al cl L bp 82 (.square) j) (hCurly : ∀ j, j ≤ n → FI w0 base aE al cl L bp 83 (.curly) j) : FI w0 base aE al cl L bp 77 (.atom) (n + 1) := by
  intro s m fr r hr hnd
  change (bnd (Go.Pa.tok L) fun t => if t.kind = 1 then bnd adv fun _ => node 6 t.pos t.text [] else if t.kind = 2 then bnd adv fun _ => node 4 t.pos t.text [] else if t.kind = 3 then bnd (Go.Pa.run L nameB n (.strGo [])) fun x => node 5 t.pos x [] else bnd (take L [78, 111, 110, 101]) fun b => if b then node 1 t.pos [] [] else bnd (take L [84, 114, 117, 101]) fun b => if b then node 2 t.pos [] [] else bnd (take L [70, 97, 108, 115, 101]) fun b => if b then node 3 t.pos [] [] else if isB t [[40]] then Go.Pa.run L nameB n .round else if isB t [[91]] then Go.Pa.run L nameB n .square else if isB t [[123]] then Go.Pa.run L nameB n .curly else bad L) s = some r at hr
  obtain ⟨t, ht, hr⟩ := Go.Pa.tok_bnd hr
  obtain ⟨a0, cs, hav, hcl, hLt, rfl, hin1, hin2⟩ := hL _ _ ht
  have hj : s.at_ < L.length := (List.getElem?_eq_some_iff.1 ht).1
  refine FnP.of_body (fn := Tryd.f77) [(0, _)] Tryd.func77 rfl Tryd.ntmps77 rfl ⟨rfl, trivial⟩ ?_
  refine CX.seq <| CX.region <| LX.pure (Y.assign rfl) rfl rfl rfl <| LX.sub (l' := [(0, _), (2, _)]) ⟨rfl, rfl, trivial⟩ <| LX.next <| PX.thenN <| CX.seq <| CX.regionM [(0, .anywhere), (1, .anywhere), (2, .anywhere), (3, .held), (4, .anywhere), (5, .anywhere), (6, .anywhere), (7, .held), (8, .held), (9, .held), (10, .alone), (11, .alone)] rfl (by kernel_rfl) <| MX.lift0 (i := 0) rfl (Y.move rfl) rfl rfl rfl <| MX.lift0 (i := 1) rfl (Y.nilCheck rfl) rfl rfl rfl <| MX.lift0 (i := 2) rfl (Y.fieldAddr0 Pa.fo41_0 rfl) rfl rfl rfl <| MX.lift1 (i := 3) (pend' := []) rfl (fun w hw => by exact hw) (Y.ldB 0 Pa.one37 rfl rfl rfl) rfl rfl rfl (by kernel_rfl) <| MX.lift0 (i := 4) rfl (Y.move rfl) rfl rfl rfl <| MX.lift0 (i := 5) rfl (Y.nilCheck rfl) rfl rfl rfl <| MX.lift0 (i := 6) rfl (Y.fieldAddr0 Pa.fo41_1 rfl) rfl rfl rfl <| MX.lift1 (i := 7) (pend' := [3]) rfl (fun w hw => by exact hw) (Y.ldB 0 Pa.one3 rfl rfl rfl) rfl rfl rfl (by kernel_rfl) <| MX.lift1 (i := 8) (pend' := []) rfl (fun w hw => by exact hw) (Y.idxZ Pa.un37 Pa.sz57 rfl rfl hav (j := s.at_) rfl hj) rfl rfl rfl (by kernel_rfl) <| MX.lift1 (i := 9) (pend' := []) rfl (fun w hw => by exact hw) (Y.ldAO (cs := [.int .i64 t.kind, str t.text, .int .i64 t.pos]) Pd.ag57 rfl hLt rfl) rfl rfl rfl (by kernel_rfl) <| MX.force (i := 10) rfl <| LX.alloc rfl Pd.zv57 rfl rfl rfl ?_
  intro b3
  refine LX.nextM [9] (by kernel_rfl) (fun _ => (fun w hw => by exact hw.drop (List.sublist_cons_self _ _))) <| MX.force (i := 11) rfl <| LX.storeA 0 Pd.ag57 rfl rfl rfl rfl rfl rfl rfl rfl rfl <| LX.nextM [] (by kernel_rfl) (fun h => absurd rfl h) <| MX.sub (l' := [(0, _), (2, _), (3, _)]) ⟨rfl, rfl, rfl, trivial⟩ <| MX.done <| PX.thenN <| CX.seq <| CX.block <| CX.seq <| CX.region ?_
  refine LX.world (W' := WA w0 base (PBl bp al L cl s m :: ROl s m :: blk b3 [.int .i64 t.kind, str t.text, .int .i64 t.pos] 57 :: (m.rs ++ fr))) (fun w hw => (show WA w0 base (blk b3 [.int .i64 t.kind, str t.text, .int .i64 t.pos] 57 :: PWl bp al L cl s m fr) w from hw).perm (by (refine perm_cnt fun x => ?_; simp only [PWl, PBl, ROl, z1, z2, z3, z4, z5, z6]; omega))) ?_
  refine LX.pure (Y.fieldAddr0 Pa.fo57_0 rfl) rfl rfl rfl <| LX.pure (Y.ldB 2 Pa.one3 rfl rfl rfl) rfl rfl rfl <| LX.pure (Y.eqI rfl rfl) rfl rfl rfl <| LX.pure (Y.assign rfl) rfl rfl rfl <| LX.sub (l' := [(0, _), (2, _), (3, _), (15, _)]) ⟨rfl, rfl, rfl, rfl, trivial⟩ <| LX.next <| PX.thenN ?_
  refine CX.cond rfl (fun hb1 => ?_) (fun hb1 => ?_)
  · try simp at hb1
    rw [if_pos hb1] at hr
    replace hr := Go.Pa.adv_bnd hr
    refine CX.seq <| CX.region <| LX.pure (Y.move rfl) rfl rfl rfl <| LX.pure (Y.nilCheck rfl) rfl rfl rfl <| LX.pure (Y.fieldAddr0 Pa.fo41_1 rfl) rfl rfl rfl <| LX.pure (Y.ldB 0 Pa.one3 rfl rfl rfl) rfl rfl rfl <| LX.pure (Y.addN rfl rfl (by (simp only []; omega))) rfl rfl rfl <| LX.pure (Y.nilCheck rfl) rfl rfl rfl <| LX.pure (Y.fieldAddr0 Pa.fo41_1 rfl) rfl rfl rfl <| LX.storeB 0 Pb.sz3 rfl rfl rfl rfl rfl rfl rfl rfl <| LX.sub (l' := [(0, _), (2, _), (3, _)]) ⟨rfl, rfl, rfl, trivial⟩ <| LX.next <| PX.thenN <| CX.seq <| CX.region <| LX.pure (Y.move rfl) rfl rfl rfl <| LX.pure (Y.fieldAddr0 Pa.fo57_2 rfl) rfl rfl rfl <| LX.pure (Y.ldB 2 Pa.one3 rfl rfl rfl) rfl rfl rfl <| LX.pure (Y.fieldAddr0 Pa.fo57_1 rfl) rfl rfl rfl <| LX.pure (Y.ldB 2 Fy.one9 rfl rfl rfl) rfl rfl rfl ?_
    obtain ⟨hlen, hre⟩ := Go.Pa.node_end hr
    refine LX.call (node_c (s := s.adv) (m := m) (6) t.pos t.text none 0 0 [] hlen) Pe.en15 rfl rfl rfl rfl rfl ?_
    intro q
    refine LX.pure (Y.assign rfl) rfl rfl rfl <| LX.sub (l' := [(0, _), (2, _)]) ⟨rfl, rfl, trivial⟩ <| LX.next <| PX.thenN <| CX.ret <| PX.blockR <| PX.thenR <| PX.ret1 (by simp) Tryd.results77 rfl ?_
    exact fun w hw => .inl ⟨((s.adv.out.length : Int), (s.adv.nod 6 t.pos t.text []), (m.put q 6 t.pos t.text (.slice none 0 0) (m.rs))), rfl, ⟨hre, put_nil (op := 6) (pos := t.pos) (x := t.text) hnd (by unfold Go.SX.inI; omega) hin2, gI.len hlen⟩, hw.drop (.cons_cons _ (.cons_cons _ (List.sublist_cons_self _ _)))⟩
  try simp at hb1
  rw [if_neg hb1] at hr
  refine CX.seq <| CX.region <| LX.pure (Y.fieldAddr0 Pa.fo57_0 rfl) rfl rfl rfl <| LX.pure (Y.ldB 2 Pa.one3 rfl rfl rfl) rfl rfl rfl <| LX.pure (Y.eqI rfl rfl) rfl rfl rfl <| LX.pure (Y.assign rfl) rfl rfl rfl <| LX.sub (l' := [(0, _), (2, _), (3, _), (32, _)]) ⟨rfl, rfl, rfl, rfl, trivial⟩ <| LX.next <| PX.thenN ?_
  refine CX.cond rfl (fun hb2 => ?_) (fun hb2 => ?_)
  · try simp at hb2
    rw [if_pos hb2] at hr
    replace hr := Go.Pa.adv_bnd hr
    refine CX.seq <| CX.region <| LX.pure (Y.move rfl) rfl rfl rfl <| LX.pure (Y.nilCheck rfl) rfl rfl rfl <| LX.pure (Y.fieldAddr0 Pa.fo41_1 rfl) rfl rfl rfl <| LX.pure (Y.ldB 0 Pa.one3 rfl rfl rfl) rfl rfl rfl <| LX.pure (Y.addN rfl rfl (by (simp only []; omega))) rfl rfl rfl <| LX.pure (Y.nilCheck rfl) rfl rfl rfl <| LX.pure (Y.fieldAddr0 Pa.fo41_1 rfl) rfl rfl rfl <| LX.storeB 0 Pb.sz3 rfl rfl rfl rfl rfl rfl rfl rfl <| LX.sub (l' := [(0, _), (2, _), (3, _)]) ⟨rfl, rfl, rfl, trivial⟩ <| LX.next <| PX.thenN <| CX.seq <| CX.region <| LX.pure (Y.move rfl) rfl rfl rfl <| LX.pure (Y.fieldAddr0 Pa.fo57_2 rfl) rfl rfl rfl <| LX.pure (Y.ldB 2 Pa.one3 rfl rfl rfl) rfl rfl rfl <| LX.pure (Y.fieldAddr0 Pa.fo57_1 rfl) rfl rfl rfl <| LX.pure (Y.ldB 2 Fy.one9 rfl rfl rfl) rfl rfl rfl ?_
    obtain ⟨hlen, hre⟩ := Go.Pa.node_end hr
    refine LX.call (node_c (s := s.adv) (m := m) (4) t.pos t.text none 0 0 [] hlen) Pe.en15 rfl rfl rfl rfl rfl ?_
    intro q
    refine LX.pure (Y.assign rfl) rfl rfl rfl <| LX.sub (l' := [(0, _), (2, _)]) ⟨rfl, rfl, trivial⟩ <| LX.next <| PX.thenN <| CX.ret <| PX.blockR <| PX.thenR <| PX.ret1 (by simp) Tryd.results77 rfl ?_
    exact fun w hw => .inl ⟨((s.adv.out.length : Int), (s.adv.nod 4 t.pos t.text []), (m.put q 4 t.pos t.text (.slice none 0 0) (m.rs))), rfl, ⟨hre, put_nil (op := 4) (pos := t.pos) (x := t.text) hnd (by unfold Go.SX.inI; omega) hin2, gI.len hlen⟩, hw.drop (.cons_cons _ (.cons_cons _ (List.sublist_cons_self _ _)))⟩
  try simp at hb2
  rw [if_neg hb2] at hr
  refine CX.seq <| CX.region <| LX.pure (Y.fieldAddr0 Pa.fo57_0 rfl) rfl rfl rfl <| LX.pure (Y.ldB 2 Pa.one3 rfl rfl rfl) rfl rfl rfl <| LX.pure (Y.eqI rfl rfl) rfl rfl rfl <| LX.pure (Y.assign rfl) rfl rfl rfl <| LX.sub (l' := [(0, _), (2, _), (3, _), (49, _)]) ⟨rfl, rfl, rfl, rfl, trivial⟩ <| LX.next <| PX.thenN ?_
  refine CX.cond rfl (fun hb3 => ?_) (fun hb3 => ?_)
  · try simp at hb3
    rw [if_pos hb3] at hr
    refine CX.seq <| CX.region <| LX.pure (Y.assign rfl) rfl rfl rfl <| LX.sub (l' := [(0, _), (2, _), (3, _), (4, _)]) ⟨rfl, rfl, rfl, rfl, trivial⟩ <| LX.next <| PX.thenN <| CX.seq <| CX.block <| CX.loop (fun z : List UInt8 × Go.Pa.St × Nat => [(0, .pointer (some ⟨bp, 0, none⟩)), (3, .pointer (some ⟨b3, 0, none⟩)), (4, str z.1)]) (fun (z : List UInt8 × Go.Pa.St × Nat) w => (((bnd (Go.Pa.run L nameB z.2.2 (.strGo z.1)) fun x => node 5 t.pos x []) z.2.1 = some r ∧ z.2.2 ≤ n) ∧ z.2.1.out = s.out) ∧ WA w0 base (PBl bp al L cl z.2.1 m :: ROl z.2.1 m :: blk b3 [.int .i64 t.kind, str t.text, .int .i64 t.pos] 57 :: (m.rs ++ fr)) w) (fun z => z.2.2) ([], s, n) ⟨rfl, rfl, rfl, trivial⟩ (fun w hw => ⟨⟨⟨hr, Nat.le_refl _⟩, rfl⟩, hw⟩) ?_
    clear hr
    rintro ⟨x, s1, j⟩
    refine CX.have fun ⟨⟨hr, hjn⟩, hou⟩ => ?_
    replace hr : (bnd (Go.Pa.run L nameB j (.strGo x)) fun x => node 5 t.pos x []) s1 = some r := hr
    replace hjn : j ≤ n := hjn
    replace hou : s1.out = s.out := hou
    try dsimp only
    obtain ⟨j, rfl⟩ : ∃ i, j = i + 1 := by
      cases j with
      | zero => cases hr
      | succ i => exact ⟨i, rfl⟩
    rw [show Go.Pa.run L nameB (j + 1) (.strGo x) = (bnd (Go.Pa.tok L) fun t => if t.kind = 3 then (if x.length + t.text.length < 1000000 then bnd adv fun _ => Go.Pa.run L nameB j (.strGo (x ++ t.text)) else fun _ => none) else ret x) from rfl, Go.Pa.bnd_assoc] at hr
    obtain ⟨t1, ht1, hr⟩ := Go.Pa.tok_bnd hr
    have hnd1 : NdsR 3 m.rs m.cells s1.out := by rw [hou]; exact hnd
    refine CX.seq <| CX.seq <| CX.region <| LX.pure (Y.move rfl) rfl rfl rfl <| LX.callQ (kind_q ht1 (fun w hw => blkL hw (i := 0) rfl) (fun w hw => hL.push hw)) Pa.en13 rfl rfl rfl rfl rfl <| LX.pure (Y.eqI rfl rfl) rfl rfl rfl <| LX.sub (l' := [(0, _), (3, _), (4, _), (55, _)]) ⟨rfl, rfl, rfl, rfl, trivial⟩ <| LX.next <| PX.thenN ?_
    refine CX.cond rfl (fun hb4 => ?_) (fun hb4 => ?_)
    · try simp at hb4
      rw [if_pos hb4] at hr
      have hxl : x.length + t1.text.length < 1000000 := by
        by_cases hq : x.length + t1.text.length < 1000000
        · exact hq
        · rw [if_neg hq] at hr; cases hr
      rw [if_pos hxl, Go.Pa.bnd_assoc] at hr
      replace hr := Go.Pa.adv_bnd hr
      obtain ⟨a1, cs1, hav1, hcl1, hLt1, rfl, hi1, hi2⟩ := hL _ _ ht1
      have hj1 : s1.at_ < L.length := (List.getElem?_eq_some_iff.1 ht1).1
      refine CX.skip <| PX.thenN <| CX.block <| CX.seq <| CX.regionQ rfl (by kernel_rfl) <| LX.pure (Y.move rfl) rfl rfl rfl <| LX.pure (Y.move rfl) rfl rfl rfl <| LX.pure (Y.nilCheck rfl) rfl rfl rfl <| LX.pure (Y.fieldAddr0 Pa.fo41_0 rfl) rfl rfl rfl <| LX.pure (Y.ldB 0 Pa.one37 rfl rfl rfl) rfl rfl rfl <| LX.pure (Y.move rfl) rfl rfl rfl <| LX.pure (Y.nilCheck rfl) rfl rfl rfl <| LX.pure (Y.fieldAddr0 Pa.fo41_1 rfl) rfl rfl rfl <| LX.pure (Y.ldB 0 Pa.one3 rfl rfl rfl) rfl rfl rfl <| LX.pure (Y.idxZ Pa.un37 Pa.sz57 rfl rfl hav1 (j := s1.at_) rfl hj1) rfl rfl rfl <| LX.pure (Y.fieldA Pa.fa57_1 rfl) rfl rfl rfl <| LX.pure (Y.ldFO (v := str t1.text) Fy.one9 rfl hLt1 rfl) rfl rfl rfl <| LX.pure (Y.addS rfl rfl (by omega)) rfl rfl rfl <| LX.pure (Y.assign rfl) rfl rfl rfl <| LX.sub (l' := [(0, _), (3, _), (4, _)]) ⟨rfl, rfl, rfl, trivial⟩ <| LX.nextQ <| PX.thenN <| CX.region <| LX.pure (Y.move rfl) rfl rfl rfl <| LX.pure (Y.nilCheck rfl) rfl rfl rfl <| LX.pure (Y.fieldAddr0 Pa.fo41_1 rfl) rfl rfl rfl <| LX.pure (Y.ldB 0 Pa.one3 rfl rfl rfl) rfl rfl rfl <| LX.pure (Y.addN rfl rfl (by (simp only []; omega))) rfl rfl rfl <| LX.pure (Y.nilCheck rfl) rfl rfl rfl <| LX.pure (Y.fieldAddr0 Pa.fo41_1 rfl) rfl rfl rfl <| LX.storeB 0 Pb.sz3 rfl rfl rfl rfl rfl rfl rfl rfl <| LX.sub (l' := [(0, _), (3, _), (4, _)]) ⟨rfl, rfl, rfl, trivial⟩ <| LX.next <| PX.blockN ?_
      exact PX.again (μ := fun z => z.2.2) (i := (x, s1, j + 1)) (x ++ t1.text, s1.adv, j) (by show j < j + 1; omega) ⟨rfl, rfl, rfl, trivial⟩ (fun w hw => ⟨⟨⟨hr, by show j ≤ n; omega⟩, hou⟩, hw⟩)
    try simp at hb4
    rw [if_neg hb4] at hr
    replace hr := Go.Pa.ret_bnd hr
    refine CX.exit <| PX.thenE <| PX.thenE <| PX.blockE <| PX.thenN <| CX.seq <| CX.region <| LX.pure (Y.move rfl) rfl rfl rfl <| LX.pure (Y.fieldAddr0 Pa.fo57_2 rfl) rfl rfl rfl <| LX.pure (Y.ldB 2 Pa.one3 rfl rfl rfl) rfl rfl rfl <| LX.pure (Y.move rfl) rfl rfl rfl ?_
    obtain ⟨hlen, hre⟩ := Go.Pa.node_end hr
    refine LX.call (node_c (s := s1) (m := m) (5) t.pos x none 0 0 [] hlen) Pe.en15 rfl rfl rfl rfl rfl ?_
    intro q
    refine LX.pure (Y.assign rfl) rfl rfl rfl <| LX.sub (l' := [(0, _), (2, _)]) ⟨rfl, rfl, trivial⟩ <| LX.next <| PX.thenN <| CX.ret <| PX.blockR <| PX.thenR <| PX.ret1 (by simp) Tryd.results77 rfl ?_
    exact fun w hw => .inl ⟨((s1.out.length : Int), (s1.nod 5 t.pos x []), (m.put q 5 t.pos x (.slice none 0 0) (m.rs))), rfl, ⟨hre, put_nil (op := 5) (pos := t.pos) (x := x) hnd1 (by unfold Go.SX.inI; omega) hin2, gI.len hlen⟩, hw.drop (.cons_cons _ (.cons_cons _ (List.sublist_cons_self _ _)))⟩
  try simp at hb3
  rw [if_neg hb3] at hr
  refine CX.seq <| CX.region <| LX.pure (Y.move rfl) rfl rfl rfl ?_
  obtain ⟨t2, ht2, hT, hF⟩ := Go.Pa.take_bnd hr
  obtain rfl : t = t2 := by rw [ht] at ht2; exact Option.some.inj ht2
  refine LX.call (take_c hL hln ht [78, 111, 110, 101]) Pd.en40 rfl rfl rfl rfl rfl ?_
  intro _
  refine LX.pure (Y.assign rfl) rfl rfl rfl <| LX.sub (l' := [(0, _), (2, _), (3, _), (81, _)]) ⟨rfl, rfl, rfl, rfl, trivial⟩ <| LX.next <| PX.thenN ?_
  refine CX.cond rfl (fun hb5 => ?_) (fun hb5 => ?_)
  · try simp at hb5
    rw [show isB t [[78, 111, 110, 101]] = true from hb5]
    replace hr := hT hb5
    refine CX.world (W' := WA w0 base (PBl bp al L cl s.adv m :: ROl s.adv m :: blk b3 [.int .i64 t.kind, str t.text, .int .i64 t.pos] 57 :: (m.rs ++ fr))) (fun w hw => hw) ?_
    rw [if_pos rfl] at hr
    refine CX.seq <| CX.region <| LX.pure (Y.move rfl) rfl rfl rfl <| LX.pure (Y.fieldAddr0 Pa.fo57_2 rfl) rfl rfl rfl <| LX.pure (Y.ldB 2 Pa.one3 rfl rfl rfl) rfl rfl rfl ?_
    obtain ⟨hlen, hre⟩ := Go.Pa.node_end hr
    refine LX.call (node_c (s := s.adv) (m := m) (1) t.pos [] none 0 0 [] hlen) Pe.en15 rfl rfl rfl rfl rfl ?_
    intro q
    refine LX.pure (Y.assign rfl) rfl rfl rfl <| LX.sub (l' := [(0, _), (2, _)]) ⟨rfl, rfl, trivial⟩ <| LX.next <| PX.thenN <| CX.ret <| PX.blockR <| PX.thenR <| PX.ret1 (by simp) Tryd.results77 rfl ?_
    exact fun w hw => .inl ⟨((s.adv.out.length : Int), (s.adv.nod 1 t.pos [] []), (m.put q 1 t.pos [] (.slice none 0 0) (m.rs))), rfl, ⟨hre, put_nil (op := 1) (pos := t.pos) (x := []) hnd (by unfold Go.SX.inI; omega) hin2, gI.len hlen⟩, hw.drop (.cons_cons _ (.cons_cons _ (List.sublist_cons_self _ _)))⟩
  try simp at hb5
  rw [show isB t [[78, 111, 110, 101]] = false from hb5]
  replace hr := hF hb5
  refine CX.world (W' := WA w0 base (PBl bp al L cl s m :: ROl s m :: blk b3 [.int .i64 t.kind, str t.text, .int .i64 t.pos] 57 :: (m.rs ++ fr))) (fun w hw => hw) ?_
  rw [if_neg Bool.false_ne_true] at hr
  refine CX.seq <| CX.region <| LX.pure (Y.move rfl) rfl rfl rfl ?_
  obtain ⟨t2, ht2, hT, hF⟩ := Go.Pa.take_bnd hr
  obtain rfl : t = t2 := by rw [ht] at ht2; exact Option.some.inj ht2
  refine LX.call (take_c hL hln ht [84, 114, 117, 101]) Pd.en40 rfl rfl rfl rfl rfl ?_
  intro _
  refine LX.pure (Y.assign rfl) rfl rfl rfl <| LX.sub (l' := [(0, _), (2, _), (3, _), (88, _)]) ⟨rfl, rfl, rfl, rfl, trivial⟩ <| LX.next <| PX.thenN ?_
  refine CX.cond rfl (fun hb6 => ?_) (fun hb6 => ?_)
  · try simp at hb6
    rw [show isB t [[84, 114, 117, 101]] = true from hb6]
    replace hr := hT hb6
    refine CX.world (W' := WA w0 base (PBl bp al L cl s.adv m :: ROl s.adv m :: blk b3 [.int .i64 t.kind, str t.text, .int .i64 t.pos] 57 :: (m.rs ++ fr))) (fun w hw => hw) ?_
    rw [if_pos rfl] at hr
    refine CX.seq <| CX.region <| LX.pure (Y.move rfl) rfl rfl rfl <| LX.pure (Y.fieldAddr0 Pa.fo57_2 rfl) rfl rfl rfl <| LX.pure (Y.ldB 2 Pa.one3 rfl rfl rfl) rfl rfl rfl ?_
    obtain ⟨hlen, hre⟩ := Go.Pa.node_end hr
    refine LX.call (node_c (s := s.adv) (m := m) (2) t.pos [] none 0 0 [] hlen) Pe.en15 rfl rfl rfl rfl rfl ?_
    intro q
    refine LX.pure (Y.assign rfl) rfl rfl rfl <| LX.sub (l' := [(0, _), (2, _)]) ⟨rfl, rfl, trivial⟩ <| LX.next <| PX.thenN <| CX.ret <| PX.blockR <| PX.thenR <| PX.ret1 (by simp) Tryd.results77 rfl ?_
    exact fun w hw => .inl ⟨((s.adv.out.length : Int), (s.adv.nod 2 t.pos [] []), (m.put q 2 t.pos [] (.slice none 0 0) (m.rs))), rfl, ⟨hre, put_nil (op := 2) (pos := t.pos) (x := []) hnd (by unfold Go.SX.inI; omega) hin2, gI.len hlen⟩, hw.drop (.cons_cons _ (.cons_cons _ (List.sublist_cons_self _ _)))⟩
  try simp at hb6
  rw [show isB t [[84, 114, 117, 101]] = false from hb6]
  replace hr := hF hb6
  refine CX.world (W' := WA w0 base (PBl bp al L cl s m :: ROl s m :: blk b3 [.int .i64 t.kind, str t.text, .int .i64 t.pos] 57 :: (m.rs ++ fr))) (fun w hw => hw) ?_
  rw [if_neg Bool.false_ne_true] at hr
  refine CX.seq <| CX.region <| LX.pure (Y.move rfl) rfl rfl rfl ?_
  obtain ⟨t2, ht2, hT, hF⟩ := Go.Pa.take_bnd hr
  obtain rfl : t = t2 := by rw [ht] at ht2; exact Option.some.inj ht2
  refine LX.call (take_c hL hln ht [70, 97, 108, 115, 101]) Pd.en40 rfl rfl rfl rfl rfl ?_
  intro _
  refine LX.pure (Y.assign rfl) rfl rfl rfl <| LX.sub (l' := [(0, _), (2, _), (3, _), (95, _)]) ⟨rfl, rfl, rfl, rfl, trivial⟩ <| LX.next <| PX.thenN ?_
  refine CX.cond rfl (fun hb7 => ?_) (fun hb7 => ?_)
  · try simp at hb7
    rw [show isB t [[70, 97, 108, 115, 101]] = true from hb7]
    replace hr := hT hb7
    refine CX.world (W' := WA w0 base (PBl bp al L cl s.adv m :: ROl s.adv m :: blk b3 [.int .i64 t.kind, str t.text, .int .i64 t.pos] 57 :: (m.rs ++ fr))) (fun w hw => hw) ?_
    rw [if_pos rfl] at hr
    refine CX.seq <| CX.region <| LX.pure (Y.move rfl) rfl rfl rfl <| LX.pure (Y.fieldAddr0 Pa.fo57_2 rfl) rfl rfl rfl <| LX.pure (Y.ldB 2 Pa.one3 rfl rfl rfl) rfl rfl rfl ?_
    obtain ⟨hlen, hre⟩ := Go.Pa.node_end hr
    refine LX.call (node_c (s := s.adv) (m := m) (3) t.pos [] none 0 0 [] hlen) Pe.en15 rfl rfl rfl rfl rfl ?_
    intro q
    refine LX.pure (Y.assign rfl) rfl rfl rfl <| LX.sub (l' := [(0, _), (2, _)]) ⟨rfl, rfl, trivial⟩ <| LX.next <| PX.thenN <| CX.ret <| PX.blockR <| PX.thenR <| PX.ret1 (by simp) Tryd.results77 rfl ?_
    exact fun w hw => .inl ⟨((s.adv.out.length : Int), (s.adv.nod 3 t.pos [] []), (m.put q 3 t.pos [] (.slice none 0 0) (m.rs))), rfl, ⟨hre, put_nil (op := 3) (pos := t.pos) (x := []) hnd (by unfold Go.SX.inI; omega) hin2, gI.len hlen⟩, hw.drop (.cons_cons _ (.cons_cons _ (List.sublist_cons_self _ _)))⟩
  try simp at hb7
  rw [show isB t [[70, 97, 108, 115, 101]] = false from hb7]
  replace hr := hF hb7
  refine CX.world (W' := WA w0 base (PBl bp al L cl s m :: ROl s m :: blk b3 [.int .i64 t.kind, str t.text, .int .i64 t.pos] 57 :: (m.rs ++ fr))) (fun w hw => hw) ?_
  rw [if_neg Bool.false_ne_true] at hr
  refine CX.seq <| CX.region <| LX.pure (Y.move rfl) rfl rfl rfl <| LX.buildSlice (e := 9) (size := 1) rfl rfl (fun _ => by kernel_rfl) rfl (by decide) rfl rfl rfl ?_
  intro gS
  refine LX.callQ (is_q ht _ (ss := [[40]]) (by decide) (fun w hw => blkL hw (i := 1) rfl) (fun w hw => hL.push hw) (fun w hw => row_at hw (j := 0) rfl rfl (by decide) (fun i z h => map_A (f := str) (xs := [[40]]) h))) Pd.en20 rfl rfl rfl rfl rfl <| LX.world (W' := WA w0 base (PWl bp al L cl s m fr)) (fun w hw => hw.drop (.cons _ (.cons_cons _ (.cons_cons _ (List.sublist_cons_self _ _))))) <| LX.pure (Y.assign rfl) rfl rfl rfl <| LX.sub (l' := [(0, _), (2, _), (102, _)]) ⟨rfl, rfl, rfl, trivial⟩ <| LX.next <| PX.thenN ?_
  refine CX.cond rfl (fun hb8 => ?_) (fun hb8 => ?_)
  · try simp at hb8
    rw [show isB t [[40]] = true from hb8, if_pos rfl] at hr
    refine CX.seq <| CX.region <| LX.pure (Y.move rfl) rfl rfl rfl <| LX.callP (hRound n (Nat.le_refl _) s m (fr) r hr hnd) Pm.en81 rfl rfl rfl rfl rfl (fun y => fun _ w ha hw => ⟨ha.defs, .inr ⟨y, rfl, hw.1, hw.2⟩⟩) ?_
    rintro ⟨kE, sE, mE⟩
    refine LX.have fun ⟨hrE, hndE, hkE⟩ => ?_
    try dsimp only
    refine LX.pure (Y.assign rfl) rfl rfl rfl <| LX.sub (l' := [(0, _), (2, _)]) ⟨rfl, rfl, trivial⟩ <| LX.next <| PX.thenN <| CX.ret <| PX.blockR <| PX.thenR <| PX.ret1 (by simp) Tryd.results77 rfl ?_
    exact fun w hw => .inl ⟨(kE, sE, mE), rfl, ⟨hrE, hndE, hkE⟩, hw⟩
  try simp at hb8
  rw [show isB t [[40]] = false from hb8, if_neg Bool.false_ne_true] at hr
  refine CX.seq <| CX.region <| LX.pure (Y.move rfl) rfl rfl rfl <| LX.buildSlice (e := 9) (size := 1) rfl rfl (fun _ => by kernel_rfl) rfl (by decide) rfl rfl rfl ?_
  intro gS
  refine LX.callQ (is_q ht _ (ss := [[91]]) (by decide) (fun w hw => blkL hw (i := 1) rfl) (fun w hw => hL.push hw) (fun w hw => row_at hw (j := 0) rfl rfl (by decide) (fun i z h => map_A (f := str) (xs := [[91]]) h))) Pd.en20 rfl rfl rfl rfl rfl <| LX.world (W' := WA w0 base (PWl bp al L cl s m fr)) (fun w hw => hw.drop (List.sublist_cons_self _ _)) <| LX.pure (Y.assign rfl) rfl rfl rfl <| LX.sub (l' := [(0, _), (2, _), (108, _)]) ⟨rfl, rfl, rfl, trivial⟩ <| LX.next <| PX.thenN ?_
  refine CX.cond rfl (fun hb9 => ?_) (fun hb9 => ?_)
  · try simp at hb9
    rw [show isB t [[91]] = true from hb9, if_pos rfl] at hr
    refine CX.seq <| CX.region <| LX.pure (Y.move rfl) rfl rfl rfl <| LX.callP (hSquare n (Nat.le_refl _) s m (fr) r hr hnd) Pm.en82 rfl rfl rfl rfl rfl (fun y => fun _ w ha hw => ⟨ha.defs, .inr ⟨y, rfl, hw.1, hw.2⟩⟩) ?_
    rintro ⟨kE, sE, mE⟩
    refine LX.have fun ⟨hrE, hndE, hkE⟩ => ?_
    try dsimp only
    refine LX.pure (Y.assign rfl) rfl rfl rfl <| LX.sub (l' := [(0, _), (2, _)]) ⟨rfl, rfl, trivial⟩ <| LX.next <| PX.thenN <| CX.ret <| PX.blockR <| PX.thenR <| PX.ret1 (by simp) Tryd.results77 rfl ?_
    exact fun w hw => .inl ⟨(kE, sE, mE), rfl, ⟨hrE, hndE, hkE⟩, hw⟩
  try simp at hb9
  rw [show isB t [[91]] = false from hb9, if_neg Bool.false_ne_true] at hr
  refine CX.seq <| CX.region <| LX.pure (Y.move rfl) rfl rfl rfl <| LX.buildSlice (e := 9) (size := 1) rfl rfl (fun _ => by kernel_rfl) rfl (by decide) rfl rfl rfl ?_
  intro gS
  refine LX.callQ (is_q ht _ (ss := [[123]]) (by decide) (fun w hw => blkL hw (i := 1) rfl) (fun w hw => hL.push hw) (fun w hw => row_at hw (j := 0) rfl rfl (by decide) (fun i z h => map_A (f := str) (xs := [[123]]) h))) Pd.en20 rfl rfl rfl rfl rfl <| LX.world (W' := WA w0 base (PWl bp al L cl s m fr)) (fun w hw => hw.drop (List.sublist_cons_self _ _)) <| LX.pure (Y.assign rfl) rfl rfl rfl <| LX.sub (l' := [(0, _), (2, _), (114, _)]) ⟨rfl, rfl, rfl, trivial⟩ <| LX.next <| PX.thenN ?_
  refine CX.cond rfl (fun hb10 => ?_) (fun hb10 => ?_)
  · try simp at hb10
    rw [show isB t [[123]] = true from hb10, if_pos rfl] at hr
    refine CX.seq <| CX.region <| LX.pure (Y.move rfl) rfl rfl rfl <| LX.callP (hCurly n (Nat.le_refl _) s m (fr) r hr hnd) Pm.en83 rfl rfl rfl rfl rfl (fun y => fun _ w ha hw => ⟨ha.defs, .inr ⟨y, rfl, hw.1, hw.2⟩⟩) ?_
    rintro ⟨kE, sE, mE⟩
    refine LX.have fun ⟨hrE, hndE, hkE⟩ => ?_
    try dsimp only
    refine LX.pure (Y.assign rfl) rfl rfl rfl <| LX.sub (l' := [(0, _), (2, _)]) ⟨rfl, rfl, trivial⟩ <| LX.next <| PX.thenN <| CX.ret <| PX.blockR <| PX.thenR <| PX.ret1 (by simp) Tryd.results77 rfl ?_
    exact fun w hw => .inl ⟨(kE, sE, mE), rfl, ⟨hrE, hndE, hkE⟩, hw⟩
  try simp at hb10
  rw [show isB t [[123]] = false from hb10, if_neg Bool.false_ne_true] at hr
  refine CX.skip <| PX.blockN <| PX.thenN <| CX.seq <| CX.region <| LX.pure (Y.move rfl) rfl rfl rfl ?_
  refine LX.callP (bad_p hS hL hln ht) Pd.en23 rfl rfl rfl rfl rfl (fun ax => fun _ w ha hw => ⟨ha.defs, .inr ⟨(t.pos, false, ax), rfl, Go.Pa.bad_eq ht hr, hw.drop (.cons_cons _ (.cons _ (List.sublist_append_right _ _)))⟩⟩) (fun x => x.elim)
end Go.Proofs.YtfbenelagdcdgaaDoor
