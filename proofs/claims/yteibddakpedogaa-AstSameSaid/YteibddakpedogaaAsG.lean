/-
  Proved here: the document's parser: atoms, what stands behind them.
-/
import Derived.Test.YteibddakpedogaaAsF
set_option linter.unusedSimpArgs false
namespace Go.Proofs.Yteibddakpedogaa
open Go.SX Go.RowKit Go.Tr Go.As Go.Ck
namespace Pg
theorem en42 : Enters Try.prog 42 := Enters.of Try.func42 (by kernel_rfl) (by kernel_rfl)
theorem en63 : Enters Try.prog 63 := Enters.of Try.func63 (by kernel_rfl) (by kernel_rfl)
theorem en64 : Enters Try.prog 64 := Enters.of Try.func64 (by kernel_rfl) (by kernel_rfl)
theorem en65 : Enters Try.prog 65 := Enters.of Try.func65 (by kernel_rfl) (by kernel_rfl)
theorem en67 : Enters Try.prog 67 := Enters.of Try.func67 (by kernel_rfl) (by kernel_rfl)
theorem en68 : Enters Try.prog 68 := Enters.of Try.func68 (by kernel_rfl) (by kernel_rfl)
theorem en69 : Enters Try.prog 69 := Enters.of Try.func69 (by kernel_rfl) (by kernel_rfl)
end Pg
open Go.Pa (Tk)
theorem primary_c {w0 : World} {base : Nat} {bp : Nat} {al : Option Addr} {cl : Nat} {L : List Go.Pa.Tk} (hL : SlAt 3 tokA (Lies w0 base) al L) (hK : Tok6 L) {N : Nat} (h_atom : (∀ (s : RS) (m : Mm) (fr : List It), Sk L.length s → NdsR 3 m.rs m.cells s.ns → L.length - s.at_ ≤ N → PF 63 [.pointer (some ⟨bp, 0, none⟩)] w0 base bp al cl L s m fr)) (ih_test : (∀ (s : RS) (m : Mm) (fr : List It), Sk L.length s → NdsR 3 m.rs m.cells s.ns → L.length - s.at_ < N → PF 47 [.pointer (some ⟨bp, 0, none⟩)] w0 base bp al cl L s m fr))  : (∀ (s : RS) (m : Mm) (fr : List It), Sk L.length s → NdsR 3 m.rs m.cells s.ns → L.length - s.at_ ≤ N → PF 60 [.pointer (some ⟨bp, 0, none⟩)] w0 base bp al cl L s m fr) := by
  intro s m fr hs hn hN
  have hR := Rn.refl hs
  have hle : s.at_ ≤ s.at_ := Nat.le_refl _
  have hd0 := hs.d0
  have hd1 := hs.d1
  have hlt := hs.lt
  have hln0 := hK.len
  have hN0 : 0 < N := by omega
  refine FnC.of_body (fn := Try.f60) [(0, _)] Try.func60 rfl Try.ntmps60 rfl ⟨rfl, trivial⟩ ?_
  refine CX.sr <| LX.mv rfl <| LX.su [0, 2] rfl <| LX.nt <| CX.sr <| LX.mv rfl ?_
  have hk1 : Sk L.length s := hs.next hR dc
  refine LX.call (h_atom s m fr hk1 hn (by show L.length - s.at_ ≤ N; omega)) Pg.en63 rfl rfl rfl rfl rfl ?_
  rintro ⟨r1, s1, m1⟩
  refine LX.have fun ⟨hri1, hr1, hn1⟩ => ?_
  try dsimp only at hri1 hr1 hn1 ⊢
  have hR2 : Rn L.length s s1 ([r1]) 1 (0) := hR.trans hr1
  have hch3 : s.at_ ≤ s1.at_ := hr1.le
  have hle3 : s.at_ ≤ s1.at_ := by omega
  have hlt3 : s1.at_ < L.length := hR2.lt
  have hde3 : s.deep ≤ s1.deep := hr1.d0
  have hdd3 : s1.deep ≤ 60 := hR2.d1
  have hav1 : s1.code = 0 → s.at_ + 1 ≤ s1.at_ := hr1.adv
  refine LX.mv rfl <| LX.su [0, 2, 3] rfl <| LX.nt <| CX.seq <| CX.block <| CX.loop (fun z : Int × RS × Mm => [(0, .pointer (some ⟨bp, 0, none⟩)), (3, .int .i64 z.1)]) (fun (z : Int × RS × Mm) w => (inI z.1 ∧ Rn L.length s z.2.1 [z.1] 1 (0) ∧ NdsR 3 z.2.2.rs z.2.2.cells z.2.1.ns) ∧ WA w0 base (PWl bp al L cl z.2.1 z.2.2 fr) w) (fun z : Int × RS × Mm => 2 * (L.length - z.2.1.at_) + (if z.2.1.code = 0 then 1 else 0)) (r1, s1, m1) ⟨rfl, rfl, trivial⟩ (fun w hw => ⟨⟨by assumption, hR2.wk dc dc, hn1⟩, hw⟩) ?_
  rintro ⟨r4, s4, m4⟩
  refine CX.have fun ⟨hri4, hR4, hn4⟩ => ?_
  try dsimp only at hri4 hR4 hn4 ⊢
  have hle4 : s.at_ ≤ s4.at_ := hR4.le
  have hlt4 := hR4.lt
  have hde4 := hR4.d0
  have hdd4 := hR4.d1
  refine CX.seq <| CX.sr <| LX.mv rfl <| LX.callQ (show FnQ Try.prog 12 #[.pointer (some ⟨bp, 0, none⟩)] _ (.bool (decide (s4.code ≠ 0))) from bad_q (s := s4) (m := m4) (fun w hw => blkL hw (i := 0) rfl)) Pb.en12 rfl rfl rfl rfl rfl <| LX.p (Y.not rfl) rfl <| LX.su [0, 3, 12] rfl <| LX.nt ?_
  refine CX.cond rfl (fun hb1 => ?_) (fun hb1 => ?_)
  · try simp at hb1
    refine CX.skip <| PX.thenN <| CX.block <| CX.sr ?_
    obtain ⟨t5, ht5⟩ : ∃ t, L[s4.at_]? = some t := ⟨_, List.getElem?_eq_getElem (show s4.at_ < L.length from hR4.lt)⟩
    have htk5 := (tok_in hL ht5).1
    have htp5 := (tok_in hL ht5).2
    refine LX.mv rfl <| LX.callQ (now_q (s := s4) (m := m4) ht5 (fun w hw => blkL hw (i := 0) rfl) (fun w hw => hL.push hw)) Pa.en13 rfl rfl rfl rfl rfl <| LX.p (Y.field (v := .int .i64 t5.pos) rfl (fun _ => by kernel_rfl)) rfl <| LX.mv rfl <| LX.su [0, 3, 4] rfl <| LX.nt <| CX.block <| CX.sr <| LX.mv rfl <| LX.callQ (is_q (s := s4) (m := m4) ht5 ([46] : List UInt8) (fun w hw => blkL hw (i := 0) rfl) (fun w hw => hL.push hw)) Pb.en32 rfl rfl rfl rfl rfl <| LX.mv rfl <| LX.su [0, 3, 4, 17] rfl <| LX.nt ?_
    refine CX.cond rfl (fun hb2 => ?_) (fun hb2 => ?_)
    · try simp at hb2
      refine CX.sr ?_
      have hgo6 : s4.at_ + 1 < L.length := by exact hK.fin _ t5 ht5 (by (intro h8; simp_all [isS]; done))
      have hln6 := hK.len
      refine LX.ms 3 rfl <| LX.p (Y.fieldAddr0 Pa.fo42_1 rfl) rfl <| LX.p (Y.ldB 0 Pa.one3 rfl rfl rfl) rfl <| LX.p (Y.addN rfl rfl (by (simp only []; omega))) rfl <| LX.mv rfl <| LX.p (Y.fieldAddr0 Pa.fo42_1 rfl) rfl <| LX.storeB 0 Pb.sz3 rfl rfl rfl rfl rfl rfl rfl rfl <| LX.wq (PWl bp al L cl (RS.go s4 1) m4 fr) rfl ?_
      have hR7 : Rn L.length s (RS.go s4 1) ([r4]) 2 (-2) := hR4.go hgo6
      have hle8 : s.at_ < (s4.at_ + 1) := by have h9 : s.at_ ≤ s4.at_ := hR4.le; omega
      have hlt8 : (s4.at_ + 1) < L.length := hgo6
      refine LX.su [0, 3, 4] rfl <| LX.nt <| CX.sr ?_
      obtain ⟨t9, ht9⟩ : ∃ t, L[(s4.at_ + 1)]? = some t := ⟨_, List.getElem?_eq_getElem (show (s4.at_ + 1) < L.length from hR7.lt)⟩
      have htk9 := (tok_in hL ht9).1
      have htp9 := (tok_in hL ht9).2
      refine LX.mv rfl <| LX.call (kind_c (fr := fr) (RS.go s4 1) m4 hL hK ht9 1 dc) Pg.en42 rfl rfl rfl rfl rfl ?_
      rintro ⟨k10, b10, s10⟩
      refine LX.have fun ⟨hk10, hki10, hkt10, hw10⟩ => ?_
      try dsimp only at hk10 hki10 hkt10 hw10 ⊢
      have hn10 : NdsR 3 m4.rs m4.cells s10.ns := by rw [hw10.ns]; exact hn4
      have hR11 : Rn L.length s s10 ([r4]) 3 (-4) := hR7.want hw10
      have hch12 : (s4.at_ + 1) ≤ s10.at_ := hw10.le
      have hle12 : s.at_ < s10.at_ := by omega
      have hlt12 : s10.at_ < L.length := hR11.lt
      have hde12 : s4.deep ≤ s10.deep := Int.le_of_eq hw10.deep.symm
      have hdd12 : s10.deep ≤ 60 := hR11.d1
      refine LX.mv rfl <| LX.p (Y.extract rfl rfl) rfl <| LX.p (Y.extract rfl rfl) rfl <| LX.alloc rfl Pa.zv44 rfl rfl rfl ?_
      intro bt13
      refine LX.storeA 0 Pa.ag44 rfl rfl rfl rfl rfl rfl rfl rfl rfl <| LX.wq (Tb bt13 k10 :: PWl bp al L cl s10 m4 fr) rfl <| LX.mv rfl ?_
      refine LX.wp (PWl bp al L cl s10 m4 (Tb bt13 k10 :: fr)) ?_
      refine LX.su [0, 3, 4, 5] rfl <| LX.nt <| CX.region <| LX.ms 2 rfl <| LX.p (Y.fieldAddr0 Pa.fo44_1 rfl) rfl ?_
      refine LX.wp (Tb bt13 k10 :: PWl bp al L cl s10 m4 fr) ?_
      refine LX.p (Y.ldB 0 Pa.one9 rfl rfl rfl) rfl <| LX.mv rfl <| LX.buildSlice (e := 3) (size := 1) rfl rfl (fun _ => by kernel_rfl) rfl dc rfl rfl rfl ?_
      intro gt14
      refine LX.wq (Ri (some gt14) 1 ([r4]) :: Tb bt13 k10 :: PWl bp al L cl s10 m4 fr) rfl ?_
      refine LX.wp (Ri (some gt14) 1 ([r4]) :: PWl bp al L cl s10 m4 (Tb bt13 k10 :: fr)) ?_
      refine LX.call (put_c (fr := (Tb bt13 k10 :: fr)) (g := (some gt14)) (c := 1) (ks := [r4]) (op := 12) (pos := t5.pos) (x := k10.text) s10 m4 hn10 (fun h0 => by have h1 : ((s10.ns).length : Int) + 2 * s.at_ ≤ s.ns.length + 2 * ((s10.at_ : Nat) : Int) + (-4) := hR11.few h0; have h2 := hs.few (hR11.bad h0); have h3 := hK.len; have h4 : s10.at_ < L.length := hR11.lt; show (s10.ns).length ≤ 1000000; omega) (by (simp only [List.length_cons, List.length_nil, List.length_append]; omega)) ((AllI.cons as_ AllI.nil)) (by (unfold inI; omega)) as_) Pd.en16 rfl rfl rfl rfl rfl ?_
      rintro ⟨r15, s15, m15⟩
      refine LX.have fun ⟨hri15, hp15, hn15⟩ => ?_
      try dsimp only at hri15 hp15 hn15 ⊢
      have hR16 : Rn L.length s s15 ([r15]) 3 (-3) := hR11.put (us := ([] : List Int)) (ks := [r4]) hp15 pm
      have hch17 : s10.at_ ≤ s15.at_ := Nat.le_of_eq hp15.eqs.1.symm
      have hle17 : s.at_ < s15.at_ := by omega
      have hlt17 : s15.at_ < L.length := hR16.lt
      have hde17 : s10.deep ≤ s15.deep := Int.le_of_eq hp15.eqs.2.1.symm
      have hdd17 : s15.deep ≤ 60 := hR16.d1
      refine LX.mv rfl <| LX.su [0, 3] rfl <| LX.next <| PX.blockN <| PX.blockN ?_
      exact PX.again (i := (r4, s4, m4)) (r15, s15, m15) (by show 2 * (L.length - s15.at_) + (if s15.code = 0 then 1 else 0) < 2 * (L.length - s4.at_) + (if s4.code = 0 then 1 else 0); rw [if_pos (show s4.code = 0 by assumption)]; split <;> omega) ⟨rfl, rfl, trivial⟩ (fun w hw => ⟨⟨by assumption, hR16.wk dc dc, hn15⟩, hw.ct⟩)
    try simp at hb2
    refine CX.sr <| LX.mv rfl <| LX.callQ (is_q (s := s4) (m := m4) ht5 ([40] : List UInt8) (fun w hw => blkL hw (i := 0) rfl) (fun w hw => hL.push hw)) Pb.en32 rfl rfl rfl rfl rfl <| LX.mv rfl <| LX.su [0, 3, 4, 40] rfl <| LX.nt ?_
    refine CX.cond rfl (fun hb3 => ?_) (fun hb3 => ?_)
    · try simp at hb3
      refine CX.seq <| CX.sr <| LX.ms 2 rfl ?_
      have hd018 : 0 ≤ s4.deep := by have h9 := hs.d0; have h8 : s.deep ≤ s4.deep := hR4.d0; omega
      refine LX.call (enter_c (fr := fr) s4 m4 hd018 t5.pos) Pd.en48 rfl rfl rfl rfl rfl ?_
      rintro ⟨b18, s18⟩
      refine LX.have fun he18 => ?_
      try dsimp only at he18 ⊢
      have hn18 : NdsR 3 m4.rs m4.cells s18.ns := by rw [he18.ns]; exact hn4
      refine LX.p (Y.not rfl) rfl <| LX.su [0, 3, 4, 46] rfl <| LX.nt ?_
      refine CX.cond rfl (fun hb4 => ?_) (fun hb4 => ?_)
      · try simp at hb4
        have hb918 := he18.f (by exact hb4)
        have hbc18 := hb918.code
        have hR19 : Rn L.length s s18 ([r4]) 1 (0) := hR4.bad2 hb918
        have hch918 : s4.at_ ≤ s18.at_ := Nat.le_of_eq hb918.at_.symm
        refine CX.sr <| LX.mv rfl <| LX.su [0, 2, 3, 4] rfl <| LX.nt <| CX.ret <| PX.thenR <| PX.blockR <| PX.blockR <| PX.thenR <| PX.blockR <| PX.thenR <| PX.ret1 (by simp) Try.results60 rfl ?_
        exact fun w hw => ⟨((-1), s18, m4), rfl, ⟨(by (unfold inI; omega)), hR19.no as_, hn18⟩, hw⟩
      try simp at hb4
      obtain ⟨hc18, hdl18, hq18⟩ := he18.t (by exact hb4)
      subst hq18
      have hR20 : Rn L.length s (RS.dp s4 (s4.deep + 1)) ([r4]) 1 (0) := hR4.up hdl18
      refine CX.skip <| PX.thenN <| CX.sr ?_
      have hgo21 : s4.at_ + 1 < L.length := by exact hK.fin _ t5 ht5 (by (intro h8; simp_all [isS]; done))
      have hln21 := hK.len
      refine LX.ms 3 rfl <| LX.p (Y.fieldAddr0 Pa.fo42_1 rfl) rfl <| LX.p (Y.ldB 0 Pa.one3 rfl rfl rfl) rfl <| LX.p (Y.addN rfl rfl (by (simp only []; omega))) rfl <| LX.mv rfl <| LX.p (Y.fieldAddr0 Pa.fo42_1 rfl) rfl <| LX.storeB 0 Pb.sz3 rfl rfl rfl rfl rfl rfl rfl rfl <| LX.wq (PWl bp al L cl (RS.go (RS.dp s4 (s4.deep + 1)) 1) m4 fr) rfl ?_
      have hR22 : Rn L.length s (RS.go (RS.dp s4 (s4.deep + 1)) 1) ([r4]) 2 (-2) := hR20.go hgo21
      have hle23 : s.at_ < (s4.at_ + 1) := by have h9 : s.at_ ≤ s4.at_ := hR20.le; omega
      have hlt23 : (s4.at_ + 1) < L.length := hgo21
      refine LX.su [0, 3, 4] rfl <| LX.nt <| CX.sr <| LX.mv rfl <| LX.buildSlice (e := 3) (size := 1) rfl rfl (fun _ => by kernel_rfl) rfl dc rfl rfl rfl ?_
      intro gt24
      refine LX.wq (Ri (some gt24) 1 ([r4]) :: PWl bp al L cl (RS.go (RS.dp s4 (s4.deep + 1)) 1) m4 fr) rfl <| LX.mv rfl ?_
      refine LX.wp (PWl bp al L cl (RS.go (RS.dp s4 (s4.deep + 1)) 1) m4 (Ri (some gt24) 1 ([r4]) :: fr)) ?_
      have hk25 : Sk L.length (RS.go (RS.dp s4 (s4.deep + 1)) 1) := hs.next hR22 dc
      refine LX.call (arguments_c (N := N - 1) hL hK (fun s m fr a b c => ih_test s m fr a b (by omega)) (RS.go (RS.dp s4 (s4.deep + 1)) 1) m4 (Ri (some gt24) 1 ([r4]) :: fr) hk25 hn18 (by show L.length - (s4.at_ + 1) ≤ N - 1; omega)) Pg.en64 rfl rfl rfl rfl rfl ?_
      rintro ⟨l25, g25, c25, b25, s25, m25⟩
      refine LX.have fun ⟨hla25, hll25, hbl25, hbk25, hr25, hn25⟩ => ?_
      try dsimp only at hla25 hll25 hbl25 hbk25 hr25 hn25 ⊢
      have hR26 : Rn L.length s s25 ([r4] ++ l25) 2 (-2) := (hR22.trans hr25).re pm
      have hch27 : (s4.at_ + 1) ≤ s25.at_ := hr25.le
      have hle27 : s.at_ < s25.at_ := by omega
      have hlt27 : s25.at_ < L.length := hR26.lt
      have hde27 : (s4.deep + 1) ≤ s25.deep := hr25.d0
      have hdd27 : s25.deep ≤ 60 := hR26.d1
      refine LX.wq (Ri g25 c25 l25 :: PWl bp al L cl s25 m25 (Ri (some gt24) 1 ([r4]) :: fr)) rfl ?_
      refine LX.wp (Ri g25 c25 l25 :: Ri (some gt24) 1 ([r4]) :: PWl bp al L cl s25 m25 fr) ?_
      refine LX.appendRows 1 0 (g := (some gt24)) (k := ([r4]).length) (m := (l25).length) Pe.el29 rfl rfl rfl rfl rfl rfl (by rw [List.all_map]; exact List.all_eq_true.2 fun _ _ => rfl) lo lo rfl rfl rfl ?_
      intro ga28 ca28
      refine LX.world (W' := WA w0 base (.row ga28 ca28 (([r4]).length + (l25).length) 3 1 (([r4]).map iv ++ (l25).map iv) :: PWl bp al L cl s25 m25 fr)) (fun w hw => hw.drop (List.sublist_cons_self _ _)) <| LX.wa (Ri ga28 ca28 ([r4] ++ l25) :: PWl bp al L cl s25 m25 fr) <| LX.sub (l' := [(0, _), (3, _), (4, _), (55, _), (56, _), (57, _), (58, _), (59, rv ga28 (([r4] ++ l25)).length ca28)]) ⟨rfl, rfl, rfl, rfl, rfl, rfl, rfl, (by (show some (rv _ _ _) = some (rv _ _ _); simp only [List.length_cons, List.length_append, List.length_nil] <;> rfl)), trivial⟩ <| LX.mv rfl ?_
      refine LX.wp (PWl bp al L cl s25 m25 (Ri ga28 ca28 ([r4] ++ l25) :: fr)) ?_
      refine LX.su [0, 3, 4, 7] rfl <| LX.nt <| CX.sr ?_
      obtain ⟨t29, ht29⟩ : ∃ t, L[s25.at_]? = some t := ⟨_, List.getElem?_eq_getElem (show s25.at_ < L.length from hR26.lt)⟩
      have htk29 := (tok_in hL ht29).1
      have htp29 := (tok_in hL ht29).2
      refine LX.mv rfl <| LX.call (want_c (fr := (Ri ga28 ca28 ([r4] ++ l25) :: fr)) s25 m25 hL hK ht29 ([41] : List UInt8)) Pd.en35 rfl rfl rfl rfl rfl ?_
      rintro ⟨b30, s30⟩
      refine LX.have fun hw30 => ?_
      try dsimp only at hw30 ⊢
      have hn30 : NdsR 3 m25.rs m25.cells s30.ns := by rw [hw30.ns]; exact hn25
      have hR31 : Rn L.length s s30 ([r4] ++ l25) 3 (-4) := hR26.want hw30
      have hch32 : s25.at_ ≤ s30.at_ := hw30.le
      have hle32 : s.at_ < s30.at_ := by omega
      have hlt32 : s30.at_ < L.length := hR31.lt
      have hde32 : s25.deep ≤ s30.deep := Int.le_of_eq hw30.deep.symm
      have hdd32 : s30.deep ≤ 60 := hR31.d1
      refine LX.su [0, 3, 4, 7] rfl <| LX.nt <| CX.sr <| LX.ms 3 rfl <| LX.p (Y.fieldAddr0 Pb.fo42_3 rfl) rfl <| LX.p (Y.ldB 0 Pa.one3 rfl rfl rfl) rfl <| LX.p (Y.sub rfl rfl (by omega)) rfl <| LX.mv rfl <| LX.p (Y.fieldAddr0 Pb.fo42_3 rfl) rfl <| LX.storeB 0 Pb.sz3 rfl rfl rfl rfl rfl rfl rfl rfl <| LX.wq (PWl bp al L cl (RS.dp s30 (s30.deep - 1)) m25 (Ri ga28 ca28 ([r4] ++ l25) :: fr)) rfl ?_
      have hR33 : Rn L.length s (RS.dp s30 (s30.deep - 1)) ([r4] ++ l25) 3 (-4) := hR31.down (by show s.deep + 1 ≤ s30.deep; omega)
      refine LX.su [0, 3, 4, 7] rfl <| LX.nt <| CX.region <| LX.ms 3 rfl ?_
      refine LX.wp (Ri ga28 ca28 ([r4] ++ l25) :: PWl bp al L cl (RS.dp s30 (s30.deep - 1)) m25 fr) ?_
      refine LX.call (put_c (fr := fr) (g := ga28) (c := ca28) (ks := ([r4] ++ l25)) (op := 10) (pos := t5.pos) (x := ([] : List UInt8)) (RS.dp s30 (s30.deep - 1)) m25 hn30 (fun h0 => by have h1 : ((s30.ns).length : Int) + 2 * s.at_ ≤ s.ns.length + 2 * ((s30.at_ : Nat) : Int) + (-4) := hR33.few h0; have h2 := hs.few (hR33.bad h0); have h3 := hK.len; have h4 : s30.at_ < L.length := hR33.lt; show (s30.ns).length ≤ 1000000; omega) (by (simp only [List.length_cons, List.length_nil, List.length_append]; omega)) ((AllI.app (AllI.cons as_ AllI.nil) hla25)) (by (unfold inI; omega)) as_) Pd.en16 rfl rfl rfl rfl rfl ?_
      rintro ⟨r34, s34, m34⟩
      refine LX.have fun ⟨hri34, hp34, hn34⟩ => ?_
      try dsimp only at hri34 hp34 hn34 ⊢
      have hR35 : Rn L.length s s34 ([r34]) 3 (-3) := hR33.put (us := ([] : List Int)) (ks := ([r4] ++ l25)) hp34 pm
      have hch36 : s30.at_ ≤ s34.at_ := Nat.le_of_eq hp34.eqs.1.symm
      have hle36 : s.at_ < s34.at_ := by omega
      have hlt36 : s34.at_ < L.length := hR35.lt
      have hde36 : (s30.deep - 1) ≤ s34.deep := Int.le_of_eq hp34.eqs.2.1.symm
      have hdd36 : s34.deep ≤ 60 := hR35.d1
      refine LX.mv rfl <| LX.su [0, 3] rfl <| LX.next <| PX.blockN <| PX.blockN ?_
      exact PX.again (i := (r4, s4, m4)) (r34, s34, m34) (by show 2 * (L.length - s34.at_) + (if s34.code = 0 then 1 else 0) < 2 * (L.length - s4.at_) + (if s4.code = 0 then 1 else 0); rw [if_pos (show s4.code = 0 by assumption)]; split <;> omega) ⟨rfl, rfl, trivial⟩ (fun w hw => ⟨⟨by assumption, hR35.wk dc dc, hn34⟩, hw⟩)
    try simp at hb3
    refine CX.sr <| LX.mv rfl <| LX.callQ (is_q (s := s4) (m := m4) ht5 ([91] : List UInt8) (fun w hw => blkL hw (i := 0) rfl) (fun w hw => hL.push hw)) Pb.en32 rfl rfl rfl rfl rfl <| LX.mv rfl <| LX.su [0, 3, 4, 74] rfl <| LX.nt ?_
    refine CX.cond rfl (fun hb5 => ?_) (fun hb5 => ?_)
    · try simp at hb5
      refine CX.region <| LX.ms 3 rfl ?_
      have hgo37 : s4.at_ + 1 < L.length := by exact hK.fin _ t5 ht5 (by (intro h8; simp_all [isS]; done))
      refine LX.call (index_c hL hK ih_test r4 t5.pos as_ as_ s s4 m4 fr hs (hR4.wk dc dc) hn4 (by show L.length - s4.at_ ≤ N; omega) hgo37) Pg.en65 rfl rfl rfl rfl rfl ?_
      rintro ⟨r37, s37, m37⟩
      refine LX.have fun ⟨hri37, hr37, hn37, hch37, hav37⟩ => ?_
      try dsimp only at hri37 hr37 hn37 hch37 hav37 ⊢
      have hle37 : s.at_ ≤ s37.at_ := hr37.le
      have hlt37 : s37.at_ < L.length := hr37.lt
      have hde37 : s.deep ≤ s37.deep := hr37.d0
      have hdd37 : s37.deep ≤ 60 := hr37.d1
      refine LX.mv rfl <| LX.su [0, 3] rfl <| LX.next <| PX.blockN <| PX.blockN ?_
      exact PX.again (i := (r4, s4, m4)) (r37, s37, m37) (by show 2 * (L.length - s37.at_) + (if s37.code = 0 then 1 else 0) < 2 * (L.length - s4.at_) + (if s4.code = 0 then 1 else 0); rw [if_pos (show s4.code = 0 by assumption)]; split <;> omega) ⟨rfl, rfl, trivial⟩ (fun w hw => ⟨⟨by assumption, hr37.wk dc dc, hn37⟩, hw⟩)
    try simp at hb5
    refine CX.sr <| LX.ms 2 rfl <| LX.su [0, 2, 3] rfl <| LX.nt <| CX.ret <| PX.blockR <| PX.blockR <| PX.thenR <| PX.blockR <| PX.thenR <| PX.ret1 (by simp) Try.results60 rfl ?_
    exact fun w hw => ⟨(r4, s4, m4), rfl, ⟨as_, hR4.wk dc dc, hn4⟩, hw⟩
  try simp at hb1
  refine CX.exit <| PX.thenE <| PX.thenE <| PX.blockE <| PX.thenN <| CX.sr <| LX.mv rfl <| LX.su [2] rfl <| LX.nt <| CX.ret <| PX.ret1 (by simp) Try.results60 rfl ?_
  exact fun w hw => ⟨((-1), s4, m4), rfl, ⟨(by (unfold inI; omega)), hR4.no as_, hn4⟩, hw⟩
theorem atom_c {w0 : World} {base : Nat} {bp : Nat} {al : Option Addr} {cl : Nat} {L : List Go.Pa.Tk} (hL : SlAt 3 tokA (Lies w0 base) al L) (hK : Tok6 L) {N : Nat} (ih_test : (∀ (s : RS) (m : Mm) (fr : List It), Sk L.length s → NdsR 3 m.rs m.cells s.ns → L.length - s.at_ < N → PF 47 [.pointer (some ⟨bp, 0, none⟩)] w0 base bp al cl L s m fr)) (ih_or : (∀ (s : RS) (m : Mm) (fr : List It), Sk L.length s → NdsR 3 m.rs m.cells s.ns → L.length - s.at_ < N → PF 56 [.pointer (some ⟨bp, 0, none⟩)] w0 base bp al cl L s m fr)) (ih_targets : (∀ (s : RS) (m : Mm) (fr : List It), Sk L.length s → NdsR 3 m.rs m.cells s.ns → L.length - s.at_ < N → PF 34 [.pointer (some ⟨bp, 0, none⟩)] w0 base bp al cl L s m fr))  : (∀ (s : RS) (m : Mm) (fr : List It), Sk L.length s → NdsR 3 m.rs m.cells s.ns → L.length - s.at_ ≤ N → PF 63 [.pointer (some ⟨bp, 0, none⟩)] w0 base bp al cl L s m fr) := by
  intro s m fr hs hn hN
  have hR := Rn.refl hs
  have hle : s.at_ ≤ s.at_ := Nat.le_refl _
  have hd0 := hs.d0
  have hd1 := hs.d1
  have hlt := hs.lt
  have hln0 := hK.len
  have hN0 : 0 < N := by omega
  refine FnC.of_body (fn := Try.f63) [(0, _)] Try.func63 rfl Try.ntmps63 rfl ⟨rfl, trivial⟩ ?_
  refine CX.sr <| LX.mv rfl <| LX.su [0, 2] rfl <| LX.nt <| CX.seq <| CX.sr <| LX.mv rfl <| LX.callQ (show FnQ Try.prog 12 #[.pointer (some ⟨bp, 0, none⟩)] _ (.bool (decide (s.code ≠ 0))) from bad_q (s := s) (m := m) (fun w hw => blkL hw (i := 0) rfl)) Pb.en12 rfl rfl rfl rfl rfl <| LX.su [0, 2, 7] rfl <| LX.nt ?_
  refine CX.cond rfl (fun hb1 => ?_) (fun hb1 => ?_)
  · try simp at hb1
    refine CX.sr <| LX.mv rfl <| LX.su [0, 2] rfl <| LX.nt <| CX.ret <| PX.thenR <| PX.ret1 (by simp) Try.results63 rfl ?_
    exact fun w hw => ⟨((-1), s, m), rfl, ⟨(by (unfold inI; omega)), hR.no as_, hn⟩, hw⟩
  try simp at hb1
  refine CX.skip <| PX.thenN <| CX.sr ?_
  obtain ⟨t1, ht1⟩ : ∃ t, L[s.at_]? = some t := ⟨_, List.getElem?_eq_getElem (show s.at_ < L.length from hR.lt)⟩
  have htk1 := (tok_in hL ht1).1
  have htp1 := (tok_in hL ht1).2
  refine LX.mv rfl <| LX.callQ (now_q (s := s) (m := m) ht1 (fun w hw => blkL hw (i := 0) rfl) (fun w hw => hL.push hw)) Pa.en13 rfl rfl rfl rfl rfl <| LX.alloc rfl Pa.zv44 rfl rfl rfl ?_
  intro bt2
  refine LX.storeA 0 Pa.ag44 rfl rfl rfl rfl rfl rfl rfl rfl rfl <| LX.wq (Tb bt2 t1 :: PWl bp al L cl s m fr) rfl ?_
  refine LX.wp (PWl bp al L cl s m (Tb bt2 t1 :: fr)) ?_
  refine LX.su [0, 2, 3] rfl <| LX.nt <| CX.seq <| CX.sr <| LX.p (Y.fieldAddr0 Pa.fo44_0 rfl) rfl ?_
  refine LX.wp (Tb bt2 t1 :: PWl bp al L cl s m fr) ?_
  refine LX.p (Y.ldB 0 Pa.one3 rfl rfl rfl) rfl ?_
  refine LX.wp (PWl bp al L cl s m (Tb bt2 t1 :: fr)) ?_
  refine LX.su [0, 2, 3, 11] rfl <| LX.nt <| CX.block <| CX.sr <| LX.p (Y.eqI rfl rfl) rfl <| LX.mv rfl <| LX.su [0, 2, 3, 11, 12] rfl <| LX.nt ?_
  refine CX.cond rfl (fun hb2 => ?_) (fun hb2 => ?_)
  · try simp at hb2
    refine CX.sr ?_
    have hgo3 : s.at_ + 1 < L.length := by exact hK.fin _ t1 ht1 (by omega)
    have hln3 := hK.len
    refine LX.ms 3 rfl <| LX.p (Y.fieldAddr0 Pa.fo42_1 rfl) rfl <| LX.p (Y.ldB 0 Pa.one3 rfl rfl rfl) rfl <| LX.p (Y.addN rfl rfl (by (simp only []; omega))) rfl <| LX.mv rfl <| LX.p (Y.fieldAddr0 Pa.fo42_1 rfl) rfl <| LX.storeB 0 Pb.sz3 rfl rfl rfl rfl rfl rfl rfl rfl <| LX.wq (PWl bp al L cl (RS.go s 1) m (Tb bt2 t1 :: fr)) rfl ?_
    have hR4 : Rn L.length s (RS.go s 1) ([] : List Int) 1 (-2) := hR.go hgo3
    have hle5 : s.at_ < (s.at_ + 1) := by have h9 : s.at_ ≤ s.at_ := hR.le; omega
    have hlt5 : (s.at_ + 1) < L.length := hgo3
    refine LX.su [0, 2, 3] rfl <| LX.nt <| CX.sr <| LX.mv rfl <| LX.p (Y.fieldAddr0 Pf.fo44_2 rfl) rfl ?_
    refine LX.wp (Tb bt2 t1 :: PWl bp al L cl (RS.go s 1) m fr) ?_
    refine LX.p (Y.ldB 0 Pa.one3 rfl rfl rfl) rfl <| LX.p (Y.fieldAddr0 Pa.fo44_1 rfl) rfl <| LX.p (Y.ldB 0 Pa.one9 rfl rfl rfl) rfl ?_
    refine LX.wp (PWl bp al L cl (RS.go s 1) m (Tb bt2 t1 :: fr)) ?_
    refine LX.world (W' := WA w0 base (Ri none 0 ([] : List Int) :: PWl bp al L cl (RS.go s 1) m (Tb bt2 t1 :: fr))) (fun w hw => (show WA w0 base (Ri none 0 ([] : List Int) :: PWl bp al L cl (RS.go s 1) m (Tb bt2 t1 :: fr)) w from (show WA w0 base (PWl bp al L cl (RS.go s 1) m (Tb bt2 t1 :: fr)) w from hw).nilRow 3 1)) <| LX.call (put_c (fr := (Tb bt2 t1 :: fr)) (g := none) (c := 0) (ks := ([] : List Int)) (op := 6) (pos := t1.pos) (x := t1.text) (RS.go s 1) m hn (fun h0 => by have h1 : ((s.ns).length : Int) + 2 * s.at_ ≤ s.ns.length + 2 * (((s.at_ + 1) : Nat) : Int) + (-2) := hR4.few h0; have h2 := hs.few (hR4.bad h0); have h3 := hK.len; have h4 : (s.at_ + 1) < L.length := hR4.lt; show (s.ns).length ≤ 1000000; omega) (by (simp only [List.length_cons, List.length_nil, List.length_append]; omega)) (AllI.nil) (by (unfold inI; omega)) as_) Pd.en16 rfl rfl rfl rfl rfl ?_
    rintro ⟨r6, s6, m6⟩
    refine LX.have fun ⟨hri6, hp6, hn6⟩ => ?_
    try dsimp only at hri6 hp6 hn6 ⊢
    have hR7 : Rn L.length s s6 ([r6]) 1 (-1) := hR4.put (us := ([] : List Int)) (ks := ([] : List Int)) hp6 pm
    have hch8 : (s.at_ + 1) ≤ s6.at_ := Nat.le_of_eq hp6.eqs.1.symm
    have hle8 : s.at_ < s6.at_ := by omega
    have hlt8 : s6.at_ < L.length := hR7.lt
    have hde8 : s.deep ≤ s6.deep := Int.le_of_eq hp6.eqs.2.1.symm
    have hdd8 : s6.deep ≤ 60 := hR7.d1
    refine LX.mv rfl <| LX.su [0, 2] rfl <| LX.nt <| CX.ret <| PX.blockR <| PX.thenR <| PX.ret1 (by simp) Try.results63 rfl ?_
    exact fun w hw => ⟨(r6, s6, m6), rfl, ⟨as_, hR7.wk dc dc, hn6⟩, hw.ct⟩
  try simp at hb2
  refine CX.sr <| LX.p (Y.eqI rfl rfl) rfl <| LX.mv rfl <| LX.su [0, 2, 3, 11, 28] rfl <| LX.nt ?_
  refine CX.cond rfl (fun hb3 => ?_) (fun hb3 => ?_)
  · try simp at hb3
    refine CX.sr ?_
    have hgo9 : s.at_ + 1 < L.length := by exact hK.fin _ t1 ht1 (by omega)
    have hln9 := hK.len
    refine LX.ms 3 rfl <| LX.p (Y.fieldAddr0 Pa.fo42_1 rfl) rfl <| LX.p (Y.ldB 0 Pa.one3 rfl rfl rfl) rfl <| LX.p (Y.addN rfl rfl (by (simp only []; omega))) rfl <| LX.mv rfl <| LX.p (Y.fieldAddr0 Pa.fo42_1 rfl) rfl <| LX.storeB 0 Pb.sz3 rfl rfl rfl rfl rfl rfl rfl rfl <| LX.wq (PWl bp al L cl (RS.go s 1) m (Tb bt2 t1 :: fr)) rfl ?_
    have hR10 : Rn L.length s (RS.go s 1) ([] : List Int) 1 (-2) := hR.go hgo9
    have hle11 : s.at_ < (s.at_ + 1) := by have h9 : s.at_ ≤ s.at_ := hR.le; omega
    have hlt11 : (s.at_ + 1) < L.length := hgo9
    refine LX.su [0, 2, 3] rfl <| LX.nt <| CX.sr <| LX.mv rfl <| LX.p (Y.fieldAddr0 Pf.fo44_2 rfl) rfl ?_
    refine LX.wp (Tb bt2 t1 :: PWl bp al L cl (RS.go s 1) m fr) ?_
    refine LX.p (Y.ldB 0 Pa.one3 rfl rfl rfl) rfl <| LX.p (Y.fieldAddr0 Pa.fo44_1 rfl) rfl <| LX.p (Y.ldB 0 Pa.one9 rfl rfl rfl) rfl ?_
    refine LX.wp (PWl bp al L cl (RS.go s 1) m (Tb bt2 t1 :: fr)) ?_
    refine LX.world (W' := WA w0 base (Ri none 0 ([] : List Int) :: PWl bp al L cl (RS.go s 1) m (Tb bt2 t1 :: fr))) (fun w hw => (show WA w0 base (Ri none 0 ([] : List Int) :: PWl bp al L cl (RS.go s 1) m (Tb bt2 t1 :: fr)) w from (show WA w0 base (PWl bp al L cl (RS.go s 1) m (Tb bt2 t1 :: fr)) w from hw).nilRow 3 1)) <| LX.call (put_c (fr := (Tb bt2 t1 :: fr)) (g := none) (c := 0) (ks := ([] : List Int)) (op := 4) (pos := t1.pos) (x := t1.text) (RS.go s 1) m hn (fun h0 => by have h1 : ((s.ns).length : Int) + 2 * s.at_ ≤ s.ns.length + 2 * (((s.at_ + 1) : Nat) : Int) + (-2) := hR10.few h0; have h2 := hs.few (hR10.bad h0); have h3 := hK.len; have h4 : (s.at_ + 1) < L.length := hR10.lt; show (s.ns).length ≤ 1000000; omega) (by (simp only [List.length_cons, List.length_nil, List.length_append]; omega)) (AllI.nil) (by (unfold inI; omega)) as_) Pd.en16 rfl rfl rfl rfl rfl ?_
    rintro ⟨r12, s12, m12⟩
    refine LX.have fun ⟨hri12, hp12, hn12⟩ => ?_
    try dsimp only at hri12 hp12 hn12 ⊢
    have hR13 : Rn L.length s s12 ([r12]) 1 (-1) := hR10.put (us := ([] : List Int)) (ks := ([] : List Int)) hp12 pm
    have hch14 : (s.at_ + 1) ≤ s12.at_ := Nat.le_of_eq hp12.eqs.1.symm
    have hle14 : s.at_ < s12.at_ := by omega
    have hlt14 : s12.at_ < L.length := hR13.lt
    have hde14 : s.deep ≤ s12.deep := Int.le_of_eq hp12.eqs.2.1.symm
    have hdd14 : s12.deep ≤ 60 := hR13.d1
    refine LX.mv rfl <| LX.su [0, 2] rfl <| LX.nt <| CX.ret <| PX.blockR <| PX.thenR <| PX.ret1 (by simp) Try.results63 rfl ?_
    exact fun w hw => ⟨(r12, s12, m12), rfl, ⟨as_, hR13.wk dc dc, hn12⟩, hw.ct⟩
  try simp at hb3
  refine CX.sr <| LX.p (Y.eqI rfl rfl) rfl <| LX.mv rfl <| LX.su [0, 2, 3, 11, 44] rfl <| LX.nt ?_
  refine CX.cond rfl (fun hb4 => ?_) (fun hb4 => ?_)
  · try simp at hb4
    refine CX.sr <| LX.mv rfl <| LX.su [0, 2, 3, 4] rfl <| LX.nt <| CX.seq <| CX.block ?_
    refine CX.loop (fun z : (List UInt8) × RS × Mm => [(0, .pointer (some ⟨bp, 0, none⟩)), (3, .pointer (some ⟨bt2, 0, none⟩)), (4, str z.1)]) (fun (z : (List UInt8) × RS × Mm) w => ((z.1).length ≤ 1000000 * z.2.1.at_ ∧ s.at_ ≤ z.2.1.at_ ∧ s.deep ≤ z.2.1.deep ∧ Rn L.length s z.2.1 ([] : List Int) 0 (0) ∧ NdsR 3 z.2.2.rs z.2.2.cells z.2.1.ns ∧ (z.2.1.ns = s.ns ∧ (s.at_ < z.2.1.at_ ∨ z.2.1 = s))) ∧ WA w0 base (PWl bp al L cl z.2.1 z.2.2 (Tb bt2 t1 :: fr)) w) (fun z : (List UInt8) × RS × Mm => L.length - z.2.1.at_) (([] : List UInt8), s, m) ⟨rfl, rfl, rfl, trivial⟩ (fun w hw => ⟨⟨(by show List.length _ ≤ 1000000 * s.at_; (try simp only [List.length_append, List.length_nil]); omega), Nat.le_refl _, Int.le_refl _, (hR.wk dc dc).re pm, hn, ⟨(by rfl), (by exact .inr rfl)⟩⟩, (hw.perm pm)⟩) ?_
    rintro ⟨v15_0, s15, m15⟩
    refine CX.have fun ⟨htx15_0, hlo15, hld15, hR15, hn15, hbz15⟩ => ?_
    try dsimp only at htx15_0 hlo15 hld15 hR15 hn15 hbz15 ⊢
    have hbza15 := hbz15.1
    have hbzb15 := hbz15.2
    have hle15 : s.at_ ≤ s15.at_ := by omega
    have hlt15 : s15.at_ < L.length := hR15.lt
    have hde15 := hR15.d0
    have hdd15 := hR15.d1
    refine CX.seq <| CX.sr ?_
    obtain ⟨t16, ht16⟩ : ∃ t, L[s15.at_]? = some t := ⟨_, List.getElem?_eq_getElem (show s15.at_ < L.length from hR15.lt)⟩
    have htk16 := (tok_in hL ht16).1
    have htp16 := (tok_in hL ht16).2
    refine LX.mv rfl <| LX.callQ (now_q (s := s15) (m := m15) ht16 (fun w hw => blkL hw (i := 0) rfl) (fun w hw => hL.push hw)) Pa.en13 rfl rfl rfl rfl rfl <| LX.p (Y.field (v := .int .i64 t16.kind) rfl (fun _ => by kernel_rfl)) rfl <| LX.p (Y.eqI rfl rfl) rfl <| LX.su [0, 3, 4, 49] rfl <| LX.nt ?_
    refine CX.cond rfl (fun hb5 => ?_) (fun hb5 => ?_)
    · try simp at hb5
      refine CX.skip <| PX.thenN <| CX.block <| CX.sr <| LX.ms 2 rfl <| LX.callQ (now_q (s := s15) (m := m15) ht16 (fun w hw => blkL hw (i := 0) rfl) (fun w hw => hL.push hw)) Pa.en13 rfl rfl rfl rfl rfl <| LX.p (Y.field (v := str t16.text) rfl (fun _ => by kernel_rfl)) rfl ?_
      have htl17 := tok_len hK ht16
      refine LX.p (Y.addS rfl rfl (by omega)) rfl <| LX.mv rfl <| LX.su [0, 3, 4] rfl <| LX.nt <| CX.region ?_
      have hgo18 : s15.at_ + 1 < L.length := by exact hK.fin _ t16 ht16 (by omega)
      have hln18 := hK.len
      refine LX.ms 3 rfl <| LX.p (Y.fieldAddr0 Pa.fo42_1 rfl) rfl <| LX.p (Y.ldB 0 Pa.one3 rfl rfl rfl) rfl <| LX.p (Y.addN rfl rfl (by (simp only []; omega))) rfl <| LX.mv rfl <| LX.p (Y.fieldAddr0 Pa.fo42_1 rfl) rfl <| LX.storeB 0 Pb.sz3 rfl rfl rfl rfl rfl rfl rfl rfl <| LX.wq (PWl bp al L cl (RS.go s15 1) m15 (Tb bt2 t1 :: fr)) rfl ?_
      have hR19 : Rn L.length s (RS.go s15 1) ([] : List Int) 1 (-2) := hR15.go hgo18
      have hle20 : s.at_ < (s15.at_ + 1) := by have h9 : s.at_ ≤ s15.at_ := hR15.le; omega
      have hlt20 : (s15.at_ + 1) < L.length := hgo18
      refine LX.su [0, 3, 4] rfl <| LX.next <| PX.blockN ?_
      exact PX.again (i := (v15_0, s15, m15)) ((v15_0 ++ t16.text), (RS.go s15 1), m15) (by show L.length - (s15.at_ + 1) < L.length - s15.at_; omega) ⟨rfl, rfl, rfl, trivial⟩ (fun w hw => ⟨⟨(by show List.length _ ≤ 1000000 * (s15.at_ + 1); (try simp only [List.length_append, List.length_nil]); omega), (by show s.at_ ≤ (s15.at_ + 1); omega), (by show s.deep ≤ s15.deep; omega), (hR19.wk dc dc).re pm, hn15, ⟨as_, (by (exact .inl (by show s.at_ < (s15.at_ + 1); omega)))⟩⟩, (hw.perm pm)⟩)
    try simp at hb5
    have hst15 : s.at_ < s15.at_ := by
      rcases hbzb15 with h | h
      · exact h
      exfalso
      rw [h] at ht16
      have h9 := ht1.symm.trans ht16
      cases h9
      omega
    have hR21 : Rn L.length s s15 ([] : List Int) 1 (-2) := hR15.one hbza15 hst15
    have hle915 : s.at_ < s15.at_ := hst15
    refine CX.exit <| PX.thenE <| PX.thenE <| PX.blockE <| PX.thenN <| CX.sr <| LX.mv rfl <| LX.p (Y.fieldAddr0 Pf.fo44_2 rfl) rfl ?_
    refine LX.wp (Tb bt2 t1 :: PWl bp al L cl s15 m15 fr) ?_
    refine LX.p (Y.ldB 0 Pa.one3 rfl rfl rfl) rfl <| LX.mv rfl ?_
    refine LX.wp (PWl bp al L cl s15 m15 (Tb bt2 t1 :: fr)) ?_
    refine LX.world (W' := WA w0 base (Ri none 0 ([] : List Int) :: PWl bp al L cl s15 m15 (Tb bt2 t1 :: fr))) (fun w hw => (show WA w0 base (Ri none 0 ([] : List Int) :: PWl bp al L cl s15 m15 (Tb bt2 t1 :: fr)) w from (show WA w0 base (PWl bp al L cl s15 m15 (Tb bt2 t1 :: fr)) w from hw).nilRow 3 1)) <| LX.call (put_c (fr := (Tb bt2 t1 :: fr)) (g := none) (c := 0) (ks := ([] : List Int)) (op := 5) (pos := t1.pos) (x := v15_0) s15 m15 hn15 (fun h0 => by have h1 : ((s15.ns).length : Int) + 2 * s.at_ ≤ s.ns.length + 2 * ((s15.at_ : Nat) : Int) + (-2) := hR21.few h0; have h2 := hs.few (hR21.bad h0); have h3 := hK.len; have h4 : s15.at_ < L.length := hR21.lt; show (s15.ns).length ≤ 1000000; omega) (by (simp only [List.length_cons, List.length_nil, List.length_append]; omega)) (AllI.nil) (by (unfold inI; omega)) as_) Pd.en16 rfl rfl rfl rfl rfl ?_
    rintro ⟨r22, s22, m22⟩
    refine LX.have fun ⟨hri22, hp22, hn22⟩ => ?_
    try dsimp only at hri22 hp22 hn22 ⊢
    have hR23 : Rn L.length s s22 ([r22]) 1 (-1) := hR21.put (us := ([] : List Int)) (ks := ([] : List Int)) hp22 pm
    have hch24 : s15.at_ ≤ s22.at_ := Nat.le_of_eq hp22.eqs.1.symm
    have hle24 : s.at_ < s22.at_ := by omega
    have hlt24 : s22.at_ < L.length := hR23.lt
    have hde24 : s15.deep ≤ s22.deep := Int.le_of_eq hp22.eqs.2.1.symm
    have hdd24 : s22.deep ≤ 60 := hR23.d1
    refine LX.mv rfl <| LX.su [0, 2] rfl <| LX.nt <| CX.ret <| PX.blockR <| PX.thenR <| PX.ret1 (by simp) Try.results63 rfl ?_
    exact fun w hw => ⟨(r22, s22, m22), rfl, ⟨as_, hR23.wk dc dc, hn22⟩, hw.ct⟩
  try simp at hb4
  refine CX.sr <| LX.p (Y.eqI rfl rfl) rfl <| LX.mv rfl <| LX.su [0, 2, 3, 68] rfl <| LX.nt ?_
  refine CX.cond rfl (fun hb6 => ?_) (fun hb6 => ?_)
  · try simp at hb6
    refine CX.sr <| LX.buildSlice (e := 9) (size := 1) rfl rfl (fun _ => by kernel_rfl) rfl dc rfl rfl rfl ?_
    intro gt25
    refine LX.wq (Rs (some gt25) 3 ([[78, 111, 110, 101], [84, 114, 117, 101], [70, 97, 108, 115, 101]] : List (List UInt8)) :: PWl bp al L cl s m (Tb bt2 t1 :: fr)) rfl <| LX.p (Y.fieldAddr0 Pa.fo44_1 rfl) rfl ?_
    refine LX.wp (Tb bt2 t1 :: PWl bp al L cl s m (Rs (some gt25) 3 ([[78, 111, 110, 101], [84, 114, 117, 101], [70, 97, 108, 115, 101]] : List (List UInt8)) :: fr)) ?_
    refine LX.p (Y.ldB 0 Pa.one9 rfl rfl rfl) rfl ?_
    refine LX.wp (Rs (some gt25) 3 ([[78, 111, 110, 101], [84, 114, 117, 101], [70, 97, 108, 115, 101]] : List (List UInt8)) :: PWl bp al L cl s m (Tb bt2 t1 :: fr)) ?_
    refine LX.call (among6_w 3 (ss := ([[78, 111, 110, 101], [84, 114, 117, 101], [70, 97, 108, 115, 101]] : List (List UInt8))) lo t1.text (fun w hw => Go.Tr.row_at (ys := (([[78, 111, 110, 101], [84, 114, 117, 101], [70, 97, 108, 115, 101]] : List (List UInt8))).map str) hw (j := 0) rfl rfl dc (fun i z h => map_A h))) Pa.en27 rfl rfl rfl rfl rfl ?_
    intro z26
    refine LX.have fun hz26 => ?_
    replace hz26 : -1 ≤ z26 ∧ z26 < (([[78, 111, 110, 101], [84, 114, 117, 101], [70, 97, 108, 115, 101]] : List (List UInt8))).length := hz26
    try simp only [List.length_cons, List.length_nil] at hz26
    refine LX.mv rfl ?_
    refine LX.wp (PWl bp al L cl s m (Rs (some gt25) 3 ([[78, 111, 110, 101], [84, 114, 117, 101], [70, 97, 108, 115, 101]] : List (List UInt8)) :: Tb bt2 t1 :: fr)) ?_
    refine LX.su [0, 2, 3, 5] rfl <| LX.nt <| CX.seq <| CX.sr <| LX.mv rfl <| LX.p (Y.geI rfl rfl) rfl <| LX.su [0, 2, 3, 5, 75] rfl <| LX.nt ?_
    refine CX.cond rfl (fun hb7 => ?_) (fun hb7 => ?_)
    · try simp at hb7
      refine CX.sr ?_
      have hgo27 : s.at_ + 1 < L.length := by exact hK.fin _ t1 ht1 (by omega)
      have hln27 := hK.len
      refine LX.ms 3 rfl <| LX.p (Y.fieldAddr0 Pa.fo42_1 rfl) rfl <| LX.p (Y.ldB 0 Pa.one3 rfl rfl rfl) rfl <| LX.p (Y.addN rfl rfl (by (simp only []; omega))) rfl <| LX.mv rfl <| LX.p (Y.fieldAddr0 Pa.fo42_1 rfl) rfl <| LX.storeB 0 Pb.sz3 rfl rfl rfl rfl rfl rfl rfl rfl <| LX.wq (PWl bp al L cl (RS.go s 1) m (Rs (some gt25) 3 ([[78, 111, 110, 101], [84, 114, 117, 101], [70, 97, 108, 115, 101]] : List (List UInt8)) :: Tb bt2 t1 :: fr)) rfl ?_
      have hR28 : Rn L.length s (RS.go s 1) ([] : List Int) 1 (-2) := hR.go hgo27
      have hle29 : s.at_ < (s.at_ + 1) := by have h9 : s.at_ ≤ s.at_ := hR.le; omega
      have hlt29 : (s.at_ + 1) < L.length := hgo27
      refine LX.su [0, 2, 3, 5] rfl <| LX.nt <| CX.sr <| LX.ms 2 rfl <| LX.p (Y.add rfl rfl (by omega)) rfl <| LX.p (Y.fieldAddr0 Pf.fo44_2 rfl) rfl ?_
      refine LX.wp (Tb bt2 t1 :: PWl bp al L cl (RS.go s 1) m (Rs (some gt25) 3 ([[78, 111, 110, 101], [84, 114, 117, 101], [70, 97, 108, 115, 101]] : List (List UInt8)) :: fr)) ?_
      refine LX.p (Y.ldB 0 Pa.one3 rfl rfl rfl) rfl ?_
      refine LX.wp (PWl bp al L cl (RS.go s 1) m (Tb bt2 t1 :: Rs (some gt25) 3 ([[78, 111, 110, 101], [84, 114, 117, 101], [70, 97, 108, 115, 101]] : List (List UInt8)) :: fr)) ?_
      refine LX.world (W' := WA w0 base (Ri none 0 ([] : List Int) :: PWl bp al L cl (RS.go s 1) m (Tb bt2 t1 :: Rs (some gt25) 3 ([[78, 111, 110, 101], [84, 114, 117, 101], [70, 97, 108, 115, 101]] : List (List UInt8)) :: fr))) (fun w hw => (show WA w0 base (Ri none 0 ([] : List Int) :: PWl bp al L cl (RS.go s 1) m (Tb bt2 t1 :: Rs (some gt25) 3 ([[78, 111, 110, 101], [84, 114, 117, 101], [70, 97, 108, 115, 101]] : List (List UInt8)) :: fr)) w from (show WA w0 base (PWl bp al L cl (RS.go s 1) m (Tb bt2 t1 :: Rs (some gt25) 3 ([[78, 111, 110, 101], [84, 114, 117, 101], [70, 97, 108, 115, 101]] : List (List UInt8)) :: fr)) w from hw).nilRow 3 1)) <| LX.call (put_c (fr := (Tb bt2 t1 :: Rs (some gt25) 3 ([[78, 111, 110, 101], [84, 114, 117, 101], [70, 97, 108, 115, 101]] : List (List UInt8)) :: fr)) (g := none) (c := 0) (ks := ([] : List Int)) (op := (1 + z26)) (pos := t1.pos) (x := ([] : List UInt8)) (RS.go s 1) m hn (fun h0 => by have h1 : ((s.ns).length : Int) + 2 * s.at_ ≤ s.ns.length + 2 * (((s.at_ + 1) : Nat) : Int) + (-2) := hR28.few h0; have h2 := hs.few (hR28.bad h0); have h3 := hK.len; have h4 : (s.at_ + 1) < L.length := hR28.lt; show (s.ns).length ≤ 1000000; omega) (by (simp only [List.length_cons, List.length_nil, List.length_append]; omega)) (AllI.nil) (by (unfold inI; omega)) as_) Pd.en16 rfl rfl rfl rfl rfl ?_
      rintro ⟨r30, s30, m30⟩
      refine LX.have fun ⟨hri30, hp30, hn30⟩ => ?_
      try dsimp only at hri30 hp30 hn30 ⊢
      have hR31 : Rn L.length s s30 ([r30]) 1 (-1) := hR28.put (us := ([] : List Int)) (ks := ([] : List Int)) hp30 pm
      have hch32 : (s.at_ + 1) ≤ s30.at_ := Nat.le_of_eq hp30.eqs.1.symm
      have hle32 : s.at_ < s30.at_ := by omega
      have hlt32 : s30.at_ < L.length := hR31.lt
      have hde32 : s.deep ≤ s30.deep := Int.le_of_eq hp30.eqs.2.1.symm
      have hdd32 : s30.deep ≤ 60 := hR31.d1
      refine LX.mv rfl <| LX.su [0, 2, 3] rfl <| LX.nt <| CX.ret <| PX.thenR <| PX.blockR <| PX.thenR <| PX.ret1 (by simp) Try.results63 rfl ?_
      exact fun w hw => ⟨(r30, s30, m30), rfl, ⟨as_, hR31.wk dc dc, hn30⟩, hw.ct⟩
    try simp at hb7
    refine CX.skip <| PX.thenN <| CX.sr <| LX.p (Y.fieldAddr0 Pa.fo44_1 rfl) rfl ?_
    refine LX.wp (Tb bt2 t1 :: PWl bp al L cl s m (Rs (some gt25) 3 ([[78, 111, 110, 101], [84, 114, 117, 101], [70, 97, 108, 115, 101]] : List (List UInt8)) :: fr)) ?_
    refine LX.p (Y.ldB 0 Pa.one9 rfl rfl rfl) rfl ?_
    refine LX.wp (PWl bp al L cl s m (Tb bt2 t1 :: Rs (some gt25) 3 ([[78, 111, 110, 101], [84, 114, 117, 101], [70, 97, 108, 115, 101]] : List (List UInt8)) :: fr)) ?_
    refine LX.su [0, 2, 3, 91] rfl <| LX.nt <| CX.block <| CX.sr <| LX.p (Y.eqS rfl rfl) rfl <| LX.mv rfl <| LX.su [0, 2, 3, 91, 92] rfl <| LX.nt ?_
    refine CX.cond rfl (fun hb8 => ?_) (fun hb8 => ?_)
    · try simp at hb8
      refine CX.sr <| LX.mv rfl <| LX.p (Y.fieldAddr0 Pf.fo44_2 rfl) rfl ?_
      refine LX.wp (Tb bt2 t1 :: PWl bp al L cl s m (Rs (some gt25) 3 ([[78, 111, 110, 101], [84, 114, 117, 101], [70, 97, 108, 115, 101]] : List (List UInt8)) :: fr)) ?_
      refine LX.p (Y.ldB 0 Pa.one3 rfl rfl rfl) rfl ?_
      refine LX.wp (PWl bp al L cl s m (Tb bt2 t1 :: Rs (some gt25) 3 ([[78, 111, 110, 101], [84, 114, 117, 101], [70, 97, 108, 115, 101]] : List (List UInt8)) :: fr)) ?_
      have hk33 : Sk L.length s := hs.next hR dc
      have hgo33 : s.at_ + 1 < L.length := by exact hK.fin _ t1 ht1 (by omega)
      refine LX.call (round_c hL hK ih_test t1.pos as_ s m (Tb bt2 t1 :: Rs (some gt25) 3 ([[78, 111, 110, 101], [84, 114, 117, 101], [70, 97, 108, 115, 101]] : List (List UInt8)) :: fr) hk33 hn (by show L.length - s.at_ ≤ N; omega) hgo33) Pg.en67 rfl rfl rfl rfl rfl ?_
      rintro ⟨r33, s33, m33⟩
      refine LX.have fun ⟨hri33, hr33, hn33⟩ => ?_
      try dsimp only at hri33 hr33 hn33 ⊢
      have hR34 : Rn L.length s s33 ([r33]) 1 (0) := hR.trans hr33
      have hch35 : s.at_ ≤ s33.at_ := hr33.le
      have hle35 : s.at_ ≤ s33.at_ := by omega
      have hlt35 : s33.at_ < L.length := hR34.lt
      have hde35 : s.deep ≤ s33.deep := hr33.d0
      have hdd35 : s33.deep ≤ 60 := hR34.d1
      have hav33 : s33.code = 0 → s.at_ + 1 ≤ s33.at_ := hr33.adv
      refine LX.mv rfl <| LX.su [0, 2] rfl <| LX.nt <| CX.ret <| PX.blockR <| PX.blockR <| PX.thenR <| PX.ret1 (by simp) Try.results63 rfl ?_
      exact fun w hw => ⟨(r33, s33, m33), rfl, ⟨as_, hR34.wk dc dc, hn33⟩, hw.ct⟩
    try simp at hb8
    refine CX.sr <| LX.p (Y.eqS rfl rfl) rfl <| LX.mv rfl <| LX.su [0, 2, 3, 91, 98] rfl <| LX.nt ?_
    refine CX.cond rfl (fun hb9 => ?_) (fun hb9 => ?_)
    · try simp at hb9
      refine CX.sr <| LX.mv rfl <| LX.p (Y.fieldAddr0 Pf.fo44_2 rfl) rfl ?_
      refine LX.wp (Tb bt2 t1 :: PWl bp al L cl s m (Rs (some gt25) 3 ([[78, 111, 110, 101], [84, 114, 117, 101], [70, 97, 108, 115, 101]] : List (List UInt8)) :: fr)) ?_
      refine LX.p (Y.ldB 0 Pa.one3 rfl rfl rfl) rfl ?_
      refine LX.wp (PWl bp al L cl s m (Tb bt2 t1 :: Rs (some gt25) 3 ([[78, 111, 110, 101], [84, 114, 117, 101], [70, 97, 108, 115, 101]] : List (List UInt8)) :: fr)) ?_
      have hk36 : Sk L.length s := hs.next hR dc
      have hgo36 : s.at_ + 1 < L.length := by exact hK.fin _ t1 ht1 (by omega)
      refine LX.call (square_c hL hK ih_test ih_or ih_targets t1.pos as_ s m (Tb bt2 t1 :: Rs (some gt25) 3 ([[78, 111, 110, 101], [84, 114, 117, 101], [70, 97, 108, 115, 101]] : List (List UInt8)) :: fr) hk36 hn (by show L.length - s.at_ ≤ N; omega) hgo36) Pg.en68 rfl rfl rfl rfl rfl ?_
      rintro ⟨r36, s36, m36⟩
      refine LX.have fun ⟨hri36, hr36, hn36⟩ => ?_
      try dsimp only at hri36 hr36 hn36 ⊢
      have hR37 : Rn L.length s s36 ([r36]) 1 (0) := hR.trans hr36
      have hch38 : s.at_ ≤ s36.at_ := hr36.le
      have hle38 : s.at_ ≤ s36.at_ := by omega
      have hlt38 : s36.at_ < L.length := hR37.lt
      have hde38 : s.deep ≤ s36.deep := hr36.d0
      have hdd38 : s36.deep ≤ 60 := hR37.d1
      have hav36 : s36.code = 0 → s.at_ + 1 ≤ s36.at_ := hr36.adv
      refine LX.mv rfl <| LX.su [0, 2] rfl <| LX.nt <| CX.ret <| PX.blockR <| PX.blockR <| PX.thenR <| PX.ret1 (by simp) Try.results63 rfl ?_
      exact fun w hw => ⟨(r36, s36, m36), rfl, ⟨as_, hR37.wk dc dc, hn36⟩, hw.ct⟩
    try simp at hb9
    refine CX.sr <| LX.p (Y.eqS rfl rfl) rfl <| LX.mv rfl <| LX.su [0, 2, 3, 104] rfl <| LX.nt ?_
    refine CX.cond rfl (fun hb10 => ?_) (fun hb10 => ?_)
    · try simp at hb10
      refine CX.sr <| LX.mv rfl <| LX.p (Y.fieldAddr0 Pf.fo44_2 rfl) rfl ?_
      refine LX.wp (Tb bt2 t1 :: PWl bp al L cl s m (Rs (some gt25) 3 ([[78, 111, 110, 101], [84, 114, 117, 101], [70, 97, 108, 115, 101]] : List (List UInt8)) :: fr)) ?_
      refine LX.p (Y.ldB 0 Pa.one3 rfl rfl rfl) rfl ?_
      refine LX.wp (PWl bp al L cl s m (Tb bt2 t1 :: Rs (some gt25) 3 ([[78, 111, 110, 101], [84, 114, 117, 101], [70, 97, 108, 115, 101]] : List (List UInt8)) :: fr)) ?_
      have hk39 : Sk L.length s := hs.next hR dc
      have hgo39 : s.at_ + 1 < L.length := by exact hK.fin _ t1 ht1 (by omega)
      refine LX.call (curly_c hL hK ih_test t1.pos as_ s m (Tb bt2 t1 :: Rs (some gt25) 3 ([[78, 111, 110, 101], [84, 114, 117, 101], [70, 97, 108, 115, 101]] : List (List UInt8)) :: fr) hk39 hn (by show L.length - s.at_ ≤ N; omega) hgo39) Pg.en69 rfl rfl rfl rfl rfl ?_
      rintro ⟨r39, s39, m39⟩
      refine LX.have fun ⟨hri39, hr39, hn39⟩ => ?_
      try dsimp only at hri39 hr39 hn39 ⊢
      have hR40 : Rn L.length s s39 ([r39]) 1 (0) := hR.trans hr39
      have hch41 : s.at_ ≤ s39.at_ := hr39.le
      have hle41 : s.at_ ≤ s39.at_ := by omega
      have hlt41 : s39.at_ < L.length := hR40.lt
      have hde41 : s.deep ≤ s39.deep := hr39.d0
      have hdd41 : s39.deep ≤ 60 := hR40.d1
      have hav39 : s39.code = 0 → s.at_ + 1 ≤ s39.at_ := hr39.adv
      refine LX.mv rfl <| LX.su [0, 2] rfl <| LX.nt <| CX.ret <| PX.blockR <| PX.blockR <| PX.thenR <| PX.ret1 (by simp) Try.results63 rfl ?_
      exact fun w hw => ⟨(r39, s39, m39), rfl, ⟨as_, hR40.wk dc dc, hn39⟩, hw.ct⟩
    try simp at hb10
    refine CX.skip <| PX.blockN <| PX.blockN <| PX.thenN <| CX.sr <| LX.mv rfl <| LX.call (wrong_c (fr := (Tb bt2 t1 :: Rs (some gt25) 3 ([[78, 111, 110, 101], [84, 114, 117, 101], [70, 97, 108, 115, 101]] : List (List UInt8)) :: fr)) s m hL ht1) Pb.en37 rfl rfl rfl rfl rfl ?_
    intro s42
    refine LX.have fun hf42 => ?_
    have hb942 : Bad s s42 := FailR.bad hf42 dc
    have hbc42 := hb942.code
    have hn42 : NdsR 3 m.rs m.cells s42.ns := by rw [hb942.ns]; exact hn
    have hR43 : Rn L.length s s42 ([] : List Int) 0 (0) := hR.bad2 hb942
    have hch44 : s.at_ ≤ s42.at_ := Nat.le_of_eq hb942.at_.symm
    have hle44 : s.at_ ≤ s42.at_ := by omega
    have hlt44 : s42.at_ < L.length := hR43.lt
    have hde44 : s.deep ≤ s42.deep := Int.le_of_eq hb942.deep.symm
    have hdd44 : s42.deep ≤ 60 := hR43.d1
    refine LX.mv rfl <| LX.su [2] rfl <| LX.nt <| CX.ret <| PX.ret1 (by simp) Try.results63 rfl ?_
    exact fun w hw => ⟨((-1), s42, m), rfl, ⟨(by (unfold inI; omega)), hR43.no as_, hn42⟩, hw.ct⟩
  try simp at hb6
  refine CX.skip <| PX.blockN <| PX.thenN <| CX.sr <| LX.mv rfl <| LX.call (wrong_c (fr := (Tb bt2 t1 :: fr)) s m hL ht1) Pb.en37 rfl rfl rfl rfl rfl ?_
  intro s45
  refine LX.have fun hf45 => ?_
  have hb945 : Bad s s45 := FailR.bad hf45 dc
  have hbc45 := hb945.code
  have hn45 : NdsR 3 m.rs m.cells s45.ns := by rw [hb945.ns]; exact hn
  have hR46 : Rn L.length s s45 ([] : List Int) 0 (0) := hR.bad2 hb945
  have hch47 : s.at_ ≤ s45.at_ := Nat.le_of_eq hb945.at_.symm
  have hle47 : s.at_ ≤ s45.at_ := by omega
  have hlt47 : s45.at_ < L.length := hR46.lt
  have hde47 : s.deep ≤ s45.deep := Int.le_of_eq hb945.deep.symm
  have hdd47 : s45.deep ≤ 60 := hR46.d1
  refine LX.mv rfl <| LX.su [2] rfl <| LX.nt <| CX.ret <| PX.ret1 (by simp) Try.results63 rfl ?_
  exact fun w hw => ⟨((-1), s45, m), rfl, ⟨(by (unfold inI; omega)), hR46.no as_, hn45⟩, hw.ct⟩
end Go.Proofs.Yteibddakpedogaa
