/-
  Proved here: the document's parser: blocks.
-/
import Derived.Test.YteibddakpedogaaAsK
set_option linter.unusedSimpArgs false
namespace Go.Proofs.Yteibddakpedogaa
open Go.SX Go.RowKit Go.Tr Go.As Go.Ck
namespace Pl
theorem en14 : Enters Try.prog 14 := Enters.of Try.func14 (by kernel_rfl) (by kernel_rfl)
end Pl
open Go.Pa (Tk)
theorem block_c {w0 : World} {base : Nat} {bp : Nat} {al : Option Addr} {cl : Nat} {L : List Go.Pa.Tk} (hL : SlAt 3 tokA (Lies w0 base) al L) (hK : Tok6 L) {N : Nat} (h_simple : (∀ (s : RS) (m : Mm) (fr : List It), Sk L.length s → NdsR 3 m.rs m.cells s.ns → L.length - s.at_ ≤ N → PF1 41 [.pointer (some ⟨bp, 0, none⟩)] w0 base bp al cl L s m fr)) (ih_statement : (∀ (s : RS) (m : Mm) (fr : List It), Sk L.length s → NdsR 3 m.rs m.cells s.ns → L.length - s.at_ < N → PF 14 [.pointer (some ⟨bp, 0, none⟩)] w0 base bp al cl L s m fr))  : (∀ (s : RS) (m : Mm) (fr : List It), Sk L.length s → NdsR 3 m.rs m.cells s.ns → L.length - s.at_ ≤ N → PF 39 [.pointer (some ⟨bp, 0, none⟩)] w0 base bp al cl L s m fr) := by
  intro s m fr hs hn hN
  have hR := Rn.refl hs
  have hle : s.at_ ≤ s.at_ := Nat.le_refl _
  have hd0 := hs.d0
  have hd1 := hs.d1
  have hlt := hs.lt
  have hln0 := hK.len
  have hN0 : 0 < N := by omega
  refine FnC.of_body (fn := Try.f39) [(0, _)] Try.func39 rfl Try.ntmps39 rfl ⟨rfl, trivial⟩ ?_
  refine CX.sr <| LX.mv rfl <| LX.su [0, 2] rfl <| LX.nt <| CX.seq <| CX.sr <| LX.mv rfl <| LX.callQ (show FnQ Try.prog 12 #[.pointer (some ⟨bp, 0, none⟩)] _ (.bool (decide (s.code ≠ 0))) from bad_q (s := s) (m := m) (fun w hw => blkL hw (i := 0) rfl)) Pb.en12 rfl rfl rfl rfl rfl <| LX.su [0, 2, 6] rfl <| LX.nt ?_
  refine CX.cond rfl (fun hb1 => ?_) (fun hb1 => ?_)
  · try simp at hb1
    refine CX.sr <| LX.mv rfl <| LX.su [0, 2] rfl <| LX.nt <| CX.ret <| PX.thenR <| PX.ret1 (by simp) Try.results39 rfl ?_
    exact fun w hw => ⟨((-1), s, m), rfl, ⟨(by (unfold inI; omega)), hR.no as_, hn⟩, hw⟩
  try simp at hb1
  refine CX.skip <| PX.thenN <| CX.seq <| CX.sr ?_
  obtain ⟨t1, ht1⟩ : ∃ t, L[s.at_]? = some t := ⟨_, List.getElem?_eq_getElem (show s.at_ < L.length from hR.lt)⟩
  have htk1 := (tok_in hL ht1).1
  have htp1 := (tok_in hL ht1).2
  refine LX.mv rfl <| LX.callQ (is_q (s := s) (m := m) ht1 ([58] : List UInt8) (fun w hw => blkL hw (i := 0) rfl) (fun w hw => hL.push hw)) Pb.en32 rfl rfl rfl rfl rfl <| LX.p (Y.not rfl) rfl <| LX.su [0, 2, 9] rfl <| LX.nt ?_
  refine CX.cond rfl (fun hb2 => ?_) (fun hb2 => ?_)
  · try simp at hb2
    refine CX.sr <| LX.mv rfl <| LX.call (wrong_c (fr := fr) s m hL ht1) Pb.en37 rfl rfl rfl rfl rfl ?_
    intro s2
    refine LX.have fun hf2 => ?_
    have hb902 : Bad s s2 := FailR.bad hf2 dc
    have hbc2 := hb902.code
    have hn2 : NdsR 3 m.rs m.cells s2.ns := by rw [hb902.ns]; exact hn
    have hR3 : Rn L.length s s2 ([] : List Int) 0 (0) := hR.bad2 hb902
    have hch4 : s.at_ ≤ s2.at_ := Nat.le_of_eq hb902.at_.symm
    have hle4 : s.at_ ≤ s2.at_ := by omega
    have hlt4 : s2.at_ < L.length := hR3.lt
    have hde4 : s.deep ≤ s2.deep := Int.le_of_eq hb902.deep.symm
    have hdd4 : s2.deep ≤ 60 := hR3.d1
    refine LX.mv rfl <| LX.su [0, 2] rfl <| LX.nt <| CX.ret <| PX.thenR <| PX.ret1 (by simp) Try.results39 rfl ?_
    exact fun w hw => ⟨((-1), s2, m), rfl, ⟨(by (unfold inI; omega)), hR3.no as_, hn2⟩, hw⟩
  try simp at hb2
  refine CX.skip <| PX.thenN <| CX.seq <| CX.sr <| LX.ms 2 rfl <| LX.callQ (now_q (s := s) (m := m) ht1 (fun w hw => blkL hw (i := 0) rfl) (fun w hw => hL.push hw)) Pa.en13 rfl rfl rfl rfl rfl <| LX.p (Y.field (v := .int .i64 t1.pos) rfl (fun _ => by kernel_rfl)) rfl ?_
  have hd05 : 0 ≤ s.deep := by have h9 := hs.d0; have h8 : s.deep ≤ s.deep := hR.d0; omega
  refine LX.call (enter_c (fr := fr) s m hd05 t1.pos) Pd.en48 rfl rfl rfl rfl rfl ?_
  rintro ⟨b5, s5⟩
  refine LX.have fun he5 => ?_
  try dsimp only at he5 ⊢
  have hn5 : NdsR 3 m.rs m.cells s5.ns := by rw [he5.ns]; exact hn
  refine LX.p (Y.not rfl) rfl <| LX.su [0, 2, 17] rfl <| LX.nt ?_
  refine CX.cond rfl (fun hb3 => ?_) (fun hb3 => ?_)
  · try simp at hb3
    have hb905 := he5.f (by exact hb3)
    have hbc5 := hb905.code
    have hR6 : Rn L.length s s5 ([] : List Int) 0 (0) := hR.bad2 hb905
    have hch905 : s.at_ ≤ s5.at_ := Nat.le_of_eq hb905.at_.symm
    refine CX.sr <| LX.mv rfl <| LX.su [0, 2] rfl <| LX.nt <| CX.ret <| PX.thenR <| PX.ret1 (by simp) Try.results39 rfl ?_
    exact fun w hw => ⟨((-1), s5, m), rfl, ⟨(by (unfold inI; omega)), hR6.no as_, hn5⟩, hw⟩
  try simp at hb3
  obtain ⟨hc5, hdl5, hq5⟩ := he5.t (by exact hb3)
  subst hq5
  have hR7 : Rn L.length s (RS.dp s (s.deep + 1)) ([] : List Int) 0 (0) := hR.up hdl5
  refine CX.skip <| PX.thenN <| CX.sr ?_
  have hgo8 : s.at_ + 1 < L.length := by exact hK.fin _ t1 ht1 (by (intro h8; simp_all [isS]; done))
  have hln8 := hK.len
  refine LX.ms 3 rfl <| LX.p (Y.fieldAddr0 Pa.fo42_1 rfl) rfl <| LX.p (Y.ldB 0 Pa.one3 rfl rfl rfl) rfl <| LX.p (Y.addN rfl rfl (by (simp only []; omega))) rfl <| LX.mv rfl <| LX.p (Y.fieldAddr0 Pa.fo42_1 rfl) rfl <| LX.storeB 0 Pb.sz3 rfl rfl rfl rfl rfl rfl rfl rfl <| LX.wq (PWl bp al L cl (RS.go (RS.dp s (s.deep + 1)) 1) m fr) rfl ?_
  have hR9 : Rn L.length s (RS.go (RS.dp s (s.deep + 1)) 1) ([] : List Int) 1 (-2) := hR7.go hgo8
  have hle10 : s.at_ < (s.at_ + 1) := by have h9 : s.at_ ≤ s.at_ := hR7.le; omega
  have hlt10 : (s.at_ + 1) < L.length := hgo8
  refine LX.su [0, 2] rfl <| LX.nt <| CX.sr <| LX.ms 2 rfl <| LX.p (Y.fieldAddr0 Pi.fo42_6 rfl) rfl <| LX.p (Y.ldB 0 Pi.one4 rfl rfl rfl) rfl <| LX.mv rfl <| LX.su [0, 2, 3] rfl <| LX.nt <| CX.sr <| LX.ms 2 rfl <| LX.p (Y.fieldAddr0 Pi.fo42_6 rfl) rfl <| LX.storeB 0 Pj.sz4 rfl rfl rfl rfl rfl rfl rfl rfl <| LX.wq (PWl bp al L cl (RS.fl (RS.go (RS.dp s (s.deep + 1)) 1) s.df s.lp false) m fr) rfl ?_
  have hR11 : Rn L.length s (RS.fl (RS.go (RS.dp s (s.deep + 1)) 1) s.df s.lp false) ([] : List Int) 1 (-2) := hR9.fl _ _ _
  refine LX.su [0, 2, 3] rfl <| LX.nt <| CX.sr <| LX.mv rfl <| LX.su [0, 2, 3, 4] rfl <| LX.nt <| CX.seq <| CX.sr ?_
  obtain ⟨t12, ht12⟩ : ∃ t, L[(s.at_ + 1)]? = some t := ⟨_, List.getElem?_eq_getElem (show (s.at_ + 1) < L.length from hR11.lt)⟩
  have htk12 := (tok_in hL ht12).1
  have htp12 := (tok_in hL ht12).2
  refine LX.mv rfl <| LX.callQ (now_q (s := (RS.fl (RS.go (RS.dp s (s.deep + 1)) 1) s.df s.lp false)) (m := m) ht12 (fun w hw => blkL hw (i := 0) rfl) (fun w hw => hL.push hw)) Pa.en13 rfl rfl rfl rfl rfl <| LX.p (Y.field (v := .int .i64 t12.kind) rfl (fun _ => by kernel_rfl)) rfl <| LX.p (Y.neI rfl rfl) rfl <| LX.su [0, 2, 3, 4, 36] rfl <| LX.nt ?_
  refine CX.cond rfl (fun hb4 => ?_) (fun hb4 => ?_)
  · try simp at hb4
    refine CX.sr <| LX.ms 2 rfl ?_
    have hk13 : Sk L.length (RS.fl (RS.go (RS.dp s (s.deep + 1)) 1) s.df s.lp false) := hs.next hR11 dc
    refine LX.call (h_simple (RS.fl (RS.go (RS.dp s (s.deep + 1)) 1) s.df s.lp false) m fr hk13 hn5 (by show L.length - (s.at_ + 1) ≤ N; omega)) Pj.en41 rfl rfl rfl rfl rfl ?_
    rintro ⟨r13, s13, m13⟩
    refine LX.have fun ⟨hri13, hr13, hn13⟩ => ?_
    try dsimp only at hri13 hr13 hn13 ⊢
    have hR14 : Rn L.length s s13 ([r13]) 2 (-1) := hR11.trans hr13
    have hch15 : (s.at_ + 1) ≤ s13.at_ := hr13.le
    have hle15 : s.at_ < s13.at_ := by omega
    have hlt15 : s13.at_ < L.length := hR14.lt
    have hde15 : (s.deep + 1) ≤ s13.deep := hr13.d0
    have hdd15 : s13.deep ≤ 60 := hR14.d1
    have hav13 : s13.code = 0 → (s.at_ + 1) + 1 ≤ s13.at_ := hr13.adv
    refine LX.buildSlice (e := 3) (size := 1) rfl rfl (fun _ => by kernel_rfl) rfl dc rfl rfl rfl ?_
    intro gt16
    refine LX.wq (Ri (some gt16) 1 ([r13]) :: PWl bp al L cl s13 m13 fr) rfl <| LX.world (W' := WA w0 base (Ri none 0 ([] : List Int) :: Ri (some gt16) 1 ([r13]) :: PWl bp al L cl s13 m13 fr)) (fun w hw => (show WA w0 base (Ri none 0 ([] : List Int) :: Ri (some gt16) 1 ([r13]) :: PWl bp al L cl s13 m13 fr) w from (show WA w0 base (Ri (some gt16) 1 ([r13]) :: PWl bp al L cl s13 m13 fr) w from hw).nilRow 3 1)) ?_
    refine LX.wp (Ri (some gt16) 1 ([r13]) :: Ri none 0 ([] : List Int) :: PWl bp al L cl s13 m13 fr) ?_
    refine LX.appendT 0 (g := none) (k := (([] : List Int)).length) Pe.el29 rfl rfl rfl rfl rfl rfl rfl lo lo rfl rfl rfl ?_
    intro ga17 ca17
    refine LX.wa (Ri ga17 ca17 (([] : List Int) ++ [r13]) :: PWl bp al L cl s13 m13 fr) <| LX.sub (l' := [(0, _), (2, _), (3, _), (4, _), (36, _), (37, _), (38, _), (39, _), (40, _), (41, rv ga17 ((([] : List Int) ++ [r13])).length ca17)]) ⟨rfl, rfl, rfl, rfl, rfl, rfl, rfl, rfl, rfl, (by rfl), trivial⟩ <| LX.mv rfl ?_
    refine LX.wp (PWl bp al L cl s13 m13 (Ri ga17 ca17 (([] : List Int) ++ [r13]) :: fr)) ?_
    refine LX.su [0, 2, 3, 4] rfl <| LX.nt <| CX.region ?_
    obtain ⟨t18, ht18⟩ : ∃ t, L[s13.at_]? = some t := ⟨_, List.getElem?_eq_getElem (show s13.at_ < L.length from hR14.lt)⟩
    have htk18 := (tok_in hL ht18).1
    have htp18 := (tok_in hL ht18).2
    refine LX.mv rfl <| LX.call (kind_c (fr := (Ri ga17 ca17 (([] : List Int) ++ [r13]) :: fr)) s13 m13 hL hK ht18 5 dc) Pg.en42 rfl rfl rfl rfl rfl ?_
    rintro ⟨k19, b19, s19⟩
    refine LX.have fun ⟨hk19, hki19, hkt19, hw19⟩ => ?_
    try dsimp only at hk19 hki19 hkt19 hw19 ⊢
    have hn19 : NdsR 3 m13.rs m13.cells s19.ns := by rw [hw19.ns]; exact hn13
    have hR20 : Rn L.length s s19 ([r13]) 3 (-3) := hR14.want hw19
    have hch21 : s13.at_ ≤ s19.at_ := hw19.le
    have hle21 : s.at_ < s19.at_ := by omega
    have hlt21 : s19.at_ < L.length := hR20.lt
    have hde21 : s13.deep ≤ s19.deep := Int.le_of_eq hw19.deep.symm
    have hdd21 : s19.deep ≤ 60 := hR20.d1
    refine LX.su [0, 2, 3, 4] rfl <| LX.nt <| CX.sr <| LX.ms 3 rfl <| LX.p (Y.fieldAddr0 Pi.fo42_6 rfl) rfl <| LX.storeB 0 Pj.sz4 rfl rfl rfl rfl rfl rfl rfl rfl <| LX.wq (PWl bp al L cl (RS.fl s19 s19.df s19.lp s.tp) m13 (Ri ga17 ca17 (([] : List Int) ++ [r13]) :: fr)) rfl ?_
    have hR22 : Rn L.length s (RS.fl s19 s19.df s19.lp s.tp) ([r13]) 3 (-3) := hR20.fl _ _ _
    refine LX.su [0, 2, 4] rfl <| LX.nt <| CX.sr <| LX.ms 3 rfl <| LX.p (Y.fieldAddr0 Pb.fo42_3 rfl) rfl <| LX.p (Y.ldB 0 Pa.one3 rfl rfl rfl) rfl <| LX.p (Y.sub rfl rfl (by (simp only []; omega))) rfl <| LX.mv rfl <| LX.p (Y.fieldAddr0 Pb.fo42_3 rfl) rfl <| LX.storeB 0 Pb.sz3 rfl rfl rfl rfl rfl rfl rfl rfl <| LX.wq (PWl bp al L cl (RS.dp (RS.fl s19 s19.df s19.lp s.tp) (s19.deep - 1)) m13 (Ri ga17 ca17 (([] : List Int) ++ [r13]) :: fr)) rfl ?_
    have hR23 : Rn L.length s (RS.dp (RS.fl s19 s19.df s19.lp s.tp) (s19.deep - 1)) ([r13]) 3 (-3) := hR22.down (by show s.deep + 1 ≤ s19.deep; omega)
    refine LX.su [0, 2, 4] rfl <| LX.nt <| CX.seq <| CX.sr <| LX.mv rfl <| LX.callQ (show FnQ Try.prog 12 #[.pointer (some ⟨bp, 0, none⟩)] _ (.bool (decide (s19.code ≠ 0))) from bad_q (s := (RS.dp (RS.fl s19 s19.df s19.lp s.tp) (s19.deep - 1))) (m := m13) (fun w hw => blkL hw (i := 0) rfl)) Pb.en12 rfl rfl rfl rfl rfl <| LX.su [0, 2, 4, 88] rfl <| LX.nt ?_
    refine CX.cond rfl (fun hb5 => ?_) (fun hb5 => ?_)
    · try simp at hb5
      refine CX.sr <| LX.mv rfl <| LX.su [0, 2, 4] rfl <| LX.nt <| CX.ret <| PX.thenR <| PX.ret1 (by simp) Try.results39 rfl ?_
      exact fun w hw => ⟨((-1), (RS.dp (RS.fl s19 s19.df s19.lp s.tp) (s19.deep - 1)), m13), rfl, ⟨(by (unfold inI; omega)), hR23.no as_, hn19⟩, hw.ct⟩
    try simp at hb5
    refine CX.skip <| PX.thenN <| CX.seq ?_
    refine CX.world (W' := WA w0 base (Ri ga17 ca17 (([] : List Int) ++ [r13]) :: PWl bp al L cl (RS.dp (RS.fl s19 s19.df s19.lp s.tp) (s19.deep - 1)) m13 fr)) (fun w hw => hw.perm pm) ?_
    refine CX.regionM [(0, .anywhere), (1, .anywhere), (2, .anywhere), (3, .anywhere), (4, .held), (5, .anywhere), (6, .held), (7, .held), (8, .held), (9, .held), (10, .held), (11, .anywhere), (12, .alone), (13, .anywhere)] rfl (by kernel_rfl) <| MX.lift0 (i := 0) rfl (Y.move rfl) rfl rfl rfl <| MX.lift0 (i := 1) rfl (Y.move rfl) rfl rfl rfl <| MX.lift0 (i := 2) rfl (Y.nilCheck rfl) rfl rfl rfl <| MX.lift0 (i := 3) rfl (Y.fieldAddr0 Pc.fo42_2 rfl) rfl rfl rfl <| MX.lift1 (i := 4) (pend' := []) rfl (fun w hw => by exact hw) (Y.ldB 1 Pc.one23 rfl rfl rfl) rfl rfl rfl (by kernel_rfl) <| MX.lift0 (i := 5) rfl (Y.move rfl) rfl rfl rfl <| MX.lift1 (i := 6) (pend' := [4]) rfl (fun w hw => by exact hw) (Y.idxR 0 (i := 0) Pc.un29 Pb.sz3 rfl rfl rfl (by simp)) rfl rfl rfl (by kernel_rfl) <| MX.lift1 (i := 7) (pend' := [4]) rfl (fun w hw => by exact hw) (Y.ldR 0 (v := .int .i64 r13) Pa.one3 rfl rfl rfl) rfl rfl rfl (by kernel_rfl) ?_
    obtain ⟨i24, hi24, hil24, hkd24⟩ : ∃ i : Nat, r13 = (i : Int) ∧ i < (s19.ns).length ∧ ∀ (k : Nat) x, (s19.ns)[k]? = some x → ∀ q ∈ x.kids, 0 ≤ q ∧ q < (k : Int)   := root_at (q := (RS.dp (RS.fl s19 s19.df s19.lp s.tp) (s19.deep - 1))) hs hR23 as_ (by (simp; done))
    obtain ⟨y24, hy24⟩ : ∃ y, (s19.ns)[i24]? = some y := ⟨_, List.getElem?_eq_getElem hil24⟩
    have hyc24 := hn19.cell hy24
    have hyp24 : inI y24.pos := hyc24.2.2.2.2
    refine MX.lift1 (i := 8) (pend' := []) rfl (fun w hw => by exact hw) (Y.idxRZ 2 (i := i24) Pc.un23 Pc.sz31 rfl rfl hi24 rfl hil24) rfl rfl rfl (by kernel_rfl) <| MX.lift1 (i := 9) (pend' := []) rfl (fun w hw => by exact hw) (Y.fieldAddr Pi.fo31_2 rfl) rfl rfl rfl (by kernel_rfl) <| MX.lift1 (i := 10) (pend' := []) rfl (fun w hw => by exact hw) (Y.ldR 2 (v := .int .i64 y24.pos) Pa.one3 rfl rfl hyc24.2.2.1) rfl rfl rfl (by kernel_rfl) <| MX.lift0 (i := 11) rfl (Y.move rfl) rfl rfl rfl <| MX.force (i := 12) rfl <| LX.call (put_c (fr := fr) (g := ga17) (c := ca17) (ks := (([] : List Int) ++ [r13])) (op := 47) (pos := y24.pos) (x := ([] : List UInt8)) (RS.dp (RS.fl s19 s19.df s19.lp s.tp) (s19.deep - 1)) m13 hn19 (fun h0 => by have h1 : ((s19.ns).length : Int) + 2 * s.at_ ≤ s.ns.length + 2 * ((s19.at_ : Nat) : Int) + (-3) := hR23.few h0; have h2 := hs.few (hR23.bad h0); have h3 := hK.len; have h4 : s19.at_ < L.length := hR23.lt; show (s19.ns).length ≤ 1000000; omega) (by (simp only [List.length_cons, List.length_nil, List.length_append]; omega)) ((AllI.app AllI.nil (AllI.cons as_ AllI.nil))) (by (unfold inI; omega)) as_) Pd.en16 rfl rfl rfl rfl rfl ?_
    rintro ⟨r25, s25, m25⟩
    refine LX.have fun ⟨hri25, hp25, hn25⟩ => ?_
    try dsimp only at hri25 hp25 hn25 ⊢
    have hR26 : Rn L.length s s25 ([r25]) 3 (-2) := hR23.put (us := ([] : List Int)) (ks := (([] : List Int) ++ [r13])) hp25 pm
    have hch27 : s19.at_ ≤ s25.at_ := Nat.le_of_eq hp25.eqs.1.symm
    have hle27 : s.at_ < s25.at_ := by omega
    have hlt27 : s25.at_ < L.length := hR26.lt
    have hde27 : (s19.deep - 1) ≤ s25.deep := Int.le_of_eq hp25.eqs.2.1.symm
    have hdd27 : s25.deep ≤ 60 := hR26.d1
    refine LX.nextM [] (by kernel_rfl) (fun h => absurd rfl h) <| MX.lift0 (i := 13) rfl (Y.assign rfl) rfl rfl rfl <| MX.sub (l' := [(2, _)]) ⟨rfl, trivial⟩ <| MX.done <| PX.thenN <| CX.ret <| PX.ret1 (by simp) Try.results39 rfl ?_
    exact fun w hw => ⟨(r25, s25, m25), rfl, ⟨as_, hR26.wk dc dc, hn25⟩, hw⟩
  try simp at hb4
  refine CX.sr ?_
  have hgo28 : (s.at_ + 1) + 1 < L.length := by exact hK.fin _ t12 ht12 (by omega)
  have hln28 := hK.len
  refine LX.ms 3 rfl <| LX.p (Y.fieldAddr0 Pa.fo42_1 rfl) rfl <| LX.p (Y.ldB 0 Pa.one3 rfl rfl rfl) rfl <| LX.p (Y.addN rfl rfl (by (simp only []; omega))) rfl <| LX.mv rfl <| LX.p (Y.fieldAddr0 Pa.fo42_1 rfl) rfl <| LX.storeB 0 Pb.sz3 rfl rfl rfl rfl rfl rfl rfl rfl <| LX.wq (PWl bp al L cl (RS.go (RS.fl (RS.go (RS.dp s (s.deep + 1)) 1) s.df s.lp false) 1) m fr) rfl ?_
  have hR29 : Rn L.length s (RS.go (RS.fl (RS.go (RS.dp s (s.deep + 1)) 1) s.df s.lp false) 1) ([] : List Int) 2 (-4) := hR11.go hgo28
  have hle30 : s.at_ < ((s.at_ + 1) + 1) := by have h9 : s.at_ ≤ (s.at_ + 1) := hR11.le; omega
  have hlt30 : ((s.at_ + 1) + 1) < L.length := hgo28
  refine LX.su [0, 2, 3, 4] rfl <| LX.nt <| CX.sr ?_
  obtain ⟨t31, ht31⟩ : ∃ t, L[((s.at_ + 1) + 1)]? = some t := ⟨_, List.getElem?_eq_getElem (show ((s.at_ + 1) + 1) < L.length from hR29.lt)⟩
  have htk31 := (tok_in hL ht31).1
  have htp31 := (tok_in hL ht31).2
  refine LX.mv rfl <| LX.call (kind_c (fr := fr) (RS.go (RS.fl (RS.go (RS.dp s (s.deep + 1)) 1) s.df s.lp false) 1) m hL hK ht31 6 dc) Pg.en42 rfl rfl rfl rfl rfl ?_
  rintro ⟨k32, b32, s32⟩
  refine LX.have fun ⟨hk32, hki32, hkt32, hw32⟩ => ?_
  try dsimp only at hk32 hki32 hkt32 hw32 ⊢
  have hn32 : NdsR 3 m.rs m.cells s32.ns := by rw [hw32.ns]; exact hn5
  have hR33 : Rn L.length s s32 ([] : List Int) 3 (-6) := hR29.want hw32
  have hch34 : ((s.at_ + 1) + 1) ≤ s32.at_ := hw32.le
  have hle34 : s.at_ < s32.at_ := by omega
  have hlt34 : s32.at_ < L.length := hR33.lt
  have hde34 : (s.deep + 1) ≤ s32.deep := Int.le_of_eq hw32.deep.symm
  have hdd34 : s32.deep ≤ 60 := hR33.d1
  refine LX.su [0, 2, 3, 4] rfl <| LX.nt <| CX.seq <| CX.block ?_
  refine CX.loop (fun z : (List Int × Option Nat × Nat) × RS × Mm => [(0, .pointer (some ⟨bp, 0, none⟩)), (3, .bool s.tp), (4, rv z.1.2.1 (z.1.1).length z.1.2.2)]) (fun (z : (List Int × Option Nat × Nat) × RS × Mm) w => (AllI z.1.1 ∧ (z.1.1).length + 2 * s.at_ ≤ 2 * z.2.1.at_ + 0 + (if z.2.1.code = 0 then 0 else 1) ∧ s32.at_ ≤ z.2.1.at_ ∧ s32.deep ≤ z.2.1.deep ∧ Rn L.length s z.2.1 z.1.1 0 (0) ∧ NdsR 3 z.2.2.rs z.2.2.cells z.2.1.ns) ∧ WA w0 base (PWl bp al L cl z.2.1 z.2.2 (Ri z.1.2.1 z.1.2.2 (z.1.1) :: fr)) w) (fun z : (List Int × Option Nat × Nat) × RS × Mm => 2 * (L.length - z.2.1.at_) + (if z.2.1.code = 0 then 1 else 0)) (([], none, 0), s32, m) ⟨rfl, rfl, (by rfl), trivial⟩ (fun w hw => ⟨⟨AllI.nil, (by show 0 + 2 * s.at_ ≤ 2 * s32.at_ + 0 + (if s32.code = 0 then 0 else 1); split <;> omega), Nat.le_refl _, Int.le_refl _, (hR33.wk dc dc).re pm, hn32⟩, ((show WA w0 base (Ri none 0 ([] : List Int) :: PWl bp al L cl s32 m fr) w from hw.nilRow 3 1).perm pm)⟩) ?_
  rintro ⟨⟨l35_0, g35_0, c35_0⟩, s35, m35⟩
  refine CX.have fun ⟨hla35_0, hll35_0, hlo35, hld35, hR35, hn35⟩ => ?_
  try dsimp only at hla35_0 hll35_0 hlo35 hld35 hR35 hn35 ⊢
  have hllx35_0 : (l35_0).length ≤ 2 * s35.at_ + 1 := by split at hll35_0 <;> omega
  have hle35 : s.at_ < s35.at_ := by omega
  have hlt35 : s35.at_ < L.length := hR35.lt
  have hde35 := hR35.d0
  have hdd35 := hR35.d1
  refine CX.seq <| CX.sr ?_
  obtain ⟨t36, ht36⟩ : ∃ t, L[s35.at_]? = some t := ⟨_, List.getElem?_eq_getElem (show s35.at_ < L.length from hR35.lt)⟩
  have htk36 := (tok_in hL ht36).1
  have htp36 := (tok_in hL ht36).2
  refine LX.mv rfl <| LX.callQ (show FnQ Try.prog 12 #[.pointer (some ⟨bp, 0, none⟩)] _ (.bool (decide (s35.code ≠ 0))) from bad_q (s := s35) (m := m35) (fun w hw => blkL hw (i := 0) rfl)) Pb.en12 rfl rfl rfl rfl rfl <| LX.p (Y.not rfl) rfl <| LX.mv rfl <| LX.su [0, 3, 4, 57] rfl ?_
  apply LX.joinAnd 10 67 57 rfl
  · intro hb6
    refine LX.gT rfl rfl rfl hb6 (Y.move rfl) rfl rfl <| LX.gT rfl rfl rfl hb6 (Y.lenSl rfl Pc.un29 rfl) rfl rfl <| LX.gT rfl rfl rfl hb6 (Y.eqN rfl rfl) rfl rfl <| LX.gT rfl rfl rfl hb6 (Y.move rfl) rfl rfl <| LX.su [0, 3, 4, 57, 61] rfl ?_
    apply LX.joinOr 5 66 61 rfl
    · intro hb7
      refine LX.gF rfl rfl rfl hb7 rfl rfl <| LX.gF rfl rfl rfl hb7 rfl rfl <| LX.gF rfl rfl rfl hb7 rfl rfl <| LX.gF rfl rfl rfl hb7 rfl rfl <| LX.gT rfl rfl rfl hb6 (Y.pickT rfl hb7 rfl) rfl rfl ?_
      exact LX.left ⟨rfl, rfl, rfl, rfl, rfl, rfl, trivial⟩
    · intro hb7
      refine LX.gT rfl rfl rfl hb7 (Y.move rfl) rfl rfl <| LX.callQT rfl rfl rfl hb7 (now_q (s := s35) (m := m35) ht36 (fun w hw => blkL hw (i := 0) rfl) (fun w hw => hL.push hw)) Pa.en13 rfl rfl rfl rfl <| LX.gT rfl rfl rfl hb7 (Y.field (v := .int .i64 t36.kind) rfl (fun _ => by kernel_rfl)) rfl rfl <| LX.gT rfl rfl rfl hb7 (Y.neI rfl rfl) rfl rfl <| LX.gT rfl rfl rfl hb6 (Y.pickF rfl hb7 rfl) rfl rfl ?_
      exact LX.left ⟨rfl, rfl, rfl, rfl, rfl, rfl, trivial⟩
    refine LX.p (Y.pickT rfl hb6 rfl) rfl ?_
    exact LX.left ⟨rfl, rfl, rfl, rfl, rfl, trivial⟩
  · intro hb6
    refine LX.gF rfl rfl rfl hb6 rfl rfl <| LX.gF rfl rfl rfl hb6 rfl rfl <| LX.gF rfl rfl rfl hb6 rfl rfl <| LX.gF rfl rfl rfl hb6 rfl rfl <| LX.gU rfl rfl rfl rfl rfl <| LX.gU rfl rfl rfl rfl rfl <| LX.gU rfl rfl rfl rfl rfl <| LX.gU rfl rfl rfl rfl rfl <| LX.gF rfl rfl rfl hb6 rfl rfl <| LX.p (Y.pickF rfl hb6 rfl) rfl ?_
    exact LX.left ⟨rfl, rfl, rfl, rfl, rfl, trivial⟩
  refine LX.su [0, 3, 4, 67] rfl <| LX.nt ?_
  refine CX.cond rfl (fun hb8 => ?_) (fun hb8 => ?_)
  · try simp at hb8
    refine CX.skip <| PX.thenN <| CX.block <| CX.region <| LX.ms 2 rfl ?_
    have hk37 : Sk L.length s35 := hs.next hR35 dc
    refine LX.call (ih_statement s35 m35 (Ri g35_0 c35_0 l35_0 :: fr) hk37 hn35 (by show L.length - s35.at_ < N; omega)) Pl.en14 rfl rfl rfl rfl rfl ?_
    rintro ⟨r37, s37, m37⟩
    refine LX.have fun ⟨hri37, hr37, hn37⟩ => ?_
    try dsimp only at hri37 hr37 hn37 ⊢
    have hR38 : Rn L.length s s37 (l35_0 ++ [r37]) 1 (0) := hR35.trans hr37
    have hch39 : s35.at_ ≤ s37.at_ := hr37.le
    have hle39 : s.at_ < s37.at_ := by omega
    have hlt39 : s37.at_ < L.length := hR38.lt
    have hde39 : s35.deep ≤ s37.deep := hr37.d0
    have hdd39 : s37.deep ≤ 60 := hR38.d1
    have hav37 : s37.code = 0 → s35.at_ + 1 ≤ s37.at_ := hr37.adv
    refine LX.buildSlice (e := 3) (size := 1) rfl rfl (fun _ => by kernel_rfl) rfl dc rfl rfl rfl ?_
    intro gt40
    refine LX.wq (Ri (some gt40) 1 ([r37]) :: PWl bp al L cl s37 m37 (Ri g35_0 c35_0 l35_0 :: fr)) rfl ?_
    refine LX.wp (Ri (some gt40) 1 ([r37]) :: Ri g35_0 c35_0 l35_0 :: PWl bp al L cl s37 m37 fr) ?_
    refine LX.appendT 0 (g := g35_0) (k := (l35_0).length) Pe.el29 rfl rfl rfl rfl rfl rfl rfl lo lo rfl rfl rfl ?_
    intro ga41 ca41
    refine LX.wa (Ri ga41 ca41 (l35_0 ++ [r37]) :: PWl bp al L cl s37 m37 fr) <| LX.sub (l' := [(0, _), (3, _), (4, _), (67, _), (68, _), (69, _), (70, _), (71, _), (72, rv ga41 ((l35_0 ++ [r37])).length ca41)]) ⟨rfl, rfl, rfl, rfl, rfl, rfl, rfl, rfl, (by (show some (rv _ _ _) = some (rv _ _ _); simp only [List.length_cons, List.length_append, List.length_nil] <;> rfl)), trivial⟩ <| LX.mv rfl ?_
    refine LX.wp (PWl bp al L cl s37 m37 (Ri ga41 ca41 (l35_0 ++ [r37]) :: fr)) ?_
    refine LX.su [0, 3, 4] rfl <| LX.next <| PX.blockN ?_
    exact PX.again (i := ((l35_0, g35_0, c35_0), s35, m35)) (((l35_0 ++ [r37]), ga41, ca41), s37, m37) (by show 2 * (L.length - s37.at_) + (if s37.code = 0 then 1 else 0) < 2 * (L.length - s35.at_) + (if s35.code = 0 then 1 else 0); rw [if_pos (show s35.code = 0 by (simp_all; done))]; split <;> omega) ⟨rfl, rfl, (by rfl), trivial⟩ (fun w hw => ⟨⟨(AllI.app hla35_0 (AllI.cons as_ AllI.nil)), (by show List.length _ + 2 * s.at_ ≤ 2 * s37.at_ + 0 + (if s37.code = 0 then 0 else 1); (try simp only [List.length_cons, List.length_nil, List.length_append]); rw [if_pos (show s35.code = 0 by (simp_all; done))] at hll35_0; split <;> omega), (by show s32.at_ ≤ s37.at_; omega), (by show s32.deep ≤ s37.deep; omega), (hR38.wk dc dc).re pm, hn37⟩, (hw.perm pm)⟩)
  try simp at hb8
  refine CX.exit <| PX.thenE <| PX.thenE <| PX.blockE <| PX.thenN <| CX.region <| LX.mv rfl <| LX.call (kind_c (fr := (Ri g35_0 c35_0 l35_0 :: fr)) s35 m35 hL hK ht36 7 dc) Pg.en42 rfl rfl rfl rfl rfl ?_
  rintro ⟨k42, b42, s42⟩
  refine LX.have fun ⟨hk42, hki42, hkt42, hw42⟩ => ?_
  try dsimp only at hk42 hki42 hkt42 hw42 ⊢
  have hn42 : NdsR 3 m35.rs m35.cells s42.ns := by rw [hw42.ns]; exact hn35
  have hR43 : Rn L.length s s42 (l35_0) 1 (-2) := hR35.want hw42
  have hch44 : s35.at_ ≤ s42.at_ := hw42.le
  have hle44 : s.at_ < s42.at_ := by omega
  have hlt44 : s42.at_ < L.length := hR43.lt
  have hde44 : s35.deep ≤ s42.deep := Int.le_of_eq hw42.deep.symm
  have hdd44 : s42.deep ≤ 60 := hR43.d1
  refine LX.su [0, 3, 4] rfl <| LX.nt <| CX.sr <| LX.ms 3 rfl <| LX.p (Y.fieldAddr0 Pi.fo42_6 rfl) rfl <| LX.storeB 0 Pj.sz4 rfl rfl rfl rfl rfl rfl rfl rfl <| LX.wq (PWl bp al L cl (RS.fl s42 s42.df s42.lp s.tp) m35 (Ri g35_0 c35_0 l35_0 :: fr)) rfl ?_
  have hR45 : Rn L.length s (RS.fl s42 s42.df s42.lp s.tp) (l35_0) 1 (-2) := hR43.fl _ _ _
  refine LX.su [0, 4] rfl <| LX.nt <| CX.sr <| LX.ms 3 rfl <| LX.p (Y.fieldAddr0 Pb.fo42_3 rfl) rfl <| LX.p (Y.ldB 0 Pa.one3 rfl rfl rfl) rfl <| LX.p (Y.sub rfl rfl (by (simp only []; omega))) rfl <| LX.mv rfl <| LX.p (Y.fieldAddr0 Pb.fo42_3 rfl) rfl <| LX.storeB 0 Pb.sz3 rfl rfl rfl rfl rfl rfl rfl rfl <| LX.wq (PWl bp al L cl (RS.dp (RS.fl s42 s42.df s42.lp s.tp) (s42.deep - 1)) m35 (Ri g35_0 c35_0 l35_0 :: fr)) rfl ?_
  have hR46 : Rn L.length s (RS.dp (RS.fl s42 s42.df s42.lp s.tp) (s42.deep - 1)) (l35_0) 1 (-2) := hR45.down (by show s.deep + 1 ≤ s42.deep; omega)
  refine LX.su [0, 4] rfl <| LX.nt <| CX.seq <| CX.sr <| LX.mv rfl <| LX.callQ (show FnQ Try.prog 12 #[.pointer (some ⟨bp, 0, none⟩)] _ (.bool (decide (s42.code ≠ 0))) from bad_q (s := (RS.dp (RS.fl s42 s42.df s42.lp s.tp) (s42.deep - 1))) (m := m35) (fun w hw => blkL hw (i := 0) rfl)) Pb.en12 rfl rfl rfl rfl rfl <| LX.su [0, 4, 88] rfl <| LX.nt ?_
  refine CX.cond rfl (fun hb9 => ?_) (fun hb9 => ?_)
  · try simp at hb9
    refine CX.sr <| LX.mv rfl <| LX.su [0, 2, 4] rfl <| LX.nt <| CX.ret <| PX.thenR <| PX.ret1 (by simp) Try.results39 rfl ?_
    exact fun w hw => ⟨((-1), (RS.dp (RS.fl s42 s42.df s42.lp s.tp) (s42.deep - 1)), m35), rfl, ⟨(by (unfold inI; omega)), hR46.no as_, hn42⟩, hw.ct⟩
  try simp at hb9
  refine CX.skip <| PX.thenN <| CX.seq ?_
  refine CX.world (W' := WA w0 base (Ri g35_0 c35_0 l35_0 :: PWl bp al L cl (RS.dp (RS.fl s42 s42.df s42.lp s.tp) (s42.deep - 1)) m35 fr)) (fun w hw => hw.perm pm) ?_
  refine CX.regionM [(0, .anywhere), (1, .anywhere), (2, .anywhere), (3, .anywhere), (4, .held), (5, .anywhere), (6, .held), (7, .held), (8, .held), (9, .held), (10, .held), (11, .anywhere), (12, .alone), (13, .anywhere)] rfl (by kernel_rfl) <| MX.lift0 (i := 0) rfl (Y.move rfl) rfl rfl rfl <| MX.lift0 (i := 1) rfl (Y.move rfl) rfl rfl rfl <| MX.lift0 (i := 2) rfl (Y.nilCheck rfl) rfl rfl rfl <| MX.lift0 (i := 3) rfl (Y.fieldAddr0 Pc.fo42_2 rfl) rfl rfl rfl <| MX.lift1 (i := 4) (pend' := []) rfl (fun w hw => by exact hw) (Y.ldB 1 Pc.one23 rfl rfl rfl) rfl rfl rfl (by kernel_rfl) <| MX.lift0 (i := 5) rfl (Y.move rfl) rfl rfl rfl ?_
  obtain ⟨x47, hx47⟩ : ∃ x, (l35_0)[0]? = some x := ⟨_, List.getElem?_eq_getElem (show 0 < (l35_0).length by
    rcases Nat.eq_zero_or_pos (l35_0).length with h0 | h0
    · exfalso
      have h9 := (hw42.bad as_).2
      simp_all
    · exact h0)⟩
  have hxm47 := List.mem_of_getElem? hx47
  refine MX.lift1 (i := 6) (pend' := [4]) rfl (fun w hw => by exact hw) (Y.idxR 0 (i := 0) Pc.un29 Pb.sz3 rfl rfl rfl (List.getElem?_eq_some_iff.1 hx47).1) rfl rfl rfl (by kernel_rfl) ?_
  refine MX.lift1 (i := 7) (pend' := [4]) rfl (fun w hw => by exact hw) (Y.ldR 0 (v := .int .i64 x47) Pa.one3 rfl rfl (by show ((l35_0).map iv)[0]? = _; rw [List.getElem?_map, hx47]; rfl)) rfl rfl rfl (by kernel_rfl) ?_
  obtain ⟨i48, hi48, hil48, hkd48⟩ : ∃ i : Nat, x47 = (i : Int) ∧ i < (s42.ns).length ∧ ∀ (k : Nat) x, (s42.ns)[k]? = some x → ∀ q ∈ x.kids, 0 ≤ q ∧ q < (k : Int)   := root_at (q := (RS.dp (RS.fl s42 s42.df s42.lp s.tp) (s42.deep - 1))) hs hR46 as_ as_
  obtain ⟨y48, hy48⟩ : ∃ y, (s42.ns)[i48]? = some y := ⟨_, List.getElem?_eq_getElem hil48⟩
  have hyc48 := hn42.cell hy48
  have hyp48 : inI y48.pos := hyc48.2.2.2.2
  refine MX.lift1 (i := 8) (pend' := []) rfl (fun w hw => by exact hw) (Y.idxRZ 2 (i := i48) Pc.un23 Pc.sz31 rfl rfl hi48 rfl hil48) rfl rfl rfl (by kernel_rfl) <| MX.lift1 (i := 9) (pend' := []) rfl (fun w hw => by exact hw) (Y.fieldAddr Pi.fo31_2 rfl) rfl rfl rfl (by kernel_rfl) <| MX.lift1 (i := 10) (pend' := []) rfl (fun w hw => by exact hw) (Y.ldR 2 (v := .int .i64 y48.pos) Pa.one3 rfl rfl hyc48.2.2.1) rfl rfl rfl (by kernel_rfl) <| MX.lift0 (i := 11) rfl (Y.move rfl) rfl rfl rfl <| MX.force (i := 12) rfl <| LX.call (put_c (fr := fr) (g := g35_0) (c := c35_0) (ks := l35_0) (op := 47) (pos := y48.pos) (x := ([] : List UInt8)) (RS.dp (RS.fl s42 s42.df s42.lp s.tp) (s42.deep - 1)) m35 hn42 (fun h0 => by have h1 : ((s42.ns).length : Int) + 2 * s.at_ ≤ s.ns.length + 2 * ((s42.at_ : Nat) : Int) + (-2) := hR46.few h0; have h2 := hs.few (hR46.bad h0); have h3 := hK.len; have h4 : s42.at_ < L.length := hR46.lt; show (s42.ns).length ≤ 1000000; omega) (by omega) (hla35_0) (by (unfold inI; omega)) as_) Pd.en16 rfl rfl rfl rfl rfl ?_
  rintro ⟨r49, s49, m49⟩
  refine LX.have fun ⟨hri49, hp49, hn49⟩ => ?_
  try dsimp only at hri49 hp49 hn49 ⊢
  have hR50 : Rn L.length s s49 ([r49]) 1 (-1) := hR46.put (us := ([] : List Int)) (ks := l35_0) hp49 pm
  have hch51 : s42.at_ ≤ s49.at_ := Nat.le_of_eq hp49.eqs.1.symm
  have hle51 : s.at_ < s49.at_ := by omega
  have hlt51 : s49.at_ < L.length := hR50.lt
  have hde51 : (s42.deep - 1) ≤ s49.deep := Int.le_of_eq hp49.eqs.2.1.symm
  have hdd51 : s49.deep ≤ 60 := hR50.d1
  refine LX.nextM [] (by kernel_rfl) (fun h => absurd rfl h) <| MX.lift0 (i := 13) rfl (Y.assign rfl) rfl rfl rfl <| MX.sub (l' := [(2, _)]) ⟨rfl, trivial⟩ <| MX.done <| PX.thenN <| CX.ret <| PX.ret1 (by simp) Try.results39 rfl ?_
  exact fun w hw => ⟨(r49, s49, m49), rfl, ⟨as_, hR50.wk dc dc, hn49⟩, hw⟩
end Go.Proofs.Yteibddakpedogaa
