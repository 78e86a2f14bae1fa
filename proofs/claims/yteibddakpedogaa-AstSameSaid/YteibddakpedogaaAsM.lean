/-
  Proved here: the document's parser: definitions.
-/
import Derived.Test.YteibddakpedogaaAsL
import Derived.Test.YteibddakpedogaaRi
set_option linter.unusedSimpArgs false
namespace Go.Proofs.Yteibddakpedogaa
open Go.SX Go.RowKit Go.Tr Go.As Go.Ck
namespace Pm

end Pm
open Go.Pa (Tk)
set_option maxHeartbeats 1000000 in
theorem function_c {w0 : World} {base : Nat} {bp : Nat} {al : Option Addr} {cl : Nat} {L : List Go.Pa.Tk} (hL : SlAt 3 tokA (Lies w0 base) al L) (hK : Tok6 L) {N : Nat} (ih_block : (∀ (s : RS) (m : Mm) (fr : List It), Sk L.length s → NdsR 3 m.rs m.cells s.ns → L.length - s.at_ < N → PF 39 [.pointer (some ⟨bp, 0, none⟩)] w0 base bp al cl L s m fr)) (pos : Int) (hpos : inI pos)  : (∀ (s : RS) (m : Mm) (fr : List It), Sk L.length s → NdsR 3 m.rs m.cells s.ns → L.length - s.at_ ≤ N → s.at_ + 1 < L.length → PF 40 [.pointer (some ⟨bp, 0, none⟩), .int .i64 pos] w0 base bp al cl L s m fr) := by
  intro s m fr hs hn hN hgo0
  have hR := Rn.refl hs
  have hle : s.at_ ≤ s.at_ := Nat.le_refl _
  have hd0 := hs.d0
  have hd1 := hs.d1
  have hlt := hs.lt
  have hln0 := hK.len
  have hN0 : 0 < N := by omega
  refine FnC.of_body (fn := Try.f40) [(0, _), (1, _)] Try.func40 rfl Try.ntmps40 rfl ⟨rfl, rfl, trivial⟩ ?_
  refine CX.sr <| LX.mv rfl <| LX.su [0, 1, 4] rfl <| LX.nt <| CX.sr ?_
  obtain ⟨t1, ht1⟩ : ∃ t, L[s.at_]? = some t := ⟨_, List.getElem?_eq_getElem (show s.at_ < L.length from hR.lt)⟩
  have htk1 := (tok_in hL ht1).1
  have htp1 := (tok_in hL ht1).2
  have hgo2 : s.at_ + 1 < L.length := by omega
  have hln2 := hK.len
  refine LX.ms 3 rfl <| LX.p (Y.fieldAddr0 Pa.fo42_1 rfl) rfl <| LX.p (Y.ldB 0 Pa.one3 rfl rfl rfl) rfl <| LX.p (Y.addN rfl rfl (by (simp only []; omega))) rfl <| LX.mv rfl <| LX.p (Y.fieldAddr0 Pa.fo42_1 rfl) rfl <| LX.storeB 0 Pb.sz3 rfl rfl rfl rfl rfl rfl rfl rfl <| LX.wq (PWl bp al L cl (RS.go s 1) m fr) rfl ?_
  have hR3 : Rn L.length s (RS.go s 1) ([] : List Int) 1 (-2) := hR.go hgo2
  have hle4 : s.at_ < (s.at_ + 1) := by have h9 : s.at_ ≤ s.at_ := hR.le; omega
  have hlt4 : (s.at_ + 1) < L.length := hgo2
  refine LX.su [0, 1, 4] rfl <| LX.nt <| CX.sr ?_
  obtain ⟨t5, ht5⟩ : ∃ t, L[(s.at_ + 1)]? = some t := ⟨_, List.getElem?_eq_getElem (show (s.at_ + 1) < L.length from hR3.lt)⟩
  have htk5 := (tok_in hL ht5).1
  have htp5 := (tok_in hL ht5).2
  refine LX.mv rfl <| LX.call (kind_c (fr := fr) (RS.go s 1) m hL hK ht5 1 dc) Pg.en42 rfl rfl rfl rfl rfl ?_
  rintro ⟨k6, b6, s6⟩
  refine LX.have fun ⟨hk6, hki6, hkt6, hw6⟩ => ?_
  try dsimp only at hk6 hki6 hkt6 hw6 ⊢
  have hn6 : NdsR 3 m.rs m.cells s6.ns := by rw [hw6.ns]; exact hn
  have hR7 : Rn L.length s s6 ([] : List Int) 2 (-4) := hR3.want hw6
  have hch8 : (s.at_ + 1) ≤ s6.at_ := hw6.le
  have hle8 : s.at_ < s6.at_ := by omega
  have hlt8 : s6.at_ < L.length := hR7.lt
  have hde8 : s.deep ≤ s6.deep := Int.le_of_eq hw6.deep.symm
  have hdd8 : s6.deep ≤ 60 := hR7.d1
  refine LX.mv rfl <| LX.p (Y.extract rfl rfl) rfl <| LX.p (Y.extract rfl rfl) rfl <| LX.alloc rfl Pa.zv44 rfl rfl rfl ?_
  intro bt9
  refine LX.storeA 0 Pa.ag44 rfl rfl rfl rfl rfl rfl rfl rfl rfl <| LX.wq (Tb bt9 k6 :: PWl bp al L cl s6 m fr) rfl <| LX.mv rfl ?_
  refine LX.wp (PWl bp al L cl s6 m (Tb bt9 k6 :: fr)) ?_
  refine LX.su [0, 1, 4, 5] rfl <| LX.nt <| CX.sr ?_
  obtain ⟨t10, ht10⟩ : ∃ t, L[s6.at_]? = some t := ⟨_, List.getElem?_eq_getElem (show s6.at_ < L.length from hR7.lt)⟩
  have htk10 := (tok_in hL ht10).1
  have htp10 := (tok_in hL ht10).2
  refine LX.mv rfl <| LX.call (want_c (fr := (Tb bt9 k6 :: fr)) s6 m hL hK ht10 ([40] : List UInt8)) Pd.en35 rfl rfl rfl rfl rfl ?_
  rintro ⟨b11, s11⟩
  refine LX.have fun hw11 => ?_
  try dsimp only at hw11 ⊢
  have hn11 : NdsR 3 m.rs m.cells s11.ns := by rw [hw11.ns]; exact hn6
  have hR12 : Rn L.length s s11 ([] : List Int) 3 (-6) := hR7.want hw11
  have hch13 : s6.at_ ≤ s11.at_ := hw11.le
  have hle13 : s.at_ < s11.at_ := by omega
  have hlt13 : s11.at_ < L.length := hR12.lt
  have hde13 : s6.deep ≤ s11.deep := Int.le_of_eq hw11.deep.symm
  have hdd13 : s11.deep ≤ 60 := hR12.d1
  refine LX.su [0, 1, 4, 5] rfl <| LX.nt <| CX.sr <| LX.mv rfl <| LX.su [0, 1, 4, 5, 7] rfl <| LX.nt <| CX.sr <| LX.mv rfl <| LX.su [0, 1, 4, 5, 7, 8] rfl <| LX.nt <| CX.sr <| LX.mv rfl <| LX.su [0, 1, 4, 5, 7, 8, 9] rfl <| LX.nt <| CX.seq <| CX.block ?_
  refine CX.loop (fun z : (List Int × Option Nat × Nat) × (List (List UInt8) × Option Nat × Nat) × (Bool) × RS × Mm => [(0, .pointer (some ⟨bp, 0, none⟩)), (1, .int .i64 pos), (5, .pointer (some ⟨bt9, 0, none⟩)), (7, rv z.1.2.1 (z.1.1).length z.1.2.2), (8, rv z.2.1.2.1 (z.2.1.1).length z.2.1.2.2), (9, .bool z.2.2.1)]) (fun (z : (List Int × Option Nat × Nat) × (List (List UInt8) × Option Nat × Nat) × (Bool) × RS × Mm) w => (AllI z.1.1 ∧ (z.1.1).length + 2 * s.at_ ≤ 2 * z.2.2.2.1.at_ + 0 ∧ (z.2.1.1).length + 2 * s.at_ ≤ 2 * z.2.2.2.1.at_ + 0 ∧ s11.at_ ≤ z.2.2.2.1.at_ ∧ s11.deep ≤ z.2.2.2.1.deep ∧ Rn L.length s z.2.2.2.1 z.1.1 0 (0) ∧ NdsR 3 z.2.2.2.2.rs z.2.2.2.2.cells z.2.2.2.1.ns) ∧ WA w0 base (PWl bp al L cl z.2.2.2.1 z.2.2.2.2 (Ri z.1.2.1 z.1.2.2 (z.1.1) :: Rs z.2.1.2.1 z.2.1.2.2 (z.2.1.1) :: Tb bt9 k6 :: fr)) w) (fun z : (List Int × Option Nat × Nat) × (List (List UInt8) × Option Nat × Nat) × (Bool) × RS × Mm => L.length - z.2.2.2.1.at_) (([], none, 0), ([], none, 0), false, s11, m) ⟨rfl, rfl, rfl, (by rfl), (by rfl), rfl, trivial⟩ (fun w hw => ⟨⟨AllI.nil, (by show 0 + 2 * s.at_ ≤ 2 * s11.at_ + 0; omega), (by show 0 + 2 * s.at_ ≤ 2 * s11.at_ + 0; omega), Nat.le_refl _, Int.le_refl _, (hR12.wk dc dc).re pm, hn11⟩, ((show WA w0 base (Rs none 0 ([] : List (List UInt8)) :: Ri none 0 ([] : List Int) :: PWl bp al L cl s11 m (Tb bt9 k6 :: fr)) w from (show WA w0 base (Ri none 0 ([] : List Int) :: PWl bp al L cl s11 m (Tb bt9 k6 :: fr)) w from hw.nilRow 3 1).nilRow 9 1).perm pm)⟩) ?_
  rintro ⟨⟨l14_0, g14_0, c14_0⟩, ⟨l14_1, g14_1, c14_1⟩, v14_2, s14, m14⟩
  refine CX.have fun ⟨hla14_0, hll14_0, hll14_1, hlo14, hld14, hR14, hn14⟩ => ?_
  try dsimp only at hla14_0 hll14_0 hll14_1 hlo14 hld14 hR14 hn14 ⊢
  have hle14 : s.at_ < s14.at_ := by omega
  have hlt14 : s14.at_ < L.length := hR14.lt
  have hde14 := hR14.d0
  have hdd14 := hR14.d1
  refine CX.seq <| CX.sr ?_
  obtain ⟨t15, ht15⟩ : ∃ t, L[s14.at_]? = some t := ⟨_, List.getElem?_eq_getElem (show s14.at_ < L.length from hR14.lt)⟩
  have htk15 := (tok_in hL ht15).1
  have htp15 := (tok_in hL ht15).2
  refine LX.mv rfl <| LX.callQ (show FnQ Try.prog 12 #[.pointer (some ⟨bp, 0, none⟩)] _ (.bool (decide (s14.code ≠ 0))) from bad_q (s := s14) (m := m14) (fun w hw => blkL hw (i := 0) rfl)) Pb.en12 rfl rfl rfl rfl rfl <| LX.p (Y.not rfl) rfl <| LX.mv rfl <| LX.su [0, 1, 5, 7, 8, 9, 32] rfl ?_
  apply LX.joinAnd 4 36 32 rfl
  · intro hb1
    refine LX.gT rfl rfl rfl hb1 (Y.move rfl) rfl rfl <| LX.callQT rfl rfl rfl hb1 (is_q (s := s14) (m := m14) ht15 ([41] : List UInt8) (fun w hw => blkL hw (i := 0) rfl) (fun w hw => hL.push hw)) Pb.en32 rfl rfl rfl rfl <| LX.gT rfl rfl rfl hb1 (Y.not rfl) rfl rfl <| LX.p (Y.pickT rfl hb1 rfl) rfl ?_
    exact LX.left ⟨rfl, rfl, rfl, rfl, rfl, rfl, rfl, rfl, trivial⟩
  · intro hb1
    refine LX.gF rfl rfl rfl hb1 rfl rfl <| LX.gF rfl rfl rfl hb1 rfl rfl <| LX.gF rfl rfl rfl hb1 rfl rfl <| LX.p (Y.pickF rfl hb1 rfl) rfl ?_
    exact LX.left ⟨rfl, rfl, rfl, rfl, rfl, rfl, rfl, rfl, trivial⟩
  refine LX.su [0, 1, 5, 7, 8, 9, 36] rfl <| LX.nt ?_
  refine CX.cond rfl (fun hb2 => ?_) (fun hb2 => ?_)
  · try simp at hb2
    refine CX.skip <| PX.thenN <| CX.block <| CX.sr <| LX.mv rfl <| LX.callQ (now_q (s := s14) (m := m14) ht15 (fun w hw => blkL hw (i := 0) rfl) (fun w hw => hL.push hw)) Pa.en13 rfl rfl rfl rfl rfl <| LX.alloc rfl Pa.zv44 rfl rfl rfl ?_
    intro bt16
    refine LX.storeA 0 Pa.ag44 rfl rfl rfl rfl rfl rfl rfl rfl rfl <| LX.wq (Tb bt16 t15 :: PWl bp al L cl s14 m14 (Ri g14_0 c14_0 l14_0 :: Rs g14_1 c14_1 l14_1 :: Tb bt9 k6 :: fr)) rfl ?_
    refine LX.wp (PWl bp al L cl s14 m14 (Tb bt16 t15 :: Ri g14_0 c14_0 l14_0 :: Rs g14_1 c14_1 l14_1 :: Tb bt9 k6 :: fr)) ?_
    refine LX.su [0, 1, 5, 7, 8, 9, 10] rfl <| LX.nt <| CX.seq <| CX.sr <| LX.p (Y.fieldAddr0 Pa.fo44_0 rfl) rfl ?_
    refine LX.wp (Tb bt16 t15 :: PWl bp al L cl s14 m14 (Ri g14_0 c14_0 l14_0 :: Rs g14_1 c14_1 l14_1 :: Tb bt9 k6 :: fr)) ?_
    refine LX.p (Y.ldB 0 Pa.one3 rfl rfl rfl) rfl <| LX.p (Y.neI rfl rfl) rfl <| LX.mv rfl ?_
    refine LX.caseB (s := 42) rfl (fun hb3 => ?_) (fun hb3 => ?_)
    ·
      have hb3p := hb3
      try simp at hb3p
      refine LX.gF rfl rfl rfl hb3 rfl rfl <| LX.gF rfl rfl rfl hb3 rfl rfl <| LX.gF rfl rfl rfl hb3 rfl rfl <| LX.gF rfl rfl rfl hb3 rfl rfl <| LX.gF rfl rfl rfl hb3 rfl rfl <| LX.p (Y.pickT rfl hb3 rfl) rfl ?_
      refine LX.wp (PWl bp al L cl s14 m14 (Tb bt16 t15 :: Ri g14_0 c14_0 l14_0 :: Rs g14_1 c14_1 l14_1 :: Tb bt9 k6 :: fr)) ?_
      refine LX.su [0, 1, 5, 7, 8, 9, 10, 48] rfl <| LX.nt ?_
      refine CX.cond rfl (fun hb4 => ?_) (fun hb4 => ?_)
      · try simp at hb4
        refine CX.sr <| LX.mv rfl <| LX.call (wrong_c (fr := (Tb bt16 t15 :: Ri g14_0 c14_0 l14_0 :: Rs g14_1 c14_1 l14_1 :: Tb bt9 k6 :: fr)) s14 m14 hL ht15) Pb.en37 rfl rfl rfl rfl rfl ?_
        intro s17
        refine LX.have fun hf17 => ?_
        have hb917 : Bad s14 s17 := FailR.bad hf17 dc
        have hbc17 := hb917.code
        have hn17 : NdsR 3 m14.rs m14.cells s17.ns := by rw [hb917.ns]; exact hn14
        have hR18 : Rn L.length s s17 (l14_0) 0 (0) := hR14.bad2 hb917
        have hch19 : s14.at_ ≤ s17.at_ := Nat.le_of_eq hb917.at_.symm
        have hle19 : s.at_ < s17.at_ := by omega
        have hlt19 : s17.at_ < L.length := hR18.lt
        have hde19 : s14.deep ≤ s17.deep := Int.le_of_eq hb917.deep.symm
        have hdd19 : s17.deep ≤ 60 := hR18.d1
        refine LX.mv rfl <| LX.su [0, 1, 4, 5, 7, 8, 9, 10] rfl <| LX.nt <| CX.ret <| PX.thenR <| PX.blockR <| PX.thenR <| PX.blockR <| PX.thenR <| PX.ret1 (by simp) Try.results40 rfl ?_
        exact fun w hw => ⟨((-1), s17, m14), rfl, ⟨(by (unfold inI; omega)), hR18.no as_, hn17⟩, hw.ct⟩
      try simp at hb4
      done
    have hb3p := hb3
    try simp at hb3p
    refine LX.gT rfl rfl rfl hb3 (Y.move rfl) rfl rfl <| LX.gT rfl rfl rfl hb3 (Y.fieldAddr0 Pa.fo44_1 rfl) rfl rfl <| LX.gT rfl rfl rfl hb3 (Y.ldB 0 Pa.one9 rfl rfl rfl) rfl rfl ?_
    refine LX.wp (Rs g14_1 c14_1 l14_1 :: PWl bp al L cl s14 m14 (Tb bt16 t15 :: Ri g14_0 c14_0 l14_0 :: Tb bt9 k6 :: fr)) ?_
    refine LX.callT rfl rfl rfl hb3 (among6_w c14_1 (ss := l14_1) lo t15.text (fun w hw => Go.Tr.row_at (ys := (l14_1).map str) hw (j := 0) rfl rfl dc (fun i z h => map_A h))) Pa.en27 rfl rfl rfl rfl ?_
    intro z20
    refine LX.have fun hz20 => ?_
    replace hz20 : -1 ≤ z20 ∧ z20 < (l14_1).length := hz20
    try simp only [List.length_cons, List.length_nil] at hz20
    refine LX.gT rfl rfl rfl hb3 (Y.geI rfl rfl) rfl rfl <| LX.p (Y.pickF rfl hb3 rfl) rfl ?_
    refine LX.wp (PWl bp al L cl s14 m14 (Rs g14_1 c14_1 l14_1 :: Tb bt16 t15 :: Ri g14_0 c14_0 l14_0 :: Tb bt9 k6 :: fr)) ?_
    refine LX.su [0, 1, 5, 7, 8, 9, 10, 48] rfl <| LX.nt ?_
    refine CX.cond rfl (fun hb5 => ?_) (fun hb5 => ?_)
    · try simp at hb5
      refine CX.sr <| LX.mv rfl <| LX.call (wrong_c (fr := (Rs g14_1 c14_1 l14_1 :: Tb bt16 t15 :: Ri g14_0 c14_0 l14_0 :: Tb bt9 k6 :: fr)) s14 m14 hL ht15) Pb.en37 rfl rfl rfl rfl rfl ?_
      intro s21
      refine LX.have fun hf21 => ?_
      have hb921 : Bad s14 s21 := FailR.bad hf21 dc
      have hbc21 := hb921.code
      have hn21 : NdsR 3 m14.rs m14.cells s21.ns := by rw [hb921.ns]; exact hn14
      have hR22 : Rn L.length s s21 (l14_0) 0 (0) := hR14.bad2 hb921
      have hch23 : s14.at_ ≤ s21.at_ := Nat.le_of_eq hb921.at_.symm
      have hle23 : s.at_ < s21.at_ := by omega
      have hlt23 : s21.at_ < L.length := hR22.lt
      have hde23 : s14.deep ≤ s21.deep := Int.le_of_eq hb921.deep.symm
      have hdd23 : s21.deep ≤ 60 := hR22.d1
      refine LX.mv rfl <| LX.su [0, 1, 4, 5, 7, 8, 9, 10] rfl <| LX.nt <| CX.ret <| PX.thenR <| PX.blockR <| PX.thenR <| PX.blockR <| PX.thenR <| PX.ret1 (by simp) Try.results40 rfl ?_
      exact fun w hw => ⟨((-1), s21, m14), rfl, ⟨(by (unfold inI; omega)), hR22.no as_, hn21⟩, hw.ct⟩
    try simp at hb5
    refine CX.skip <| PX.thenN <| CX.seq <| CX.sr <| LX.ms 2 rfl ?_
    refine LX.caseB (s := 52) rfl (fun hb6 => ?_) (fun hb6 => ?_)
    ·
      refine LX.gT rfl rfl rfl hb6 (Y.move rfl) rfl rfl <| LX.callT rfl rfl rfl hb6 (named_w (s := s14) (m := m14) ht15 hK (fun w hw => blkL hw (i := 0) rfl) (fun w hw => hL.push hw)) Pf.en52 rfl rfl rfl rfl ?_
      intro b24
      refine LX.have fun hy24 => ?_
      replace hy24 : b24 = true → t15.kind = 1 ∧ s14.at_ + 2 < L.length := hy24
      refine LX.gT rfl rfl rfl hb6 (Y.not rfl) rfl rfl <| LX.p (Y.pickT rfl hb6 rfl) rfl <| LX.su [0, 1, 5, 7, 8, 9, 10, 56] rfl <| LX.nt ?_
      refine CX.cond rfl (fun hb7 => ?_) (fun hb7 => ?_)
      · try simp at hb7
        refine CX.sr <| LX.mv rfl <| LX.call (wrong_c (fr := (Rs g14_1 c14_1 l14_1 :: Tb bt16 t15 :: Ri g14_0 c14_0 l14_0 :: Tb bt9 k6 :: fr)) s14 m14 hL ht15) Pb.en37 rfl rfl rfl rfl rfl ?_
        intro s25
        refine LX.have fun hf25 => ?_
        have hb925 : Bad s14 s25 := FailR.bad hf25 dc
        have hbc25 := hb925.code
        have hn25 : NdsR 3 m14.rs m14.cells s25.ns := by rw [hb925.ns]; exact hn14
        have hR26 : Rn L.length s s25 (l14_0) 0 (0) := hR14.bad2 hb925
        have hch27 : s14.at_ ≤ s25.at_ := Nat.le_of_eq hb925.at_.symm
        have hle27 : s.at_ < s25.at_ := by omega
        have hlt27 : s25.at_ < L.length := hR26.lt
        have hde27 : s14.deep ≤ s25.deep := Int.le_of_eq hb925.deep.symm
        have hdd27 : s25.deep ≤ 60 := hR26.d1
        refine LX.mv rfl <| LX.su [0, 1, 4, 5, 7, 8, 9, 10] rfl <| LX.nt <| CX.ret <| PX.thenR <| PX.blockR <| PX.thenR <| PX.blockR <| PX.thenR <| PX.ret1 (by simp) Try.results40 rfl ?_
        exact fun w hw => ⟨((-1), s25, m14), rfl, ⟨(by (unfold inI; omega)), hR26.no as_, hn25⟩, hw.ct⟩
      try simp at hb7
      refine CX.skip <| PX.thenN <| CX.sr <| LX.mv rfl <| LX.p (Y.fieldAddr0 Pa.fo44_1 rfl) rfl ?_
      refine LX.wp (Tb bt16 t15 :: PWl bp al L cl s14 m14 (Rs g14_1 c14_1 l14_1 :: Ri g14_0 c14_0 l14_0 :: Tb bt9 k6 :: fr)) ?_
      refine LX.p (Y.ldB 0 Pa.one9 rfl rfl rfl) rfl <| LX.buildSlice (e := 9) (size := 1) rfl rfl (fun _ => by kernel_rfl) rfl dc rfl rfl rfl ?_
      intro gt28
      refine LX.wq (Rs (some gt28) 1 ([t15.text]) :: Tb bt16 t15 :: PWl bp al L cl s14 m14 (Rs g14_1 c14_1 l14_1 :: Ri g14_0 c14_0 l14_0 :: Tb bt9 k6 :: fr)) rfl ?_
      refine LX.wp (Rs (some gt28) 1 ([t15.text]) :: Rs g14_1 c14_1 l14_1 :: PWl bp al L cl s14 m14 (Tb bt16 t15 :: Ri g14_0 c14_0 l14_0 :: Tb bt9 k6 :: fr)) ?_
      refine LX.appendT 0 (g := g14_1) (k := (l14_1).length) Pf.el64 rfl rfl rfl rfl rfl rfl rfl lo lo rfl rfl rfl ?_
      intro ga29 ca29
      refine LX.wa (Rs ga29 ca29 (l14_1 ++ [t15.text]) :: PWl bp al L cl s14 m14 (Tb bt16 t15 :: Ri g14_0 c14_0 l14_0 :: Tb bt9 k6 :: fr)) <| LX.sub (l' := [(0, _), (1, _), (5, _), (7, _), (8, _), (9, _), (10, _), (56, _), (59, _), (60, _), (61, _), (62, _), (63, rv ga29 ((l14_1 ++ [t15.text])).length ca29)]) ⟨rfl, rfl, rfl, rfl, rfl, rfl, rfl, rfl, rfl, rfl, rfl, rfl, (by (show some (rv _ _ _) = some (rv _ _ _); simp only [List.length_cons, List.length_append, List.length_nil] <;> rfl)), trivial⟩ <| LX.mv rfl ?_
      refine LX.wp (PWl bp al L cl s14 m14 (Rs ga29 ca29 (l14_1 ++ [t15.text]) :: Tb bt16 t15 :: Ri g14_0 c14_0 l14_0 :: Tb bt9 k6 :: fr)) ?_
      refine LX.su [0, 1, 5, 7, 8, 9, 10] rfl <| LX.nt <| CX.seq <| CX.sr <| LX.mv rfl <| LX.call (named_w (s := s14) (m := m14) ht15 hK (fun w hw => blkL hw (i := 0) rfl) (fun w hw => hL.push hw)) Pf.en52 rfl rfl rfl rfl rfl ?_
      intro b30
      refine LX.have fun hy30 => ?_
      replace hy30 : b30 = true → t15.kind = 1 ∧ s14.at_ + 2 < L.length := hy30
      refine LX.su [0, 1, 5, 7, 8, 9, 10, 65] rfl <| LX.nt ?_
      refine CX.cond rfl (fun hb8 => ?_) (fun hb8 => ?_)
      · try simp at hb8
        refine CX.sr <| LX.mv rfl <| LX.su [0, 1, 5, 7, 8, 9, 10] rfl <| LX.nt <| CX.sr ?_
        have hgo31 : s14.at_ + 2 < L.length := by (have h9 := hy30 as_; omega)
        have hln31 := hK.len
        refine LX.ms 3 rfl <| LX.p (Y.fieldAddr0 Pa.fo42_1 rfl) rfl <| LX.p (Y.ldB 0 Pa.one3 rfl rfl rfl) rfl <| LX.p (Y.addN rfl rfl (by (simp only []; omega))) rfl <| LX.mv rfl <| LX.p (Y.fieldAddr0 Pa.fo42_1 rfl) rfl <| LX.storeB 0 Pb.sz3 rfl rfl rfl rfl rfl rfl rfl rfl <| LX.wq (PWl bp al L cl (RS.go s14 2) m14 (Rs ga29 ca29 (l14_1 ++ [t15.text]) :: Tb bt16 t15 :: Ri g14_0 c14_0 l14_0 :: Tb bt9 k6 :: fr)) rfl ?_
        have hR32 : Rn L.length s (RS.go s14 2) (l14_0) 2 (-4) := hR14.go hgo31
        have hle33 : s.at_ < (s14.at_ + 2) := by have h9 : s.at_ ≤ s14.at_ := hR14.le; omega
        have hlt33 : (s14.at_ + 2) < L.length := hgo31
        refine LX.su [0, 1, 5, 7, 8, 9, 10] rfl <| LX.nt <| CX.sr <| LX.mv rfl ?_
        have hk34 : Sk L.length (RS.go s14 2) := hs.next hR32 dc
        refine LX.call ((ex_all hL hK L.length).test_ (RS.go s14 2) m14 (Rs ga29 ca29 (l14_1 ++ [t15.text]) :: Tb bt16 t15 :: Ri g14_0 c14_0 l14_0 :: Tb bt9 k6 :: fr) hk34 hn14 (by show L.length - (s14.at_ + 2) ≤ L.length; omega)) Pd.en47 rfl rfl rfl rfl rfl ?_
        rintro ⟨r34, s34, m34⟩
        refine LX.have fun ⟨hri34, hr34, hn34⟩ => ?_
        try dsimp only at hri34 hr34 hn34 ⊢
        have hR35 : Rn L.length s s34 (l14_0 ++ [r34]) 3 (-4) := hR32.trans hr34
        have hch36 : (s14.at_ + 2) ≤ s34.at_ := hr34.le
        have hle36 : s.at_ < s34.at_ := by omega
        have hlt36 : s34.at_ < L.length := hR35.lt
        have hde36 : s14.deep ≤ s34.deep := hr34.d0
        have hdd36 : s34.deep ≤ 60 := hR35.d1
        have hav34 : s34.code = 0 → (s14.at_ + 2) + 1 ≤ s34.at_ := hr34.adv
        refine LX.mv rfl <| LX.su [0, 1, 5, 7, 8, 9, 10, 11] rfl <| LX.nt <| CX.region <| LX.ms 2 rfl <| LX.p (Y.fieldAddr0 Pf.fo44_2 rfl) rfl ?_
        refine LX.wp (Tb bt16 t15 :: PWl bp al L cl s34 m34 (Rs ga29 ca29 (l14_1 ++ [t15.text]) :: Ri g14_0 c14_0 l14_0 :: Tb bt9 k6 :: fr)) ?_
        refine LX.p (Y.ldB 0 Pa.one3 rfl rfl rfl) rfl <| LX.p (Y.fieldAddr0 Pa.fo44_1 rfl) rfl <| LX.p (Y.ldB 0 Pa.one9 rfl rfl rfl) rfl <| LX.mv rfl <| LX.buildSlice (e := 3) (size := 1) rfl rfl (fun _ => by kernel_rfl) rfl dc rfl rfl rfl ?_
        intro gt37
        refine LX.wq (Ri (some gt37) 1 ([r34]) :: Tb bt16 t15 :: PWl bp al L cl s34 m34 (Rs ga29 ca29 (l14_1 ++ [t15.text]) :: Ri g14_0 c14_0 l14_0 :: Tb bt9 k6 :: fr)) rfl ?_
        refine LX.wp (Ri (some gt37) 1 ([r34]) :: PWl bp al L cl s34 m34 (Tb bt16 t15 :: Rs ga29 ca29 (l14_1 ++ [t15.text]) :: Ri g14_0 c14_0 l14_0 :: Tb bt9 k6 :: fr)) ?_
        refine LX.call (put_c (fr := (Tb bt16 t15 :: Rs ga29 ca29 (l14_1 ++ [t15.text]) :: Ri g14_0 c14_0 l14_0 :: Tb bt9 k6 :: fr)) (g := (some gt37)) (c := 1) (ks := [r34]) (op := 46) (pos := t15.pos) (x := t15.text) s34 m34 hn34 (fun h0 => by have h1 : ((s34.ns).length : Int) + 2 * s.at_ ≤ s.ns.length + 2 * ((s34.at_ : Nat) : Int) + (-4) := hR35.few h0; have h2 := hs.few (hR35.bad h0); have h3 := hK.len; have h4 : s34.at_ < L.length := hR35.lt; show (s34.ns).length ≤ 1000000; omega) (by (simp only [List.length_cons, List.length_nil, List.length_append]; omega)) ((AllI.cons as_ AllI.nil)) (by (unfold inI; omega)) as_) Pd.en16 rfl rfl rfl rfl rfl ?_
        rintro ⟨r38, s38, m38⟩
        refine LX.have fun ⟨hri38, hp38, hn38⟩ => ?_
        try dsimp only at hri38 hp38 hn38 ⊢
        have hR39 : Rn L.length s s38 (l14_0 ++ [r38]) 3 (-3) := hR35.put (us := (l14_0)) (ks := [r34]) hp38 pm
        have hch40 : s34.at_ ≤ s38.at_ := Nat.le_of_eq hp38.eqs.1.symm
        have hle40 : s.at_ < s38.at_ := by omega
        have hlt40 : s38.at_ < L.length := hR39.lt
        have hde40 : s34.deep ≤ s38.deep := Int.le_of_eq hp38.eqs.2.1.symm
        have hdd40 : s38.deep ≤ 60 := hR39.d1
        refine LX.buildSlice (e := 3) (size := 1) rfl rfl (fun _ => by kernel_rfl) rfl dc rfl rfl rfl ?_
        intro gt41
        refine LX.wq (Ri (some gt41) 1 ([r38]) :: PWl bp al L cl s38 m38 (Tb bt16 t15 :: Rs ga29 ca29 (l14_1 ++ [t15.text]) :: Ri g14_0 c14_0 l14_0 :: Tb bt9 k6 :: fr)) rfl ?_
        refine LX.wp (Ri (some gt41) 1 ([r38]) :: Ri g14_0 c14_0 l14_0 :: PWl bp al L cl s38 m38 (Tb bt16 t15 :: Rs ga29 ca29 (l14_1 ++ [t15.text]) :: Tb bt9 k6 :: fr)) ?_
        refine LX.appendT 0 (g := g14_0) (k := (l14_0).length) Pe.el29 rfl rfl rfl rfl rfl rfl rfl lo lo rfl rfl rfl ?_
        intro ga42 ca42
        refine LX.wa (Ri ga42 ca42 (l14_0 ++ [r38]) :: PWl bp al L cl s38 m38 (Tb bt16 t15 :: Rs ga29 ca29 (l14_1 ++ [t15.text]) :: Tb bt9 k6 :: fr)) <| LX.sub (l' := [(0, _), (1, _), (5, _), (7, _), (8, _), (9, _), (10, _), (11, _), (76, _), (77, _), (78, _), (79, _), (80, _), (81, _), (82, _), (83, _), (84, _), (85, _), (86, rv ga42 ((l14_0 ++ [r38])).length ca42)]) ⟨rfl, rfl, rfl, rfl, rfl, rfl, rfl, rfl, rfl, rfl, rfl, rfl, rfl, rfl, rfl, rfl, rfl, rfl, (by (show some (rv _ _ _) = some (rv _ _ _); simp only [List.length_cons, List.length_append, List.length_nil] <;> rfl)), trivial⟩ <| LX.mv rfl ?_
        refine LX.wp (PWl bp al L cl s38 m38 (Ri ga42 ca42 (l14_0 ++ [r38]) :: Tb bt16 t15 :: Rs ga29 ca29 (l14_1 ++ [t15.text]) :: Tb bt9 k6 :: fr)) ?_
        refine LX.su [0, 1, 5, 7, 8, 9] rfl <| LX.nt <| CX.seq <| CX.sr ?_
        obtain ⟨t43, ht43⟩ : ∃ t, L[s38.at_]? = some t := ⟨_, List.getElem?_eq_getElem (show s38.at_ < L.length from hR39.lt)⟩
        have htk43 := (tok_in hL ht43).1
        have htp43 := (tok_in hL ht43).2
        refine LX.mv rfl <| LX.callQ (show FnQ Try.prog 12 #[.pointer (some ⟨bp, 0, none⟩)] _ (.bool (decide (s38.code ≠ 0))) from bad_q (s := s38) (m := m38) (fun w hw => blkL hw (i := 0) rfl)) Pb.en12 rfl rfl rfl rfl rfl <| LX.mv rfl <| LX.su [0, 1, 5, 7, 8, 9, 106] rfl ?_
        apply LX.joinOr 4 110 106 rfl
        · intro hb9
          refine LX.gF rfl rfl rfl hb9 rfl rfl <| LX.gF rfl rfl rfl hb9 rfl rfl <| LX.gF rfl rfl rfl hb9 rfl rfl <| LX.p (Y.pickT rfl hb9 rfl) rfl ?_
          exact LX.left ⟨rfl, rfl, rfl, rfl, rfl, rfl, rfl, rfl, trivial⟩
        · intro hb9
          refine LX.gT rfl rfl rfl hb9 (Y.move rfl) rfl rfl <| LX.callQT rfl rfl rfl hb9 (is_q (s := s38) (m := m38) ht43 ([44] : List UInt8) (fun w hw => blkL hw (i := 0) rfl) (fun w hw => hL.push hw)) Pb.en32 rfl rfl rfl rfl <| LX.gT rfl rfl rfl hb9 (Y.not rfl) rfl rfl <| LX.p (Y.pickF rfl hb9 rfl) rfl ?_
          exact LX.left ⟨rfl, rfl, rfl, rfl, rfl, rfl, rfl, rfl, trivial⟩
        refine LX.su [0, 1, 5, 7, 8, 9, 110] rfl <| LX.nt ?_
        refine CX.cond rfl (fun hb10 => ?_) (fun hb10 => ?_)
        · try simp at hb10
          refine CX.exit <| PX.thenE <| PX.blockO rfl <| PX.thenE <| PX.blockE <| PX.thenN <| CX.sr <| LX.mv rfl <| LX.call (want_c (fr := (Ri ga42 ca42 (l14_0 ++ [r38]) :: Tb bt16 t15 :: Rs ga29 ca29 (l14_1 ++ [t15.text]) :: Tb bt9 k6 :: fr)) s38 m38 hL hK ht43 ([41] : List UInt8)) Pd.en35 rfl rfl rfl rfl rfl ?_
          rintro ⟨b44, s44⟩
          refine LX.have fun hw44 => ?_
          try dsimp only at hw44 ⊢
          have hn44 : NdsR 3 m38.rs m38.cells s44.ns := by rw [hw44.ns]; exact hn38
          have hR45 : Rn L.length s s44 (l14_0 ++ [r38]) 4 (-5) := hR39.want hw44
          have hch46 : s38.at_ ≤ s44.at_ := hw44.le
          have hle46 : s.at_ < s44.at_ := by omega
          have hlt46 : s44.at_ < L.length := hR45.lt
          have hde46 : s38.deep ≤ s44.deep := Int.le_of_eq hw44.deep.symm
          have hdd46 : s44.deep ≤ 60 := hR45.d1
          refine LX.su [0, 1, 5, 7] rfl <| LX.nt <| CX.sr <| LX.ms 2 rfl <| LX.p (Y.fieldAddr0 Pi.fo42_5 rfl) rfl <| LX.p (Y.ldB 0 Pi.one4 rfl rfl rfl) rfl <| LX.mv rfl <| LX.su [0, 1, 5, 7, 12] rfl <| LX.nt <| CX.sr <| LX.ms 2 rfl <| LX.p (Y.fieldAddr0 Pi.fo42_5 rfl) rfl <| LX.storeB 0 Pj.sz4 rfl rfl rfl rfl rfl rfl rfl rfl <| LX.wq (PWl bp al L cl (RS.fl s44 s44.df false s44.tp) m38 (Ri ga42 ca42 (l14_0 ++ [r38]) :: Tb bt16 t15 :: Rs ga29 ca29 (l14_1 ++ [t15.text]) :: Tb bt9 k6 :: fr)) rfl ?_
          have hR47 : Rn L.length s (RS.fl s44 s44.df false s44.tp) (l14_0 ++ [r38]) 4 (-5) := hR45.fl _ _ _
          refine LX.su [0, 1, 5, 7, 12] rfl <| LX.nt <| CX.sr <| LX.ms 2 rfl <| LX.p (Y.fieldAddr0 Pi.fo42_4 rfl) rfl <| LX.storeB 0 Pj.sz4 rfl rfl rfl rfl rfl rfl rfl rfl <| LX.wq (PWl bp al L cl (RS.fl (RS.fl s44 s44.df false s44.tp) true false s44.tp) m38 (Ri ga42 ca42 (l14_0 ++ [r38]) :: Tb bt16 t15 :: Rs ga29 ca29 (l14_1 ++ [t15.text]) :: Tb bt9 k6 :: fr)) rfl ?_
          have hR48 : Rn L.length s (RS.fl (RS.fl s44 s44.df false s44.tp) true false s44.tp) (l14_0 ++ [r38]) 4 (-5) := hR47.fl _ _ _
          refine LX.su [0, 1, 5, 7, 12] rfl <| LX.nt <| CX.sr <| LX.mv rfl ?_
          have hk49 : Sk L.length (RS.fl (RS.fl s44 s44.df false s44.tp) true false s44.tp) := hs.next hR48 dc
          refine LX.call (ih_block (RS.fl (RS.fl s44 s44.df false s44.tp) true false s44.tp) m38 (Ri ga42 ca42 (l14_0 ++ [r38]) :: Tb bt16 t15 :: Rs ga29 ca29 (l14_1 ++ [t15.text]) :: Tb bt9 k6 :: fr) hk49 hn44 (by show L.length - s44.at_ < N; omega)) Pj.en39 rfl rfl rfl rfl rfl ?_
          rintro ⟨r49, s49, m49⟩
          refine LX.have fun ⟨hri49, hr49, hn49⟩ => ?_
          try dsimp only at hri49 hr49 hn49 ⊢
          have hR50 : Rn L.length s s49 (l14_0 ++ [r38] ++ [r49]) 5 (-5) := hR48.trans hr49
          have hch51 : s44.at_ ≤ s49.at_ := hr49.le
          have hle51 : s.at_ < s49.at_ := by omega
          have hlt51 : s49.at_ < L.length := hR50.lt
          have hde51 : s44.deep ≤ s49.deep := hr49.d0
          have hdd51 : s49.deep ≤ 60 := hR50.d1
          have hav49 : s49.code = 0 → s44.at_ + 1 ≤ s49.at_ := hr49.adv
          refine LX.mv rfl <| LX.su [0, 1, 5, 7, 12, 13] rfl <| LX.nt <| CX.sr <| LX.ms 2 rfl <| LX.p (Y.fieldAddr0 Pi.fo42_4 rfl) rfl <| LX.storeB 0 Pj.sz4 rfl rfl rfl rfl rfl rfl rfl rfl <| LX.wq (PWl bp al L cl (RS.fl s49 false s49.lp s49.tp) m49 (Ri ga42 ca42 (l14_0 ++ [r38]) :: Tb bt16 t15 :: Rs ga29 ca29 (l14_1 ++ [t15.text]) :: Tb bt9 k6 :: fr)) rfl ?_
          have hR52 : Rn L.length s (RS.fl s49 false s49.lp s49.tp) (l14_0 ++ [r38] ++ [r49]) 5 (-5) := hR50.fl _ _ _
          refine LX.su [0, 1, 5, 7, 12, 13] rfl <| LX.nt <| CX.sr <| LX.ms 3 rfl <| LX.p (Y.fieldAddr0 Pi.fo42_5 rfl) rfl <| LX.storeB 0 Pj.sz4 rfl rfl rfl rfl rfl rfl rfl rfl <| LX.wq (PWl bp al L cl (RS.fl (RS.fl s49 false s49.lp s49.tp) false s44.lp s49.tp) m49 (Ri ga42 ca42 (l14_0 ++ [r38]) :: Tb bt16 t15 :: Rs ga29 ca29 (l14_1 ++ [t15.text]) :: Tb bt9 k6 :: fr)) rfl ?_
          have hR53 : Rn L.length s (RS.fl (RS.fl s49 false s49.lp s49.tp) false s44.lp s49.tp) (l14_0 ++ [r38] ++ [r49]) 5 (-5) := hR52.fl _ _ _
          refine LX.su [0, 1, 5, 7, 13] rfl <| LX.nt <| CX.seq ?_
          refine CX.world (W' := WA w0 base (Ri ga42 ca42 (l14_0 ++ [r38]) :: Tb bt9 k6 :: PWl bp al L cl (RS.fl (RS.fl s49 false s49.lp s49.tp) false s44.lp s49.tp) m49 (Tb bt16 t15 :: Rs ga29 ca29 (l14_1 ++ [t15.text]) :: fr))) (fun w hw => hw.perm pm) ?_
          refine CX.regionS ((fun w => Lies w w.heap.size ⟨bt9, 0, none⟩ [.int .i64 k6.kind, str k6.text, .int .i64 k6.pos])) [(0, .anywhere), (1, .anywhere), (2, .anywhere), (3, .held), (4, .anywhere), (5, .anywhere), (6, .alone), (7, .alone), (8, .alone), (9, .anywhere)] rfl (by kernel_rfl) <| MX.lift0 (i := 0) rfl (Y.move rfl) rfl rfl rfl <| MX.lift0 (i := 1) rfl (Y.move rfl) rfl rfl rfl <| MX.lift0 (i := 2) rfl (Y.fieldAddr0 Pa.fo44_1 rfl) rfl rfl rfl <| MX.lift1 (i := 3) (pend' := []) rfl (fun w hw => by exact blkL hw (i := 1) rfl) (Y.load Pa.one9 rfl (fun w hw => (hw.at_ 1 (str k6.text) rfl).2)) rfl rfl rfl (by kernel_rfl) <| MX.lift0 (i := 4) rfl (Y.move rfl) rfl rfl rfl <| MX.lift0 (i := 5) rfl (Y.move rfl) rfl rfl rfl <| MX.force (i := 6) rfl <| LX.buildSlice (e := 3) (size := 1) rfl rfl (fun _ => by kernel_rfl) rfl dc rfl rfl rfl ?_
          intro gt54
          refine LX.wq (Ri (some gt54) 1 ([r49]) :: Ri ga42 ca42 (l14_0 ++ [r38]) :: Tb bt9 k6 :: PWl bp al L cl (RS.fl (RS.fl s49 false s49.lp s49.tp) false s44.lp s49.tp) m49 (Tb bt16 t15 :: Rs ga29 ca29 (l14_1 ++ [t15.text]) :: fr)) rfl <| LX.nextM [3] (by kernel_rfl) (fun _ => (fun w hw => by exact blkL hw (i := 2) rfl)) <| MX.force (i := 7) rfl <| LX.appendT 0 (g := ga42) (k := ((l14_0 ++ [r38])).length) Pe.el29 rfl rfl rfl rfl rfl rfl rfl lo lo rfl rfl rfl ?_
          intro ga55 ca55
          refine LX.wa (Ri ga55 ca55 ((l14_0 ++ [r38]) ++ [r49]) :: Tb bt9 k6 :: PWl bp al L cl (RS.fl (RS.fl s49 false s49.lp s49.tp) false s44.lp s49.tp) m49 (Tb bt16 t15 :: Rs ga29 ca29 (l14_1 ++ [t15.text]) :: fr)) <| LX.sub (l' := [(0, _), (1, _), (5, _), (7, _), (13, _), (140, _), (141, _), (142, _), (143, _), (144, _), (145, _), (146, _), (147, rv ga55 (((l14_0 ++ [r38]) ++ [r49])).length ca55)]) ⟨rfl, rfl, rfl, rfl, rfl, rfl, rfl, rfl, rfl, rfl, rfl, rfl, (by (show some (rv _ _ _) = some (rv _ _ _); simp only [List.length_cons, List.length_append, List.length_nil] <;> rfl)), trivial⟩ <| LX.nextM [3] (by kernel_rfl) (fun _ => (fun w hw => by exact blkL hw (i := 1) rfl)) <| MX.force (i := 8) rfl ?_
          refine LX.wp (Ri ga55 ca55 ((l14_0 ++ [r38]) ++ [r49]) :: PWl bp al L cl (RS.fl (RS.fl s49 false s49.lp s49.tp) false s44.lp s49.tp) m49 (Tb bt9 k6 :: Tb bt16 t15 :: Rs ga29 ca29 (l14_1 ++ [t15.text]) :: fr)) ?_
          refine LX.call (put_c (fr := (Tb bt9 k6 :: Tb bt16 t15 :: Rs ga29 ca29 (l14_1 ++ [t15.text]) :: fr)) (g := ga55) (c := ca55) (ks := ((l14_0 ++ [r38]) ++ [r49])) (op := 45) (pos := pos) (x := k6.text) (RS.fl (RS.fl s49 false s49.lp s49.tp) false s44.lp s49.tp) m49 hn49 (fun h0 => by have h1 : ((s49.ns).length : Int) + 2 * s.at_ ≤ s.ns.length + 2 * ((s49.at_ : Nat) : Int) + (-5) := hR53.few h0; have h2 := hs.few (hR53.bad h0); have h3 := hK.len; have h4 : s49.at_ < L.length := hR53.lt; show (s49.ns).length ≤ 1000000; omega) (by (simp only [List.length_cons, List.length_nil, List.length_append]; omega)) ((AllI.app (AllI.app hla14_0 (AllI.cons as_ AllI.nil)) (AllI.cons as_ AllI.nil))) (by (unfold inI; omega)) as_) Pd.en16 rfl rfl rfl rfl rfl ?_
          rintro ⟨r56, s56, m56⟩
          refine LX.have fun ⟨hri56, hp56, hn56⟩ => ?_
          try dsimp only at hri56 hp56 hn56 ⊢
          have hR57 : Rn L.length s s56 ([r56]) 5 (-4) := hR53.put (us := ([] : List Int)) (ks := ((l14_0 ++ [r38]) ++ [r49])) hp56 pm
          have hch58 : s49.at_ ≤ s56.at_ := Nat.le_of_eq hp56.eqs.1.symm
          have hle58 : s.at_ < s56.at_ := by omega
          have hlt58 : s56.at_ < L.length := hR57.lt
          have hde58 : s49.deep ≤ s56.deep := Int.le_of_eq hp56.eqs.2.1.symm
          have hdd58 : s56.deep ≤ 60 := hR57.d1
          refine LX.nextM [] (by kernel_rfl) (fun h => absurd rfl h) <| MX.lift0 (i := 9) rfl (Y.assign rfl) rfl rfl rfl <| MX.sub (l' := [(4, _)]) ⟨rfl, trivial⟩ <| MX.done <| PX.thenN <| CX.ret <| PX.ret1 (by simp) Try.results40 rfl ?_
          exact fun w hw => ⟨(r56, s56, m56), rfl, ⟨as_, hR57.wk dc dc, hn56⟩, hw.ct⟩
        try simp at hb10
        refine CX.skip <| PX.thenN <| CX.region ?_
        have hgo59 : s38.at_ + 1 < L.length := by exact hK.fin _ t43 ht43 (by (intro h8; simp_all [isS]; done))
        have hln59 := hK.len
        refine LX.ms 3 rfl <| LX.p (Y.fieldAddr0 Pa.fo42_1 rfl) rfl <| LX.p (Y.ldB 0 Pa.one3 rfl rfl rfl) rfl <| LX.p (Y.addN rfl rfl (by (simp only []; omega))) rfl <| LX.mv rfl <| LX.p (Y.fieldAddr0 Pa.fo42_1 rfl) rfl <| LX.storeB 0 Pb.sz3 rfl rfl rfl rfl rfl rfl rfl rfl <| LX.wq (PWl bp al L cl (RS.go s38 1) m38 (Ri ga42 ca42 (l14_0 ++ [r38]) :: Tb bt16 t15 :: Rs ga29 ca29 (l14_1 ++ [t15.text]) :: Tb bt9 k6 :: fr)) rfl ?_
        have hR60 : Rn L.length s (RS.go s38 1) (l14_0 ++ [r38]) 4 (-5) := hR39.go hgo59
        have hle61 : s.at_ < (s38.at_ + 1) := by have h9 : s.at_ ≤ s38.at_ := hR39.le; omega
        have hlt61 : (s38.at_ + 1) < L.length := hgo59
        refine LX.su [0, 1, 5, 7, 8, 9] rfl <| LX.next <| PX.blockN ?_
        exact PX.again (i := ((l14_0, g14_0, c14_0), (l14_1, g14_1, c14_1), v14_2, s14, m14)) (((l14_0 ++ [r38]), ga42, ca42), ((l14_1 ++ [t15.text]), ga29, ca29), true, (RS.go s38 1), m38) (by show L.length - (s38.at_ + 1) < L.length - s14.at_; omega) ⟨rfl, rfl, rfl, (by rfl), (by rfl), rfl, trivial⟩ (fun w hw => ⟨⟨(AllI.app hla14_0 (AllI.cons as_ AllI.nil)), (by show List.length _ + 2 * s.at_ ≤ 2 * (s38.at_ + 1) + 0; (try simp only [List.length_cons, List.length_nil, List.length_append]); omega), (by show List.length _ + 2 * s.at_ ≤ 2 * (s38.at_ + 1) + 0; (try simp only [List.length_cons, List.length_nil, List.length_append]); omega), (by show s11.at_ ≤ (s38.at_ + 1); omega), (by show s11.deep ≤ s38.deep; omega), (hR60.wk dc dc).re pm, hn38⟩, hw.ct⟩)
      try simp at hb8
      refine CX.sr ?_
      have hgo62 : s14.at_ + 1 < L.length := by exact hK.fin _ t15 ht15 (by omega)
      have hln62 := hK.len
      refine LX.ms 3 rfl <| LX.p (Y.fieldAddr0 Pa.fo42_1 rfl) rfl <| LX.p (Y.ldB 0 Pa.one3 rfl rfl rfl) rfl <| LX.p (Y.addN rfl rfl (by (simp only []; omega))) rfl <| LX.mv rfl <| LX.p (Y.fieldAddr0 Pa.fo42_1 rfl) rfl <| LX.storeB 0 Pb.sz3 rfl rfl rfl rfl rfl rfl rfl rfl <| LX.wq (PWl bp al L cl (RS.go s14 1) m14 (Rs ga29 ca29 (l14_1 ++ [t15.text]) :: Tb bt16 t15 :: Ri g14_0 c14_0 l14_0 :: Tb bt9 k6 :: fr)) rfl ?_
      have hR63 : Rn L.length s (RS.go s14 1) (l14_0) 1 (-2) := hR14.go hgo62
      have hle64 : s.at_ < (s14.at_ + 1) := by have h9 : s.at_ ≤ s14.at_ := hR14.le; omega
      have hlt64 : (s14.at_ + 1) < L.length := hgo62
      refine LX.su [0, 1, 5, 7, 8, 9, 10] rfl <| LX.nt <| CX.region <| LX.ms 2 rfl <| LX.p (Y.fieldAddr0 Pf.fo44_2 rfl) rfl ?_
      refine LX.wp (Tb bt16 t15 :: PWl bp al L cl (RS.go s14 1) m14 (Rs ga29 ca29 (l14_1 ++ [t15.text]) :: Ri g14_0 c14_0 l14_0 :: Tb bt9 k6 :: fr)) ?_
      refine LX.p (Y.ldB 0 Pa.one3 rfl rfl rfl) rfl <| LX.p (Y.fieldAddr0 Pa.fo44_1 rfl) rfl <| LX.p (Y.ldB 0 Pa.one9 rfl rfl rfl) rfl ?_
      refine LX.wp (PWl bp al L cl (RS.go s14 1) m14 (Tb bt16 t15 :: Rs ga29 ca29 (l14_1 ++ [t15.text]) :: Ri g14_0 c14_0 l14_0 :: Tb bt9 k6 :: fr)) ?_
      refine LX.world (W' := WA w0 base (Ri none 0 ([] : List Int) :: PWl bp al L cl (RS.go s14 1) m14 (Tb bt16 t15 :: Rs ga29 ca29 (l14_1 ++ [t15.text]) :: Ri g14_0 c14_0 l14_0 :: Tb bt9 k6 :: fr))) (fun w hw => (show WA w0 base (Ri none 0 ([] : List Int) :: PWl bp al L cl (RS.go s14 1) m14 (Tb bt16 t15 :: Rs ga29 ca29 (l14_1 ++ [t15.text]) :: Ri g14_0 c14_0 l14_0 :: Tb bt9 k6 :: fr)) w from (show WA w0 base (PWl bp al L cl (RS.go s14 1) m14 (Tb bt16 t15 :: Rs ga29 ca29 (l14_1 ++ [t15.text]) :: Ri g14_0 c14_0 l14_0 :: Tb bt9 k6 :: fr)) w from hw).nilRow 3 1)) <| LX.call (put_c (fr := (Tb bt16 t15 :: Rs ga29 ca29 (l14_1 ++ [t15.text]) :: Ri g14_0 c14_0 l14_0 :: Tb bt9 k6 :: fr)) (g := none) (c := 0) (ks := ([] : List Int)) (op := 46) (pos := t15.pos) (x := t15.text) (RS.go s14 1) m14 hn14 (fun h0 => by have h1 : ((s14.ns).length : Int) + 2 * s.at_ ≤ s.ns.length + 2 * (((s14.at_ + 1) : Nat) : Int) + (-2) := hR63.few h0; have h2 := hs.few (hR63.bad h0); have h3 := hK.len; have h4 : (s14.at_ + 1) < L.length := hR63.lt; show (s14.ns).length ≤ 1000000; omega) (by (simp only [List.length_cons, List.length_nil, List.length_append]; omega)) (AllI.nil) (by (unfold inI; omega)) as_) Pd.en16 rfl rfl rfl rfl rfl ?_
      rintro ⟨r65, s65, m65⟩
      refine LX.have fun ⟨hri65, hp65, hn65⟩ => ?_
      try dsimp only at hri65 hp65 hn65 ⊢
      have hR66 : Rn L.length s s65 (l14_0 ++ [r65]) 1 (-1) := hR63.put (us := (l14_0)) (ks := ([] : List Int)) hp65 pm
      have hch67 : (s14.at_ + 1) ≤ s65.at_ := Nat.le_of_eq hp65.eqs.1.symm
      have hle67 : s.at_ < s65.at_ := by omega
      have hlt67 : s65.at_ < L.length := hR66.lt
      have hde67 : s14.deep ≤ s65.deep := Int.le_of_eq hp65.eqs.2.1.symm
      have hdd67 : s65.deep ≤ 60 := hR66.d1
      refine LX.buildSlice (e := 3) (size := 1) rfl rfl (fun _ => by kernel_rfl) rfl dc rfl rfl rfl ?_
      intro gt68
      refine LX.wq (Ri (some gt68) 1 ([r65]) :: PWl bp al L cl s65 m65 (Tb bt16 t15 :: Rs ga29 ca29 (l14_1 ++ [t15.text]) :: Ri g14_0 c14_0 l14_0 :: Tb bt9 k6 :: fr)) rfl ?_
      refine LX.wp (Ri (some gt68) 1 ([r65]) :: Ri g14_0 c14_0 l14_0 :: PWl bp al L cl s65 m65 (Tb bt16 t15 :: Rs ga29 ca29 (l14_1 ++ [t15.text]) :: Tb bt9 k6 :: fr)) ?_
      refine LX.appendT 0 (g := g14_0) (k := (l14_0).length) Pe.el29 rfl rfl rfl rfl rfl rfl rfl lo lo rfl rfl rfl ?_
      intro ga69 ca69
      refine LX.wa (Ri ga69 ca69 (l14_0 ++ [r65]) :: PWl bp al L cl s65 m65 (Tb bt16 t15 :: Rs ga29 ca29 (l14_1 ++ [t15.text]) :: Tb bt9 k6 :: fr)) <| LX.sub (l' := [(0, _), (1, _), (5, _), (7, _), (8, _), (9, _), (10, _), (95, _), (96, _), (97, _), (98, _), (99, _), (100, _), (101, _), (102, _), (103, rv ga69 ((l14_0 ++ [r65])).length ca69)]) ⟨rfl, rfl, rfl, rfl, rfl, rfl, rfl, rfl, rfl, rfl, rfl, rfl, rfl, rfl, rfl, (by (show some (rv _ _ _) = some (rv _ _ _); simp only [List.length_cons, List.length_append, List.length_nil] <;> rfl)), trivial⟩ <| LX.mv rfl ?_
      refine LX.wp (PWl bp al L cl s65 m65 (Ri ga69 ca69 (l14_0 ++ [r65]) :: Tb bt16 t15 :: Rs ga29 ca29 (l14_1 ++ [t15.text]) :: Tb bt9 k6 :: fr)) ?_
      refine LX.su [0, 1, 5, 7, 8, 9] rfl <| LX.nt <| CX.seq <| CX.sr ?_
      obtain ⟨t70, ht70⟩ : ∃ t, L[s65.at_]? = some t := ⟨_, List.getElem?_eq_getElem (show s65.at_ < L.length from hR66.lt)⟩
      have htk70 := (tok_in hL ht70).1
      have htp70 := (tok_in hL ht70).2
      refine LX.mv rfl <| LX.callQ (show FnQ Try.prog 12 #[.pointer (some ⟨bp, 0, none⟩)] _ (.bool (decide (s65.code ≠ 0))) from bad_q (s := s65) (m := m65) (fun w hw => blkL hw (i := 0) rfl)) Pb.en12 rfl rfl rfl rfl rfl <| LX.mv rfl <| LX.su [0, 1, 5, 7, 8, 9, 106] rfl ?_
      apply LX.joinOr 4 110 106 rfl
      · intro hb11
        refine LX.gF rfl rfl rfl hb11 rfl rfl <| LX.gF rfl rfl rfl hb11 rfl rfl <| LX.gF rfl rfl rfl hb11 rfl rfl <| LX.p (Y.pickT rfl hb11 rfl) rfl ?_
        exact LX.left ⟨rfl, rfl, rfl, rfl, rfl, rfl, rfl, rfl, trivial⟩
      · intro hb11
        refine LX.gT rfl rfl rfl hb11 (Y.move rfl) rfl rfl <| LX.callQT rfl rfl rfl hb11 (is_q (s := s65) (m := m65) ht70 ([44] : List UInt8) (fun w hw => blkL hw (i := 0) rfl) (fun w hw => hL.push hw)) Pb.en32 rfl rfl rfl rfl <| LX.gT rfl rfl rfl hb11 (Y.not rfl) rfl rfl <| LX.p (Y.pickF rfl hb11 rfl) rfl ?_
        exact LX.left ⟨rfl, rfl, rfl, rfl, rfl, rfl, rfl, rfl, trivial⟩
      refine LX.su [0, 1, 5, 7, 8, 9, 110] rfl <| LX.nt ?_
      refine CX.cond rfl (fun hb12 => ?_) (fun hb12 => ?_)
      · try simp at hb12
        refine CX.exit <| PX.thenE <| PX.blockO rfl <| PX.thenE <| PX.blockE <| PX.thenN <| CX.sr <| LX.mv rfl <| LX.call (want_c (fr := (Ri ga69 ca69 (l14_0 ++ [r65]) :: Tb bt16 t15 :: Rs ga29 ca29 (l14_1 ++ [t15.text]) :: Tb bt9 k6 :: fr)) s65 m65 hL hK ht70 ([41] : List UInt8)) Pd.en35 rfl rfl rfl rfl rfl ?_
        rintro ⟨b71, s71⟩
        refine LX.have fun hw71 => ?_
        try dsimp only at hw71 ⊢
        have hn71 : NdsR 3 m65.rs m65.cells s71.ns := by rw [hw71.ns]; exact hn65
        have hR72 : Rn L.length s s71 (l14_0 ++ [r65]) 2 (-3) := hR66.want hw71
        have hch73 : s65.at_ ≤ s71.at_ := hw71.le
        have hle73 : s.at_ < s71.at_ := by omega
        have hlt73 : s71.at_ < L.length := hR72.lt
        have hde73 : s65.deep ≤ s71.deep := Int.le_of_eq hw71.deep.symm
        have hdd73 : s71.deep ≤ 60 := hR72.d1
        refine LX.su [0, 1, 5, 7] rfl <| LX.nt <| CX.sr <| LX.ms 2 rfl <| LX.p (Y.fieldAddr0 Pi.fo42_5 rfl) rfl <| LX.p (Y.ldB 0 Pi.one4 rfl rfl rfl) rfl <| LX.mv rfl <| LX.su [0, 1, 5, 7, 12] rfl <| LX.nt <| CX.sr <| LX.ms 2 rfl <| LX.p (Y.fieldAddr0 Pi.fo42_5 rfl) rfl <| LX.storeB 0 Pj.sz4 rfl rfl rfl rfl rfl rfl rfl rfl <| LX.wq (PWl bp al L cl (RS.fl s71 s71.df false s71.tp) m65 (Ri ga69 ca69 (l14_0 ++ [r65]) :: Tb bt16 t15 :: Rs ga29 ca29 (l14_1 ++ [t15.text]) :: Tb bt9 k6 :: fr)) rfl ?_
        have hR74 : Rn L.length s (RS.fl s71 s71.df false s71.tp) (l14_0 ++ [r65]) 2 (-3) := hR72.fl _ _ _
        refine LX.su [0, 1, 5, 7, 12] rfl <| LX.nt <| CX.sr <| LX.ms 2 rfl <| LX.p (Y.fieldAddr0 Pi.fo42_4 rfl) rfl <| LX.storeB 0 Pj.sz4 rfl rfl rfl rfl rfl rfl rfl rfl <| LX.wq (PWl bp al L cl (RS.fl (RS.fl s71 s71.df false s71.tp) true false s71.tp) m65 (Ri ga69 ca69 (l14_0 ++ [r65]) :: Tb bt16 t15 :: Rs ga29 ca29 (l14_1 ++ [t15.text]) :: Tb bt9 k6 :: fr)) rfl ?_
        have hR75 : Rn L.length s (RS.fl (RS.fl s71 s71.df false s71.tp) true false s71.tp) (l14_0 ++ [r65]) 2 (-3) := hR74.fl _ _ _
        refine LX.su [0, 1, 5, 7, 12] rfl <| LX.nt <| CX.sr <| LX.mv rfl ?_
        have hk76 : Sk L.length (RS.fl (RS.fl s71 s71.df false s71.tp) true false s71.tp) := hs.next hR75 dc
        refine LX.call (ih_block (RS.fl (RS.fl s71 s71.df false s71.tp) true false s71.tp) m65 (Ri ga69 ca69 (l14_0 ++ [r65]) :: Tb bt16 t15 :: Rs ga29 ca29 (l14_1 ++ [t15.text]) :: Tb bt9 k6 :: fr) hk76 hn71 (by show L.length - s71.at_ < N; omega)) Pj.en39 rfl rfl rfl rfl rfl ?_
        rintro ⟨r76, s76, m76⟩
        refine LX.have fun ⟨hri76, hr76, hn76⟩ => ?_
        try dsimp only at hri76 hr76 hn76 ⊢
        have hR77 : Rn L.length s s76 (l14_0 ++ [r65] ++ [r76]) 3 (-3) := hR75.trans hr76
        have hch78 : s71.at_ ≤ s76.at_ := hr76.le
        have hle78 : s.at_ < s76.at_ := by omega
        have hlt78 : s76.at_ < L.length := hR77.lt
        have hde78 : s71.deep ≤ s76.deep := hr76.d0
        have hdd78 : s76.deep ≤ 60 := hR77.d1
        have hav76 : s76.code = 0 → s71.at_ + 1 ≤ s76.at_ := hr76.adv
        refine LX.mv rfl <| LX.su [0, 1, 5, 7, 12, 13] rfl <| LX.nt <| CX.sr <| LX.ms 2 rfl <| LX.p (Y.fieldAddr0 Pi.fo42_4 rfl) rfl <| LX.storeB 0 Pj.sz4 rfl rfl rfl rfl rfl rfl rfl rfl <| LX.wq (PWl bp al L cl (RS.fl s76 false s76.lp s76.tp) m76 (Ri ga69 ca69 (l14_0 ++ [r65]) :: Tb bt16 t15 :: Rs ga29 ca29 (l14_1 ++ [t15.text]) :: Tb bt9 k6 :: fr)) rfl ?_
        have hR79 : Rn L.length s (RS.fl s76 false s76.lp s76.tp) (l14_0 ++ [r65] ++ [r76]) 3 (-3) := hR77.fl _ _ _
        refine LX.su [0, 1, 5, 7, 12, 13] rfl <| LX.nt <| CX.sr <| LX.ms 3 rfl <| LX.p (Y.fieldAddr0 Pi.fo42_5 rfl) rfl <| LX.storeB 0 Pj.sz4 rfl rfl rfl rfl rfl rfl rfl rfl <| LX.wq (PWl bp al L cl (RS.fl (RS.fl s76 false s76.lp s76.tp) false s71.lp s76.tp) m76 (Ri ga69 ca69 (l14_0 ++ [r65]) :: Tb bt16 t15 :: Rs ga29 ca29 (l14_1 ++ [t15.text]) :: Tb bt9 k6 :: fr)) rfl ?_
        have hR80 : Rn L.length s (RS.fl (RS.fl s76 false s76.lp s76.tp) false s71.lp s76.tp) (l14_0 ++ [r65] ++ [r76]) 3 (-3) := hR79.fl _ _ _
        refine LX.su [0, 1, 5, 7, 13] rfl <| LX.nt <| CX.seq ?_
        refine CX.world (W' := WA w0 base (Ri ga69 ca69 (l14_0 ++ [r65]) :: Tb bt9 k6 :: PWl bp al L cl (RS.fl (RS.fl s76 false s76.lp s76.tp) false s71.lp s76.tp) m76 (Tb bt16 t15 :: Rs ga29 ca29 (l14_1 ++ [t15.text]) :: fr))) (fun w hw => hw.perm pm) ?_
        refine CX.regionS ((fun w => Lies w w.heap.size ⟨bt9, 0, none⟩ [.int .i64 k6.kind, str k6.text, .int .i64 k6.pos])) [(0, .anywhere), (1, .anywhere), (2, .anywhere), (3, .held), (4, .anywhere), (5, .anywhere), (6, .alone), (7, .alone), (8, .alone), (9, .anywhere)] rfl (by kernel_rfl) <| MX.lift0 (i := 0) rfl (Y.move rfl) rfl rfl rfl <| MX.lift0 (i := 1) rfl (Y.move rfl) rfl rfl rfl <| MX.lift0 (i := 2) rfl (Y.fieldAddr0 Pa.fo44_1 rfl) rfl rfl rfl <| MX.lift1 (i := 3) (pend' := []) rfl (fun w hw => by exact blkL hw (i := 1) rfl) (Y.load Pa.one9 rfl (fun w hw => (hw.at_ 1 (str k6.text) rfl).2)) rfl rfl rfl (by kernel_rfl) <| MX.lift0 (i := 4) rfl (Y.move rfl) rfl rfl rfl <| MX.lift0 (i := 5) rfl (Y.move rfl) rfl rfl rfl <| MX.force (i := 6) rfl <| LX.buildSlice (e := 3) (size := 1) rfl rfl (fun _ => by kernel_rfl) rfl dc rfl rfl rfl ?_
        intro gt81
        refine LX.wq (Ri (some gt81) 1 ([r76]) :: Ri ga69 ca69 (l14_0 ++ [r65]) :: Tb bt9 k6 :: PWl bp al L cl (RS.fl (RS.fl s76 false s76.lp s76.tp) false s71.lp s76.tp) m76 (Tb bt16 t15 :: Rs ga29 ca29 (l14_1 ++ [t15.text]) :: fr)) rfl <| LX.nextM [3] (by kernel_rfl) (fun _ => (fun w hw => by exact blkL hw (i := 2) rfl)) <| MX.force (i := 7) rfl <| LX.appendT 0 (g := ga69) (k := ((l14_0 ++ [r65])).length) Pe.el29 rfl rfl rfl rfl rfl rfl rfl lo lo rfl rfl rfl ?_
        intro ga82 ca82
        refine LX.wa (Ri ga82 ca82 ((l14_0 ++ [r65]) ++ [r76]) :: Tb bt9 k6 :: PWl bp al L cl (RS.fl (RS.fl s76 false s76.lp s76.tp) false s71.lp s76.tp) m76 (Tb bt16 t15 :: Rs ga29 ca29 (l14_1 ++ [t15.text]) :: fr)) <| LX.sub (l' := [(0, _), (1, _), (5, _), (7, _), (13, _), (140, _), (141, _), (142, _), (143, _), (144, _), (145, _), (146, _), (147, rv ga82 (((l14_0 ++ [r65]) ++ [r76])).length ca82)]) ⟨rfl, rfl, rfl, rfl, rfl, rfl, rfl, rfl, rfl, rfl, rfl, rfl, (by (show some (rv _ _ _) = some (rv _ _ _); simp only [List.length_cons, List.length_append, List.length_nil] <;> rfl)), trivial⟩ <| LX.nextM [3] (by kernel_rfl) (fun _ => (fun w hw => by exact blkL hw (i := 1) rfl)) <| MX.force (i := 8) rfl ?_
        refine LX.wp (Ri ga82 ca82 ((l14_0 ++ [r65]) ++ [r76]) :: PWl bp al L cl (RS.fl (RS.fl s76 false s76.lp s76.tp) false s71.lp s76.tp) m76 (Tb bt9 k6 :: Tb bt16 t15 :: Rs ga29 ca29 (l14_1 ++ [t15.text]) :: fr)) ?_
        refine LX.call (put_c (fr := (Tb bt9 k6 :: Tb bt16 t15 :: Rs ga29 ca29 (l14_1 ++ [t15.text]) :: fr)) (g := ga82) (c := ca82) (ks := ((l14_0 ++ [r65]) ++ [r76])) (op := 45) (pos := pos) (x := k6.text) (RS.fl (RS.fl s76 false s76.lp s76.tp) false s71.lp s76.tp) m76 hn76 (fun h0 => by have h1 : ((s76.ns).length : Int) + 2 * s.at_ ≤ s.ns.length + 2 * ((s76.at_ : Nat) : Int) + (-3) := hR80.few h0; have h2 := hs.few (hR80.bad h0); have h3 := hK.len; have h4 : s76.at_ < L.length := hR80.lt; show (s76.ns).length ≤ 1000000; omega) (by (simp only [List.length_cons, List.length_nil, List.length_append]; omega)) ((AllI.app (AllI.app hla14_0 (AllI.cons as_ AllI.nil)) (AllI.cons as_ AllI.nil))) (by (unfold inI; omega)) as_) Pd.en16 rfl rfl rfl rfl rfl ?_
        rintro ⟨r83, s83, m83⟩
        refine LX.have fun ⟨hri83, hp83, hn83⟩ => ?_
        try dsimp only at hri83 hp83 hn83 ⊢
        have hR84 : Rn L.length s s83 ([r83]) 3 (-2) := hR80.put (us := ([] : List Int)) (ks := ((l14_0 ++ [r65]) ++ [r76])) hp83 pm
        have hch85 : s76.at_ ≤ s83.at_ := Nat.le_of_eq hp83.eqs.1.symm
        have hle85 : s.at_ < s83.at_ := by omega
        have hlt85 : s83.at_ < L.length := hR84.lt
        have hde85 : s76.deep ≤ s83.deep := Int.le_of_eq hp83.eqs.2.1.symm
        have hdd85 : s83.deep ≤ 60 := hR84.d1
        refine LX.nextM [] (by kernel_rfl) (fun h => absurd rfl h) <| MX.lift0 (i := 9) rfl (Y.assign rfl) rfl rfl rfl <| MX.sub (l' := [(4, _)]) ⟨rfl, trivial⟩ <| MX.done <| PX.thenN <| CX.ret <| PX.ret1 (by simp) Try.results40 rfl ?_
        exact fun w hw => ⟨(r83, s83, m83), rfl, ⟨as_, hR84.wk dc dc, hn83⟩, hw.ct⟩
      try simp at hb12
      refine CX.skip <| PX.thenN <| CX.region ?_
      have hgo86 : s65.at_ + 1 < L.length := by exact hK.fin _ t70 ht70 (by (intro h8; simp_all [isS]; done))
      have hln86 := hK.len
      refine LX.ms 3 rfl <| LX.p (Y.fieldAddr0 Pa.fo42_1 rfl) rfl <| LX.p (Y.ldB 0 Pa.one3 rfl rfl rfl) rfl <| LX.p (Y.addN rfl rfl (by (simp only []; omega))) rfl <| LX.mv rfl <| LX.p (Y.fieldAddr0 Pa.fo42_1 rfl) rfl <| LX.storeB 0 Pb.sz3 rfl rfl rfl rfl rfl rfl rfl rfl <| LX.wq (PWl bp al L cl (RS.go s65 1) m65 (Ri ga69 ca69 (l14_0 ++ [r65]) :: Tb bt16 t15 :: Rs ga29 ca29 (l14_1 ++ [t15.text]) :: Tb bt9 k6 :: fr)) rfl ?_
      have hR87 : Rn L.length s (RS.go s65 1) (l14_0 ++ [r65]) 2 (-3) := hR66.go hgo86
      have hle88 : s.at_ < (s65.at_ + 1) := by have h9 : s.at_ ≤ s65.at_ := hR66.le; omega
      have hlt88 : (s65.at_ + 1) < L.length := hgo86
      refine LX.su [0, 1, 5, 7, 8, 9] rfl <| LX.next <| PX.blockN ?_
      exact PX.again (i := ((l14_0, g14_0, c14_0), (l14_1, g14_1, c14_1), v14_2, s14, m14)) (((l14_0 ++ [r65]), ga69, ca69), ((l14_1 ++ [t15.text]), ga29, ca29), v14_2, (RS.go s65 1), m65) (by show L.length - (s65.at_ + 1) < L.length - s14.at_; omega) ⟨rfl, rfl, rfl, (by rfl), (by rfl), rfl, trivial⟩ (fun w hw => ⟨⟨(AllI.app hla14_0 (AllI.cons as_ AllI.nil)), (by show List.length _ + 2 * s.at_ ≤ 2 * (s65.at_ + 1) + 0; (try simp only [List.length_cons, List.length_nil, List.length_append]); omega), (by show List.length _ + 2 * s.at_ ≤ 2 * (s65.at_ + 1) + 0; (try simp only [List.length_cons, List.length_nil, List.length_append]); omega), (by show s11.at_ ≤ (s65.at_ + 1); omega), (by show s11.deep ≤ s65.deep; omega), (hR87.wk dc dc).re pm, hn65⟩, hw.ct⟩)
    refine LX.gF rfl rfl rfl hb6 rfl rfl <| LX.gF rfl rfl rfl hb6 rfl rfl <| LX.gF rfl rfl rfl hb6 rfl rfl <| LX.p (Y.pickF rfl hb6 rfl) rfl <| LX.su [0, 1, 5, 7, 8, 9, 10, 56] rfl <| LX.nt ?_
    refine CX.cond rfl (fun hb13 => ?_) (fun hb13 => ?_)
    · try simp at hb13
      done
    try simp at hb13
    refine CX.skip <| PX.thenN <| CX.sr <| LX.mv rfl <| LX.p (Y.fieldAddr0 Pa.fo44_1 rfl) rfl ?_
    refine LX.wp (Tb bt16 t15 :: PWl bp al L cl s14 m14 (Rs g14_1 c14_1 l14_1 :: Ri g14_0 c14_0 l14_0 :: Tb bt9 k6 :: fr)) ?_
    refine LX.p (Y.ldB 0 Pa.one9 rfl rfl rfl) rfl <| LX.buildSlice (e := 9) (size := 1) rfl rfl (fun _ => by kernel_rfl) rfl dc rfl rfl rfl ?_
    intro gt89
    refine LX.wq (Rs (some gt89) 1 ([t15.text]) :: Tb bt16 t15 :: PWl bp al L cl s14 m14 (Rs g14_1 c14_1 l14_1 :: Ri g14_0 c14_0 l14_0 :: Tb bt9 k6 :: fr)) rfl ?_
    refine LX.wp (Rs (some gt89) 1 ([t15.text]) :: Rs g14_1 c14_1 l14_1 :: PWl bp al L cl s14 m14 (Tb bt16 t15 :: Ri g14_0 c14_0 l14_0 :: Tb bt9 k6 :: fr)) ?_
    refine LX.appendT 0 (g := g14_1) (k := (l14_1).length) Pf.el64 rfl rfl rfl rfl rfl rfl rfl lo lo rfl rfl rfl ?_
    intro ga90 ca90
    refine LX.wa (Rs ga90 ca90 (l14_1 ++ [t15.text]) :: PWl bp al L cl s14 m14 (Tb bt16 t15 :: Ri g14_0 c14_0 l14_0 :: Tb bt9 k6 :: fr)) <| LX.sub (l' := [(0, _), (1, _), (5, _), (7, _), (8, _), (9, _), (10, _), (56, _), (59, _), (60, _), (61, _), (62, _), (63, rv ga90 ((l14_1 ++ [t15.text])).length ca90)]) ⟨rfl, rfl, rfl, rfl, rfl, rfl, rfl, rfl, rfl, rfl, rfl, rfl, (by (show some (rv _ _ _) = some (rv _ _ _); simp only [List.length_cons, List.length_append, List.length_nil] <;> rfl)), trivial⟩ <| LX.mv rfl ?_
    refine LX.wp (PWl bp al L cl s14 m14 (Rs ga90 ca90 (l14_1 ++ [t15.text]) :: Tb bt16 t15 :: Ri g14_0 c14_0 l14_0 :: Tb bt9 k6 :: fr)) ?_
    refine LX.su [0, 1, 5, 7, 8, 9, 10] rfl <| LX.nt <| CX.seq <| CX.sr <| LX.mv rfl <| LX.call (named_w (s := s14) (m := m14) ht15 hK (fun w hw => blkL hw (i := 0) rfl) (fun w hw => hL.push hw)) Pf.en52 rfl rfl rfl rfl rfl ?_
    intro b91
    refine LX.have fun hy91 => ?_
    replace hy91 : b91 = true → t15.kind = 1 ∧ s14.at_ + 2 < L.length := hy91
    refine LX.su [0, 1, 5, 7, 8, 9, 10, 65] rfl <| LX.nt ?_
    refine CX.cond rfl (fun hb14 => ?_) (fun hb14 => ?_)
    · try simp at hb14
      refine CX.sr <| LX.mv rfl <| LX.su [0, 1, 5, 7, 8, 9, 10] rfl <| LX.nt <| CX.sr ?_
      have hgo92 : s14.at_ + 2 < L.length := by (have h9 := hy91 as_; omega)
      have hln92 := hK.len
      refine LX.ms 3 rfl <| LX.p (Y.fieldAddr0 Pa.fo42_1 rfl) rfl <| LX.p (Y.ldB 0 Pa.one3 rfl rfl rfl) rfl <| LX.p (Y.addN rfl rfl (by (simp only []; omega))) rfl <| LX.mv rfl <| LX.p (Y.fieldAddr0 Pa.fo42_1 rfl) rfl <| LX.storeB 0 Pb.sz3 rfl rfl rfl rfl rfl rfl rfl rfl <| LX.wq (PWl bp al L cl (RS.go s14 2) m14 (Rs ga90 ca90 (l14_1 ++ [t15.text]) :: Tb bt16 t15 :: Ri g14_0 c14_0 l14_0 :: Tb bt9 k6 :: fr)) rfl ?_
      have hR93 : Rn L.length s (RS.go s14 2) (l14_0) 2 (-4) := hR14.go hgo92
      have hle94 : s.at_ < (s14.at_ + 2) := by have h9 : s.at_ ≤ s14.at_ := hR14.le; omega
      have hlt94 : (s14.at_ + 2) < L.length := hgo92
      refine LX.su [0, 1, 5, 7, 8, 9, 10] rfl <| LX.nt <| CX.sr <| LX.mv rfl ?_
      have hk95 : Sk L.length (RS.go s14 2) := hs.next hR93 dc
      refine LX.call ((ex_all hL hK L.length).test_ (RS.go s14 2) m14 (Rs ga90 ca90 (l14_1 ++ [t15.text]) :: Tb bt16 t15 :: Ri g14_0 c14_0 l14_0 :: Tb bt9 k6 :: fr) hk95 hn14 (by show L.length - (s14.at_ + 2) ≤ L.length; omega)) Pd.en47 rfl rfl rfl rfl rfl ?_
      rintro ⟨r95, s95, m95⟩
      refine LX.have fun ⟨hri95, hr95, hn95⟩ => ?_
      try dsimp only at hri95 hr95 hn95 ⊢
      have hR96 : Rn L.length s s95 (l14_0 ++ [r95]) 3 (-4) := hR93.trans hr95
      have hch97 : (s14.at_ + 2) ≤ s95.at_ := hr95.le
      have hle97 : s.at_ < s95.at_ := by omega
      have hlt97 : s95.at_ < L.length := hR96.lt
      have hde97 : s14.deep ≤ s95.deep := hr95.d0
      have hdd97 : s95.deep ≤ 60 := hR96.d1
      have hav95 : s95.code = 0 → (s14.at_ + 2) + 1 ≤ s95.at_ := hr95.adv
      refine LX.mv rfl <| LX.su [0, 1, 5, 7, 8, 9, 10, 11] rfl <| LX.nt <| CX.region <| LX.ms 2 rfl <| LX.p (Y.fieldAddr0 Pf.fo44_2 rfl) rfl ?_
      refine LX.wp (Tb bt16 t15 :: PWl bp al L cl s95 m95 (Rs ga90 ca90 (l14_1 ++ [t15.text]) :: Ri g14_0 c14_0 l14_0 :: Tb bt9 k6 :: fr)) ?_
      refine LX.p (Y.ldB 0 Pa.one3 rfl rfl rfl) rfl <| LX.p (Y.fieldAddr0 Pa.fo44_1 rfl) rfl <| LX.p (Y.ldB 0 Pa.one9 rfl rfl rfl) rfl <| LX.mv rfl <| LX.buildSlice (e := 3) (size := 1) rfl rfl (fun _ => by kernel_rfl) rfl dc rfl rfl rfl ?_
      intro gt98
      refine LX.wq (Ri (some gt98) 1 ([r95]) :: Tb bt16 t15 :: PWl bp al L cl s95 m95 (Rs ga90 ca90 (l14_1 ++ [t15.text]) :: Ri g14_0 c14_0 l14_0 :: Tb bt9 k6 :: fr)) rfl ?_
      refine LX.wp (Ri (some gt98) 1 ([r95]) :: PWl bp al L cl s95 m95 (Tb bt16 t15 :: Rs ga90 ca90 (l14_1 ++ [t15.text]) :: Ri g14_0 c14_0 l14_0 :: Tb bt9 k6 :: fr)) ?_
      refine LX.call (put_c (fr := (Tb bt16 t15 :: Rs ga90 ca90 (l14_1 ++ [t15.text]) :: Ri g14_0 c14_0 l14_0 :: Tb bt9 k6 :: fr)) (g := (some gt98)) (c := 1) (ks := [r95]) (op := 46) (pos := t15.pos) (x := t15.text) s95 m95 hn95 (fun h0 => by have h1 : ((s95.ns).length : Int) + 2 * s.at_ ≤ s.ns.length + 2 * ((s95.at_ : Nat) : Int) + (-4) := hR96.few h0; have h2 := hs.few (hR96.bad h0); have h3 := hK.len; have h4 : s95.at_ < L.length := hR96.lt; show (s95.ns).length ≤ 1000000; omega) (by (simp only [List.length_cons, List.length_nil, List.length_append]; omega)) ((AllI.cons as_ AllI.nil)) (by (unfold inI; omega)) as_) Pd.en16 rfl rfl rfl rfl rfl ?_
      rintro ⟨r99, s99, m99⟩
      refine LX.have fun ⟨hri99, hp99, hn99⟩ => ?_
      try dsimp only at hri99 hp99 hn99 ⊢
      have hR100 : Rn L.length s s99 (l14_0 ++ [r99]) 3 (-3) := hR96.put (us := (l14_0)) (ks := [r95]) hp99 pm
      have hch101 : s95.at_ ≤ s99.at_ := Nat.le_of_eq hp99.eqs.1.symm
      have hle101 : s.at_ < s99.at_ := by omega
      have hlt101 : s99.at_ < L.length := hR100.lt
      have hde101 : s95.deep ≤ s99.deep := Int.le_of_eq hp99.eqs.2.1.symm
      have hdd101 : s99.deep ≤ 60 := hR100.d1
      refine LX.buildSlice (e := 3) (size := 1) rfl rfl (fun _ => by kernel_rfl) rfl dc rfl rfl rfl ?_
      intro gt102
      refine LX.wq (Ri (some gt102) 1 ([r99]) :: PWl bp al L cl s99 m99 (Tb bt16 t15 :: Rs ga90 ca90 (l14_1 ++ [t15.text]) :: Ri g14_0 c14_0 l14_0 :: Tb bt9 k6 :: fr)) rfl ?_
      refine LX.wp (Ri (some gt102) 1 ([r99]) :: Ri g14_0 c14_0 l14_0 :: PWl bp al L cl s99 m99 (Tb bt16 t15 :: Rs ga90 ca90 (l14_1 ++ [t15.text]) :: Tb bt9 k6 :: fr)) ?_
      refine LX.appendT 0 (g := g14_0) (k := (l14_0).length) Pe.el29 rfl rfl rfl rfl rfl rfl rfl lo lo rfl rfl rfl ?_
      intro ga103 ca103
      refine LX.wa (Ri ga103 ca103 (l14_0 ++ [r99]) :: PWl bp al L cl s99 m99 (Tb bt16 t15 :: Rs ga90 ca90 (l14_1 ++ [t15.text]) :: Tb bt9 k6 :: fr)) <| LX.sub (l' := [(0, _), (1, _), (5, _), (7, _), (8, _), (9, _), (10, _), (11, _), (76, _), (77, _), (78, _), (79, _), (80, _), (81, _), (82, _), (83, _), (84, _), (85, _), (86, rv ga103 ((l14_0 ++ [r99])).length ca103)]) ⟨rfl, rfl, rfl, rfl, rfl, rfl, rfl, rfl, rfl, rfl, rfl, rfl, rfl, rfl, rfl, rfl, rfl, rfl, (by (show some (rv _ _ _) = some (rv _ _ _); simp only [List.length_cons, List.length_append, List.length_nil] <;> rfl)), trivial⟩ <| LX.mv rfl ?_
      refine LX.wp (PWl bp al L cl s99 m99 (Ri ga103 ca103 (l14_0 ++ [r99]) :: Tb bt16 t15 :: Rs ga90 ca90 (l14_1 ++ [t15.text]) :: Tb bt9 k6 :: fr)) ?_
      refine LX.su [0, 1, 5, 7, 8, 9] rfl <| LX.nt <| CX.seq <| CX.sr ?_
      obtain ⟨t104, ht104⟩ : ∃ t, L[s99.at_]? = some t := ⟨_, List.getElem?_eq_getElem (show s99.at_ < L.length from hR100.lt)⟩
      have htk104 := (tok_in hL ht104).1
      have htp104 := (tok_in hL ht104).2
      refine LX.mv rfl <| LX.callQ (show FnQ Try.prog 12 #[.pointer (some ⟨bp, 0, none⟩)] _ (.bool (decide (s99.code ≠ 0))) from bad_q (s := s99) (m := m99) (fun w hw => blkL hw (i := 0) rfl)) Pb.en12 rfl rfl rfl rfl rfl <| LX.mv rfl <| LX.su [0, 1, 5, 7, 8, 9, 106] rfl ?_
      apply LX.joinOr 4 110 106 rfl
      · intro hb15
        refine LX.gF rfl rfl rfl hb15 rfl rfl <| LX.gF rfl rfl rfl hb15 rfl rfl <| LX.gF rfl rfl rfl hb15 rfl rfl <| LX.p (Y.pickT rfl hb15 rfl) rfl ?_
        exact LX.left ⟨rfl, rfl, rfl, rfl, rfl, rfl, rfl, rfl, trivial⟩
      · intro hb15
        refine LX.gT rfl rfl rfl hb15 (Y.move rfl) rfl rfl <| LX.callQT rfl rfl rfl hb15 (is_q (s := s99) (m := m99) ht104 ([44] : List UInt8) (fun w hw => blkL hw (i := 0) rfl) (fun w hw => hL.push hw)) Pb.en32 rfl rfl rfl rfl <| LX.gT rfl rfl rfl hb15 (Y.not rfl) rfl rfl <| LX.p (Y.pickF rfl hb15 rfl) rfl ?_
        exact LX.left ⟨rfl, rfl, rfl, rfl, rfl, rfl, rfl, rfl, trivial⟩
      refine LX.su [0, 1, 5, 7, 8, 9, 110] rfl <| LX.nt ?_
      refine CX.cond rfl (fun hb16 => ?_) (fun hb16 => ?_)
      · try simp at hb16
        refine CX.exit <| PX.thenE <| PX.blockO rfl <| PX.thenE <| PX.blockE <| PX.thenN <| CX.sr <| LX.mv rfl <| LX.call (want_c (fr := (Ri ga103 ca103 (l14_0 ++ [r99]) :: Tb bt16 t15 :: Rs ga90 ca90 (l14_1 ++ [t15.text]) :: Tb bt9 k6 :: fr)) s99 m99 hL hK ht104 ([41] : List UInt8)) Pd.en35 rfl rfl rfl rfl rfl ?_
        rintro ⟨b105, s105⟩
        refine LX.have fun hw105 => ?_
        try dsimp only at hw105 ⊢
        have hn105 : NdsR 3 m99.rs m99.cells s105.ns := by rw [hw105.ns]; exact hn99
        have hR106 : Rn L.length s s105 (l14_0 ++ [r99]) 4 (-5) := hR100.want hw105
        have hch107 : s99.at_ ≤ s105.at_ := hw105.le
        have hle107 : s.at_ < s105.at_ := by omega
        have hlt107 : s105.at_ < L.length := hR106.lt
        have hde107 : s99.deep ≤ s105.deep := Int.le_of_eq hw105.deep.symm
        have hdd107 : s105.deep ≤ 60 := hR106.d1
        refine LX.su [0, 1, 5, 7] rfl <| LX.nt <| CX.sr <| LX.ms 2 rfl <| LX.p (Y.fieldAddr0 Pi.fo42_5 rfl) rfl <| LX.p (Y.ldB 0 Pi.one4 rfl rfl rfl) rfl <| LX.mv rfl <| LX.su [0, 1, 5, 7, 12] rfl <| LX.nt <| CX.sr <| LX.ms 2 rfl <| LX.p (Y.fieldAddr0 Pi.fo42_5 rfl) rfl <| LX.storeB 0 Pj.sz4 rfl rfl rfl rfl rfl rfl rfl rfl <| LX.wq (PWl bp al L cl (RS.fl s105 s105.df false s105.tp) m99 (Ri ga103 ca103 (l14_0 ++ [r99]) :: Tb bt16 t15 :: Rs ga90 ca90 (l14_1 ++ [t15.text]) :: Tb bt9 k6 :: fr)) rfl ?_
        have hR108 : Rn L.length s (RS.fl s105 s105.df false s105.tp) (l14_0 ++ [r99]) 4 (-5) := hR106.fl _ _ _
        refine LX.su [0, 1, 5, 7, 12] rfl <| LX.nt <| CX.sr <| LX.ms 2 rfl <| LX.p (Y.fieldAddr0 Pi.fo42_4 rfl) rfl <| LX.storeB 0 Pj.sz4 rfl rfl rfl rfl rfl rfl rfl rfl <| LX.wq (PWl bp al L cl (RS.fl (RS.fl s105 s105.df false s105.tp) true false s105.tp) m99 (Ri ga103 ca103 (l14_0 ++ [r99]) :: Tb bt16 t15 :: Rs ga90 ca90 (l14_1 ++ [t15.text]) :: Tb bt9 k6 :: fr)) rfl ?_
        have hR109 : Rn L.length s (RS.fl (RS.fl s105 s105.df false s105.tp) true false s105.tp) (l14_0 ++ [r99]) 4 (-5) := hR108.fl _ _ _
        refine LX.su [0, 1, 5, 7, 12] rfl <| LX.nt <| CX.sr <| LX.mv rfl ?_
        have hk110 : Sk L.length (RS.fl (RS.fl s105 s105.df false s105.tp) true false s105.tp) := hs.next hR109 dc
        refine LX.call (ih_block (RS.fl (RS.fl s105 s105.df false s105.tp) true false s105.tp) m99 (Ri ga103 ca103 (l14_0 ++ [r99]) :: Tb bt16 t15 :: Rs ga90 ca90 (l14_1 ++ [t15.text]) :: Tb bt9 k6 :: fr) hk110 hn105 (by show L.length - s105.at_ < N; omega)) Pj.en39 rfl rfl rfl rfl rfl ?_
        rintro ⟨r110, s110, m110⟩
        refine LX.have fun ⟨hri110, hr110, hn110⟩ => ?_
        try dsimp only at hri110 hr110 hn110 ⊢
        have hR111 : Rn L.length s s110 (l14_0 ++ [r99] ++ [r110]) 5 (-5) := hR109.trans hr110
        have hch112 : s105.at_ ≤ s110.at_ := hr110.le
        have hle112 : s.at_ < s110.at_ := by omega
        have hlt112 : s110.at_ < L.length := hR111.lt
        have hde112 : s105.deep ≤ s110.deep := hr110.d0
        have hdd112 : s110.deep ≤ 60 := hR111.d1
        have hav110 : s110.code = 0 → s105.at_ + 1 ≤ s110.at_ := hr110.adv
        refine LX.mv rfl <| LX.su [0, 1, 5, 7, 12, 13] rfl <| LX.nt <| CX.sr <| LX.ms 2 rfl <| LX.p (Y.fieldAddr0 Pi.fo42_4 rfl) rfl <| LX.storeB 0 Pj.sz4 rfl rfl rfl rfl rfl rfl rfl rfl <| LX.wq (PWl bp al L cl (RS.fl s110 false s110.lp s110.tp) m110 (Ri ga103 ca103 (l14_0 ++ [r99]) :: Tb bt16 t15 :: Rs ga90 ca90 (l14_1 ++ [t15.text]) :: Tb bt9 k6 :: fr)) rfl ?_
        have hR113 : Rn L.length s (RS.fl s110 false s110.lp s110.tp) (l14_0 ++ [r99] ++ [r110]) 5 (-5) := hR111.fl _ _ _
        refine LX.su [0, 1, 5, 7, 12, 13] rfl <| LX.nt <| CX.sr <| LX.ms 3 rfl <| LX.p (Y.fieldAddr0 Pi.fo42_5 rfl) rfl <| LX.storeB 0 Pj.sz4 rfl rfl rfl rfl rfl rfl rfl rfl <| LX.wq (PWl bp al L cl (RS.fl (RS.fl s110 false s110.lp s110.tp) false s105.lp s110.tp) m110 (Ri ga103 ca103 (l14_0 ++ [r99]) :: Tb bt16 t15 :: Rs ga90 ca90 (l14_1 ++ [t15.text]) :: Tb bt9 k6 :: fr)) rfl ?_
        have hR114 : Rn L.length s (RS.fl (RS.fl s110 false s110.lp s110.tp) false s105.lp s110.tp) (l14_0 ++ [r99] ++ [r110]) 5 (-5) := hR113.fl _ _ _
        refine LX.su [0, 1, 5, 7, 13] rfl <| LX.nt <| CX.seq ?_
        refine CX.world (W' := WA w0 base (Ri ga103 ca103 (l14_0 ++ [r99]) :: Tb bt9 k6 :: PWl bp al L cl (RS.fl (RS.fl s110 false s110.lp s110.tp) false s105.lp s110.tp) m110 (Tb bt16 t15 :: Rs ga90 ca90 (l14_1 ++ [t15.text]) :: fr))) (fun w hw => hw.perm pm) ?_
        refine CX.regionS ((fun w => Lies w w.heap.size ⟨bt9, 0, none⟩ [.int .i64 k6.kind, str k6.text, .int .i64 k6.pos])) [(0, .anywhere), (1, .anywhere), (2, .anywhere), (3, .held), (4, .anywhere), (5, .anywhere), (6, .alone), (7, .alone), (8, .alone), (9, .anywhere)] rfl (by kernel_rfl) <| MX.lift0 (i := 0) rfl (Y.move rfl) rfl rfl rfl <| MX.lift0 (i := 1) rfl (Y.move rfl) rfl rfl rfl <| MX.lift0 (i := 2) rfl (Y.fieldAddr0 Pa.fo44_1 rfl) rfl rfl rfl <| MX.lift1 (i := 3) (pend' := []) rfl (fun w hw => by exact blkL hw (i := 1) rfl) (Y.load Pa.one9 rfl (fun w hw => (hw.at_ 1 (str k6.text) rfl).2)) rfl rfl rfl (by kernel_rfl) <| MX.lift0 (i := 4) rfl (Y.move rfl) rfl rfl rfl <| MX.lift0 (i := 5) rfl (Y.move rfl) rfl rfl rfl <| MX.force (i := 6) rfl <| LX.buildSlice (e := 3) (size := 1) rfl rfl (fun _ => by kernel_rfl) rfl dc rfl rfl rfl ?_
        intro gt115
        refine LX.wq (Ri (some gt115) 1 ([r110]) :: Ri ga103 ca103 (l14_0 ++ [r99]) :: Tb bt9 k6 :: PWl bp al L cl (RS.fl (RS.fl s110 false s110.lp s110.tp) false s105.lp s110.tp) m110 (Tb bt16 t15 :: Rs ga90 ca90 (l14_1 ++ [t15.text]) :: fr)) rfl <| LX.nextM [3] (by kernel_rfl) (fun _ => (fun w hw => by exact blkL hw (i := 2) rfl)) <| MX.force (i := 7) rfl <| LX.appendT 0 (g := ga103) (k := ((l14_0 ++ [r99])).length) Pe.el29 rfl rfl rfl rfl rfl rfl rfl lo lo rfl rfl rfl ?_
        intro ga116 ca116
        refine LX.wa (Ri ga116 ca116 ((l14_0 ++ [r99]) ++ [r110]) :: Tb bt9 k6 :: PWl bp al L cl (RS.fl (RS.fl s110 false s110.lp s110.tp) false s105.lp s110.tp) m110 (Tb bt16 t15 :: Rs ga90 ca90 (l14_1 ++ [t15.text]) :: fr)) <| LX.sub (l' := [(0, _), (1, _), (5, _), (7, _), (13, _), (140, _), (141, _), (142, _), (143, _), (144, _), (145, _), (146, _), (147, rv ga116 (((l14_0 ++ [r99]) ++ [r110])).length ca116)]) ⟨rfl, rfl, rfl, rfl, rfl, rfl, rfl, rfl, rfl, rfl, rfl, rfl, (by (show some (rv _ _ _) = some (rv _ _ _); simp only [List.length_cons, List.length_append, List.length_nil] <;> rfl)), trivial⟩ <| LX.nextM [3] (by kernel_rfl) (fun _ => (fun w hw => by exact blkL hw (i := 1) rfl)) <| MX.force (i := 8) rfl ?_
        refine LX.wp (Ri ga116 ca116 ((l14_0 ++ [r99]) ++ [r110]) :: PWl bp al L cl (RS.fl (RS.fl s110 false s110.lp s110.tp) false s105.lp s110.tp) m110 (Tb bt9 k6 :: Tb bt16 t15 :: Rs ga90 ca90 (l14_1 ++ [t15.text]) :: fr)) ?_
        refine LX.call (put_c (fr := (Tb bt9 k6 :: Tb bt16 t15 :: Rs ga90 ca90 (l14_1 ++ [t15.text]) :: fr)) (g := ga116) (c := ca116) (ks := ((l14_0 ++ [r99]) ++ [r110])) (op := 45) (pos := pos) (x := k6.text) (RS.fl (RS.fl s110 false s110.lp s110.tp) false s105.lp s110.tp) m110 hn110 (fun h0 => by have h1 : ((s110.ns).length : Int) + 2 * s.at_ ≤ s.ns.length + 2 * ((s110.at_ : Nat) : Int) + (-5) := hR114.few h0; have h2 := hs.few (hR114.bad h0); have h3 := hK.len; have h4 : s110.at_ < L.length := hR114.lt; show (s110.ns).length ≤ 1000000; omega) (by (simp only [List.length_cons, List.length_nil, List.length_append]; omega)) ((AllI.app (AllI.app hla14_0 (AllI.cons as_ AllI.nil)) (AllI.cons as_ AllI.nil))) (by (unfold inI; omega)) as_) Pd.en16 rfl rfl rfl rfl rfl ?_
        rintro ⟨r117, s117, m117⟩
        refine LX.have fun ⟨hri117, hp117, hn117⟩ => ?_
        try dsimp only at hri117 hp117 hn117 ⊢
        have hR118 : Rn L.length s s117 ([r117]) 5 (-4) := hR114.put (us := ([] : List Int)) (ks := ((l14_0 ++ [r99]) ++ [r110])) hp117 pm
        have hch119 : s110.at_ ≤ s117.at_ := Nat.le_of_eq hp117.eqs.1.symm
        have hle119 : s.at_ < s117.at_ := by omega
        have hlt119 : s117.at_ < L.length := hR118.lt
        have hde119 : s110.deep ≤ s117.deep := Int.le_of_eq hp117.eqs.2.1.symm
        have hdd119 : s117.deep ≤ 60 := hR118.d1
        refine LX.nextM [] (by kernel_rfl) (fun h => absurd rfl h) <| MX.lift0 (i := 9) rfl (Y.assign rfl) rfl rfl rfl <| MX.sub (l' := [(4, _)]) ⟨rfl, trivial⟩ <| MX.done <| PX.thenN <| CX.ret <| PX.ret1 (by simp) Try.results40 rfl ?_
        exact fun w hw => ⟨(r117, s117, m117), rfl, ⟨as_, hR118.wk dc dc, hn117⟩, hw.ct⟩
      try simp at hb16
      refine CX.skip <| PX.thenN <| CX.region ?_
      have hgo120 : s99.at_ + 1 < L.length := by exact hK.fin _ t104 ht104 (by (intro h8; simp_all [isS]; done))
      have hln120 := hK.len
      refine LX.ms 3 rfl <| LX.p (Y.fieldAddr0 Pa.fo42_1 rfl) rfl <| LX.p (Y.ldB 0 Pa.one3 rfl rfl rfl) rfl <| LX.p (Y.addN rfl rfl (by (simp only []; omega))) rfl <| LX.mv rfl <| LX.p (Y.fieldAddr0 Pa.fo42_1 rfl) rfl <| LX.storeB 0 Pb.sz3 rfl rfl rfl rfl rfl rfl rfl rfl <| LX.wq (PWl bp al L cl (RS.go s99 1) m99 (Ri ga103 ca103 (l14_0 ++ [r99]) :: Tb bt16 t15 :: Rs ga90 ca90 (l14_1 ++ [t15.text]) :: Tb bt9 k6 :: fr)) rfl ?_
      have hR121 : Rn L.length s (RS.go s99 1) (l14_0 ++ [r99]) 4 (-5) := hR100.go hgo120
      have hle122 : s.at_ < (s99.at_ + 1) := by have h9 : s.at_ ≤ s99.at_ := hR100.le; omega
      have hlt122 : (s99.at_ + 1) < L.length := hgo120
      refine LX.su [0, 1, 5, 7, 8, 9] rfl <| LX.next <| PX.blockN ?_
      exact PX.again (i := ((l14_0, g14_0, c14_0), (l14_1, g14_1, c14_1), v14_2, s14, m14)) (((l14_0 ++ [r99]), ga103, ca103), ((l14_1 ++ [t15.text]), ga90, ca90), true, (RS.go s99 1), m99) (by show L.length - (s99.at_ + 1) < L.length - s14.at_; omega) ⟨rfl, rfl, rfl, (by rfl), (by rfl), rfl, trivial⟩ (fun w hw => ⟨⟨(AllI.app hla14_0 (AllI.cons as_ AllI.nil)), (by show List.length _ + 2 * s.at_ ≤ 2 * (s99.at_ + 1) + 0; (try simp only [List.length_cons, List.length_nil, List.length_append]); omega), (by show List.length _ + 2 * s.at_ ≤ 2 * (s99.at_ + 1) + 0; (try simp only [List.length_cons, List.length_nil, List.length_append]); omega), (by show s11.at_ ≤ (s99.at_ + 1); omega), (by show s11.deep ≤ s99.deep; omega), (hR121.wk dc dc).re pm, hn99⟩, hw.ct⟩)
    try simp at hb14
    refine CX.sr ?_
    have hgo123 : s14.at_ + 1 < L.length := by exact hK.fin _ t15 ht15 (by omega)
    have hln123 := hK.len
    refine LX.ms 3 rfl <| LX.p (Y.fieldAddr0 Pa.fo42_1 rfl) rfl <| LX.p (Y.ldB 0 Pa.one3 rfl rfl rfl) rfl <| LX.p (Y.addN rfl rfl (by (simp only []; omega))) rfl <| LX.mv rfl <| LX.p (Y.fieldAddr0 Pa.fo42_1 rfl) rfl <| LX.storeB 0 Pb.sz3 rfl rfl rfl rfl rfl rfl rfl rfl <| LX.wq (PWl bp al L cl (RS.go s14 1) m14 (Rs ga90 ca90 (l14_1 ++ [t15.text]) :: Tb bt16 t15 :: Ri g14_0 c14_0 l14_0 :: Tb bt9 k6 :: fr)) rfl ?_
    have hR124 : Rn L.length s (RS.go s14 1) (l14_0) 1 (-2) := hR14.go hgo123
    have hle125 : s.at_ < (s14.at_ + 1) := by have h9 : s.at_ ≤ s14.at_ := hR14.le; omega
    have hlt125 : (s14.at_ + 1) < L.length := hgo123
    refine LX.su [0, 1, 5, 7, 8, 9, 10] rfl <| LX.nt <| CX.region <| LX.ms 2 rfl <| LX.p (Y.fieldAddr0 Pf.fo44_2 rfl) rfl ?_
    refine LX.wp (Tb bt16 t15 :: PWl bp al L cl (RS.go s14 1) m14 (Rs ga90 ca90 (l14_1 ++ [t15.text]) :: Ri g14_0 c14_0 l14_0 :: Tb bt9 k6 :: fr)) ?_
    refine LX.p (Y.ldB 0 Pa.one3 rfl rfl rfl) rfl <| LX.p (Y.fieldAddr0 Pa.fo44_1 rfl) rfl <| LX.p (Y.ldB 0 Pa.one9 rfl rfl rfl) rfl ?_
    refine LX.wp (PWl bp al L cl (RS.go s14 1) m14 (Tb bt16 t15 :: Rs ga90 ca90 (l14_1 ++ [t15.text]) :: Ri g14_0 c14_0 l14_0 :: Tb bt9 k6 :: fr)) ?_
    refine LX.world (W' := WA w0 base (Ri none 0 ([] : List Int) :: PWl bp al L cl (RS.go s14 1) m14 (Tb bt16 t15 :: Rs ga90 ca90 (l14_1 ++ [t15.text]) :: Ri g14_0 c14_0 l14_0 :: Tb bt9 k6 :: fr))) (fun w hw => (show WA w0 base (Ri none 0 ([] : List Int) :: PWl bp al L cl (RS.go s14 1) m14 (Tb bt16 t15 :: Rs ga90 ca90 (l14_1 ++ [t15.text]) :: Ri g14_0 c14_0 l14_0 :: Tb bt9 k6 :: fr)) w from (show WA w0 base (PWl bp al L cl (RS.go s14 1) m14 (Tb bt16 t15 :: Rs ga90 ca90 (l14_1 ++ [t15.text]) :: Ri g14_0 c14_0 l14_0 :: Tb bt9 k6 :: fr)) w from hw).nilRow 3 1)) <| LX.call (put_c (fr := (Tb bt16 t15 :: Rs ga90 ca90 (l14_1 ++ [t15.text]) :: Ri g14_0 c14_0 l14_0 :: Tb bt9 k6 :: fr)) (g := none) (c := 0) (ks := ([] : List Int)) (op := 46) (pos := t15.pos) (x := t15.text) (RS.go s14 1) m14 hn14 (fun h0 => by have h1 : ((s14.ns).length : Int) + 2 * s.at_ ≤ s.ns.length + 2 * (((s14.at_ + 1) : Nat) : Int) + (-2) := hR124.few h0; have h2 := hs.few (hR124.bad h0); have h3 := hK.len; have h4 : (s14.at_ + 1) < L.length := hR124.lt; show (s14.ns).length ≤ 1000000; omega) (by (simp only [List.length_cons, List.length_nil, List.length_append]; omega)) (AllI.nil) (by (unfold inI; omega)) as_) Pd.en16 rfl rfl rfl rfl rfl ?_
    rintro ⟨r126, s126, m126⟩
    refine LX.have fun ⟨hri126, hp126, hn126⟩ => ?_
    try dsimp only at hri126 hp126 hn126 ⊢
    have hR127 : Rn L.length s s126 (l14_0 ++ [r126]) 1 (-1) := hR124.put (us := (l14_0)) (ks := ([] : List Int)) hp126 pm
    have hch128 : (s14.at_ + 1) ≤ s126.at_ := Nat.le_of_eq hp126.eqs.1.symm
    have hle128 : s.at_ < s126.at_ := by omega
    have hlt128 : s126.at_ < L.length := hR127.lt
    have hde128 : s14.deep ≤ s126.deep := Int.le_of_eq hp126.eqs.2.1.symm
    have hdd128 : s126.deep ≤ 60 := hR127.d1
    refine LX.buildSlice (e := 3) (size := 1) rfl rfl (fun _ => by kernel_rfl) rfl dc rfl rfl rfl ?_
    intro gt129
    refine LX.wq (Ri (some gt129) 1 ([r126]) :: PWl bp al L cl s126 m126 (Tb bt16 t15 :: Rs ga90 ca90 (l14_1 ++ [t15.text]) :: Ri g14_0 c14_0 l14_0 :: Tb bt9 k6 :: fr)) rfl ?_
    refine LX.wp (Ri (some gt129) 1 ([r126]) :: Ri g14_0 c14_0 l14_0 :: PWl bp al L cl s126 m126 (Tb bt16 t15 :: Rs ga90 ca90 (l14_1 ++ [t15.text]) :: Tb bt9 k6 :: fr)) ?_
    refine LX.appendT 0 (g := g14_0) (k := (l14_0).length) Pe.el29 rfl rfl rfl rfl rfl rfl rfl lo lo rfl rfl rfl ?_
    intro ga130 ca130
    refine LX.wa (Ri ga130 ca130 (l14_0 ++ [r126]) :: PWl bp al L cl s126 m126 (Tb bt16 t15 :: Rs ga90 ca90 (l14_1 ++ [t15.text]) :: Tb bt9 k6 :: fr)) <| LX.sub (l' := [(0, _), (1, _), (5, _), (7, _), (8, _), (9, _), (10, _), (95, _), (96, _), (97, _), (98, _), (99, _), (100, _), (101, _), (102, _), (103, rv ga130 ((l14_0 ++ [r126])).length ca130)]) ⟨rfl, rfl, rfl, rfl, rfl, rfl, rfl, rfl, rfl, rfl, rfl, rfl, rfl, rfl, rfl, (by (show some (rv _ _ _) = some (rv _ _ _); simp only [List.length_cons, List.length_append, List.length_nil] <;> rfl)), trivial⟩ <| LX.mv rfl ?_
    refine LX.wp (PWl bp al L cl s126 m126 (Ri ga130 ca130 (l14_0 ++ [r126]) :: Tb bt16 t15 :: Rs ga90 ca90 (l14_1 ++ [t15.text]) :: Tb bt9 k6 :: fr)) ?_
    refine LX.su [0, 1, 5, 7, 8, 9] rfl <| LX.nt <| CX.seq <| CX.sr ?_
    obtain ⟨t131, ht131⟩ : ∃ t, L[s126.at_]? = some t := ⟨_, List.getElem?_eq_getElem (show s126.at_ < L.length from hR127.lt)⟩
    have htk131 := (tok_in hL ht131).1
    have htp131 := (tok_in hL ht131).2
    refine LX.mv rfl <| LX.callQ (show FnQ Try.prog 12 #[.pointer (some ⟨bp, 0, none⟩)] _ (.bool (decide (s126.code ≠ 0))) from bad_q (s := s126) (m := m126) (fun w hw => blkL hw (i := 0) rfl)) Pb.en12 rfl rfl rfl rfl rfl <| LX.mv rfl <| LX.su [0, 1, 5, 7, 8, 9, 106] rfl ?_
    apply LX.joinOr 4 110 106 rfl
    · intro hb17
      refine LX.gF rfl rfl rfl hb17 rfl rfl <| LX.gF rfl rfl rfl hb17 rfl rfl <| LX.gF rfl rfl rfl hb17 rfl rfl <| LX.p (Y.pickT rfl hb17 rfl) rfl ?_
      exact LX.left ⟨rfl, rfl, rfl, rfl, rfl, rfl, rfl, rfl, trivial⟩
    · intro hb17
      refine LX.gT rfl rfl rfl hb17 (Y.move rfl) rfl rfl <| LX.callQT rfl rfl rfl hb17 (is_q (s := s126) (m := m126) ht131 ([44] : List UInt8) (fun w hw => blkL hw (i := 0) rfl) (fun w hw => hL.push hw)) Pb.en32 rfl rfl rfl rfl <| LX.gT rfl rfl rfl hb17 (Y.not rfl) rfl rfl <| LX.p (Y.pickF rfl hb17 rfl) rfl ?_
      exact LX.left ⟨rfl, rfl, rfl, rfl, rfl, rfl, rfl, rfl, trivial⟩
    refine LX.su [0, 1, 5, 7, 8, 9, 110] rfl <| LX.nt ?_
    refine CX.cond rfl (fun hb18 => ?_) (fun hb18 => ?_)
    · try simp at hb18
      refine CX.exit <| PX.thenE <| PX.blockO rfl <| PX.thenE <| PX.blockE <| PX.thenN <| CX.sr <| LX.mv rfl <| LX.call (want_c (fr := (Ri ga130 ca130 (l14_0 ++ [r126]) :: Tb bt16 t15 :: Rs ga90 ca90 (l14_1 ++ [t15.text]) :: Tb bt9 k6 :: fr)) s126 m126 hL hK ht131 ([41] : List UInt8)) Pd.en35 rfl rfl rfl rfl rfl ?_
      rintro ⟨b132, s132⟩
      refine LX.have fun hw132 => ?_
      try dsimp only at hw132 ⊢
      have hn132 : NdsR 3 m126.rs m126.cells s132.ns := by rw [hw132.ns]; exact hn126
      have hR133 : Rn L.length s s132 (l14_0 ++ [r126]) 2 (-3) := hR127.want hw132
      have hch134 : s126.at_ ≤ s132.at_ := hw132.le
      have hle134 : s.at_ < s132.at_ := by omega
      have hlt134 : s132.at_ < L.length := hR133.lt
      have hde134 : s126.deep ≤ s132.deep := Int.le_of_eq hw132.deep.symm
      have hdd134 : s132.deep ≤ 60 := hR133.d1
      refine LX.su [0, 1, 5, 7] rfl <| LX.nt <| CX.sr <| LX.ms 2 rfl <| LX.p (Y.fieldAddr0 Pi.fo42_5 rfl) rfl <| LX.p (Y.ldB 0 Pi.one4 rfl rfl rfl) rfl <| LX.mv rfl <| LX.su [0, 1, 5, 7, 12] rfl <| LX.nt <| CX.sr <| LX.ms 2 rfl <| LX.p (Y.fieldAddr0 Pi.fo42_5 rfl) rfl <| LX.storeB 0 Pj.sz4 rfl rfl rfl rfl rfl rfl rfl rfl <| LX.wq (PWl bp al L cl (RS.fl s132 s132.df false s132.tp) m126 (Ri ga130 ca130 (l14_0 ++ [r126]) :: Tb bt16 t15 :: Rs ga90 ca90 (l14_1 ++ [t15.text]) :: Tb bt9 k6 :: fr)) rfl ?_
      have hR135 : Rn L.length s (RS.fl s132 s132.df false s132.tp) (l14_0 ++ [r126]) 2 (-3) := hR133.fl _ _ _
      refine LX.su [0, 1, 5, 7, 12] rfl <| LX.nt <| CX.sr <| LX.ms 2 rfl <| LX.p (Y.fieldAddr0 Pi.fo42_4 rfl) rfl <| LX.storeB 0 Pj.sz4 rfl rfl rfl rfl rfl rfl rfl rfl <| LX.wq (PWl bp al L cl (RS.fl (RS.fl s132 s132.df false s132.tp) true false s132.tp) m126 (Ri ga130 ca130 (l14_0 ++ [r126]) :: Tb bt16 t15 :: Rs ga90 ca90 (l14_1 ++ [t15.text]) :: Tb bt9 k6 :: fr)) rfl ?_
      have hR136 : Rn L.length s (RS.fl (RS.fl s132 s132.df false s132.tp) true false s132.tp) (l14_0 ++ [r126]) 2 (-3) := hR135.fl _ _ _
      refine LX.su [0, 1, 5, 7, 12] rfl <| LX.nt <| CX.sr <| LX.mv rfl ?_
      have hk137 : Sk L.length (RS.fl (RS.fl s132 s132.df false s132.tp) true false s132.tp) := hs.next hR136 dc
      refine LX.call (ih_block (RS.fl (RS.fl s132 s132.df false s132.tp) true false s132.tp) m126 (Ri ga130 ca130 (l14_0 ++ [r126]) :: Tb bt16 t15 :: Rs ga90 ca90 (l14_1 ++ [t15.text]) :: Tb bt9 k6 :: fr) hk137 hn132 (by show L.length - s132.at_ < N; omega)) Pj.en39 rfl rfl rfl rfl rfl ?_
      rintro ⟨r137, s137, m137⟩
      refine LX.have fun ⟨hri137, hr137, hn137⟩ => ?_
      try dsimp only at hri137 hr137 hn137 ⊢
      have hR138 : Rn L.length s s137 (l14_0 ++ [r126] ++ [r137]) 3 (-3) := hR136.trans hr137
      have hch139 : s132.at_ ≤ s137.at_ := hr137.le
      have hle139 : s.at_ < s137.at_ := by omega
      have hlt139 : s137.at_ < L.length := hR138.lt
      have hde139 : s132.deep ≤ s137.deep := hr137.d0
      have hdd139 : s137.deep ≤ 60 := hR138.d1
      have hav137 : s137.code = 0 → s132.at_ + 1 ≤ s137.at_ := hr137.adv
      refine LX.mv rfl <| LX.su [0, 1, 5, 7, 12, 13] rfl <| LX.nt <| CX.sr <| LX.ms 2 rfl <| LX.p (Y.fieldAddr0 Pi.fo42_4 rfl) rfl <| LX.storeB 0 Pj.sz4 rfl rfl rfl rfl rfl rfl rfl rfl <| LX.wq (PWl bp al L cl (RS.fl s137 false s137.lp s137.tp) m137 (Ri ga130 ca130 (l14_0 ++ [r126]) :: Tb bt16 t15 :: Rs ga90 ca90 (l14_1 ++ [t15.text]) :: Tb bt9 k6 :: fr)) rfl ?_
      have hR140 : Rn L.length s (RS.fl s137 false s137.lp s137.tp) (l14_0 ++ [r126] ++ [r137]) 3 (-3) := hR138.fl _ _ _
      refine LX.su [0, 1, 5, 7, 12, 13] rfl <| LX.nt <| CX.sr <| LX.ms 3 rfl <| LX.p (Y.fieldAddr0 Pi.fo42_5 rfl) rfl <| LX.storeB 0 Pj.sz4 rfl rfl rfl rfl rfl rfl rfl rfl <| LX.wq (PWl bp al L cl (RS.fl (RS.fl s137 false s137.lp s137.tp) false s132.lp s137.tp) m137 (Ri ga130 ca130 (l14_0 ++ [r126]) :: Tb bt16 t15 :: Rs ga90 ca90 (l14_1 ++ [t15.text]) :: Tb bt9 k6 :: fr)) rfl ?_
      have hR141 : Rn L.length s (RS.fl (RS.fl s137 false s137.lp s137.tp) false s132.lp s137.tp) (l14_0 ++ [r126] ++ [r137]) 3 (-3) := hR140.fl _ _ _
      refine LX.su [0, 1, 5, 7, 13] rfl <| LX.nt <| CX.seq ?_
      refine CX.world (W' := WA w0 base (Ri ga130 ca130 (l14_0 ++ [r126]) :: Tb bt9 k6 :: PWl bp al L cl (RS.fl (RS.fl s137 false s137.lp s137.tp) false s132.lp s137.tp) m137 (Tb bt16 t15 :: Rs ga90 ca90 (l14_1 ++ [t15.text]) :: fr))) (fun w hw => hw.perm pm) ?_
      refine CX.regionS ((fun w => Lies w w.heap.size ⟨bt9, 0, none⟩ [.int .i64 k6.kind, str k6.text, .int .i64 k6.pos])) [(0, .anywhere), (1, .anywhere), (2, .anywhere), (3, .held), (4, .anywhere), (5, .anywhere), (6, .alone), (7, .alone), (8, .alone), (9, .anywhere)] rfl (by kernel_rfl) <| MX.lift0 (i := 0) rfl (Y.move rfl) rfl rfl rfl <| MX.lift0 (i := 1) rfl (Y.move rfl) rfl rfl rfl <| MX.lift0 (i := 2) rfl (Y.fieldAddr0 Pa.fo44_1 rfl) rfl rfl rfl <| MX.lift1 (i := 3) (pend' := []) rfl (fun w hw => by exact blkL hw (i := 1) rfl) (Y.load Pa.one9 rfl (fun w hw => (hw.at_ 1 (str k6.text) rfl).2)) rfl rfl rfl (by kernel_rfl) <| MX.lift0 (i := 4) rfl (Y.move rfl) rfl rfl rfl <| MX.lift0 (i := 5) rfl (Y.move rfl) rfl rfl rfl <| MX.force (i := 6) rfl <| LX.buildSlice (e := 3) (size := 1) rfl rfl (fun _ => by kernel_rfl) rfl dc rfl rfl rfl ?_
      intro gt142
      refine LX.wq (Ri (some gt142) 1 ([r137]) :: Ri ga130 ca130 (l14_0 ++ [r126]) :: Tb bt9 k6 :: PWl bp al L cl (RS.fl (RS.fl s137 false s137.lp s137.tp) false s132.lp s137.tp) m137 (Tb bt16 t15 :: Rs ga90 ca90 (l14_1 ++ [t15.text]) :: fr)) rfl <| LX.nextM [3] (by kernel_rfl) (fun _ => (fun w hw => by exact blkL hw (i := 2) rfl)) <| MX.force (i := 7) rfl <| LX.appendT 0 (g := ga130) (k := ((l14_0 ++ [r126])).length) Pe.el29 rfl rfl rfl rfl rfl rfl rfl lo lo rfl rfl rfl ?_
      intro ga143 ca143
      refine LX.wa (Ri ga143 ca143 ((l14_0 ++ [r126]) ++ [r137]) :: Tb bt9 k6 :: PWl bp al L cl (RS.fl (RS.fl s137 false s137.lp s137.tp) false s132.lp s137.tp) m137 (Tb bt16 t15 :: Rs ga90 ca90 (l14_1 ++ [t15.text]) :: fr)) <| LX.sub (l' := [(0, _), (1, _), (5, _), (7, _), (13, _), (140, _), (141, _), (142, _), (143, _), (144, _), (145, _), (146, _), (147, rv ga143 (((l14_0 ++ [r126]) ++ [r137])).length ca143)]) ⟨rfl, rfl, rfl, rfl, rfl, rfl, rfl, rfl, rfl, rfl, rfl, rfl, (by (show some (rv _ _ _) = some (rv _ _ _); simp only [List.length_cons, List.length_append, List.length_nil] <;> rfl)), trivial⟩ <| LX.nextM [3] (by kernel_rfl) (fun _ => (fun w hw => by exact blkL hw (i := 1) rfl)) <| MX.force (i := 8) rfl ?_
      refine LX.wp (Ri ga143 ca143 ((l14_0 ++ [r126]) ++ [r137]) :: PWl bp al L cl (RS.fl (RS.fl s137 false s137.lp s137.tp) false s132.lp s137.tp) m137 (Tb bt9 k6 :: Tb bt16 t15 :: Rs ga90 ca90 (l14_1 ++ [t15.text]) :: fr)) ?_
      refine LX.call (put_c (fr := (Tb bt9 k6 :: Tb bt16 t15 :: Rs ga90 ca90 (l14_1 ++ [t15.text]) :: fr)) (g := ga143) (c := ca143) (ks := ((l14_0 ++ [r126]) ++ [r137])) (op := 45) (pos := pos) (x := k6.text) (RS.fl (RS.fl s137 false s137.lp s137.tp) false s132.lp s137.tp) m137 hn137 (fun h0 => by have h1 : ((s137.ns).length : Int) + 2 * s.at_ ≤ s.ns.length + 2 * ((s137.at_ : Nat) : Int) + (-3) := hR141.few h0; have h2 := hs.few (hR141.bad h0); have h3 := hK.len; have h4 : s137.at_ < L.length := hR141.lt; show (s137.ns).length ≤ 1000000; omega) (by (simp only [List.length_cons, List.length_nil, List.length_append]; omega)) ((AllI.app (AllI.app hla14_0 (AllI.cons as_ AllI.nil)) (AllI.cons as_ AllI.nil))) (by (unfold inI; omega)) as_) Pd.en16 rfl rfl rfl rfl rfl ?_
      rintro ⟨r144, s144, m144⟩
      refine LX.have fun ⟨hri144, hp144, hn144⟩ => ?_
      try dsimp only at hri144 hp144 hn144 ⊢
      have hR145 : Rn L.length s s144 ([r144]) 3 (-2) := hR141.put (us := ([] : List Int)) (ks := ((l14_0 ++ [r126]) ++ [r137])) hp144 pm
      have hch146 : s137.at_ ≤ s144.at_ := Nat.le_of_eq hp144.eqs.1.symm
      have hle146 : s.at_ < s144.at_ := by omega
      have hlt146 : s144.at_ < L.length := hR145.lt
      have hde146 : s137.deep ≤ s144.deep := Int.le_of_eq hp144.eqs.2.1.symm
      have hdd146 : s144.deep ≤ 60 := hR145.d1
      refine LX.nextM [] (by kernel_rfl) (fun h => absurd rfl h) <| MX.lift0 (i := 9) rfl (Y.assign rfl) rfl rfl rfl <| MX.sub (l' := [(4, _)]) ⟨rfl, trivial⟩ <| MX.done <| PX.thenN <| CX.ret <| PX.ret1 (by simp) Try.results40 rfl ?_
      exact fun w hw => ⟨(r144, s144, m144), rfl, ⟨as_, hR145.wk dc dc, hn144⟩, hw.ct⟩
    try simp at hb18
    refine CX.skip <| PX.thenN <| CX.region ?_
    have hgo147 : s126.at_ + 1 < L.length := by exact hK.fin _ t131 ht131 (by (intro h8; simp_all [isS]; done))
    have hln147 := hK.len
    refine LX.ms 3 rfl <| LX.p (Y.fieldAddr0 Pa.fo42_1 rfl) rfl <| LX.p (Y.ldB 0 Pa.one3 rfl rfl rfl) rfl <| LX.p (Y.addN rfl rfl (by (simp only []; omega))) rfl <| LX.mv rfl <| LX.p (Y.fieldAddr0 Pa.fo42_1 rfl) rfl <| LX.storeB 0 Pb.sz3 rfl rfl rfl rfl rfl rfl rfl rfl <| LX.wq (PWl bp al L cl (RS.go s126 1) m126 (Ri ga130 ca130 (l14_0 ++ [r126]) :: Tb bt16 t15 :: Rs ga90 ca90 (l14_1 ++ [t15.text]) :: Tb bt9 k6 :: fr)) rfl ?_
    have hR148 : Rn L.length s (RS.go s126 1) (l14_0 ++ [r126]) 2 (-3) := hR127.go hgo147
    have hle149 : s.at_ < (s126.at_ + 1) := by have h9 : s.at_ ≤ s126.at_ := hR127.le; omega
    have hlt149 : (s126.at_ + 1) < L.length := hgo147
    refine LX.su [0, 1, 5, 7, 8, 9] rfl <| LX.next <| PX.blockN ?_
    exact PX.again (i := ((l14_0, g14_0, c14_0), (l14_1, g14_1, c14_1), v14_2, s14, m14)) (((l14_0 ++ [r126]), ga130, ca130), ((l14_1 ++ [t15.text]), ga90, ca90), v14_2, (RS.go s126 1), m126) (by show L.length - (s126.at_ + 1) < L.length - s14.at_; omega) ⟨rfl, rfl, rfl, (by rfl), (by rfl), rfl, trivial⟩ (fun w hw => ⟨⟨(AllI.app hla14_0 (AllI.cons as_ AllI.nil)), (by show List.length _ + 2 * s.at_ ≤ 2 * (s126.at_ + 1) + 0; (try simp only [List.length_cons, List.length_nil, List.length_append]); omega), (by show List.length _ + 2 * s.at_ ≤ 2 * (s126.at_ + 1) + 0; (try simp only [List.length_cons, List.length_nil, List.length_append]); omega), (by show s11.at_ ≤ (s126.at_ + 1); omega), (by show s11.deep ≤ s126.deep; omega), (hR148.wk dc dc).re pm, hn126⟩, hw.ct⟩)
  try simp at hb2
  refine CX.exit <| PX.thenE <| PX.thenE <| PX.blockE <| PX.thenN <| CX.sr <| LX.mv rfl <| LX.call (want_c (fr := (Ri g14_0 c14_0 l14_0 :: Rs g14_1 c14_1 l14_1 :: Tb bt9 k6 :: fr)) s14 m14 hL hK ht15 ([41] : List UInt8)) Pd.en35 rfl rfl rfl rfl rfl ?_
  rintro ⟨b150, s150⟩
  refine LX.have fun hw150 => ?_
  try dsimp only at hw150 ⊢
  have hn150 : NdsR 3 m14.rs m14.cells s150.ns := by rw [hw150.ns]; exact hn14
  have hR151 : Rn L.length s s150 (l14_0) 1 (-2) := hR14.want hw150
  have hch152 : s14.at_ ≤ s150.at_ := hw150.le
  have hle152 : s.at_ < s150.at_ := by omega
  have hlt152 : s150.at_ < L.length := hR151.lt
  have hde152 : s14.deep ≤ s150.deep := Int.le_of_eq hw150.deep.symm
  have hdd152 : s150.deep ≤ 60 := hR151.d1
  refine LX.su [0, 1, 5, 7] rfl <| LX.nt <| CX.sr <| LX.ms 2 rfl <| LX.p (Y.fieldAddr0 Pi.fo42_5 rfl) rfl <| LX.p (Y.ldB 0 Pi.one4 rfl rfl rfl) rfl <| LX.mv rfl <| LX.su [0, 1, 5, 7, 12] rfl <| LX.nt <| CX.sr <| LX.ms 2 rfl <| LX.p (Y.fieldAddr0 Pi.fo42_5 rfl) rfl <| LX.storeB 0 Pj.sz4 rfl rfl rfl rfl rfl rfl rfl rfl <| LX.wq (PWl bp al L cl (RS.fl s150 s150.df false s150.tp) m14 (Ri g14_0 c14_0 l14_0 :: Rs g14_1 c14_1 l14_1 :: Tb bt9 k6 :: fr)) rfl ?_
  have hR153 : Rn L.length s (RS.fl s150 s150.df false s150.tp) (l14_0) 1 (-2) := hR151.fl _ _ _
  refine LX.su [0, 1, 5, 7, 12] rfl <| LX.nt <| CX.sr <| LX.ms 2 rfl <| LX.p (Y.fieldAddr0 Pi.fo42_4 rfl) rfl <| LX.storeB 0 Pj.sz4 rfl rfl rfl rfl rfl rfl rfl rfl <| LX.wq (PWl bp al L cl (RS.fl (RS.fl s150 s150.df false s150.tp) true false s150.tp) m14 (Ri g14_0 c14_0 l14_0 :: Rs g14_1 c14_1 l14_1 :: Tb bt9 k6 :: fr)) rfl ?_
  have hR154 : Rn L.length s (RS.fl (RS.fl s150 s150.df false s150.tp) true false s150.tp) (l14_0) 1 (-2) := hR153.fl _ _ _
  refine LX.su [0, 1, 5, 7, 12] rfl <| LX.nt <| CX.sr <| LX.mv rfl ?_
  have hk155 : Sk L.length (RS.fl (RS.fl s150 s150.df false s150.tp) true false s150.tp) := hs.next hR154 dc
  refine LX.call (ih_block (RS.fl (RS.fl s150 s150.df false s150.tp) true false s150.tp) m14 (Ri g14_0 c14_0 l14_0 :: Rs g14_1 c14_1 l14_1 :: Tb bt9 k6 :: fr) hk155 hn150 (by show L.length - s150.at_ < N; omega)) Pj.en39 rfl rfl rfl rfl rfl ?_
  rintro ⟨r155, s155, m155⟩
  refine LX.have fun ⟨hri155, hr155, hn155⟩ => ?_
  try dsimp only at hri155 hr155 hn155 ⊢
  have hR156 : Rn L.length s s155 (l14_0 ++ [r155]) 2 (-2) := hR154.trans hr155
  have hch157 : s150.at_ ≤ s155.at_ := hr155.le
  have hle157 : s.at_ < s155.at_ := by omega
  have hlt157 : s155.at_ < L.length := hR156.lt
  have hde157 : s150.deep ≤ s155.deep := hr155.d0
  have hdd157 : s155.deep ≤ 60 := hR156.d1
  have hav155 : s155.code = 0 → s150.at_ + 1 ≤ s155.at_ := hr155.adv
  refine LX.mv rfl <| LX.su [0, 1, 5, 7, 12, 13] rfl <| LX.nt <| CX.sr <| LX.ms 2 rfl <| LX.p (Y.fieldAddr0 Pi.fo42_4 rfl) rfl <| LX.storeB 0 Pj.sz4 rfl rfl rfl rfl rfl rfl rfl rfl <| LX.wq (PWl bp al L cl (RS.fl s155 false s155.lp s155.tp) m155 (Ri g14_0 c14_0 l14_0 :: Rs g14_1 c14_1 l14_1 :: Tb bt9 k6 :: fr)) rfl ?_
  have hR158 : Rn L.length s (RS.fl s155 false s155.lp s155.tp) (l14_0 ++ [r155]) 2 (-2) := hR156.fl _ _ _
  refine LX.su [0, 1, 5, 7, 12, 13] rfl <| LX.nt <| CX.sr <| LX.ms 3 rfl <| LX.p (Y.fieldAddr0 Pi.fo42_5 rfl) rfl <| LX.storeB 0 Pj.sz4 rfl rfl rfl rfl rfl rfl rfl rfl <| LX.wq (PWl bp al L cl (RS.fl (RS.fl s155 false s155.lp s155.tp) false s150.lp s155.tp) m155 (Ri g14_0 c14_0 l14_0 :: Rs g14_1 c14_1 l14_1 :: Tb bt9 k6 :: fr)) rfl ?_
  have hR159 : Rn L.length s (RS.fl (RS.fl s155 false s155.lp s155.tp) false s150.lp s155.tp) (l14_0 ++ [r155]) 2 (-2) := hR158.fl _ _ _
  refine LX.su [0, 1, 5, 7, 13] rfl <| LX.nt <| CX.seq ?_
  refine CX.world (W' := WA w0 base (Ri g14_0 c14_0 l14_0 :: Tb bt9 k6 :: PWl bp al L cl (RS.fl (RS.fl s155 false s155.lp s155.tp) false s150.lp s155.tp) m155 (Rs g14_1 c14_1 l14_1 :: fr))) (fun w hw => hw.perm pm) ?_
  refine CX.regionS ((fun w => Lies w w.heap.size ⟨bt9, 0, none⟩ [.int .i64 k6.kind, str k6.text, .int .i64 k6.pos])) [(0, .anywhere), (1, .anywhere), (2, .anywhere), (3, .held), (4, .anywhere), (5, .anywhere), (6, .alone), (7, .alone), (8, .alone), (9, .anywhere)] rfl (by kernel_rfl) <| MX.lift0 (i := 0) rfl (Y.move rfl) rfl rfl rfl <| MX.lift0 (i := 1) rfl (Y.move rfl) rfl rfl rfl <| MX.lift0 (i := 2) rfl (Y.fieldAddr0 Pa.fo44_1 rfl) rfl rfl rfl <| MX.lift1 (i := 3) (pend' := []) rfl (fun w hw => by exact blkL hw (i := 1) rfl) (Y.load Pa.one9 rfl (fun w hw => (hw.at_ 1 (str k6.text) rfl).2)) rfl rfl rfl (by kernel_rfl) <| MX.lift0 (i := 4) rfl (Y.move rfl) rfl rfl rfl <| MX.lift0 (i := 5) rfl (Y.move rfl) rfl rfl rfl <| MX.force (i := 6) rfl <| LX.buildSlice (e := 3) (size := 1) rfl rfl (fun _ => by kernel_rfl) rfl dc rfl rfl rfl ?_
  intro gt160
  refine LX.wq (Ri (some gt160) 1 ([r155]) :: Ri g14_0 c14_0 l14_0 :: Tb bt9 k6 :: PWl bp al L cl (RS.fl (RS.fl s155 false s155.lp s155.tp) false s150.lp s155.tp) m155 (Rs g14_1 c14_1 l14_1 :: fr)) rfl <| LX.nextM [3] (by kernel_rfl) (fun _ => (fun w hw => by exact blkL hw (i := 2) rfl)) <| MX.force (i := 7) rfl <| LX.appendT 0 (g := g14_0) (k := (l14_0).length) Pe.el29 rfl rfl rfl rfl rfl rfl rfl lo lo rfl rfl rfl ?_
  intro ga161 ca161
  refine LX.wa (Ri ga161 ca161 (l14_0 ++ [r155]) :: Tb bt9 k6 :: PWl bp al L cl (RS.fl (RS.fl s155 false s155.lp s155.tp) false s150.lp s155.tp) m155 (Rs g14_1 c14_1 l14_1 :: fr)) <| LX.sub (l' := [(0, _), (1, _), (5, _), (7, _), (13, _), (140, _), (141, _), (142, _), (143, _), (144, _), (145, _), (146, _), (147, rv ga161 ((l14_0 ++ [r155])).length ca161)]) ⟨rfl, rfl, rfl, rfl, rfl, rfl, rfl, rfl, rfl, rfl, rfl, rfl, (by (show some (rv _ _ _) = some (rv _ _ _); simp only [List.length_cons, List.length_append, List.length_nil] <;> rfl)), trivial⟩ <| LX.nextM [3] (by kernel_rfl) (fun _ => (fun w hw => by exact blkL hw (i := 1) rfl)) <| MX.force (i := 8) rfl ?_
  refine LX.wp (Ri ga161 ca161 (l14_0 ++ [r155]) :: PWl bp al L cl (RS.fl (RS.fl s155 false s155.lp s155.tp) false s150.lp s155.tp) m155 (Tb bt9 k6 :: Rs g14_1 c14_1 l14_1 :: fr)) ?_
  refine LX.call (put_c (fr := (Tb bt9 k6 :: Rs g14_1 c14_1 l14_1 :: fr)) (g := ga161) (c := ca161) (ks := (l14_0 ++ [r155])) (op := 45) (pos := pos) (x := k6.text) (RS.fl (RS.fl s155 false s155.lp s155.tp) false s150.lp s155.tp) m155 hn155 (fun h0 => by have h1 : ((s155.ns).length : Int) + 2 * s.at_ ≤ s.ns.length + 2 * ((s155.at_ : Nat) : Int) + (-2) := hR159.few h0; have h2 := hs.few (hR159.bad h0); have h3 := hK.len; have h4 : s155.at_ < L.length := hR159.lt; show (s155.ns).length ≤ 1000000; omega) (by (simp only [List.length_cons, List.length_nil, List.length_append]; omega)) ((AllI.app hla14_0 (AllI.cons as_ AllI.nil))) (by (unfold inI; omega)) as_) Pd.en16 rfl rfl rfl rfl rfl ?_
  rintro ⟨r162, s162, m162⟩
  refine LX.have fun ⟨hri162, hp162, hn162⟩ => ?_
  try dsimp only at hri162 hp162 hn162 ⊢
  have hR163 : Rn L.length s s162 ([r162]) 2 (-1) := hR159.put (us := ([] : List Int)) (ks := (l14_0 ++ [r155])) hp162 pm
  have hch164 : s155.at_ ≤ s162.at_ := Nat.le_of_eq hp162.eqs.1.symm
  have hle164 : s.at_ < s162.at_ := by omega
  have hlt164 : s162.at_ < L.length := hR163.lt
  have hde164 : s155.deep ≤ s162.deep := Int.le_of_eq hp162.eqs.2.1.symm
  have hdd164 : s162.deep ≤ 60 := hR163.d1
  refine LX.nextM [] (by kernel_rfl) (fun h => absurd rfl h) <| MX.lift0 (i := 9) rfl (Y.assign rfl) rfl rfl rfl <| MX.sub (l' := [(4, _)]) ⟨rfl, trivial⟩ <| MX.done <| PX.thenN <| CX.ret <| PX.ret1 (by simp) Try.results40 rfl ?_
  exact fun w hw => ⟨(r162, s162, m162), rfl, ⟨as_, hR163.wk dc dc, hn162⟩, hw.ct⟩
end Go.Proofs.Yteibddakpedogaa
