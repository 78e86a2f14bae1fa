/-
  Proved here: the document's parser: what a For goes over with.
-/
import Derived.Test.YteibddakpedogaaAsG
set_option linter.unusedSimpArgs false
namespace Go.Proofs.Yteibddakpedogaa
open Go.SX Go.RowKit Go.Tr Go.As Go.Ck
namespace Ph
theorem en49 : Enters Try.prog 49 := Enters.of Try.func49 (by kernel_rfl) (by kernel_rfl)
theorem en57 : Enters Try.prog 57 := Enters.of Try.func57 (by kernel_rfl) (by kernel_rfl)
end Ph
open Go.Pa (Tk)
theorem several_c {w0 : World} {base : Nat} {bp : Nat} {al : Option Addr} {cl : Nat} {L : List Go.Pa.Tk} (hL : SlAt 3 tokA (Lies w0 base) al L) (hK : Tok6 L) {N : Nat} (h_target : (∀ (s : RS) (m : Mm) (fr : List It), Sk L.length s → NdsR 3 m.rs m.cells s.ns → L.length - s.at_ ≤ N → PF 57 [.pointer (some ⟨bp, 0, none⟩)] w0 base bp al cl L s m fr))  : (∀ (s : RS) (m : Mm) (fr : List It), Sk L.length s → NdsR 3 m.rs m.cells s.ns → L.length - s.at_ ≤ N → PL 49 [.pointer (some ⟨bp, 0, none⟩)] [] (fun v b => .tuple #[v, .bool b]) (fun b l => b = false → ∃ x, l = [x]) 1 w0 base bp al cl L s m fr) := by
  intro s m fr hs hn hN
  have hR := Rn.refl hs
  have hle : s.at_ ≤ s.at_ := Nat.le_refl _
  have hd0 := hs.d0
  have hd1 := hs.d1
  have hlt := hs.lt
  have hln0 := hK.len
  have hN0 : 0 < N := by omega
  refine FnC.of_body (fn := Try.f49) [(0, _)] Try.func49 rfl Try.ntmps49 rfl ⟨rfl, trivial⟩ ?_
  refine CX.sr <| LX.ms 2 rfl <| LX.su [0, 2, 3] rfl <| LX.nt <| CX.sr <| LX.mv rfl ?_
  have hk1 : Sk L.length s := hs.next hR dc
  refine LX.call (h_target s m fr hk1 hn (by show L.length - s.at_ ≤ N; omega)) Ph.en57 rfl rfl rfl rfl rfl ?_
  rintro ⟨r1, s1, m1⟩
  refine LX.have fun ⟨hri1, hr1, hn1⟩ => ?_
  try dsimp only at hri1 hr1 hn1 ⊢
  have hR2 : Rn L.length s s1 ([r1]) 1 (0) := hR.trans hr1
  have hch3 : s.at_ ≤ s1.at_ := hr1.le
  have hle3 : s.at_ ≤ s1.at_ := by omega
  have hlt3 : s1.at_ < L.length := hR2.lt
  have hde3 : s.deep ≤ s1.deep := hr1.d0
  have hdd3 : s1.deep ≤ 60 := hR2.d1
  have hav1 : s1.code = 0 → s.at_ + 1 ≤ s1.at_ := hr1.adv
  refine LX.buildSlice (e := 3) (size := 1) rfl rfl (fun _ => by kernel_rfl) rfl dc rfl rfl rfl ?_
  intro gt4
  refine LX.wq (Ri (some gt4) 1 ([r1]) :: PWl bp al L cl s1 m1 fr) rfl <| LX.mv rfl ?_
  refine LX.wp (PWl bp al L cl s1 m1 (Ri (some gt4) 1 ([r1]) :: fr)) ?_
  refine LX.su [0, 2, 3, 4] rfl <| LX.nt <| CX.sr <| LX.mv rfl <| LX.su [0, 2, 3, 4, 5] rfl <| LX.nt <| CX.seq <| CX.block ?_
  refine CX.loop (fun z : (List Int × Option Nat × Nat) × (Bool) × RS × Mm => [(0, .pointer (some ⟨bp, 0, none⟩)), (4, rv z.1.2.1 (z.1.1).length z.1.2.2), (5, .bool z.2.1)]) (fun (z : (List Int × Option Nat × Nat) × (Bool) × RS × Mm) w => (AllI z.1.1 ∧ (z.1.1).length + 2 * s.at_ ≤ 2 * z.2.2.1.at_ + 1 ∧ s1.at_ ≤ z.2.2.1.at_ ∧ s1.deep ≤ z.2.2.1.deep ∧ Rn L.length s z.2.2.1 z.1.1 1 (0) ∧ NdsR 3 z.2.2.2.rs z.2.2.2.cells z.2.2.1.ns ∧ ((z.2.1 = false → ∃ x, z.1.1 = [x]) ∧ (z.2.1 = true → z.2.2.1.code = 0 → (z.2.2.1.ns.length : Int) + 2 * s.at_ + 1 ≤ s.ns.length + 2 * z.2.2.1.at_))) ∧ WA w0 base (PWl bp al L cl z.2.2.1 z.2.2.2 (Ri z.1.2.1 z.1.2.2 (z.1.1) :: fr)) w) (fun z : (List Int × Option Nat × Nat) × (Bool) × RS × Mm => L.length - z.2.2.1.at_) (([r1], (some gt4), 1), false, s1, m1) ⟨rfl, (by rfl), rfl, trivial⟩ (fun w hw => ⟨⟨(AllI.cons as_ AllI.nil), (by show List.length _ + 2 * s.at_ ≤ 2 * s1.at_ + 1; (try simp only [List.length_cons, List.length_nil, List.length_append]); omega), Nat.le_refl _, Int.le_refl _, (hR2.wk dc dc).re pm, hn1, ⟨(by exact (fun _ => ⟨_, rfl⟩)), (by (intro h9; cases h9; done))⟩⟩, (hw.perm pm)⟩) ?_
  rintro ⟨⟨l5_0, g5_0, c5_0⟩, v5_1, s5, m5⟩
  refine CX.have fun ⟨hla5_0, hll5_0, hlo5, hld5, hR5, hn5, hbz5⟩ => ?_
  try dsimp only at hla5_0 hll5_0 hlo5 hld5 hR5 hn5 hbz5 ⊢
  have hbza5 := hbz5.1
  have hbzb5 := hbz5.2
  have hle5 : s.at_ ≤ s5.at_ := by omega
  have hlt5 : s5.at_ < L.length := hR5.lt
  have hde5 := hR5.d0
  have hdd5 := hR5.d1
  refine CX.seq <| CX.sr ?_
  obtain ⟨t6, ht6⟩ : ∃ t, L[s5.at_]? = some t := ⟨_, List.getElem?_eq_getElem (show s5.at_ < L.length from hR5.lt)⟩
  have htk6 := (tok_in hL ht6).1
  have htp6 := (tok_in hL ht6).2
  refine LX.mv rfl <| LX.callQ (show FnQ Try.prog 12 #[.pointer (some ⟨bp, 0, none⟩)] _ (.bool (decide (s5.code ≠ 0))) from bad_q (s := s5) (m := m5) (fun w hw => blkL hw (i := 0) rfl)) Pb.en12 rfl rfl rfl rfl rfl <| LX.p (Y.not rfl) rfl <| LX.mv rfl <| LX.su [0, 4, 5, 12] rfl ?_
  apply LX.joinAnd 3 15 12 rfl
  · intro hb1
    refine LX.gT rfl rfl rfl hb1 (Y.move rfl) rfl rfl <| LX.callQT rfl rfl rfl hb1 (is_q (s := s5) (m := m5) ht6 ([44] : List UInt8) (fun w hw => blkL hw (i := 0) rfl) (fun w hw => hL.push hw)) Pb.en32 rfl rfl rfl rfl <| LX.p (Y.pickT rfl hb1 rfl) rfl ?_
    exact LX.left ⟨rfl, rfl, rfl, rfl, rfl, trivial⟩
  · intro hb1
    refine LX.gF rfl rfl rfl hb1 rfl rfl <| LX.gF rfl rfl rfl hb1 rfl rfl <| LX.p (Y.pickF rfl hb1 rfl) rfl ?_
    exact LX.left ⟨rfl, rfl, rfl, rfl, rfl, trivial⟩
  refine LX.su [0, 4, 5, 15] rfl <| LX.nt ?_
  refine CX.cond rfl (fun hb2 => ?_) (fun hb2 => ?_)
  · try simp at hb2
    refine CX.skip <| PX.thenN <| CX.block <| CX.sr ?_
    have hgo7 : s5.at_ + 1 < L.length := by exact hK.fin _ t6 ht6 (by (intro h8; simp_all [isS]; done))
    have hln7 := hK.len
    refine LX.ms 3 rfl <| LX.p (Y.fieldAddr0 Pa.fo42_1 rfl) rfl <| LX.p (Y.ldB 0 Pa.one3 rfl rfl rfl) rfl <| LX.p (Y.addN rfl rfl (by (simp only []; omega))) rfl <| LX.mv rfl <| LX.p (Y.fieldAddr0 Pa.fo42_1 rfl) rfl <| LX.storeB 0 Pb.sz3 rfl rfl rfl rfl rfl rfl rfl rfl <| LX.wq (PWl bp al L cl (RS.go s5 1) m5 (Ri g5_0 c5_0 l5_0 :: fr)) rfl ?_
    have hR8 : Rn L.length s (RS.go s5 1) (l5_0) 2 (-2) := hR5.go hgo7
    have hle9 : s.at_ < (s5.at_ + 1) := by have h9 : s.at_ ≤ s5.at_ := hR5.le; omega
    have hlt9 : (s5.at_ + 1) < L.length := hgo7
    refine LX.su [0, 4, 5] rfl <| LX.nt <| CX.sr <| LX.mv rfl <| LX.su [0, 4, 5] rfl <| LX.nt <| CX.seq <| CX.sr ?_
    obtain ⟨t10, ht10⟩ : ∃ t, L[(s5.at_ + 1)]? = some t := ⟨_, List.getElem?_eq_getElem (show (s5.at_ + 1) < L.length from hR8.lt)⟩
    have htk10 := (tok_in hL ht10).1
    have htp10 := (tok_in hL ht10).2
    refine LX.mv rfl <| LX.callQ (now_q (s := (RS.go s5 1)) (m := m5) ht10 (fun w hw => blkL hw (i := 0) rfl) (fun w hw => hL.push hw)) Pa.en13 rfl rfl rfl rfl rfl <| LX.p (Y.field (v := .int .i64 t10.kind) rfl (fun _ => by kernel_rfl)) rfl <| LX.p (Y.neI rfl rfl) rfl <| LX.mv rfl <| LX.su [0, 4, 5, 28] rfl ?_
    apply LX.joinAnd 4 32 28 rfl
    · intro hb3
      refine LX.gT rfl rfl rfl hb3 (Y.move rfl) rfl rfl <| LX.callQT rfl rfl rfl hb3 (is_q (s := (RS.go s5 1)) (m := m5) ht10 ([40] : List UInt8) (fun w hw => blkL hw (i := 0) rfl) (fun w hw => hL.push hw)) Pb.en32 rfl rfl rfl rfl <| LX.gT rfl rfl rfl hb3 (Y.not rfl) rfl rfl <| LX.p (Y.pickT rfl hb3 rfl) rfl ?_
      exact LX.left ⟨rfl, rfl, rfl, rfl, rfl, trivial⟩
    · intro hb3
      refine LX.gF rfl rfl rfl hb3 rfl rfl <| LX.gF rfl rfl rfl hb3 rfl rfl <| LX.gF rfl rfl rfl hb3 rfl rfl <| LX.p (Y.pickF rfl hb3 rfl) rfl ?_
      exact LX.left ⟨rfl, rfl, rfl, rfl, rfl, trivial⟩
    refine LX.su [0, 4, 5, 32] rfl <| LX.nt ?_
    refine CX.cond rfl (fun hb4 => ?_) (fun hb4 => ?_)
    · try simp at hb4
      refine CX.exit <| PX.thenE <| PX.blockO rfl <| PX.thenE <| PX.blockE <| PX.thenN <| CX.sr <| LX.ms 4 rfl <| LX.su [2, 3] rfl <| LX.nt <| CX.ret <| PX.ret2 (by simp) Try.results49 rfl rfl ?_
      exact fun w hw => ⟨(l5_0, g5_0, c5_0, true, (RS.go s5 1), m5), rfl, ⟨hla5_0, (by show List.length _ + 2 * s.at_ ≤ 2 * (s5.at_ + 1) + 2; (try simp only [List.length_cons, List.length_nil, List.length_append]); omega), (by (intro h9; cases h9; done)), (by (intro _ h0; have h1 : ((s5.ns).length : Int) + 2 * s.at_ ≤ s.ns.length + 2 * (((s5.at_ + 1) : Nat) : Int) + (-2) := hR8.few h0; show ((s5.ns).length : Int) + 2 * s.at_ + 1 ≤ s.ns.length + 2 * (((s5.at_ + 1) : Nat) : Int); omega)), (hR8.wk dc dc).re pm, hn5⟩, (hw.perm pm)⟩
    try simp at hb4
    refine CX.skip <| PX.thenN <| CX.region <| LX.ms 2 rfl ?_
    have hk11 : Sk L.length (RS.go s5 1) := hs.next hR8 dc
    refine LX.call (h_target (RS.go s5 1) m5 (Ri g5_0 c5_0 l5_0 :: fr) hk11 hn5 (by show L.length - (s5.at_ + 1) ≤ N; omega)) Ph.en57 rfl rfl rfl rfl rfl ?_
    rintro ⟨r11, s11, m11⟩
    refine LX.have fun ⟨hri11, hr11, hn11⟩ => ?_
    try dsimp only at hri11 hr11 hn11 ⊢
    have hR12 : Rn L.length s s11 (l5_0 ++ [r11]) 3 (-2) := hR8.trans hr11
    have hch13 : (s5.at_ + 1) ≤ s11.at_ := hr11.le
    have hle13 : s.at_ < s11.at_ := by omega
    have hlt13 : s11.at_ < L.length := hR12.lt
    have hde13 : s5.deep ≤ s11.deep := hr11.d0
    have hdd13 : s11.deep ≤ 60 := hR12.d1
    have hav11 : s11.code = 0 → (s5.at_ + 1) + 1 ≤ s11.at_ := hr11.adv
    refine LX.buildSlice (e := 3) (size := 1) rfl rfl (fun _ => by kernel_rfl) rfl dc rfl rfl rfl ?_
    intro gt14
    refine LX.wq (Ri (some gt14) 1 ([r11]) :: PWl bp al L cl s11 m11 (Ri g5_0 c5_0 l5_0 :: fr)) rfl ?_
    refine LX.wp (Ri (some gt14) 1 ([r11]) :: Ri g5_0 c5_0 l5_0 :: PWl bp al L cl s11 m11 fr) ?_
    refine LX.appendT 0 (g := g5_0) (k := (l5_0).length) Pe.el29 rfl rfl rfl rfl rfl rfl rfl lo lo rfl rfl rfl ?_
    intro ga15 ca15
    refine LX.wa (Ri ga15 ca15 (l5_0 ++ [r11]) :: PWl bp al L cl s11 m11 fr) <| LX.sub (l' := [(0, _), (4, _), (5, _), (32, _), (33, _), (34, _), (35, _), (36, _), (37, rv ga15 ((l5_0 ++ [r11])).length ca15)]) ⟨rfl, rfl, rfl, rfl, rfl, rfl, rfl, rfl, (by (show some (rv _ _ _) = some (rv _ _ _); simp only [List.length_cons, List.length_append, List.length_nil] <;> rfl)), trivial⟩ <| LX.mv rfl ?_
    refine LX.wp (PWl bp al L cl s11 m11 (Ri ga15 ca15 (l5_0 ++ [r11]) :: fr)) ?_
    refine LX.su [0, 4, 5] rfl <| LX.next <| PX.blockN ?_
    exact PX.again (i := ((l5_0, g5_0, c5_0), v5_1, s5, m5)) (((l5_0 ++ [r11]), ga15, ca15), true, s11, m11) (by show L.length - s11.at_ < L.length - s5.at_; omega) ⟨rfl, (by rfl), rfl, trivial⟩ (fun w hw => ⟨⟨(AllI.app hla5_0 (AllI.cons as_ AllI.nil)), (by show List.length _ + 2 * s.at_ ≤ 2 * s11.at_ + 1; (try simp only [List.length_cons, List.length_nil, List.length_append]); omega), (by show s1.at_ ≤ s11.at_; omega), (by show s1.deep ≤ s11.deep; omega), (hR12.wk dc dc).re pm, hn11, ⟨(by (intro h9; cases h9; done)), (by (intro _ h0; have h1 : ((s11.ns).length : Int) + 2 * s.at_ ≤ s.ns.length + 2 * ((s11.at_ : Nat) : Int) + (-2) := hR12.few h0; show ((s11.ns).length : Int) + 2 * s.at_ + 1 ≤ s.ns.length + 2 * ((s11.at_ : Nat) : Int); omega))⟩⟩, (hw.perm pm)⟩)
  try simp at hb2
  refine CX.exit <| PX.thenE <| PX.thenE <| PX.blockE <| PX.thenN <| CX.sr <| LX.ms 4 rfl <| LX.su [2, 3] rfl <| LX.nt <| CX.ret <| PX.ret2 (by simp) Try.results49 rfl rfl ?_
  exact fun w hw => ⟨(l5_0, g5_0, c5_0, v5_1, s5, m5), rfl, ⟨hla5_0, (by show List.length _ + 2 * s.at_ ≤ 2 * s5.at_ + 2; (try simp only [List.length_cons, List.length_nil, List.length_append]); omega), as_, as_, (hR5.wk dc dc).re pm, hn5⟩, (hw.perm pm)⟩
theorem target_c {w0 : World} {base : Nat} {bp : Nat} {al : Option Addr} {cl : Nat} {L : List Go.Pa.Tk} (hL : SlAt 3 tokA (Lies w0 base) al L) (hK : Tok6 L) {N : Nat} (ih_target : (∀ (s : RS) (m : Mm) (fr : List It), Sk L.length s → NdsR 3 m.rs m.cells s.ns → L.length - s.at_ < N → PF 57 [.pointer (some ⟨bp, 0, none⟩)] w0 base bp al cl L s m fr)) (h_primary : (∀ (s : RS) (m : Mm) (fr : List It), Sk L.length s → NdsR 3 m.rs m.cells s.ns → L.length - s.at_ ≤ N → PF 60 [.pointer (some ⟨bp, 0, none⟩)] w0 base bp al cl L s m fr))  : (∀ (s : RS) (m : Mm) (fr : List It), Sk L.length s → NdsR 3 m.rs m.cells s.ns → L.length - s.at_ ≤ N → PF 57 [.pointer (some ⟨bp, 0, none⟩)] w0 base bp al cl L s m fr) := by
  intro s m fr hs hn hN
  have hR := Rn.refl hs
  have hle : s.at_ ≤ s.at_ := Nat.le_refl _
  have hd0 := hs.d0
  have hd1 := hs.d1
  have hlt := hs.lt
  have hln0 := hK.len
  have hN0 : 0 < N := by omega
  refine FnC.of_body (fn := Try.f57) [(0, _)] Try.func57 rfl Try.ntmps57 rfl ⟨rfl, trivial⟩ ?_
  refine CX.sr <| LX.mv rfl <| LX.su [0, 2] rfl <| LX.nt <| CX.seq <| CX.sr <| LX.mv rfl <| LX.callQ (show FnQ Try.prog 12 #[.pointer (some ⟨bp, 0, none⟩)] _ (.bool (decide (s.code ≠ 0))) from bad_q (s := s) (m := m) (fun w hw => blkL hw (i := 0) rfl)) Pb.en12 rfl rfl rfl rfl rfl <| LX.su [0, 2, 8] rfl <| LX.nt ?_
  refine CX.cond rfl (fun hb1 => ?_) (fun hb1 => ?_)
  · try simp at hb1
    refine CX.sr <| LX.mv rfl <| LX.su [0, 2] rfl <| LX.nt <| CX.ret <| PX.thenR <| PX.ret1 (by simp) Try.results57 rfl ?_
    exact fun w hw => ⟨((-1), s, m), rfl, ⟨(by (unfold inI; omega)), hR.no as_, hn⟩, hw⟩
  try simp at hb1
  refine CX.skip <| PX.thenN <| CX.sr ?_
  obtain ⟨t1, ht1⟩ : ∃ t, L[s.at_]? = some t := ⟨_, List.getElem?_eq_getElem (show s.at_ < L.length from hR.lt)⟩
  have htk1 := (tok_in hL ht1).1
  have htp1 := (tok_in hL ht1).2
  refine LX.mv rfl <| LX.callQ (now_q (s := s) (m := m) ht1 (fun w hw => blkL hw (i := 0) rfl) (fun w hw => hL.push hw)) Pa.en13 rfl rfl rfl rfl rfl <| LX.p (Y.field (v := .int .i64 t1.pos) rfl (fun _ => by kernel_rfl)) rfl <| LX.mv rfl <| LX.su [0, 2, 3] rfl <| LX.nt <| CX.seq <| CX.sr <| LX.mv rfl <| LX.callQ (is_q (s := s) (m := m) ht1 ([40] : List UInt8) (fun w hw => blkL hw (i := 0) rfl) (fun w hw => hL.push hw)) Pb.en32 rfl rfl rfl rfl rfl <| LX.su [0, 2, 3, 13] rfl <| LX.nt ?_
  refine CX.cond rfl (fun hb2 => ?_) (fun hb2 => ?_)
  · try simp at hb2
    refine CX.seq <| CX.sr <| LX.ms 2 rfl ?_
    have hd02 : 0 ≤ s.deep := by have h9 := hs.d0; have h8 : s.deep ≤ s.deep := hR.d0; omega
    refine LX.call (enter_c (fr := fr) s m hd02 t1.pos) Pd.en48 rfl rfl rfl rfl rfl ?_
    rintro ⟨b2, s2⟩
    refine LX.have fun he2 => ?_
    try dsimp only at he2 ⊢
    have hn2 : NdsR 3 m.rs m.cells s2.ns := by rw [he2.ns]; exact hn
    refine LX.p (Y.not rfl) rfl <| LX.su [0, 2, 3, 17] rfl <| LX.nt ?_
    refine CX.cond rfl (fun hb3 => ?_) (fun hb3 => ?_)
    · try simp at hb3
      have hb902 := he2.f (by exact hb3)
      have hbc2 := hb902.code
      have hR3 : Rn L.length s s2 ([] : List Int) 0 (0) := hR.bad2 hb902
      have hch902 : s.at_ ≤ s2.at_ := Nat.le_of_eq hb902.at_.symm
      refine CX.sr <| LX.mv rfl <| LX.su [0, 2, 3] rfl <| LX.nt <| CX.ret <| PX.thenR <| PX.thenR <| PX.ret1 (by simp) Try.results57 rfl ?_
      exact fun w hw => ⟨((-1), s2, m), rfl, ⟨(by (unfold inI; omega)), hR3.no as_, hn2⟩, hw⟩
    try simp at hb3
    obtain ⟨hc2, hdl2, hq2⟩ := he2.t (by exact hb3)
    subst hq2
    have hR4 : Rn L.length s (RS.dp s (s.deep + 1)) ([] : List Int) 0 (0) := hR.up hdl2
    refine CX.skip <| PX.thenN <| CX.sr ?_
    have hgo5 : s.at_ + 1 < L.length := by exact hK.fin _ t1 ht1 (by (intro h8; simp_all [isS]; done))
    have hln5 := hK.len
    refine LX.ms 3 rfl <| LX.p (Y.fieldAddr0 Pa.fo42_1 rfl) rfl <| LX.p (Y.ldB 0 Pa.one3 rfl rfl rfl) rfl <| LX.p (Y.addN rfl rfl (by (simp only []; omega))) rfl <| LX.mv rfl <| LX.p (Y.fieldAddr0 Pa.fo42_1 rfl) rfl <| LX.storeB 0 Pb.sz3 rfl rfl rfl rfl rfl rfl rfl rfl <| LX.wq (PWl bp al L cl (RS.go (RS.dp s (s.deep + 1)) 1) m fr) rfl ?_
    have hR6 : Rn L.length s (RS.go (RS.dp s (s.deep + 1)) 1) ([] : List Int) 1 (-2) := hR4.go hgo5
    have hle7 : s.at_ < (s.at_ + 1) := by have h9 : s.at_ ≤ s.at_ := hR4.le; omega
    have hlt7 : (s.at_ + 1) < L.length := hgo5
    refine LX.su [0, 2, 3] rfl <| LX.nt <| CX.sr <| LX.mv rfl ?_
    have hk8 : Sk L.length (RS.go (RS.dp s (s.deep + 1)) 1) := hs.next hR6 dc
    refine LX.call (several_c (N := N - 1) hL hK (fun s m fr a b c => ih_target s m fr a b (by omega)) (RS.go (RS.dp s (s.deep + 1)) 1) m fr hk8 hn2 (by show L.length - (s.at_ + 1) ≤ N - 1; omega)) Ph.en49 rfl rfl rfl rfl rfl ?_
    rintro ⟨l8, g8, c8, b8, s8, m8⟩
    refine LX.have fun ⟨hla8, hll8, hbl8, hbk8, hr8, hn8⟩ => ?_
    try dsimp only at hla8 hll8 hbl8 hbk8 hr8 hn8 ⊢
    have hR9 : Rn L.length s s8 (l8) 2 (-2) := (hR6.trans hr8).re pm
    have hch10 : (s.at_ + 1) ≤ s8.at_ := hr8.le
    have hle10 : s.at_ < s8.at_ := by omega
    have hlt10 : s8.at_ < L.length := hR9.lt
    have hde10 : (s.deep + 1) ≤ s8.deep := hr8.d0
    have hdd10 : s8.deep ≤ 60 := hR9.d1
    refine LX.wq (Ri g8 c8 l8 :: PWl bp al L cl s8 m8 fr) rfl ?_
    rcases b8 with _ | _
    ·
      obtain ⟨x8, rfl⟩ : ∃ x, l8 = [x] := hbl8 rfl
      have hri8 : inI x8 := hla8 _ (List.mem_singleton.2 rfl)
      refine LX.wq (Ri g8 c8 ([x8]) :: PWl bp al L cl s8 m8 fr) rfl ?_
      have hR11 : Rn L.length s s8 ([x8]) 2 (-2) := hR9
      refine LX.mv rfl <| LX.p (Y.extract rfl rfl) rfl <| LX.p (Y.extract rfl rfl) rfl <| LX.ms 2 rfl ?_
      refine LX.wp (PWl bp al L cl s8 m8 (Ri g8 c8 ([x8]) :: fr)) ?_
      refine LX.su [0, 2, 3, 4, 5] rfl <| LX.nt <| CX.sr ?_
      obtain ⟨t12, ht12⟩ : ∃ t, L[s8.at_]? = some t := ⟨_, List.getElem?_eq_getElem (show s8.at_ < L.length from hR11.lt)⟩
      have htk12 := (tok_in hL ht12).1
      have htp12 := (tok_in hL ht12).2
      refine LX.mv rfl <| LX.call (want_c (fr := (Ri g8 c8 ([x8]) :: fr)) s8 m8 hL hK ht12 ([41] : List UInt8)) Pd.en35 rfl rfl rfl rfl rfl ?_
      rintro ⟨b13, s13⟩
      refine LX.have fun hw13 => ?_
      try dsimp only at hw13 ⊢
      have hn13 : NdsR 3 m8.rs m8.cells s13.ns := by rw [hw13.ns]; exact hn8
      have hR14 : Rn L.length s s13 ([x8]) 3 (-4) := hR11.want hw13
      have hch15 : s8.at_ ≤ s13.at_ := hw13.le
      have hle15 : s.at_ < s13.at_ := by omega
      have hlt15 : s13.at_ < L.length := hR14.lt
      have hde15 : s8.deep ≤ s13.deep := Int.le_of_eq hw13.deep.symm
      have hdd15 : s13.deep ≤ 60 := hR14.d1
      refine LX.su [0, 2, 3, 4, 5] rfl <| LX.nt <| CX.sr <| LX.ms 3 rfl <| LX.p (Y.fieldAddr0 Pb.fo42_3 rfl) rfl <| LX.p (Y.ldB 0 Pa.one3 rfl rfl rfl) rfl <| LX.p (Y.sub rfl rfl (by omega)) rfl <| LX.mv rfl <| LX.p (Y.fieldAddr0 Pb.fo42_3 rfl) rfl <| LX.storeB 0 Pb.sz3 rfl rfl rfl rfl rfl rfl rfl rfl <| LX.wq (PWl bp al L cl (RS.dp s13 (s13.deep - 1)) m8 (Ri g8 c8 ([x8]) :: fr)) rfl ?_
      have hR16 : Rn L.length s (RS.dp s13 (s13.deep - 1)) ([x8]) 3 (-4) := hR14.down (by show s.deep + 1 ≤ s13.deep; omega)
      refine LX.su [0, 2, 3, 4, 5] rfl <| LX.nt <| CX.seq <| CX.sr <| LX.mv rfl <| LX.p (Y.not rfl) rfl <| LX.su [0, 2, 3, 4, 42] rfl <| LX.nt ?_
      refine CX.cond rfl (fun hb4 => ?_) (fun hb4 => ?_)
      · try simp at hb4
        refine CX.sr <| LX.mv rfl ?_
        refine LX.wp (Ri g8 c8 ([x8]) :: PWl bp al L cl (RS.dp s13 (s13.deep - 1)) m8 fr) ?_
        refine LX.p (Y.idxR 0 (i := 0) Pc.un29 Pb.sz3 rfl rfl rfl (by simp)) rfl <| LX.p (Y.ldR 0 (v := .int .i64 x8) Pa.one3 rfl rfl rfl) rfl <| LX.mv rfl ?_
        refine LX.wp (PWl bp al L cl (RS.dp s13 (s13.deep - 1)) m8 (Ri g8 c8 ([x8]) :: fr)) ?_
        refine LX.su [0, 2, 3, 4] rfl <| LX.nt <| CX.ret <| PX.thenR <| PX.thenR <| PX.ret1 (by simp) Try.results57 rfl ?_
        exact fun w hw => ⟨(x8, (RS.dp s13 (s13.deep - 1)), m8), rfl, ⟨as_, hR16.wk dc dc, hn13⟩, hw.ct⟩
      try simp at hb4
      done
    have hR17 : Rn L.length s s8 (l8) 2 (-3) := hR9.kk (fun h0 => by have h1 := hR6.few (hr8.bad h0); have h2 := hbk8 rfl h0; show ((s8.ns.length : Nat) : Int) + 2 * s.at_ ≤ s.ns.length + 2 * s8.at_ + (-3); omega)
    refine LX.mv rfl <| LX.p (Y.extract rfl rfl) rfl <| LX.p (Y.extract rfl rfl) rfl <| LX.ms 2 rfl ?_
    refine LX.wp (PWl bp al L cl s8 m8 (Ri g8 c8 l8 :: fr)) ?_
    refine LX.su [0, 2, 3, 4, 5] rfl <| LX.nt <| CX.sr ?_
    obtain ⟨t18, ht18⟩ : ∃ t, L[s8.at_]? = some t := ⟨_, List.getElem?_eq_getElem (show s8.at_ < L.length from hR17.lt)⟩
    have htk18 := (tok_in hL ht18).1
    have htp18 := (tok_in hL ht18).2
    refine LX.mv rfl <| LX.call (want_c (fr := (Ri g8 c8 l8 :: fr)) s8 m8 hL hK ht18 ([41] : List UInt8)) Pd.en35 rfl rfl rfl rfl rfl ?_
    rintro ⟨b19, s19⟩
    refine LX.have fun hw19 => ?_
    try dsimp only at hw19 ⊢
    have hn19 : NdsR 3 m8.rs m8.cells s19.ns := by rw [hw19.ns]; exact hn8
    have hR20 : Rn L.length s s19 (l8) 3 (-5) := hR17.want hw19
    have hch21 : s8.at_ ≤ s19.at_ := hw19.le
    have hle21 : s.at_ < s19.at_ := by omega
    have hlt21 : s19.at_ < L.length := hR20.lt
    have hde21 : s8.deep ≤ s19.deep := Int.le_of_eq hw19.deep.symm
    have hdd21 : s19.deep ≤ 60 := hR20.d1
    refine LX.su [0, 2, 3, 4, 5] rfl <| LX.nt <| CX.sr <| LX.ms 3 rfl <| LX.p (Y.fieldAddr0 Pb.fo42_3 rfl) rfl <| LX.p (Y.ldB 0 Pa.one3 rfl rfl rfl) rfl <| LX.p (Y.sub rfl rfl (by omega)) rfl <| LX.mv rfl <| LX.p (Y.fieldAddr0 Pb.fo42_3 rfl) rfl <| LX.storeB 0 Pb.sz3 rfl rfl rfl rfl rfl rfl rfl rfl <| LX.wq (PWl bp al L cl (RS.dp s19 (s19.deep - 1)) m8 (Ri g8 c8 l8 :: fr)) rfl ?_
    have hR22 : Rn L.length s (RS.dp s19 (s19.deep - 1)) (l8) 3 (-5) := hR20.down (by show s.deep + 1 ≤ s19.deep; omega)
    refine LX.su [0, 2, 3, 4, 5] rfl <| LX.nt <| CX.seq <| CX.sr <| LX.mv rfl <| LX.p (Y.not rfl) rfl <| LX.su [0, 2, 3, 4, 42] rfl <| LX.nt ?_
    refine CX.cond rfl (fun hb5 => ?_) (fun hb5 => ?_)
    · try simp at hb5
      done
    try simp at hb5
    refine CX.skip <| PX.thenN <| CX.sr <| LX.ms 3 rfl ?_
    refine LX.wp (Ri g8 c8 l8 :: PWl bp al L cl (RS.dp s19 (s19.deep - 1)) m8 fr) ?_
    refine LX.call (put_c (fr := fr) (g := g8) (c := c8) (ks := l8) (op := 8) (pos := t1.pos) (x := ([] : List UInt8)) (RS.dp s19 (s19.deep - 1)) m8 hn19 (fun h0 => by have h1 : ((s19.ns).length : Int) + 2 * s.at_ ≤ s.ns.length + 2 * ((s19.at_ : Nat) : Int) + (-5) := hR22.few h0; have h2 := hs.few (hR22.bad h0); have h3 := hK.len; have h4 : s19.at_ < L.length := hR22.lt; show (s19.ns).length ≤ 1000000; omega) (by omega) (hla8) (by (unfold inI; omega)) as_) Pd.en16 rfl rfl rfl rfl rfl ?_
    rintro ⟨r23, s23, m23⟩
    refine LX.have fun ⟨hri23, hp23, hn23⟩ => ?_
    try dsimp only at hri23 hp23 hn23 ⊢
    have hR24 : Rn L.length s s23 ([r23]) 3 (-4) := hR22.put (us := ([] : List Int)) (ks := l8) hp23 pm
    have hch25 : s19.at_ ≤ s23.at_ := Nat.le_of_eq hp23.eqs.1.symm
    have hle25 : s.at_ < s23.at_ := by omega
    have hlt25 : s23.at_ < L.length := hR24.lt
    have hde25 : (s19.deep - 1) ≤ s23.deep := Int.le_of_eq hp23.eqs.2.1.symm
    have hdd25 : s23.deep ≤ 60 := hR24.d1
    refine LX.mv rfl <| LX.su [0, 2, 3] rfl <| LX.nt <| CX.ret <| PX.thenR <| PX.ret1 (by simp) Try.results57 rfl ?_
    exact fun w hw => ⟨(r23, s23, m23), rfl, ⟨as_, hR24.wk dc dc, hn23⟩, hw⟩
  try simp at hb2
  refine CX.skip <| PX.thenN <| CX.seq <| CX.sr <| LX.mv rfl <| LX.callQ (now_q (s := s) (m := m) ht1 (fun w hw => blkL hw (i := 0) rfl) (fun w hw => hL.push hw)) Pa.en13 rfl rfl rfl rfl rfl <| LX.p (Y.field (v := .int .i64 t1.kind) rfl (fun _ => by kernel_rfl)) rfl <| LX.p (Y.neI rfl rfl) rfl <| LX.su [0, 2, 3, 53] rfl <| LX.nt ?_
  refine CX.cond rfl (fun hb6 => ?_) (fun hb6 => ?_)
  · try simp at hb6
    refine CX.sr <| LX.mv rfl <| LX.call (wrong_c (fr := fr) s m hL ht1) Pb.en37 rfl rfl rfl rfl rfl ?_
    intro s26
    refine LX.have fun hf26 => ?_
    have hb926 : Bad s s26 := FailR.bad hf26 dc
    have hbc26 := hb926.code
    have hn26 : NdsR 3 m.rs m.cells s26.ns := by rw [hb926.ns]; exact hn
    have hR27 : Rn L.length s s26 ([] : List Int) 0 (0) := hR.bad2 hb926
    have hch28 : s.at_ ≤ s26.at_ := Nat.le_of_eq hb926.at_.symm
    have hle28 : s.at_ ≤ s26.at_ := by omega
    have hlt28 : s26.at_ < L.length := hR27.lt
    have hde28 : s.deep ≤ s26.deep := Int.le_of_eq hb926.deep.symm
    have hdd28 : s26.deep ≤ 60 := hR27.d1
    refine LX.mv rfl <| LX.su [0, 2, 3] rfl <| LX.nt <| CX.ret <| PX.thenR <| PX.ret1 (by simp) Try.results57 rfl ?_
    exact fun w hw => ⟨((-1), s26, m), rfl, ⟨(by (unfold inI; omega)), hR27.no as_, hn26⟩, hw⟩
  try simp at hb6
  refine CX.skip <| PX.thenN <| CX.sr <| LX.mv rfl ?_
  have hk29 : Sk L.length s := hs.next hR dc
  refine LX.call (h_primary s m fr hk29 hn (by show L.length - s.at_ ≤ N; omega)) Pd.en60 rfl rfl rfl rfl rfl ?_
  rintro ⟨r29, s29, m29⟩
  refine LX.have fun ⟨hri29, hr29, hn29⟩ => ?_
  try dsimp only at hri29 hr29 hn29 ⊢
  have hR30 : Rn L.length s s29 ([r29]) 1 (0) := hR.trans hr29
  have hch31 : s.at_ ≤ s29.at_ := hr29.le
  have hle31 : s.at_ ≤ s29.at_ := by omega
  have hlt31 : s29.at_ < L.length := hR30.lt
  have hde31 : s.deep ≤ s29.deep := hr29.d0
  have hdd31 : s29.deep ≤ 60 := hR30.d1
  have hav29 : s29.code = 0 → s.at_ + 1 ≤ s29.at_ := hr29.adv
  refine LX.mv rfl <| LX.su [0, 2, 3, 6] rfl <| LX.nt <| CX.seq <| CX.sr <| LX.mv rfl <| LX.callQ (show FnQ Try.prog 12 #[.pointer (some ⟨bp, 0, none⟩)] _ (.bool (decide (s29.code ≠ 0))) from bad_q (s := s29) (m := m29) (fun w hw => blkL hw (i := 0) rfl)) Pb.en12 rfl rfl rfl rfl rfl <| LX.p (Y.not rfl) rfl <| LX.mv rfl ?_
  refine LX.caseB (s := 61) rfl (fun hb7 => ?_) (fun hb7 => ?_)
  ·
    have hb7p := hb7
    try simp at hb7p
    refine LX.gT rfl rfl rfl hb7 (Y.move rfl) rfl rfl <| LX.gT rfl rfl rfl hb7 (Y.move rfl) rfl rfl ?_
    obtain ⟨i32, hi32, hil32, hkd32⟩ : ∃ i : Nat, r29 = (i : Int) ∧ i < (s29.ns).length ∧ ∀ (k : Nat) x, (s29.ns)[k]? = some x → ∀ q ∈ x.kids, 0 ≤ q ∧ q < (k : Int)   := root_at (q := s29) hs hR30 as_ (by simp)
    refine LX.callT rfl rfl rfl hb7 (show FnC Try.prog 54 #[.pointer (some ⟨bp, 0, none⟩), .int .i64 r29] _ _ _ from by rw [hi32]; exact fits_w (s := s29) (m := m29) hkd32 i32 hil32 (fun w hw => blkL hw (i := 0) rfl) (fun w hw => NdsF.lies (NdsR.toF hn29 w0 base) hw (fun it h => by simp [h]) (j := 1) rfl)) Pc.en54 rfl rfl rfl rfl ?_
    intro b32
    refine LX.gT rfl rfl rfl hb7 (Y.not rfl) rfl rfl <| LX.p (Y.pickT rfl hb7 rfl) rfl <| LX.su [0, 2, 3, 6, 66] rfl <| LX.nt ?_
    refine CX.cond rfl (fun hb8 => ?_) (fun hb8 => ?_)
    · try simp at hb8
      refine CX.sr <| LX.ms 2 rfl <| LX.call (fail_c (fr := fr) s29 m29 102 t1.pos) Pb.en50 rfl rfl rfl rfl rfl ?_
      intro s33
      refine LX.have fun hf33 => ?_
      have hb933 : Bad s29 s33 := FailR.bad hf33 dc
      have hbc33 := hb933.code
      have hn33 : NdsR 3 m29.rs m29.cells s33.ns := by rw [hb933.ns]; exact hn29
      have hR34 : Rn L.length s s33 ([r29]) 1 (0) := hR30.bad2 hb933
      have hch35 : s29.at_ ≤ s33.at_ := Nat.le_of_eq hb933.at_.symm
      have hle35 : s.at_ ≤ s33.at_ := by omega
      have hlt35 : s33.at_ < L.length := hR34.lt
      have hde35 : s29.deep ≤ s33.deep := Int.le_of_eq hb933.deep.symm
      have hdd35 : s33.deep ≤ 60 := hR34.d1
      refine LX.mv rfl <| LX.su [2, 6] rfl <| LX.nt <| CX.ret <| PX.thenR <| PX.ret1 (by simp) Try.results57 rfl ?_
      exact fun w hw => ⟨((-1), s33, m29), rfl, ⟨(by (unfold inI; omega)), hR34.no as_, hn33⟩, hw⟩
    try simp at hb8
    refine CX.skip <| PX.thenN <| CX.sr <| LX.ms 2 rfl <| LX.su [2] rfl <| LX.nt <| CX.ret <| PX.ret1 (by simp) Try.results57 rfl ?_
    exact fun w hw => ⟨(r29, s29, m29), rfl, ⟨as_, hR30.wk dc dc, hn29⟩, hw⟩
  refine LX.gF rfl rfl rfl hb7 rfl rfl <| LX.gF rfl rfl rfl hb7 rfl rfl <| LX.gF rfl rfl rfl hb7 rfl rfl <| LX.gF rfl rfl rfl hb7 rfl rfl <| LX.p (Y.pickF rfl hb7 rfl) rfl <| LX.su [0, 2, 3, 6, 66] rfl <| LX.nt ?_
  refine CX.cond rfl (fun hb9 => ?_) (fun hb9 => ?_)
  · try simp at hb9
    done
  try simp at hb9
  refine CX.skip <| PX.thenN <| CX.sr <| LX.ms 2 rfl <| LX.su [2] rfl <| LX.nt <| CX.ret <| PX.ret1 (by simp) Try.results57 rfl ?_
  exact fun w hw => ⟨(r29, s29, m29), rfl, ⟨as_, hR30.wk dc dc, hn29⟩, hw⟩
theorem targets_c {w0 : World} {base : Nat} {bp : Nat} {al : Option Addr} {cl : Nat} {L : List Go.Pa.Tk} (hL : SlAt 3 tokA (Lies w0 base) al L) (hK : Tok6 L) {N : Nat} (h_target : (∀ (s : RS) (m : Mm) (fr : List It), Sk L.length s → NdsR 3 m.rs m.cells s.ns → L.length - s.at_ ≤ N → PF 57 [.pointer (some ⟨bp, 0, none⟩)] w0 base bp al cl L s m fr))  : (∀ (s : RS) (m : Mm) (fr : List It), Sk L.length s → NdsR 3 m.rs m.cells s.ns → L.length - s.at_ ≤ N → PF 34 [.pointer (some ⟨bp, 0, none⟩)] w0 base bp al cl L s m fr) := by
  intro s m fr hs hn hN
  have hR := Rn.refl hs
  have hle : s.at_ ≤ s.at_ := Nat.le_refl _
  have hd0 := hs.d0
  have hd1 := hs.d1
  have hlt := hs.lt
  have hln0 := hK.len
  have hN0 : 0 < N := by omega
  refine FnC.of_body (fn := Try.f34) [(0, _)] Try.func34 rfl Try.ntmps34 rfl ⟨rfl, trivial⟩ ?_
  refine CX.sr <| LX.mv rfl <| LX.su [0, 2] rfl <| LX.nt <| CX.seq <| CX.sr <| LX.mv rfl <| LX.callQ (show FnQ Try.prog 12 #[.pointer (some ⟨bp, 0, none⟩)] _ (.bool (decide (s.code ≠ 0))) from bad_q (s := s) (m := m) (fun w hw => blkL hw (i := 0) rfl)) Pb.en12 rfl rfl rfl rfl rfl <| LX.su [0, 2, 7] rfl <| LX.nt ?_
  refine CX.cond rfl (fun hb1 => ?_) (fun hb1 => ?_)
  · try simp at hb1
    refine CX.sr <| LX.mv rfl <| LX.su [0, 2] rfl <| LX.nt <| CX.ret <| PX.thenR <| PX.ret1 (by simp) Try.results34 rfl ?_
    exact fun w hw => ⟨((-1), s, m), rfl, ⟨(by (unfold inI; omega)), hR.no as_, hn⟩, hw⟩
  try simp at hb1
  refine CX.skip <| PX.thenN <| CX.sr ?_
  obtain ⟨t1, ht1⟩ : ∃ t, L[s.at_]? = some t := ⟨_, List.getElem?_eq_getElem (show s.at_ < L.length from hR.lt)⟩
  have htk1 := (tok_in hL ht1).1
  have htp1 := (tok_in hL ht1).2
  refine LX.mv rfl <| LX.callQ (now_q (s := s) (m := m) ht1 (fun w hw => blkL hw (i := 0) rfl) (fun w hw => hL.push hw)) Pa.en13 rfl rfl rfl rfl rfl <| LX.p (Y.field (v := .int .i64 t1.pos) rfl (fun _ => by kernel_rfl)) rfl <| LX.mv rfl <| LX.su [0, 2, 3] rfl <| LX.nt <| CX.sr <| LX.mv rfl ?_
  have hk2 : Sk L.length s := hs.next hR dc
  refine LX.call (several_c hL hK h_target s m fr hk2 hn (by show L.length - s.at_ ≤ N; omega)) Ph.en49 rfl rfl rfl rfl rfl ?_
  rintro ⟨l2, g2, c2, b2, s2, m2⟩
  refine LX.have fun ⟨hla2, hll2, hbl2, hbk2, hr2, hn2⟩ => ?_
  try dsimp only at hla2 hll2 hbl2 hbk2 hr2 hn2 ⊢
  have hR3 : Rn L.length s s2 (l2) 1 (0) := (hR.trans hr2).re pm
  have hch4 : s.at_ ≤ s2.at_ := hr2.le
  have hle4 : s.at_ ≤ s2.at_ := by omega
  have hlt4 : s2.at_ < L.length := hR3.lt
  have hde4 : s.deep ≤ s2.deep := hr2.d0
  have hdd4 : s2.deep ≤ 60 := hR3.d1
  refine LX.wq (Ri g2 c2 l2 :: PWl bp al L cl s2 m2 fr) rfl ?_
  rcases b2 with _ | _
  ·
    obtain ⟨x2, rfl⟩ : ∃ x, l2 = [x] := hbl2 rfl
    have hri2 : inI x2 := hla2 _ (List.mem_singleton.2 rfl)
    refine LX.wq (Ri g2 c2 ([x2]) :: PWl bp al L cl s2 m2 fr) rfl ?_
    have hR5 : Rn L.length s s2 ([x2]) 1 (0) := hR3
    refine LX.mv rfl <| LX.p (Y.extract rfl rfl) rfl <| LX.p (Y.extract rfl rfl) rfl <| LX.ms 2 rfl ?_
    refine LX.wp (PWl bp al L cl s2 m2 (Ri g2 c2 ([x2]) :: fr)) ?_
    refine LX.su [0, 2, 3, 4, 5] rfl <| LX.nt <| CX.seq <| CX.sr <| LX.mv rfl <| LX.p (Y.not rfl) rfl <| LX.su [0, 2, 3, 4, 17] rfl <| LX.nt ?_
    refine CX.cond rfl (fun hb2 => ?_) (fun hb2 => ?_)
    · try simp at hb2
      refine CX.sr <| LX.mv rfl ?_
      refine LX.wp (Ri g2 c2 ([x2]) :: PWl bp al L cl s2 m2 fr) ?_
      refine LX.p (Y.idxR 0 (i := 0) Pc.un29 Pb.sz3 rfl rfl rfl (by simp)) rfl <| LX.p (Y.ldR 0 (v := .int .i64 x2) Pa.one3 rfl rfl rfl) rfl <| LX.mv rfl ?_
      refine LX.wp (PWl bp al L cl s2 m2 (Ri g2 c2 ([x2]) :: fr)) ?_
      refine LX.su [0, 2, 3, 4] rfl <| LX.nt <| CX.ret <| PX.thenR <| PX.ret1 (by simp) Try.results34 rfl ?_
      exact fun w hw => ⟨(x2, s2, m2), rfl, ⟨as_, hR5.wk dc dc, hn2⟩, hw.ct⟩
    try simp at hb2
    done
  have hR6 : Rn L.length s s2 (l2) 1 (-1) := hR3.kk (fun h0 => by have h1 := hR.few (hr2.bad h0); have h2 := hbk2 rfl h0; show ((s2.ns.length : Nat) : Int) + 2 * s.at_ ≤ s.ns.length + 2 * s2.at_ + (-1); omega)
  refine LX.mv rfl <| LX.p (Y.extract rfl rfl) rfl <| LX.p (Y.extract rfl rfl) rfl <| LX.ms 2 rfl ?_
  refine LX.wp (PWl bp al L cl s2 m2 (Ri g2 c2 l2 :: fr)) ?_
  refine LX.su [0, 2, 3, 4, 5] rfl <| LX.nt <| CX.seq <| CX.sr <| LX.mv rfl <| LX.p (Y.not rfl) rfl <| LX.su [0, 2, 3, 4, 17] rfl <| LX.nt ?_
  refine CX.cond rfl (fun hb3 => ?_) (fun hb3 => ?_)
  · try simp at hb3
    done
  try simp at hb3
  refine CX.skip <| PX.thenN <| CX.sr <| LX.ms 3 rfl ?_
  refine LX.wp (Ri g2 c2 l2 :: PWl bp al L cl s2 m2 fr) ?_
  refine LX.call (put_c (fr := fr) (g := g2) (c := c2) (ks := l2) (op := 8) (pos := t1.pos) (x := ([] : List UInt8)) s2 m2 hn2 (fun h0 => by have h1 : ((s2.ns).length : Int) + 2 * s.at_ ≤ s.ns.length + 2 * ((s2.at_ : Nat) : Int) + (-1) := hR6.few h0; have h2 := hs.few (hR6.bad h0); have h3 := hK.len; have h4 : s2.at_ < L.length := hR6.lt; show (s2.ns).length ≤ 1000000; omega) (by omega) (hla2) (by (unfold inI; omega)) as_) Pd.en16 rfl rfl rfl rfl rfl ?_
  rintro ⟨r7, s7, m7⟩
  refine LX.have fun ⟨hri7, hp7, hn7⟩ => ?_
  try dsimp only at hri7 hp7 hn7 ⊢
  have hR8 : Rn L.length s s7 ([r7]) 1 (0) := hR6.put (us := ([] : List Int)) (ks := l2) hp7 pm
  have hch9 : s2.at_ ≤ s7.at_ := Nat.le_of_eq hp7.eqs.1.symm
  have hle9 : s.at_ ≤ s7.at_ := by omega
  have hlt9 : s7.at_ < L.length := hR8.lt
  have hde9 : s2.deep ≤ s7.deep := Int.le_of_eq hp7.eqs.2.1.symm
  have hdd9 : s7.deep ≤ 60 := hR8.d1
  refine LX.mv rfl <| LX.su [2] rfl <| LX.nt <| CX.ret <| PX.ret1 (by simp) Try.results34 rfl ?_
  exact fun w hw => ⟨(r7, s7, m7), rfl, ⟨as_, hR8.wk dc dc, hn7⟩, hw⟩
end Go.Proofs.Yteibddakpedogaa
