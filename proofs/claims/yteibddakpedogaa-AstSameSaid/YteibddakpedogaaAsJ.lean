/-
  Proved here: the document's parser: statements.
-/
import Derived.Test.YteibddakpedogaaAsI
set_option linter.unusedSimpArgs false
namespace Go.Proofs.Yteibddakpedogaa
open Go.SX Go.RowKit Go.Tr Go.As Go.Ck
namespace Pj
theorem en33 : Enters Try.prog 33 := Enters.of Try.func33 (by kernel_rfl) (by kernel_rfl)
theorem en39 : Enters Try.prog 39 := Enters.of Try.func39 (by kernel_rfl) (by kernel_rfl)
theorem en40 : Enters Try.prog 40 := Enters.of Try.func40 (by kernel_rfl) (by kernel_rfl)
theorem en41 : Enters Try.prog 41 := Enters.of Try.func41 (by kernel_rfl) (by kernel_rfl)
theorem sz4 : SizeIs Try.prog 4 1 := fun w => by kernel_rfl
end Pj
open Go.Pa (Tk)
theorem cond_c {w0 : World} {base : Nat} {bp : Nat} {al : Option Addr} {cl : Nat} {L : List Go.Pa.Tk} (hL : SlAt 3 tokA (Lies w0 base) al L) (hK : Tok6 L) {N : Nat} (ih_block : (∀ (s : RS) (m : Mm) (fr : List It), Sk L.length s → NdsR 3 m.rs m.cells s.ns → L.length - s.at_ < N → PF 39 [.pointer (some ⟨bp, 0, none⟩)] w0 base bp al cl L s m fr)) (ih_cond : ∀ pos, inI pos → (∀ (s : RS) (m : Mm) (fr : List It), Sk L.length s → NdsR 3 m.rs m.cells s.ns → L.length - s.at_ < N → s.at_ + 1 < L.length → PF 33 [.pointer (some ⟨bp, 0, none⟩), .int .i64 pos] w0 base bp al cl L s m fr)) (pos : Int) (hpos : inI pos)  : (∀ (s : RS) (m : Mm) (fr : List It), Sk L.length s → NdsR 3 m.rs m.cells s.ns → L.length - s.at_ ≤ N → s.at_ + 1 < L.length → PF 33 [.pointer (some ⟨bp, 0, none⟩), .int .i64 pos] w0 base bp al cl L s m fr) := by
  intro s m fr hs hn hN hgo0
  have hR := Rn.refl hs
  have hle : s.at_ ≤ s.at_ := Nat.le_refl _
  have hd0 := hs.d0
  have hd1 := hs.d1
  have hlt := hs.lt
  have hln0 := hK.len
  have hN0 : 0 < N := by omega
  refine FnC.of_body (fn := Try.f33) [(0, _), (1, _)] Try.func33 rfl Try.ntmps33 rfl ⟨rfl, rfl, trivial⟩ ?_
  refine CX.sr <| LX.mv rfl <| LX.su [0, 1, 4] rfl <| LX.nt <| CX.sr ?_
  obtain ⟨t1, ht1⟩ : ∃ t, L[s.at_]? = some t := ⟨_, List.getElem?_eq_getElem (show s.at_ < L.length from hR.lt)⟩
  have htk1 := (tok_in hL ht1).1
  have htp1 := (tok_in hL ht1).2
  have hgo2 : s.at_ + 1 < L.length := by omega
  have hln2 := hK.len
  refine LX.ms 3 rfl <| LX.p (Y.fieldAddr0 Pa.fo42_1 rfl) rfl <| LX.p (Y.ldB 0 Pa.one3 rfl rfl rfl) rfl <| LX.p (Y.addN rfl rfl (by (simp only []; omega))) rfl <| LX.mv rfl <| LX.p (Y.fieldAddr0 Pa.fo42_1 rfl) rfl <| LX.storeB 0 Pb.sz3 rfl rfl rfl rfl rfl rfl rfl rfl <| LX.wq (PWl bp al L cl (RS.go s 1) m fr) rfl ?_
  have hR3 : Rn L.length s (RS.go s 1) ([] : List Int) 1 (-2) := hR.go hgo2
  have hle4 : s.at_ < (s.at_ + 1) := by have h9 : s.at_ ≤ s.at_ := hR.le; omega
  have hlt4 : (s.at_ + 1) < L.length := hgo2
  refine LX.su [0, 1, 4] rfl <| LX.nt <| CX.sr <| LX.mv rfl ?_
  have hk5 : Sk L.length (RS.go s 1) := hs.next hR3 dc
  refine LX.call ((ex_all hL hK L.length).test_ (RS.go s 1) m fr hk5 hn (by show L.length - (s.at_ + 1) ≤ L.length; omega)) Pd.en47 rfl rfl rfl rfl rfl ?_
  rintro ⟨r5, s5, m5⟩
  refine LX.have fun ⟨hri5, hr5, hn5⟩ => ?_
  try dsimp only at hri5 hr5 hn5 ⊢
  have hR6 : Rn L.length s s5 ([r5]) 2 (-2) := hR3.trans hr5
  have hch7 : (s.at_ + 1) ≤ s5.at_ := hr5.le
  have hle7 : s.at_ < s5.at_ := by omega
  have hlt7 : s5.at_ < L.length := hR6.lt
  have hde7 : s.deep ≤ s5.deep := hr5.d0
  have hdd7 : s5.deep ≤ 60 := hR6.d1
  have hav5 : s5.code = 0 → (s.at_ + 1) + 1 ≤ s5.at_ := hr5.adv
  refine LX.mv rfl <| LX.su [0, 1, 4, 5] rfl <| LX.nt <| CX.sr <| LX.mv rfl ?_
  have hk8 : Sk L.length s5 := hs.next hR6 dc
  refine LX.call (ih_block s5 m5 fr hk8 hn5 (by show L.length - s5.at_ < N; omega)) Pj.en39 rfl rfl rfl rfl rfl ?_
  rintro ⟨r8, s8, m8⟩
  refine LX.have fun ⟨hri8, hr8, hn8⟩ => ?_
  try dsimp only at hri8 hr8 hn8 ⊢
  have hR9 : Rn L.length s s8 ([r5] ++ [r8]) 3 (-2) := hR6.trans hr8
  have hch10 : s5.at_ ≤ s8.at_ := hr8.le
  have hle10 : s.at_ < s8.at_ := by omega
  have hlt10 : s8.at_ < L.length := hR9.lt
  have hde10 : s5.deep ≤ s8.deep := hr8.d0
  have hdd10 : s8.deep ≤ 60 := hR9.d1
  have hav8 : s8.code = 0 → s5.at_ + 1 ≤ s8.at_ := hr8.adv
  refine LX.mv rfl <| LX.su [0, 1, 4, 5, 6] rfl <| LX.nt <| CX.seq <| CX.sr <| LX.mv rfl <| LX.callQ (show FnQ Try.prog 12 #[.pointer (some ⟨bp, 0, none⟩)] _ (.bool (decide (s8.code ≠ 0))) from bad_q (s := s8) (m := m8) (fun w hw => blkL hw (i := 0) rfl)) Pb.en12 rfl rfl rfl rfl rfl <| LX.su [0, 1, 4, 5, 6, 23] rfl <| LX.nt ?_
  refine CX.cond rfl (fun hb1 => ?_) (fun hb1 => ?_)
  · try simp at hb1
    refine CX.sr <| LX.mv rfl <| LX.su [0, 1, 4, 5, 6] rfl <| LX.nt <| CX.ret <| PX.thenR <| PX.ret1 (by simp) Try.results33 rfl ?_
    exact fun w hw => ⟨((-1), s8, m8), rfl, ⟨(by (unfold inI; omega)), hR9.no as_, hn8⟩, hw⟩
  try simp at hb1
  refine CX.skip <| PX.thenN <| CX.seq <| CX.sr ?_
  obtain ⟨t11, ht11⟩ : ∃ t, L[s8.at_]? = some t := ⟨_, List.getElem?_eq_getElem (show s8.at_ < L.length from hR9.lt)⟩
  have htk11 := (tok_in hL ht11).1
  have htp11 := (tok_in hL ht11).2
  refine LX.mv rfl <| LX.callQ (is_q (s := s8) (m := m8) ht11 ([101, 108, 105, 102] : List UInt8) (fun w hw => blkL hw (i := 0) rfl) (fun w hw => hL.push hw)) Pb.en32 rfl rfl rfl rfl rfl <| LX.su [0, 1, 4, 5, 6, 25] rfl <| LX.nt ?_
  refine CX.cond rfl (fun hb2 => ?_) (fun hb2 => ?_)
  · try simp at hb2
    refine CX.sr <| LX.mv rfl <| LX.callQ (now_q (s := s8) (m := m8) ht11 (fun w hw => blkL hw (i := 0) rfl) (fun w hw => hL.push hw)) Pa.en13 rfl rfl rfl rfl rfl <| LX.p (Y.field (v := .int .i64 t11.pos) rfl (fun _ => by kernel_rfl)) rfl <| LX.mv rfl <| LX.su [0, 1, 4, 5, 6, 7] rfl <| LX.nt <| CX.seq <| CX.sr <| LX.ms 2 rfl ?_
    have hd012 : 0 ≤ s8.deep := by have h9 := hs.d0; have h8 : s.deep ≤ s8.deep := hR9.d0; omega
    refine LX.call (enter_c (fr := fr) s8 m8 hd012 t11.pos) Pd.en48 rfl rfl rfl rfl rfl ?_
    rintro ⟨b12, s12⟩
    refine LX.have fun he12 => ?_
    try dsimp only at he12 ⊢
    have hn12 : NdsR 3 m8.rs m8.cells s12.ns := by rw [he12.ns]; exact hn8
    refine LX.p (Y.not rfl) rfl <| LX.su [0, 1, 4, 5, 6, 7, 32] rfl <| LX.nt ?_
    refine CX.cond rfl (fun hb3 => ?_) (fun hb3 => ?_)
    · try simp at hb3
      have hb912 := he12.f (by exact hb3)
      have hbc12 := hb912.code
      have hR13 : Rn L.length s s12 ([r5] ++ [r8]) 3 (-2) := hR9.bad2 hb912
      have hch912 : s8.at_ ≤ s12.at_ := Nat.le_of_eq hb912.at_.symm
      refine CX.sr <| LX.mv rfl <| LX.su [0, 1, 4, 5, 6, 7] rfl <| LX.nt <| CX.ret <| PX.thenR <| PX.thenR <| PX.ret1 (by simp) Try.results33 rfl ?_
      exact fun w hw => ⟨((-1), s12, m8), rfl, ⟨(by (unfold inI; omega)), hR13.no as_, hn12⟩, hw⟩
    try simp at hb3
    obtain ⟨hc12, hdl12, hq12⟩ := he12.t (by exact hb3)
    subst hq12
    have hR14 : Rn L.length s (RS.dp s8 (s8.deep + 1)) ([r5] ++ [r8]) 3 (-2) := hR9.up hdl12
    refine CX.skip <| PX.thenN <| CX.sr <| LX.ms 2 rfl ?_
    have hk15 : Sk L.length (RS.dp s8 (s8.deep + 1)) := hs.next hR14 dc
    have hgo15 : s8.at_ + 1 < L.length := by exact hK.fin _ t11 ht11 (by (intro h8; simp_all [isS]; done))
    refine LX.call (ih_cond t11.pos as_ (RS.dp s8 (s8.deep + 1)) m8 fr hk15 hn12 (by show L.length - s8.at_ < N; omega) hgo15) Pj.en33 rfl rfl rfl rfl rfl ?_
    rintro ⟨r15, s15, m15⟩
    refine LX.have fun ⟨hri15, hr15, hn15⟩ => ?_
    try dsimp only at hri15 hr15 hn15 ⊢
    have hR16 : Rn L.length s s15 ([r5] ++ [r8] ++ [r15]) 4 (-2) := hR14.trans hr15
    have hch17 : s8.at_ ≤ s15.at_ := hr15.le
    have hle17 : s.at_ < s15.at_ := by omega
    have hlt17 : s15.at_ < L.length := hR16.lt
    have hde17 : (s8.deep + 1) ≤ s15.deep := hr15.d0
    have hdd17 : s15.deep ≤ 60 := hR16.d1
    have hav15 : s15.code = 0 → s8.at_ + 1 ≤ s15.at_ := hr15.adv
    refine LX.mv rfl <| LX.su [0, 1, 4, 5, 6, 7, 8] rfl <| LX.nt <| CX.sr <| LX.ms 3 rfl <| LX.p (Y.fieldAddr0 Pb.fo42_3 rfl) rfl <| LX.p (Y.ldB 0 Pa.one3 rfl rfl rfl) rfl <| LX.p (Y.sub rfl rfl (by omega)) rfl <| LX.mv rfl <| LX.p (Y.fieldAddr0 Pb.fo42_3 rfl) rfl <| LX.storeB 0 Pb.sz3 rfl rfl rfl rfl rfl rfl rfl rfl <| LX.wq (PWl bp al L cl (RS.dp s15 (s15.deep - 1)) m15 fr) rfl ?_
    have hR18 : Rn L.length s (RS.dp s15 (s15.deep - 1)) ([r5] ++ [r8] ++ [r15]) 4 (-2) := hR16.down (by show s.deep + 1 ≤ s15.deep; omega)
    refine LX.su [0, 1, 4, 5, 6, 7, 8] rfl <| LX.nt <| CX.sr <| LX.ms 3 rfl <| LX.buildSlice (e := 3) (size := 1) rfl rfl (fun _ => by kernel_rfl) rfl dc rfl rfl rfl ?_
    intro gt19
    refine LX.wq (Ri (some gt19) 1 ([r15]) :: PWl bp al L cl (RS.dp s15 (s15.deep - 1)) m15 fr) rfl <| LX.call (put_c (fr := fr) (g := (some gt19)) (c := 1) (ks := [r15]) (op := 47) (pos := t11.pos) (x := ([] : List UInt8)) (RS.dp s15 (s15.deep - 1)) m15 hn15 (fun h0 => by have h1 : ((s15.ns).length : Int) + 2 * s.at_ ≤ s.ns.length + 2 * ((s15.at_ : Nat) : Int) + (-2) := hR18.few h0; have h2 := hs.few (hR18.bad h0); have h3 := hK.len; have h4 : s15.at_ < L.length := hR18.lt; show (s15.ns).length ≤ 1000000; omega) (by (simp only [List.length_cons, List.length_nil, List.length_append]; omega)) ((AllI.cons as_ AllI.nil)) (by (unfold inI; omega)) as_) Pd.en16 rfl rfl rfl rfl rfl ?_
    rintro ⟨r20, s20, m20⟩
    refine LX.have fun ⟨hri20, hp20, hn20⟩ => ?_
    try dsimp only at hri20 hp20 hn20 ⊢
    have hR21 : Rn L.length s s20 ([r5] ++ [r8] ++ [r20]) 4 (-1) := hR18.put (us := ([r5] ++ [r8])) (ks := [r15]) hp20 pm
    have hch22 : s15.at_ ≤ s20.at_ := Nat.le_of_eq hp20.eqs.1.symm
    have hle22 : s.at_ < s20.at_ := by omega
    have hlt22 : s20.at_ < L.length := hR21.lt
    have hde22 : (s15.deep - 1) ≤ s20.deep := Int.le_of_eq hp20.eqs.2.1.symm
    have hdd22 : s20.deep ≤ 60 := hR21.d1
    refine LX.mv rfl <| LX.su [0, 1, 4, 5, 6, 8] rfl <| LX.nt <| CX.sr <| LX.ms 5 rfl <| LX.buildSlice (e := 3) (size := 1) rfl rfl (fun _ => by kernel_rfl) rfl dc rfl rfl rfl ?_
    intro gt23
    refine LX.wq (Ri (some gt23) 3 ([r5, r8, r20]) :: PWl bp al L cl s20 m20 fr) rfl <| LX.call (put_c (fr := fr) (g := (some gt23)) (c := 3) (ks := [r5, r8, r20]) (op := 43) (pos := pos) (x := ([] : List UInt8)) s20 m20 hn20 (fun h0 => by have h1 : ((s20.ns).length : Int) + 2 * s.at_ ≤ s.ns.length + 2 * ((s20.at_ : Nat) : Int) + (-1) := hR21.few h0; have h2 := hs.few (hR21.bad h0); have h3 := hK.len; have h4 : s20.at_ < L.length := hR21.lt; show (s20.ns).length ≤ 1000000; omega) (by (simp only [List.length_cons, List.length_nil, List.length_append]; omega)) ((AllI.cons as_ (AllI.cons as_ (AllI.cons as_ AllI.nil)))) (by (unfold inI; omega)) as_) Pd.en16 rfl rfl rfl rfl rfl ?_
    rintro ⟨r24, s24, m24⟩
    refine LX.have fun ⟨hri24, hp24, hn24⟩ => ?_
    try dsimp only at hri24 hp24 hn24 ⊢
    have hR25 : Rn L.length s s24 ([r24]) 4 (0) := hR21.put (us := ([] : List Int)) (ks := [r5, r8, r20]) hp24 pm
    have hch26 : s20.at_ ≤ s24.at_ := Nat.le_of_eq hp24.eqs.1.symm
    have hle26 : s.at_ < s24.at_ := by omega
    have hlt26 : s24.at_ < L.length := hR25.lt
    have hde26 : s20.deep ≤ s24.deep := Int.le_of_eq hp24.eqs.2.1.symm
    have hdd26 : s24.deep ≤ 60 := hR25.d1
    refine LX.mv rfl <| LX.su [0, 1, 4, 5, 6] rfl <| LX.nt <| CX.ret <| PX.thenR <| PX.ret1 (by simp) Try.results33 rfl ?_
    exact fun w hw => ⟨(r24, s24, m24), rfl, ⟨as_, hR25.wk dc dc, hn24⟩, hw⟩
  try simp at hb2
  refine CX.skip <| PX.thenN <| CX.seq <| CX.sr <| LX.mv rfl <| LX.callQ (is_q (s := s8) (m := m8) ht11 ([101, 108, 115, 101] : List UInt8) (fun w hw => blkL hw (i := 0) rfl) (fun w hw => hL.push hw)) Pb.en32 rfl rfl rfl rfl rfl <| LX.su [0, 1, 4, 5, 6, 57] rfl <| LX.nt ?_
  refine CX.cond rfl (fun hb4 => ?_) (fun hb4 => ?_)
  · try simp at hb4
    refine CX.sr ?_
    have hgo27 : s8.at_ + 1 < L.length := by exact hK.fin _ t11 ht11 (by (intro h8; simp_all [isS]; done))
    have hln27 := hK.len
    refine LX.ms 3 rfl <| LX.p (Y.fieldAddr0 Pa.fo42_1 rfl) rfl <| LX.p (Y.ldB 0 Pa.one3 rfl rfl rfl) rfl <| LX.p (Y.addN rfl rfl (by (simp only []; omega))) rfl <| LX.mv rfl <| LX.p (Y.fieldAddr0 Pa.fo42_1 rfl) rfl <| LX.storeB 0 Pb.sz3 rfl rfl rfl rfl rfl rfl rfl rfl <| LX.wq (PWl bp al L cl (RS.go s8 1) m8 fr) rfl ?_
    have hR28 : Rn L.length s (RS.go s8 1) ([r5] ++ [r8]) 4 (-4) := hR9.go hgo27
    have hle29 : s.at_ < (s8.at_ + 1) := by have h9 : s.at_ ≤ s8.at_ := hR9.le; omega
    have hlt29 : (s8.at_ + 1) < L.length := hgo27
    refine LX.su [0, 1, 4, 5, 6] rfl <| LX.nt <| CX.sr <| LX.mv rfl ?_
    have hk30 : Sk L.length (RS.go s8 1) := hs.next hR28 dc
    refine LX.call (ih_block (RS.go s8 1) m8 fr hk30 hn8 (by show L.length - (s8.at_ + 1) < N; omega)) Pj.en39 rfl rfl rfl rfl rfl ?_
    rintro ⟨r30, s30, m30⟩
    refine LX.have fun ⟨hri30, hr30, hn30⟩ => ?_
    try dsimp only at hri30 hr30 hn30 ⊢
    have hR31 : Rn L.length s s30 ([r5] ++ [r8] ++ [r30]) 5 (-4) := hR28.trans hr30
    have hch32 : (s8.at_ + 1) ≤ s30.at_ := hr30.le
    have hle32 : s.at_ < s30.at_ := by omega
    have hlt32 : s30.at_ < L.length := hR31.lt
    have hde32 : s8.deep ≤ s30.deep := hr30.d0
    have hdd32 : s30.deep ≤ 60 := hR31.d1
    have hav30 : s30.code = 0 → (s8.at_ + 1) + 1 ≤ s30.at_ := hr30.adv
    refine LX.mv rfl <| LX.su [0, 1, 4, 5, 6, 9] rfl <| LX.nt <| CX.sr <| LX.ms 5 rfl <| LX.buildSlice (e := 3) (size := 1) rfl rfl (fun _ => by kernel_rfl) rfl dc rfl rfl rfl ?_
    intro gt33
    refine LX.wq (Ri (some gt33) 3 ([r5, r8, r30]) :: PWl bp al L cl s30 m30 fr) rfl <| LX.call (put_c (fr := fr) (g := (some gt33)) (c := 3) (ks := [r5, r8, r30]) (op := 43) (pos := pos) (x := ([] : List UInt8)) s30 m30 hn30 (fun h0 => by have h1 : ((s30.ns).length : Int) + 2 * s.at_ ≤ s.ns.length + 2 * ((s30.at_ : Nat) : Int) + (-4) := hR31.few h0; have h2 := hs.few (hR31.bad h0); have h3 := hK.len; have h4 : s30.at_ < L.length := hR31.lt; show (s30.ns).length ≤ 1000000; omega) (by (simp only [List.length_cons, List.length_nil, List.length_append]; omega)) ((AllI.cons as_ (AllI.cons as_ (AllI.cons as_ AllI.nil)))) (by (unfold inI; omega)) as_) Pd.en16 rfl rfl rfl rfl rfl ?_
    rintro ⟨r34, s34, m34⟩
    refine LX.have fun ⟨hri34, hp34, hn34⟩ => ?_
    try dsimp only at hri34 hp34 hn34 ⊢
    have hR35 : Rn L.length s s34 ([r34]) 5 (-3) := hR31.put (us := ([] : List Int)) (ks := [r5, r8, r30]) hp34 pm
    have hch36 : s30.at_ ≤ s34.at_ := Nat.le_of_eq hp34.eqs.1.symm
    have hle36 : s.at_ < s34.at_ := by omega
    have hlt36 : s34.at_ < L.length := hR35.lt
    have hde36 : s30.deep ≤ s34.deep := Int.le_of_eq hp34.eqs.2.1.symm
    have hdd36 : s34.deep ≤ 60 := hR35.d1
    refine LX.mv rfl <| LX.su [0, 1, 4, 5, 6] rfl <| LX.nt <| CX.ret <| PX.thenR <| PX.ret1 (by simp) Try.results33 rfl ?_
    exact fun w hw => ⟨(r34, s34, m34), rfl, ⟨as_, hR35.wk dc dc, hn34⟩, hw⟩
  try simp at hb4
  refine CX.skip <| PX.thenN <| CX.sr <| LX.ms 4 rfl <| LX.buildSlice (e := 3) (size := 1) rfl rfl (fun _ => by kernel_rfl) rfl dc rfl rfl rfl ?_
  intro gt37
  refine LX.wq (Ri (some gt37) 2 ([r5, r8]) :: PWl bp al L cl s8 m8 fr) rfl <| LX.call (put_c (fr := fr) (g := (some gt37)) (c := 2) (ks := [r5, r8]) (op := 43) (pos := pos) (x := ([] : List UInt8)) s8 m8 hn8 (fun h0 => by have h1 : ((s8.ns).length : Int) + 2 * s.at_ ≤ s.ns.length + 2 * ((s8.at_ : Nat) : Int) + (-2) := hR9.few h0; have h2 := hs.few (hR9.bad h0); have h3 := hK.len; have h4 : s8.at_ < L.length := hR9.lt; show (s8.ns).length ≤ 1000000; omega) (by (simp only [List.length_cons, List.length_nil, List.length_append]; omega)) ((AllI.cons as_ (AllI.cons as_ AllI.nil))) (by (unfold inI; omega)) as_) Pd.en16 rfl rfl rfl rfl rfl ?_
  rintro ⟨r38, s38, m38⟩
  refine LX.have fun ⟨hri38, hp38, hn38⟩ => ?_
  try dsimp only at hri38 hp38 hn38 ⊢
  have hR39 : Rn L.length s s38 ([r38]) 3 (-1) := hR9.put (us := ([] : List Int)) (ks := [r5, r8]) hp38 pm
  have hch40 : s8.at_ ≤ s38.at_ := Nat.le_of_eq hp38.eqs.1.symm
  have hle40 : s.at_ < s38.at_ := by omega
  have hlt40 : s38.at_ < L.length := hR39.lt
  have hde40 : s8.deep ≤ s38.deep := Int.le_of_eq hp38.eqs.2.1.symm
  have hdd40 : s38.deep ≤ 60 := hR39.d1
  refine LX.mv rfl <| LX.su [4] rfl <| LX.nt <| CX.ret <| PX.ret1 (by simp) Try.results33 rfl ?_
  exact fun w hw => ⟨(r38, s38, m38), rfl, ⟨as_, hR39.wk dc dc, hn38⟩, hw⟩
theorem statement_c {w0 : World} {base : Nat} {bp : Nat} {al : Option Addr} {cl : Nat} {L : List Go.Pa.Tk} (hL : SlAt 3 tokA (Lies w0 base) al L) (hK : Tok6 L) {N : Nat} (ih_block : (∀ (s : RS) (m : Mm) (fr : List It), Sk L.length s → NdsR 3 m.rs m.cells s.ns → L.length - s.at_ < N → PF 39 [.pointer (some ⟨bp, 0, none⟩)] w0 base bp al cl L s m fr)) (h_cond : ∀ pos, inI pos → (∀ (s : RS) (m : Mm) (fr : List It), Sk L.length s → NdsR 3 m.rs m.cells s.ns → L.length - s.at_ ≤ N → s.at_ + 1 < L.length → PF 33 [.pointer (some ⟨bp, 0, none⟩), .int .i64 pos] w0 base bp al cl L s m fr)) (h_function : ∀ pos, inI pos → (∀ (s : RS) (m : Mm) (fr : List It), Sk L.length s → NdsR 3 m.rs m.cells s.ns → L.length - s.at_ ≤ N → s.at_ + 1 < L.length → PF 40 [.pointer (some ⟨bp, 0, none⟩), .int .i64 pos] w0 base bp al cl L s m fr)) (h_simple : (∀ (s : RS) (m : Mm) (fr : List It), Sk L.length s → NdsR 3 m.rs m.cells s.ns → L.length - s.at_ ≤ N → PF1 41 [.pointer (some ⟨bp, 0, none⟩)] w0 base bp al cl L s m fr))  : (∀ (s : RS) (m : Mm) (fr : List It), Sk L.length s → NdsR 3 m.rs m.cells s.ns → L.length - s.at_ ≤ N → PF 14 [.pointer (some ⟨bp, 0, none⟩)] w0 base bp al cl L s m fr) := by
  intro s m fr hs hn hN
  have hR := Rn.refl hs
  have hle : s.at_ ≤ s.at_ := Nat.le_refl _
  have hd0 := hs.d0
  have hd1 := hs.d1
  have hlt := hs.lt
  have hln0 := hK.len
  have hN0 : 0 < N := by omega
  refine FnC.of_body (fn := Try.f14) [(0, _)] Try.func14 rfl Try.ntmps14 rfl ⟨rfl, trivial⟩ ?_
  refine CX.sr <| LX.mv rfl <| LX.su [0, 2] rfl <| LX.nt <| CX.seq <| CX.sr <| LX.mv rfl <| LX.callQ (show FnQ Try.prog 12 #[.pointer (some ⟨bp, 0, none⟩)] _ (.bool (decide (s.code ≠ 0))) from bad_q (s := s) (m := m) (fun w hw => blkL hw (i := 0) rfl)) Pb.en12 rfl rfl rfl rfl rfl <| LX.su [0, 2, 10] rfl <| LX.nt ?_
  refine CX.cond rfl (fun hb1 => ?_) (fun hb1 => ?_)
  · try simp at hb1
    refine CX.sr <| LX.mv rfl <| LX.su [0, 2] rfl <| LX.nt <| CX.ret <| PX.thenR <| PX.ret1 (by simp) Try.results14 rfl ?_
    exact fun w hw => ⟨((-1), s, m), rfl, ⟨(by (unfold inI; omega)), hR.no as_, hn⟩, hw⟩
  try simp at hb1
  refine CX.skip <| PX.thenN <| CX.sr ?_
  obtain ⟨t1, ht1⟩ : ∃ t, L[s.at_]? = some t := ⟨_, List.getElem?_eq_getElem (show s.at_ < L.length from hR.lt)⟩
  have htk1 := (tok_in hL ht1).1
  have htp1 := (tok_in hL ht1).2
  refine LX.mv rfl <| LX.callQ (now_q (s := s) (m := m) ht1 (fun w hw => blkL hw (i := 0) rfl) (fun w hw => hL.push hw)) Pa.en13 rfl rfl rfl rfl rfl <| LX.p (Y.field (v := .int .i64 t1.pos) rfl (fun _ => by kernel_rfl)) rfl <| LX.mv rfl <| LX.su [0, 2, 3] rfl <| LX.nt <| CX.seq <| CX.block <| CX.sr <| LX.mv rfl <| LX.callQ (is_q (s := s) (m := m) ht1 ([105, 102] : List UInt8) (fun w hw => blkL hw (i := 0) rfl) (fun w hw => hL.push hw)) Pb.en32 rfl rfl rfl rfl rfl <| LX.mv rfl <| LX.su [0, 2, 3, 14] rfl <| LX.nt ?_
  refine CX.cond rfl (fun hb2 => ?_) (fun hb2 => ?_)
  · try simp at hb2
    refine CX.sr <| LX.ms 2 rfl ?_
    have hk2 : Sk L.length s := hs.next hR dc
    have hgo2 : s.at_ + 1 < L.length := by exact hK.fin _ t1 ht1 (by (intro h8; simp_all [isS]; done))
    refine LX.call (h_cond t1.pos as_ s m fr hk2 hn (by show L.length - s.at_ ≤ N; omega) hgo2) Pj.en33 rfl rfl rfl rfl rfl ?_
    rintro ⟨r2, s2, m2⟩
    refine LX.have fun ⟨hri2, hr2, hn2⟩ => ?_
    try dsimp only at hri2 hr2 hn2 ⊢
    have hR3 : Rn L.length s s2 ([r2]) 1 (0) := hR.trans hr2
    have hch4 : s.at_ ≤ s2.at_ := hr2.le
    have hle4 : s.at_ ≤ s2.at_ := by omega
    have hlt4 : s2.at_ < L.length := hR3.lt
    have hde4 : s.deep ≤ s2.deep := hr2.d0
    have hdd4 : s2.deep ≤ 60 := hR3.d1
    have hav2 : s2.code = 0 → s.at_ + 1 ≤ s2.at_ := hr2.adv
    refine LX.mv rfl <| LX.su [0, 2] rfl <| LX.nt <| CX.ret <| PX.blockR <| PX.thenR <| PX.ret1 (by simp) Try.results14 rfl ?_
    exact fun w hw => ⟨(r2, s2, m2), rfl, ⟨as_, hR3.wk dc dc, hn2⟩, hw⟩
  try simp at hb2
  refine CX.sr <| LX.mv rfl <| LX.callQ (is_q (s := s) (m := m) ht1 ([102, 111, 114] : List UInt8) (fun w hw => blkL hw (i := 0) rfl) (fun w hw => hL.push hw)) Pb.en32 rfl rfl rfl rfl rfl <| LX.mv rfl <| LX.su [0, 2, 3, 20] rfl <| LX.nt ?_
  refine CX.cond rfl (fun hb3 => ?_) (fun hb3 => ?_)
  · try simp at hb3
    refine CX.sr ?_
    have hgo5 : s.at_ + 1 < L.length := by exact hK.fin _ t1 ht1 (by (intro h8; simp_all [isS]; done))
    have hln5 := hK.len
    refine LX.ms 3 rfl <| LX.p (Y.fieldAddr0 Pa.fo42_1 rfl) rfl <| LX.p (Y.ldB 0 Pa.one3 rfl rfl rfl) rfl <| LX.p (Y.addN rfl rfl (by (simp only []; omega))) rfl <| LX.mv rfl <| LX.p (Y.fieldAddr0 Pa.fo42_1 rfl) rfl <| LX.storeB 0 Pb.sz3 rfl rfl rfl rfl rfl rfl rfl rfl <| LX.wq (PWl bp al L cl (RS.go s 1) m fr) rfl ?_
    have hR6 : Rn L.length s (RS.go s 1) ([] : List Int) 1 (-2) := hR.go hgo5
    have hle7 : s.at_ < (s.at_ + 1) := by have h9 : s.at_ ≤ s.at_ := hR.le; omega
    have hlt7 : (s.at_ + 1) < L.length := hgo5
    refine LX.su [0, 2, 3] rfl <| LX.nt <| CX.sr <| LX.mv rfl ?_
    have hk8 : Sk L.length (RS.go s 1) := hs.next hR6 dc
    refine LX.call ((ex_all hL hK L.length).targets_ (RS.go s 1) m fr hk8 hn (by show L.length - (s.at_ + 1) ≤ L.length; omega)) Pe.en34 rfl rfl rfl rfl rfl ?_
    rintro ⟨r8, s8, m8⟩
    refine LX.have fun ⟨hri8, hr8, hn8⟩ => ?_
    try dsimp only at hri8 hr8 hn8 ⊢
    have hR9 : Rn L.length s s8 ([r8]) 2 (-2) := hR6.trans hr8
    have hch10 : (s.at_ + 1) ≤ s8.at_ := hr8.le
    have hle10 : s.at_ < s8.at_ := by omega
    have hlt10 : s8.at_ < L.length := hR9.lt
    have hde10 : s.deep ≤ s8.deep := hr8.d0
    have hdd10 : s8.deep ≤ 60 := hR9.d1
    have hav8 : s8.code = 0 → (s.at_ + 1) + 1 ≤ s8.at_ := hr8.adv
    refine LX.mv rfl <| LX.su [0, 2, 3, 4] rfl <| LX.nt <| CX.sr ?_
    obtain ⟨t11, ht11⟩ : ∃ t, L[s8.at_]? = some t := ⟨_, List.getElem?_eq_getElem (show s8.at_ < L.length from hR9.lt)⟩
    have htk11 := (tok_in hL ht11).1
    have htp11 := (tok_in hL ht11).2
    refine LX.mv rfl <| LX.call (want_c (fr := fr) s8 m8 hL hK ht11 ([105, 110] : List UInt8)) Pd.en35 rfl rfl rfl rfl rfl ?_
    rintro ⟨b12, s12⟩
    refine LX.have fun hw12 => ?_
    try dsimp only at hw12 ⊢
    have hn12 : NdsR 3 m8.rs m8.cells s12.ns := by rw [hw12.ns]; exact hn8
    have hR13 : Rn L.length s s12 ([r8]) 3 (-4) := hR9.want hw12
    have hch14 : s8.at_ ≤ s12.at_ := hw12.le
    have hle14 : s.at_ < s12.at_ := by omega
    have hlt14 : s12.at_ < L.length := hR13.lt
    have hde14 : s8.deep ≤ s12.deep := Int.le_of_eq hw12.deep.symm
    have hdd14 : s12.deep ≤ 60 := hR13.d1
    refine LX.su [0, 2, 3, 4] rfl <| LX.nt <| CX.seq <| CX.sr ?_
    obtain ⟨t15, ht15⟩ : ∃ t, L[s12.at_]? = some t := ⟨_, List.getElem?_eq_getElem (show s12.at_ < L.length from hR13.lt)⟩
    have htk15 := (tok_in hL ht15).1
    have htp15 := (tok_in hL ht15).2
    refine LX.mv rfl <| LX.callQ (show FnQ Try.prog 12 #[.pointer (some ⟨bp, 0, none⟩)] _ (.bool (decide (s12.code ≠ 0))) from bad_q (s := s12) (m := m8) (fun w hw => blkL hw (i := 0) rfl)) Pb.en12 rfl rfl rfl rfl rfl <| LX.p (Y.not rfl) rfl <| LX.mv rfl ?_
    refine LX.caseB (s := 38) rfl (fun hb4 => ?_) (fun hb4 => ?_)
    ·
      refine LX.gT rfl rfl rfl hb4 (Y.move rfl) rfl rfl <| LX.callT rfl rfl rfl hb4 (begins_w (s := s12) (m := m8) ht15 (fun w hw => blkL hw (i := 0) rfl) (fun w hw => hL.push hw)) Pe.en36 rfl rfl rfl rfl ?_
      intro b16
      refine LX.have fun hy16 => ?_
      replace hy16 : b16 = true → t15.kind ≠ 8 := hy16
      refine LX.gT rfl rfl rfl hb4 (Y.not rfl) rfl rfl <| LX.p (Y.pickT rfl hb4 rfl) rfl <| LX.su [0, 2, 3, 4, 42] rfl <| LX.nt ?_
      refine CX.cond rfl (fun hb5 => ?_) (fun hb5 => ?_)
      · try simp at hb5
        refine CX.sr <| LX.mv rfl <| LX.call (wrong_c (fr := fr) s12 m8 hL ht15) Pb.en37 rfl rfl rfl rfl rfl ?_
        intro s17
        refine LX.have fun hf17 => ?_
        have hb917 : Bad s12 s17 := FailR.bad hf17 dc
        have hbc17 := hb917.code
        have hn17 : NdsR 3 m8.rs m8.cells s17.ns := by rw [hb917.ns]; exact hn12
        have hR18 : Rn L.length s s17 ([r8]) 3 (-4) := hR13.bad2 hb917
        have hch19 : s12.at_ ≤ s17.at_ := Nat.le_of_eq hb917.at_.symm
        have hle19 : s.at_ < s17.at_ := by omega
        have hlt19 : s17.at_ < L.length := hR18.lt
        have hde19 : s12.deep ≤ s17.deep := Int.le_of_eq hb917.deep.symm
        have hdd19 : s17.deep ≤ 60 := hR18.d1
        refine LX.mv rfl <| LX.su [0, 2, 3, 4] rfl <| LX.nt <| CX.ret <| PX.thenR <| PX.blockR <| PX.thenR <| PX.ret1 (by simp) Try.results14 rfl ?_
        exact fun w hw => ⟨((-1), s17, m8), rfl, ⟨(by (unfold inI; omega)), hR18.no as_, hn17⟩, hw⟩
      try simp at hb5
      refine CX.skip <| PX.thenN <| CX.sr <| LX.mv rfl ?_
      have hk20 : Sk L.length s12 := hs.next hR13 dc
      refine LX.call ((ex_all hL hK L.length).tuple_ s12 m8 fr hk20 hn12 (by show L.length - s12.at_ ≤ L.length; omega)) Pi.en38 rfl rfl rfl rfl rfl ?_
      rintro ⟨r20, s20, m20⟩
      refine LX.have fun ⟨hri20, hr20, hn20⟩ => ?_
      try dsimp only at hri20 hr20 hn20 ⊢
      have hR21 : Rn L.length s s20 ([r8] ++ [r20]) 4 (-4) := hR13.trans hr20
      have hch22 : s12.at_ ≤ s20.at_ := hr20.le
      have hle22 : s.at_ < s20.at_ := by omega
      have hlt22 : s20.at_ < L.length := hR21.lt
      have hde22 : s12.deep ≤ s20.deep := hr20.d0
      have hdd22 : s20.deep ≤ 60 := hR21.d1
      have hav20 : s20.code = 0 → s12.at_ + 1 ≤ s20.at_ := hr20.adv
      refine LX.mv rfl <| LX.su [0, 2, 3, 4, 5] rfl <| LX.nt <| CX.sr <| LX.ms 2 rfl <| LX.p (Y.fieldAddr0 Pi.fo42_5 rfl) rfl <| LX.p (Y.ldB 0 Pi.one4 rfl rfl rfl) rfl <| LX.mv rfl <| LX.su [0, 2, 3, 4, 5, 6] rfl <| LX.nt <| CX.sr <| LX.ms 2 rfl <| LX.p (Y.fieldAddr0 Pi.fo42_5 rfl) rfl <| LX.storeB 0 Pj.sz4 rfl rfl rfl rfl rfl rfl rfl rfl <| LX.wq (PWl bp al L cl (RS.fl s20 s20.df true s20.tp) m20 fr) rfl ?_
      have hR23 : Rn L.length s (RS.fl s20 s20.df true s20.tp) ([r8] ++ [r20]) 4 (-4) := hR21.fl _ _ _
      refine LX.su [0, 2, 3, 4, 5, 6] rfl <| LX.nt <| CX.sr <| LX.mv rfl ?_
      have hk24 : Sk L.length (RS.fl s20 s20.df true s20.tp) := hs.next hR23 dc
      refine LX.call (ih_block (RS.fl s20 s20.df true s20.tp) m20 fr hk24 hn20 (by show L.length - s20.at_ < N; omega)) Pj.en39 rfl rfl rfl rfl rfl ?_
      rintro ⟨r24, s24, m24⟩
      refine LX.have fun ⟨hri24, hr24, hn24⟩ => ?_
      try dsimp only at hri24 hr24 hn24 ⊢
      have hR25 : Rn L.length s s24 ([r8] ++ [r20] ++ [r24]) 5 (-4) := hR23.trans hr24
      have hch26 : s20.at_ ≤ s24.at_ := hr24.le
      have hle26 : s.at_ < s24.at_ := by omega
      have hlt26 : s24.at_ < L.length := hR25.lt
      have hde26 : s20.deep ≤ s24.deep := hr24.d0
      have hdd26 : s24.deep ≤ 60 := hR25.d1
      have hav24 : s24.code = 0 → s20.at_ + 1 ≤ s24.at_ := hr24.adv
      refine LX.mv rfl <| LX.su [0, 2, 3, 4, 5, 6, 7] rfl <| LX.nt <| CX.sr <| LX.ms 3 rfl <| LX.p (Y.fieldAddr0 Pi.fo42_5 rfl) rfl <| LX.storeB 0 Pj.sz4 rfl rfl rfl rfl rfl rfl rfl rfl <| LX.wq (PWl bp al L cl (RS.fl s24 s24.df s20.lp s24.tp) m24 fr) rfl ?_
      have hR27 : Rn L.length s (RS.fl s24 s24.df s20.lp s24.tp) ([r8] ++ [r20] ++ [r24]) 5 (-4) := hR25.fl _ _ _
      refine LX.su [0, 2, 3, 4, 5, 7] rfl <| LX.nt <| CX.sr <| LX.ms 5 rfl <| LX.buildSlice (e := 3) (size := 1) rfl rfl (fun _ => by kernel_rfl) rfl dc rfl rfl rfl ?_
      intro gt28
      refine LX.wq (Ri (some gt28) 3 ([r8, r20, r24]) :: PWl bp al L cl (RS.fl s24 s24.df s20.lp s24.tp) m24 fr) rfl <| LX.call (put_c (fr := fr) (g := (some gt28)) (c := 3) (ks := [r8, r20, r24]) (op := 44) (pos := t1.pos) (x := ([] : List UInt8)) (RS.fl s24 s24.df s20.lp s24.tp) m24 hn24 (fun h0 => by have h1 : ((s24.ns).length : Int) + 2 * s.at_ ≤ s.ns.length + 2 * ((s24.at_ : Nat) : Int) + (-4) := hR27.few h0; have h2 := hs.few (hR27.bad h0); have h3 := hK.len; have h4 : s24.at_ < L.length := hR27.lt; show (s24.ns).length ≤ 1000000; omega) (by (simp only [List.length_cons, List.length_nil, List.length_append]; omega)) ((AllI.cons as_ (AllI.cons as_ (AllI.cons as_ AllI.nil)))) (by (unfold inI; omega)) as_) Pd.en16 rfl rfl rfl rfl rfl ?_
      rintro ⟨r29, s29, m29⟩
      refine LX.have fun ⟨hri29, hp29, hn29⟩ => ?_
      try dsimp only at hri29 hp29 hn29 ⊢
      have hR30 : Rn L.length s s29 ([r29]) 5 (-3) := hR27.put (us := ([] : List Int)) (ks := [r8, r20, r24]) hp29 pm
      have hch31 : s24.at_ ≤ s29.at_ := Nat.le_of_eq hp29.eqs.1.symm
      have hle31 : s.at_ < s29.at_ := by omega
      have hlt31 : s29.at_ < L.length := hR30.lt
      have hde31 : s24.deep ≤ s29.deep := Int.le_of_eq hp29.eqs.2.1.symm
      have hdd31 : s29.deep ≤ 60 := hR30.d1
      refine LX.mv rfl <| LX.su [0, 2] rfl <| LX.nt <| CX.ret <| PX.blockR <| PX.thenR <| PX.ret1 (by simp) Try.results14 rfl ?_
      exact fun w hw => ⟨(r29, s29, m29), rfl, ⟨as_, hR30.wk dc dc, hn29⟩, hw⟩
    refine LX.gF rfl rfl rfl hb4 rfl rfl <| LX.gF rfl rfl rfl hb4 rfl rfl <| LX.gF rfl rfl rfl hb4 rfl rfl <| LX.p (Y.pickF rfl hb4 rfl) rfl <| LX.su [0, 2, 3, 4, 42] rfl <| LX.nt ?_
    refine CX.cond rfl (fun hb6 => ?_) (fun hb6 => ?_)
    · try simp at hb6
      done
    try simp at hb6
    refine CX.skip <| PX.thenN <| CX.sr <| LX.mv rfl ?_
    have hk32 : Sk L.length s12 := hs.next hR13 dc
    refine LX.call ((ex_all hL hK L.length).tuple_ s12 m8 fr hk32 hn12 (by show L.length - s12.at_ ≤ L.length; omega)) Pi.en38 rfl rfl rfl rfl rfl ?_
    rintro ⟨r32, s32, m32⟩
    refine LX.have fun ⟨hri32, hr32, hn32⟩ => ?_
    try dsimp only at hri32 hr32 hn32 ⊢
    have hR33 : Rn L.length s s32 ([r8] ++ [r32]) 4 (-4) := hR13.trans hr32
    have hch34 : s12.at_ ≤ s32.at_ := hr32.le
    have hle34 : s.at_ < s32.at_ := by omega
    have hlt34 : s32.at_ < L.length := hR33.lt
    have hde34 : s12.deep ≤ s32.deep := hr32.d0
    have hdd34 : s32.deep ≤ 60 := hR33.d1
    have hav32 : s32.code = 0 → s12.at_ + 1 ≤ s32.at_ := hr32.adv
    refine LX.mv rfl <| LX.su [0, 2, 3, 4, 5] rfl <| LX.nt <| CX.sr <| LX.ms 2 rfl <| LX.p (Y.fieldAddr0 Pi.fo42_5 rfl) rfl <| LX.p (Y.ldB 0 Pi.one4 rfl rfl rfl) rfl <| LX.mv rfl <| LX.su [0, 2, 3, 4, 5, 6] rfl <| LX.nt <| CX.sr <| LX.ms 2 rfl <| LX.p (Y.fieldAddr0 Pi.fo42_5 rfl) rfl <| LX.storeB 0 Pj.sz4 rfl rfl rfl rfl rfl rfl rfl rfl <| LX.wq (PWl bp al L cl (RS.fl s32 s32.df true s32.tp) m32 fr) rfl ?_
    have hR35 : Rn L.length s (RS.fl s32 s32.df true s32.tp) ([r8] ++ [r32]) 4 (-4) := hR33.fl _ _ _
    refine LX.su [0, 2, 3, 4, 5, 6] rfl <| LX.nt <| CX.sr <| LX.mv rfl ?_
    have hk36 : Sk L.length (RS.fl s32 s32.df true s32.tp) := hs.next hR35 dc
    refine LX.call (ih_block (RS.fl s32 s32.df true s32.tp) m32 fr hk36 hn32 (by show L.length - s32.at_ < N; omega)) Pj.en39 rfl rfl rfl rfl rfl ?_
    rintro ⟨r36, s36, m36⟩
    refine LX.have fun ⟨hri36, hr36, hn36⟩ => ?_
    try dsimp only at hri36 hr36 hn36 ⊢
    have hR37 : Rn L.length s s36 ([r8] ++ [r32] ++ [r36]) 5 (-4) := hR35.trans hr36
    have hch38 : s32.at_ ≤ s36.at_ := hr36.le
    have hle38 : s.at_ < s36.at_ := by omega
    have hlt38 : s36.at_ < L.length := hR37.lt
    have hde38 : s32.deep ≤ s36.deep := hr36.d0
    have hdd38 : s36.deep ≤ 60 := hR37.d1
    have hav36 : s36.code = 0 → s32.at_ + 1 ≤ s36.at_ := hr36.adv
    refine LX.mv rfl <| LX.su [0, 2, 3, 4, 5, 6, 7] rfl <| LX.nt <| CX.sr <| LX.ms 3 rfl <| LX.p (Y.fieldAddr0 Pi.fo42_5 rfl) rfl <| LX.storeB 0 Pj.sz4 rfl rfl rfl rfl rfl rfl rfl rfl <| LX.wq (PWl bp al L cl (RS.fl s36 s36.df s32.lp s36.tp) m36 fr) rfl ?_
    have hR39 : Rn L.length s (RS.fl s36 s36.df s32.lp s36.tp) ([r8] ++ [r32] ++ [r36]) 5 (-4) := hR37.fl _ _ _
    refine LX.su [0, 2, 3, 4, 5, 7] rfl <| LX.nt <| CX.sr <| LX.ms 5 rfl <| LX.buildSlice (e := 3) (size := 1) rfl rfl (fun _ => by kernel_rfl) rfl dc rfl rfl rfl ?_
    intro gt40
    refine LX.wq (Ri (some gt40) 3 ([r8, r32, r36]) :: PWl bp al L cl (RS.fl s36 s36.df s32.lp s36.tp) m36 fr) rfl <| LX.call (put_c (fr := fr) (g := (some gt40)) (c := 3) (ks := [r8, r32, r36]) (op := 44) (pos := t1.pos) (x := ([] : List UInt8)) (RS.fl s36 s36.df s32.lp s36.tp) m36 hn36 (fun h0 => by have h1 : ((s36.ns).length : Int) + 2 * s.at_ ≤ s.ns.length + 2 * ((s36.at_ : Nat) : Int) + (-4) := hR39.few h0; have h2 := hs.few (hR39.bad h0); have h3 := hK.len; have h4 : s36.at_ < L.length := hR39.lt; show (s36.ns).length ≤ 1000000; omega) (by (simp only [List.length_cons, List.length_nil, List.length_append]; omega)) ((AllI.cons as_ (AllI.cons as_ (AllI.cons as_ AllI.nil)))) (by (unfold inI; omega)) as_) Pd.en16 rfl rfl rfl rfl rfl ?_
    rintro ⟨r41, s41, m41⟩
    refine LX.have fun ⟨hri41, hp41, hn41⟩ => ?_
    try dsimp only at hri41 hp41 hn41 ⊢
    have hR42 : Rn L.length s s41 ([r41]) 5 (-3) := hR39.put (us := ([] : List Int)) (ks := [r8, r32, r36]) hp41 pm
    have hch43 : s36.at_ ≤ s41.at_ := Nat.le_of_eq hp41.eqs.1.symm
    have hle43 : s.at_ < s41.at_ := by omega
    have hlt43 : s41.at_ < L.length := hR42.lt
    have hde43 : s36.deep ≤ s41.deep := Int.le_of_eq hp41.eqs.2.1.symm
    have hdd43 : s41.deep ≤ 60 := hR42.d1
    refine LX.mv rfl <| LX.su [0, 2] rfl <| LX.nt <| CX.ret <| PX.blockR <| PX.thenR <| PX.ret1 (by simp) Try.results14 rfl ?_
    exact fun w hw => ⟨(r41, s41, m41), rfl, ⟨as_, hR42.wk dc dc, hn41⟩, hw⟩
  try simp at hb3
  refine CX.sr <| LX.mv rfl <| LX.callQ (is_q (s := s) (m := m) ht1 ([100, 101, 102] : List UInt8) (fun w hw => blkL hw (i := 0) rfl) (fun w hw => hL.push hw)) Pb.en32 rfl rfl rfl rfl rfl <| LX.mv rfl <| LX.su [0, 2, 3, 67] rfl <| LX.nt ?_
  refine CX.cond rfl (fun hb7 => ?_) (fun hb7 => ?_)
  · try simp at hb7
    refine CX.seq <| CX.sr <| LX.ms 2 rfl <| LX.p (Y.fieldAddr0 Pi.fo42_6 rfl) rfl <| LX.p (Y.ldB 0 Pi.one4 rfl rfl rfl) rfl <| LX.p (Y.not rfl) rfl <| LX.su [0, 2, 3, 74] rfl <| LX.nt ?_
    refine CX.cond rfl (fun hb8 => ?_) (fun hb8 => ?_)
    · try simp at hb8
      refine CX.sr <| LX.mv rfl <| LX.call (wrong_c (fr := fr) s m hL ht1) Pb.en37 rfl rfl rfl rfl rfl ?_
      intro s44
      refine LX.have fun hf44 => ?_
      have hb944 : Bad s s44 := FailR.bad hf44 dc
      have hbc44 := hb944.code
      have hn44 : NdsR 3 m.rs m.cells s44.ns := by rw [hb944.ns]; exact hn
      have hR45 : Rn L.length s s44 ([] : List Int) 0 (0) := hR.bad2 hb944
      have hch46 : s.at_ ≤ s44.at_ := Nat.le_of_eq hb944.at_.symm
      have hle46 : s.at_ ≤ s44.at_ := by omega
      have hlt46 : s44.at_ < L.length := hR45.lt
      have hde46 : s.deep ≤ s44.deep := Int.le_of_eq hb944.deep.symm
      have hdd46 : s44.deep ≤ 60 := hR45.d1
      refine LX.mv rfl <| LX.su [0, 2, 3] rfl <| LX.nt <| CX.ret <| PX.thenR <| PX.blockR <| PX.thenR <| PX.ret1 (by simp) Try.results14 rfl ?_
      exact fun w hw => ⟨((-1), s44, m), rfl, ⟨(by (unfold inI; omega)), hR45.no as_, hn44⟩, hw⟩
    try simp at hb8
    refine CX.skip <| PX.thenN <| CX.sr <| LX.ms 2 rfl ?_
    have hk47 : Sk L.length s := hs.next hR dc
    have hgo47 : s.at_ + 1 < L.length := by exact hK.fin _ t1 ht1 (by (intro h8; simp_all [isS]; done))
    refine LX.call (h_function t1.pos as_ s m fr hk47 hn (by show L.length - s.at_ ≤ N; omega) hgo47) Pj.en40 rfl rfl rfl rfl rfl ?_
    rintro ⟨r47, s47, m47⟩
    refine LX.have fun ⟨hri47, hr47, hn47⟩ => ?_
    try dsimp only at hri47 hr47 hn47 ⊢
    have hR48 : Rn L.length s s47 ([r47]) 1 (0) := hR.trans hr47
    have hch49 : s.at_ ≤ s47.at_ := hr47.le
    have hle49 : s.at_ ≤ s47.at_ := by omega
    have hlt49 : s47.at_ < L.length := hR48.lt
    have hde49 : s.deep ≤ s47.deep := hr47.d0
    have hdd49 : s47.deep ≤ 60 := hR48.d1
    have hav47 : s47.code = 0 → s.at_ + 1 ≤ s47.at_ := hr47.adv
    refine LX.mv rfl <| LX.su [0, 2] rfl <| LX.nt <| CX.ret <| PX.blockR <| PX.thenR <| PX.ret1 (by simp) Try.results14 rfl ?_
    exact fun w hw => ⟨(r47, s47, m47), rfl, ⟨as_, hR48.wk dc dc, hn47⟩, hw⟩
  try simp at hb7
  refine CX.skip <| PX.blockN <| PX.thenN <| CX.sr <| LX.mv rfl ?_
  have hk50 : Sk L.length s := hs.next hR dc
  refine LX.call (h_simple s m fr hk50 hn (by show L.length - s.at_ ≤ N; omega)) Pj.en41 rfl rfl rfl rfl rfl ?_
  rintro ⟨r50, s50, m50⟩
  refine LX.have fun ⟨hri50, hr50, hn50⟩ => ?_
  try dsimp only at hri50 hr50 hn50 ⊢
  have hR51 : Rn L.length s s50 ([r50]) 1 (1) := hR.trans hr50
  have hch52 : s.at_ ≤ s50.at_ := hr50.le
  have hle52 : s.at_ ≤ s50.at_ := by omega
  have hlt52 : s50.at_ < L.length := hR51.lt
  have hde52 : s.deep ≤ s50.deep := hr50.d0
  have hdd52 : s50.deep ≤ 60 := hR51.d1
  have hav50 : s50.code = 0 → s.at_ + 1 ≤ s50.at_ := hr50.adv
  refine LX.mv rfl <| LX.su [0, 2, 8] rfl <| LX.nt <| CX.sr ?_
  obtain ⟨t53, ht53⟩ : ∃ t, L[s50.at_]? = some t := ⟨_, List.getElem?_eq_getElem (show s50.at_ < L.length from hR51.lt)⟩
  have htk53 := (tok_in hL ht53).1
  have htp53 := (tok_in hL ht53).2
  refine LX.mv rfl <| LX.call (kind_c (fr := fr) s50 m50 hL hK ht53 5 dc) Pg.en42 rfl rfl rfl rfl rfl ?_
  rintro ⟨k54, b54, s54⟩
  refine LX.have fun ⟨hk54, hki54, hkt54, hw54⟩ => ?_
  try dsimp only at hk54 hki54 hkt54 hw54 ⊢
  have hn54 : NdsR 3 m50.rs m50.cells s54.ns := by rw [hw54.ns]; exact hn50
  have hR55 : Rn L.length s s54 ([r50]) 2 (-1) := hR51.want hw54
  have hch56 : s50.at_ ≤ s54.at_ := hw54.le
  have hle56 : s.at_ ≤ s54.at_ := by omega
  have hlt56 : s54.at_ < L.length := hR55.lt
  have hde56 : s50.deep ≤ s54.deep := Int.le_of_eq hw54.deep.symm
  have hdd56 : s54.deep ≤ 60 := hR55.d1
  refine LX.su [2, 8] rfl <| LX.nt <| CX.sr <| LX.ms 2 rfl <| LX.su [2] rfl <| LX.nt <| CX.ret <| PX.ret1 (by simp) Try.results14 rfl ?_
  exact fun w hw => ⟨(r50, s54, m50), rfl, ⟨as_, hR55.wk dc dc, hn54⟩, hw⟩
end Go.Proofs.Yteibddakpedogaa
