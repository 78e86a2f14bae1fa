/-
  Proved here: the document's parser: indices, calls.
-/
import Derived.Test.YteibddakpedogaaAsE
set_option linter.unusedSimpArgs false
namespace Go.Proofs.Yteibddakpedogaa
open Go.SX Go.RowKit Go.Tr Go.As Go.Ck
namespace Pf
theorem en52 : Enters Try.prog 52 := Enters.of Try.func52 (by kernel_rfl) (by kernel_rfl)
theorem fo44_2 : FieldOff Try.prog 44 2 2 := fun b o w => by kernel_rfl
theorem el64 : Elem Try.prog 64 9 1 16 := Elem.of Pa.un64 (z := .string ⟨#[]⟩) (by kernel_rfl) rfl
end Pf
open Go.Pa (Tk)
theorem index_c {w0 : World} {base : Nat} {bp : Nat} {al : Option Addr} {cl : Nat} {L : List Go.Pa.Tk} (hL : SlAt 3 tokA (Lies w0 base) al L) (hK : Tok6 L) {N : Nat} (ih_test : (∀ (s : RS) (m : Mm) (fr : List It), Sk L.length s → NdsR 3 m.rs m.cells s.ns → L.length - s.at_ < N → PF 47 [.pointer (some ⟨bp, 0, none⟩)] w0 base bp al cl L s m fr)) (a pos : Int) (ha : inI a) (hpos : inI pos) : ∀ (s s1 : RS) (m : Mm) (fr : List It), Sk L.length s → Rn L.length s s1 [a] 1 0 → NdsR 3 m.rs m.cells s1.ns → L.length - s1.at_ ≤ N → s1.at_ + 1 < L.length → FnC Try.prog 65 #[.pointer (some ⟨bp, 0, none⟩), .int .i64 a, .int .i64 pos] (WA w0 base (PWl bp al L cl s1 m fr)) (fun q : Int × RS × Mm => .int .i64 q.1) (fun q w => (inI q.1 ∧ Rn L.length s q.2.1 [q.1] 1 0 ∧ NdsR 3 q.2.2.rs q.2.2.cells q.2.1.ns ∧ s1.at_ ≤ q.2.1.at_ ∧ (q.2.1.code = 0 → s1.at_ + 1 ≤ q.2.1.at_)) ∧ WA w0 base (PWl bp al L cl q.2.1 q.2.2 fr) w) := by
  intro s s1 m fr hs hR hn hN hgo0
  have hle : s.at_ ≤ s1.at_ := hR.le
  have hd0 := hs.d0
  have hde0 : s.deep ≤ s1.deep := hR.d0
  have hd1 : s1.deep ≤ 60 := hR.d1
  have hlt : s1.at_ < L.length := hR.lt
  have hln0 := hK.len
  have hN0 : 0 < N := by omega
  refine FnC.of_body (fn := Try.f65) [(0, _), (1, _), (2, _)] Try.func65 rfl Try.ntmps65 rfl ⟨rfl, rfl, rfl, trivial⟩ ?_
  refine CX.sr <| LX.mv rfl <| LX.su [0, 1, 2, 6] rfl <| LX.nt <| CX.seq <| CX.sr <| LX.ms 2 rfl ?_
  have hd051 : 0 ≤ s1.deep := by have h9 := hs.d0; have h8 : s.deep ≤ s1.deep := hR.d0; omega
  refine LX.call (enter_c (fr := fr) s1 m hd051 pos) Pd.en48 rfl rfl rfl rfl rfl ?_
  rintro ⟨b51, s51⟩
  refine LX.have fun he51 => ?_
  try dsimp only at he51 ⊢
  have hn51 : NdsR 3 m.rs m.cells s51.ns := by rw [he51.ns]; exact hn
  refine LX.p (Y.not rfl) rfl <| LX.su [0, 1, 2, 6, 12] rfl <| LX.nt ?_
  refine CX.cond rfl (fun hb1 => ?_) (fun hb1 => ?_)
  · try simp at hb1
    have hb951 := he51.f (by exact hb1)
    have hbc51 := hb951.code
    have hR52 : Rn L.length s s51 ([a]) 1 (0) := hR.bad2 hb951
    have hch951 : s1.at_ ≤ s51.at_ := Nat.le_of_eq hb951.at_.symm
    refine CX.sr <| LX.mv rfl <| LX.su [0, 1, 2, 6] rfl <| LX.nt <| CX.ret <| PX.thenR <| PX.ret1 (by simp) Try.results65 rfl ?_
    exact fun w hw => ⟨((-1), s51, m), rfl, ⟨(by (unfold inI; omega)), hR52.no as_, hn51, (by show s1.at_ ≤ s51.at_; omega), (by (intro h0; exact absurd h0 as_))⟩, hw⟩
  try simp at hb1
  obtain ⟨hc51, hdl51, hq51⟩ := he51.t (by exact hb1)
  subst hq51
  have hR53 : Rn L.length s (RS.dp s1 (s1.deep + 1)) ([a]) 1 (0) := hR.up hdl51
  refine CX.skip <| PX.thenN <| CX.sr ?_
  obtain ⟨t54, ht54⟩ : ∃ t, L[s1.at_]? = some t := ⟨_, List.getElem?_eq_getElem (show s1.at_ < L.length from hR53.lt)⟩
  have htk54 := (tok_in hL ht54).1
  have htp54 := (tok_in hL ht54).2
  have hgo55 : s1.at_ + 1 < L.length := by omega
  have hln55 := hK.len
  refine LX.ms 3 rfl <| LX.p (Y.fieldAddr0 Pa.fo42_1 rfl) rfl <| LX.p (Y.ldB 0 Pa.one3 rfl rfl rfl) rfl <| LX.p (Y.addN rfl rfl (by (simp only []; omega))) rfl <| LX.mv rfl <| LX.p (Y.fieldAddr0 Pa.fo42_1 rfl) rfl <| LX.storeB 0 Pb.sz3 rfl rfl rfl rfl rfl rfl rfl rfl <| LX.wq (PWl bp al L cl (RS.go (RS.dp s1 (s1.deep + 1)) 1) m fr) rfl ?_
  have hR56 : Rn L.length s (RS.go (RS.dp s1 (s1.deep + 1)) 1) ([a]) 2 (-2) := hR53.go hgo55
  have hle57 : s.at_ < (s1.at_ + 1) := by have h9 : s.at_ ≤ s1.at_ := hR53.le; omega
  have hlt57 : (s1.at_ + 1) < L.length := hgo55
  refine LX.su [0, 1, 2, 6] rfl <| LX.nt <| CX.sr <| LX.mv rfl <| LX.su [0, 1, 2, 6] rfl <| LX.nt <| CX.seq <| CX.sr ?_
  obtain ⟨t58, ht58⟩ : ∃ t, L[(s1.at_ + 1)]? = some t := ⟨_, List.getElem?_eq_getElem (show (s1.at_ + 1) < L.length from hR56.lt)⟩
  have htk58 := (tok_in hL ht58).1
  have htp58 := (tok_in hL ht58).2
  refine LX.mv rfl <| LX.callQ (is_q (s := (RS.go (RS.dp s1 (s1.deep + 1)) 1)) (m := m) ht58 ([58] : List UInt8) (fun w hw => blkL hw (i := 0) rfl) (fun w hw => hL.push hw)) Pb.en32 rfl rfl rfl rfl rfl <| LX.su [0, 1, 2, 6, 22] rfl <| LX.nt ?_
  refine CX.cond rfl (fun hb2 => ?_) (fun hb2 => ?_)
  · try simp at hb2
    refine CX.region <| LX.ms 2 rfl <| LX.callQ (now_q (s := (RS.go (RS.dp s1 (s1.deep + 1)) 1)) (m := m) ht58 (fun w hw => blkL hw (i := 0) rfl) (fun w hw => hL.push hw)) Pa.en13 rfl rfl rfl rfl rfl <| LX.p (Y.field (v := .int .i64 t58.pos) rfl (fun _ => by kernel_rfl)) rfl <| LX.world (W' := WA w0 base (Ri none 0 ([] : List Int) :: PWl bp al L cl (RS.go (RS.dp s1 (s1.deep + 1)) 1) m fr)) (fun w hw => (show WA w0 base (Ri none 0 ([] : List Int) :: PWl bp al L cl (RS.go (RS.dp s1 (s1.deep + 1)) 1) m fr) w from (show WA w0 base (PWl bp al L cl (RS.go (RS.dp s1 (s1.deep + 1)) 1) m fr) w from hw).nilRow 3 1)) <| LX.call (put_c (fr := fr) (g := none) (c := 0) (ks := ([] : List Int)) (op := 15) (pos := t58.pos) (x := ([] : List UInt8)) (RS.go (RS.dp s1 (s1.deep + 1)) 1) m hn51 (fun h0 => by have h1 : ((s1.ns).length : Int) + 2 * s.at_ ≤ s.ns.length + 2 * (((s1.at_ + 1) : Nat) : Int) + (-2) := hR56.few h0; have h2 := hs.few (hR56.bad h0); have h3 := hK.len; have h4 : (s1.at_ + 1) < L.length := hR56.lt; show (s1.ns).length ≤ 1000000; omega) (by (simp only [List.length_cons, List.length_nil, List.length_append]; omega)) (AllI.nil) (by (unfold inI; omega)) as_) Pd.en16 rfl rfl rfl rfl rfl ?_
    rintro ⟨r59, s59, m59⟩
    refine LX.have fun ⟨hri59, hp59, hn59⟩ => ?_
    try dsimp only at hri59 hp59 hn59 ⊢
    have hR60 : Rn L.length s s59 ([a] ++ [r59]) 2 (-1) := hR56.put (us := ([a])) (ks := ([] : List Int)) hp59 pm
    have hch61 : (s1.at_ + 1) ≤ s59.at_ := Nat.le_of_eq hp59.eqs.1.symm
    have hle61 : s.at_ < s59.at_ := by omega
    have hlt61 : s59.at_ < L.length := hR60.lt
    have hde61 : (s1.deep + 1) ≤ s59.deep := Int.le_of_eq hp59.eqs.2.1.symm
    have hdd61 : s59.deep ≤ 60 := hR60.d1
    refine LX.mv rfl <| LX.su [0, 1, 2, 6, 7] rfl <| LX.nt <| CX.seq <| CX.sr ?_
    obtain ⟨t62, ht62⟩ : ∃ t, L[s59.at_]? = some t := ⟨_, List.getElem?_eq_getElem (show s59.at_ < L.length from hR60.lt)⟩
    have htk62 := (tok_in hL ht62).1
    have htp62 := (tok_in hL ht62).2
    refine LX.mv rfl <| LX.call (want_c (fr := fr) s59 m59 hL hK ht62 ([58] : List UInt8)) Pd.en35 rfl rfl rfl rfl rfl ?_
    rintro ⟨b63, s63⟩
    refine LX.have fun hw63 => ?_
    try dsimp only at hw63 ⊢
    have hn63 : NdsR 3 m59.rs m59.cells s63.ns := by rw [hw63.ns]; exact hn59
    have hR64 : Rn L.length s s63 ([a] ++ [r59]) 3 (-3) := hR60.want hw63
    have hch65 : s59.at_ ≤ s63.at_ := hw63.le
    have hle65 : s.at_ < s63.at_ := by omega
    have hlt65 : s63.at_ < L.length := hR64.lt
    have hde65 : s59.deep ≤ s63.deep := Int.le_of_eq hw63.deep.symm
    have hdd65 : s63.deep ≤ 60 := hR64.d1
    refine LX.p (Y.not rfl) rfl <| LX.su [0, 1, 2, 6, 7, 61] rfl <| LX.nt ?_
    refine CX.cond rfl (fun hb3 => ?_) (fun hb3 => ?_)
    · try simp at hb3
      have hbc63 := (hw63.f (by exact hb3)).code
      refine CX.sr <| LX.mv rfl <| LX.su [0, 1, 2, 6, 7] rfl <| LX.nt <| CX.ret <| PX.thenR <| PX.ret1 (by simp) Try.results65 rfl ?_
      exact fun w hw => ⟨((-1), s63, m59), rfl, ⟨(by (unfold inI; omega)), hR64.no as_, hn63, (by show s1.at_ ≤ s63.at_; omega), (by (intro _; show s1.at_ + 1 ≤ s63.at_; omega))⟩, hw⟩
    try simp at hb3
    have hc63 := (hw63.t (by exact hb3)).1
    refine CX.skip <| PX.thenN <| CX.sr <| LX.mv rfl <| LX.su [0, 1, 2, 6, 7] rfl <| LX.nt <| CX.seq <| CX.sr ?_
    obtain ⟨t66, ht66⟩ : ∃ t, L[s63.at_]? = some t := ⟨_, List.getElem?_eq_getElem (show s63.at_ < L.length from hR64.lt)⟩
    have htk66 := (tok_in hL ht66).1
    have htp66 := (tok_in hL ht66).2
    refine LX.mv rfl <| LX.callQ (is_q (s := s63) (m := m59) ht66 ([93] : List UInt8) (fun w hw => blkL hw (i := 0) rfl) (fun w hw => hL.push hw)) Pb.en32 rfl rfl rfl rfl rfl <| LX.su [0, 1, 2, 6, 7, 63] rfl <| LX.nt ?_
    refine CX.cond rfl (fun hb4 => ?_) (fun hb4 => ?_)
    · try simp at hb4
      refine CX.region <| LX.ms 2 rfl <| LX.callQ (now_q (s := s63) (m := m59) ht66 (fun w hw => blkL hw (i := 0) rfl) (fun w hw => hL.push hw)) Pa.en13 rfl rfl rfl rfl rfl <| LX.p (Y.field (v := .int .i64 t66.pos) rfl (fun _ => by kernel_rfl)) rfl <| LX.world (W' := WA w0 base (Ri none 0 ([] : List Int) :: PWl bp al L cl s63 m59 fr)) (fun w hw => (show WA w0 base (Ri none 0 ([] : List Int) :: PWl bp al L cl s63 m59 fr) w from (show WA w0 base (PWl bp al L cl s63 m59 fr) w from hw).nilRow 3 1)) <| LX.call (put_c (fr := fr) (g := none) (c := 0) (ks := ([] : List Int)) (op := 15) (pos := t66.pos) (x := ([] : List UInt8)) s63 m59 hn63 (fun h0 => by have h1 : ((s63.ns).length : Int) + 2 * s.at_ ≤ s.ns.length + 2 * ((s63.at_ : Nat) : Int) + (-3) := hR64.few h0; have h2 := hs.few (hR64.bad h0); have h3 := hK.len; have h4 : s63.at_ < L.length := hR64.lt; show (s63.ns).length ≤ 1000000; omega) (by (simp only [List.length_cons, List.length_nil, List.length_append]; omega)) (AllI.nil) (by (unfold inI; omega)) as_) Pd.en16 rfl rfl rfl rfl rfl ?_
      rintro ⟨r67, s67, m67⟩
      refine LX.have fun ⟨hri67, hp67, hn67⟩ => ?_
      try dsimp only at hri67 hp67 hn67 ⊢
      have hR68 : Rn L.length s s67 ([a] ++ [r59] ++ [r67]) 3 (-2) := hR64.put (us := ([a] ++ [r59])) (ks := ([] : List Int)) hp67 pm
      have hch69 : s63.at_ ≤ s67.at_ := Nat.le_of_eq hp67.eqs.1.symm
      have hle69 : s.at_ < s67.at_ := by omega
      have hlt69 : s67.at_ < L.length := hR68.lt
      have hde69 : s63.deep ≤ s67.deep := Int.le_of_eq hp67.eqs.2.1.symm
      have hdd69 : s67.deep ≤ 60 := hR68.d1
      refine LX.mv rfl <| LX.su [0, 1, 2, 6, 7, 8] rfl <| LX.nt <| CX.sr ?_
      obtain ⟨t70, ht70⟩ : ∃ t, L[s67.at_]? = some t := ⟨_, List.getElem?_eq_getElem (show s67.at_ < L.length from hR68.lt)⟩
      have htk70 := (tok_in hL ht70).1
      have htp70 := (tok_in hL ht70).2
      refine LX.mv rfl <| LX.call (want_c (fr := fr) s67 m67 hL hK ht70 ([93] : List UInt8)) Pd.en35 rfl rfl rfl rfl rfl ?_
      rintro ⟨b71, s71⟩
      refine LX.have fun hw71 => ?_
      try dsimp only at hw71 ⊢
      have hn71 : NdsR 3 m67.rs m67.cells s71.ns := by rw [hw71.ns]; exact hn67
      have hR72 : Rn L.length s s71 ([a] ++ [r59] ++ [r67]) 4 (-4) := hR68.want hw71
      have hch73 : s67.at_ ≤ s71.at_ := hw71.le
      have hle73 : s.at_ < s71.at_ := by omega
      have hlt73 : s71.at_ < L.length := hR72.lt
      have hde73 : s67.deep ≤ s71.deep := Int.le_of_eq hw71.deep.symm
      have hdd73 : s71.deep ≤ 60 := hR72.d1
      refine LX.su [0, 1, 2, 6, 7, 8] rfl <| LX.nt <| CX.sr <| LX.ms 3 rfl <| LX.p (Y.fieldAddr0 Pb.fo42_3 rfl) rfl <| LX.p (Y.ldB 0 Pa.one3 rfl rfl rfl) rfl <| LX.p (Y.sub rfl rfl (by omega)) rfl <| LX.mv rfl <| LX.p (Y.fieldAddr0 Pb.fo42_3 rfl) rfl <| LX.storeB 0 Pb.sz3 rfl rfl rfl rfl rfl rfl rfl rfl <| LX.wq (PWl bp al L cl (RS.dp s71 (s71.deep - 1)) m67 fr) rfl ?_
      have hR74 : Rn L.length s (RS.dp s71 (s71.deep - 1)) ([a] ++ [r59] ++ [r67]) 4 (-4) := hR72.down (by show s.deep + 1 ≤ s71.deep; omega)
      refine LX.su [0, 1, 2, 6, 7, 8] rfl <| LX.nt <| CX.sr <| LX.ms 5 rfl <| LX.buildSlice (e := 3) (size := 1) rfl rfl (fun _ => by kernel_rfl) rfl dc rfl rfl rfl ?_
      intro gt75
      refine LX.wq (Ri (some gt75) 3 ([a, r59, r67]) :: PWl bp al L cl (RS.dp s71 (s71.deep - 1)) m67 fr) rfl <| LX.call (put_c (fr := fr) (g := (some gt75)) (c := 3) (ks := [a, r59, r67]) (op := 14) (pos := pos) (x := ([] : List UInt8)) (RS.dp s71 (s71.deep - 1)) m67 hn71 (fun h0 => by have h1 : ((s71.ns).length : Int) + 2 * s.at_ ≤ s.ns.length + 2 * ((s71.at_ : Nat) : Int) + (-4) := hR74.few h0; have h2 := hs.few (hR74.bad h0); have h3 := hK.len; have h4 : s71.at_ < L.length := hR74.lt; show (s71.ns).length ≤ 1000000; omega) (by (simp only [List.length_cons, List.length_nil, List.length_append]; omega)) ((AllI.cons as_ (AllI.cons as_ (AllI.cons as_ AllI.nil)))) (by (unfold inI; omega)) as_) Pd.en16 rfl rfl rfl rfl rfl ?_
      rintro ⟨r76, s76, m76⟩
      refine LX.have fun ⟨hri76, hp76, hn76⟩ => ?_
      try dsimp only at hri76 hp76 hn76 ⊢
      have hR77 : Rn L.length s s76 ([r76]) 4 (-3) := hR74.put (us := ([] : List Int)) (ks := [a, r59, r67]) hp76 pm
      have hch78 : s71.at_ ≤ s76.at_ := Nat.le_of_eq hp76.eqs.1.symm
      have hle78 : s.at_ < s76.at_ := by omega
      have hlt78 : s76.at_ < L.length := hR77.lt
      have hde78 : (s71.deep - 1) ≤ s76.deep := Int.le_of_eq hp76.eqs.2.1.symm
      have hdd78 : s76.deep ≤ 60 := hR77.d1
      refine LX.mv rfl <| LX.su [6] rfl <| LX.nt <| CX.ret <| PX.ret1 (by simp) Try.results65 rfl ?_
      exact fun w hw => ⟨(r76, s76, m76), rfl, ⟨as_, hR77.wk dc dc, hn76, (by show s1.at_ ≤ s76.at_; omega), (by (intro _; show s1.at_ + 1 ≤ s76.at_; omega))⟩, hw⟩
    try simp at hb4
    refine CX.region <| LX.mv rfl ?_
    have hk79 : Sk L.length s63 := hs.next hR64 dc
    refine LX.call (ih_test s63 m59 fr hk79 hn63 (by show L.length - s63.at_ < N; omega)) Pd.en47 rfl rfl rfl rfl rfl ?_
    rintro ⟨r79, s79, m79⟩
    refine LX.have fun ⟨hri79, hr79, hn79⟩ => ?_
    try dsimp only at hri79 hr79 hn79 ⊢
    have hR80 : Rn L.length s s79 ([a] ++ [r59] ++ [r79]) 4 (-3) := hR64.trans hr79
    have hch81 : s63.at_ ≤ s79.at_ := hr79.le
    have hle81 : s.at_ < s79.at_ := by omega
    have hlt81 : s79.at_ < L.length := hR80.lt
    have hde81 : s63.deep ≤ s79.deep := hr79.d0
    have hdd81 : s79.deep ≤ 60 := hR80.d1
    have hav79 : s79.code = 0 → s63.at_ + 1 ≤ s79.at_ := hr79.adv
    refine LX.mv rfl <| LX.su [0, 1, 2, 6, 7, 8] rfl <| LX.nt <| CX.sr ?_
    obtain ⟨t82, ht82⟩ : ∃ t, L[s79.at_]? = some t := ⟨_, List.getElem?_eq_getElem (show s79.at_ < L.length from hR80.lt)⟩
    have htk82 := (tok_in hL ht82).1
    have htp82 := (tok_in hL ht82).2
    refine LX.mv rfl <| LX.call (want_c (fr := fr) s79 m79 hL hK ht82 ([93] : List UInt8)) Pd.en35 rfl rfl rfl rfl rfl ?_
    rintro ⟨b83, s83⟩
    refine LX.have fun hw83 => ?_
    try dsimp only at hw83 ⊢
    have hn83 : NdsR 3 m79.rs m79.cells s83.ns := by rw [hw83.ns]; exact hn79
    have hR84 : Rn L.length s s83 ([a] ++ [r59] ++ [r79]) 5 (-5) := hR80.want hw83
    have hch85 : s79.at_ ≤ s83.at_ := hw83.le
    have hle85 : s.at_ < s83.at_ := by omega
    have hlt85 : s83.at_ < L.length := hR84.lt
    have hde85 : s79.deep ≤ s83.deep := Int.le_of_eq hw83.deep.symm
    have hdd85 : s83.deep ≤ 60 := hR84.d1
    refine LX.su [0, 1, 2, 6, 7, 8] rfl <| LX.nt <| CX.sr <| LX.ms 3 rfl <| LX.p (Y.fieldAddr0 Pb.fo42_3 rfl) rfl <| LX.p (Y.ldB 0 Pa.one3 rfl rfl rfl) rfl <| LX.p (Y.sub rfl rfl (by omega)) rfl <| LX.mv rfl <| LX.p (Y.fieldAddr0 Pb.fo42_3 rfl) rfl <| LX.storeB 0 Pb.sz3 rfl rfl rfl rfl rfl rfl rfl rfl <| LX.wq (PWl bp al L cl (RS.dp s83 (s83.deep - 1)) m79 fr) rfl ?_
    have hR86 : Rn L.length s (RS.dp s83 (s83.deep - 1)) ([a] ++ [r59] ++ [r79]) 5 (-5) := hR84.down (by show s.deep + 1 ≤ s83.deep; omega)
    refine LX.su [0, 1, 2, 6, 7, 8] rfl <| LX.nt <| CX.sr <| LX.ms 5 rfl <| LX.buildSlice (e := 3) (size := 1) rfl rfl (fun _ => by kernel_rfl) rfl dc rfl rfl rfl ?_
    intro gt87
    refine LX.wq (Ri (some gt87) 3 ([a, r59, r79]) :: PWl bp al L cl (RS.dp s83 (s83.deep - 1)) m79 fr) rfl <| LX.call (put_c (fr := fr) (g := (some gt87)) (c := 3) (ks := [a, r59, r79]) (op := 14) (pos := pos) (x := ([] : List UInt8)) (RS.dp s83 (s83.deep - 1)) m79 hn83 (fun h0 => by have h1 : ((s83.ns).length : Int) + 2 * s.at_ ≤ s.ns.length + 2 * ((s83.at_ : Nat) : Int) + (-5) := hR86.few h0; have h2 := hs.few (hR86.bad h0); have h3 := hK.len; have h4 : s83.at_ < L.length := hR86.lt; show (s83.ns).length ≤ 1000000; omega) (by (simp only [List.length_cons, List.length_nil, List.length_append]; omega)) ((AllI.cons as_ (AllI.cons as_ (AllI.cons as_ AllI.nil)))) (by (unfold inI; omega)) as_) Pd.en16 rfl rfl rfl rfl rfl ?_
    rintro ⟨r88, s88, m88⟩
    refine LX.have fun ⟨hri88, hp88, hn88⟩ => ?_
    try dsimp only at hri88 hp88 hn88 ⊢
    have hR89 : Rn L.length s s88 ([r88]) 5 (-4) := hR86.put (us := ([] : List Int)) (ks := [a, r59, r79]) hp88 pm
    have hch90 : s83.at_ ≤ s88.at_ := Nat.le_of_eq hp88.eqs.1.symm
    have hle90 : s.at_ < s88.at_ := by omega
    have hlt90 : s88.at_ < L.length := hR89.lt
    have hde90 : (s83.deep - 1) ≤ s88.deep := Int.le_of_eq hp88.eqs.2.1.symm
    have hdd90 : s88.deep ≤ 60 := hR89.d1
    refine LX.mv rfl <| LX.su [6] rfl <| LX.nt <| CX.ret <| PX.ret1 (by simp) Try.results65 rfl ?_
    exact fun w hw => ⟨(r88, s88, m88), rfl, ⟨as_, hR89.wk dc dc, hn88, (by show s1.at_ ≤ s88.at_; omega), (by (intro _; show s1.at_ + 1 ≤ s88.at_; omega))⟩, hw⟩
  try simp at hb2
  refine CX.sr <| LX.mv rfl ?_
  have hk91 : Sk L.length (RS.go (RS.dp s1 (s1.deep + 1)) 1) := hs.next hR56 dc
  refine LX.call (ih_test (RS.go (RS.dp s1 (s1.deep + 1)) 1) m fr hk91 hn51 (by show L.length - (s1.at_ + 1) < N; omega)) Pd.en47 rfl rfl rfl rfl rfl ?_
  rintro ⟨r91, s91, m91⟩
  refine LX.have fun ⟨hri91, hr91, hn91⟩ => ?_
  try dsimp only at hri91 hr91 hn91 ⊢
  have hR92 : Rn L.length s s91 ([a] ++ [r91]) 3 (-2) := hR56.trans hr91
  have hch93 : (s1.at_ + 1) ≤ s91.at_ := hr91.le
  have hle93 : s.at_ < s91.at_ := by omega
  have hlt93 : s91.at_ < L.length := hR92.lt
  have hde93 : (s1.deep + 1) ≤ s91.deep := hr91.d0
  have hdd93 : s91.deep ≤ 60 := hR92.d1
  have hav91 : s91.code = 0 → (s1.at_ + 1) + 1 ≤ s91.at_ := hr91.adv
  refine LX.mv rfl <| LX.su [0, 1, 2, 6, 7] rfl <| LX.nt <| CX.sr ?_
  obtain ⟨t94, ht94⟩ : ∃ t, L[s91.at_]? = some t := ⟨_, List.getElem?_eq_getElem (show s91.at_ < L.length from hR92.lt)⟩
  have htk94 := (tok_in hL ht94).1
  have htp94 := (tok_in hL ht94).2
  refine LX.mv rfl <| LX.callQ (show FnQ Try.prog 12 #[.pointer (some ⟨bp, 0, none⟩)] _ (.bool (decide (s91.code ≠ 0))) from bad_q (s := s91) (m := m91) (fun w hw => blkL hw (i := 0) rfl)) Pb.en12 rfl rfl rfl rfl rfl <| LX.p (Y.not rfl) rfl <| LX.mv rfl <| LX.su [0, 1, 2, 6, 7, 33] rfl ?_
  apply LX.joinAnd 3 36 33 rfl
  · intro hb5
    refine LX.gT rfl rfl rfl hb5 (Y.move rfl) rfl rfl <| LX.callQT rfl rfl rfl hb5 (is_q (s := s91) (m := m91) ht94 ([93] : List UInt8) (fun w hw => blkL hw (i := 0) rfl) (fun w hw => hL.push hw)) Pb.en32 rfl rfl rfl rfl <| LX.p (Y.pickT rfl hb5 rfl) rfl ?_
    exact LX.left ⟨rfl, rfl, rfl, rfl, rfl, rfl, rfl, trivial⟩
  · intro hb5
    refine LX.gF rfl rfl rfl hb5 rfl rfl <| LX.gF rfl rfl rfl hb5 rfl rfl <| LX.p (Y.pickF rfl hb5 rfl) rfl ?_
    exact LX.left ⟨rfl, rfl, rfl, rfl, rfl, rfl, rfl, trivial⟩
  refine LX.su [0, 1, 2, 6, 7, 36] rfl <| LX.nt ?_
  refine CX.cond rfl (fun hb6 => ?_) (fun hb6 => ?_)
  · try simp at hb6
    refine CX.sr ?_
    have hgo95 : s91.at_ + 1 < L.length := by exact hK.fin _ t94 ht94 (by (intro h8; simp_all [isS]; done))
    have hln95 := hK.len
    refine LX.ms 3 rfl <| LX.p (Y.fieldAddr0 Pa.fo42_1 rfl) rfl <| LX.p (Y.ldB 0 Pa.one3 rfl rfl rfl) rfl <| LX.p (Y.addN rfl rfl (by (simp only []; omega))) rfl <| LX.mv rfl <| LX.p (Y.fieldAddr0 Pa.fo42_1 rfl) rfl <| LX.storeB 0 Pb.sz3 rfl rfl rfl rfl rfl rfl rfl rfl <| LX.wq (PWl bp al L cl (RS.go s91 1) m91 fr) rfl ?_
    have hR96 : Rn L.length s (RS.go s91 1) ([a] ++ [r91]) 4 (-4) := hR92.go hgo95
    have hle97 : s.at_ < (s91.at_ + 1) := by have h9 : s.at_ ≤ s91.at_ := hR92.le; omega
    have hlt97 : (s91.at_ + 1) < L.length := hgo95
    refine LX.su [0, 1, 2, 6, 7] rfl <| LX.nt <| CX.sr <| LX.ms 3 rfl <| LX.p (Y.fieldAddr0 Pb.fo42_3 rfl) rfl <| LX.p (Y.ldB 0 Pa.one3 rfl rfl rfl) rfl <| LX.p (Y.sub rfl rfl (by (simp only []; omega))) rfl <| LX.mv rfl <| LX.p (Y.fieldAddr0 Pb.fo42_3 rfl) rfl <| LX.storeB 0 Pb.sz3 rfl rfl rfl rfl rfl rfl rfl rfl <| LX.wq (PWl bp al L cl (RS.dp (RS.go s91 1) (s91.deep - 1)) m91 fr) rfl ?_
    have hR98 : Rn L.length s (RS.dp (RS.go s91 1) (s91.deep - 1)) ([a] ++ [r91]) 4 (-4) := hR96.down (by show s.deep + 1 ≤ s91.deep; omega)
    refine LX.su [0, 1, 2, 6, 7] rfl <| LX.nt <| CX.sr <| LX.ms 4 rfl <| LX.buildSlice (e := 3) (size := 1) rfl rfl (fun _ => by kernel_rfl) rfl dc rfl rfl rfl ?_
    intro gt99
    refine LX.wq (Ri (some gt99) 2 ([a, r91]) :: PWl bp al L cl (RS.dp (RS.go s91 1) (s91.deep - 1)) m91 fr) rfl <| LX.call (put_c (fr := fr) (g := (some gt99)) (c := 2) (ks := [a, r91]) (op := 13) (pos := pos) (x := ([] : List UInt8)) (RS.dp (RS.go s91 1) (s91.deep - 1)) m91 hn91 (fun h0 => by have h1 : ((s91.ns).length : Int) + 2 * s.at_ ≤ s.ns.length + 2 * (((s91.at_ + 1) : Nat) : Int) + (-4) := hR98.few h0; have h2 := hs.few (hR98.bad h0); have h3 := hK.len; have h4 : (s91.at_ + 1) < L.length := hR98.lt; show (s91.ns).length ≤ 1000000; omega) (by (simp only [List.length_cons, List.length_nil, List.length_append]; omega)) ((AllI.cons as_ (AllI.cons as_ AllI.nil))) (by (unfold inI; omega)) as_) Pd.en16 rfl rfl rfl rfl rfl ?_
    rintro ⟨r100, s100, m100⟩
    refine LX.have fun ⟨hri100, hp100, hn100⟩ => ?_
    try dsimp only at hri100 hp100 hn100 ⊢
    have hR101 : Rn L.length s s100 ([r100]) 4 (-3) := hR98.put (us := ([] : List Int)) (ks := [a, r91]) hp100 pm
    have hch102 : (s91.at_ + 1) ≤ s100.at_ := Nat.le_of_eq hp100.eqs.1.symm
    have hle102 : s.at_ < s100.at_ := by omega
    have hlt102 : s100.at_ < L.length := hR101.lt
    have hde102 : (s91.deep - 1) ≤ s100.deep := Int.le_of_eq hp100.eqs.2.1.symm
    have hdd102 : s100.deep ≤ 60 := hR101.d1
    refine LX.mv rfl <| LX.su [0, 1, 2, 6, 7] rfl <| LX.nt <| CX.ret <| PX.thenR <| PX.ret1 (by simp) Try.results65 rfl ?_
    exact fun w hw => ⟨(r100, s100, m100), rfl, ⟨as_, hR101.wk dc dc, hn100, (by show s1.at_ ≤ s100.at_; omega), (by (intro _; show s1.at_ + 1 ≤ s100.at_; omega))⟩, hw⟩
  try simp at hb6
  refine CX.skip <| PX.thenN <| CX.seq <| CX.sr <| LX.mv rfl <| LX.call (want_c (fr := fr) s91 m91 hL hK ht94 ([58] : List UInt8)) Pd.en35 rfl rfl rfl rfl rfl ?_
  rintro ⟨b103, s103⟩
  refine LX.have fun hw103 => ?_
  try dsimp only at hw103 ⊢
  have hn103 : NdsR 3 m91.rs m91.cells s103.ns := by rw [hw103.ns]; exact hn91
  have hR104 : Rn L.length s s103 ([a] ++ [r91]) 4 (-4) := hR92.want hw103
  have hch105 : s91.at_ ≤ s103.at_ := hw103.le
  have hle105 : s.at_ < s103.at_ := by omega
  have hlt105 : s103.at_ < L.length := hR104.lt
  have hde105 : s91.deep ≤ s103.deep := Int.le_of_eq hw103.deep.symm
  have hdd105 : s103.deep ≤ 60 := hR104.d1
  refine LX.p (Y.not rfl) rfl <| LX.su [0, 1, 2, 6, 7, 61] rfl <| LX.nt ?_
  refine CX.cond rfl (fun hb7 => ?_) (fun hb7 => ?_)
  · try simp at hb7
    have hbc103 := (hw103.f (by exact hb7)).code
    refine CX.sr <| LX.mv rfl <| LX.su [0, 1, 2, 6, 7] rfl <| LX.nt <| CX.ret <| PX.thenR <| PX.ret1 (by simp) Try.results65 rfl ?_
    exact fun w hw => ⟨((-1), s103, m91), rfl, ⟨(by (unfold inI; omega)), hR104.no as_, hn103, (by show s1.at_ ≤ s103.at_; omega), (by (intro _; show s1.at_ + 1 ≤ s103.at_; omega))⟩, hw⟩
  try simp at hb7
  have hc103 := (hw103.t (by exact hb7)).1
  refine CX.skip <| PX.thenN <| CX.sr <| LX.mv rfl <| LX.su [0, 1, 2, 6, 7] rfl <| LX.nt <| CX.seq <| CX.sr ?_
  obtain ⟨t106, ht106⟩ : ∃ t, L[s103.at_]? = some t := ⟨_, List.getElem?_eq_getElem (show s103.at_ < L.length from hR104.lt)⟩
  have htk106 := (tok_in hL ht106).1
  have htp106 := (tok_in hL ht106).2
  refine LX.mv rfl <| LX.callQ (is_q (s := s103) (m := m91) ht106 ([93] : List UInt8) (fun w hw => blkL hw (i := 0) rfl) (fun w hw => hL.push hw)) Pb.en32 rfl rfl rfl rfl rfl <| LX.su [0, 1, 2, 6, 7, 63] rfl <| LX.nt ?_
  refine CX.cond rfl (fun hb8 => ?_) (fun hb8 => ?_)
  · try simp at hb8
    refine CX.region <| LX.ms 2 rfl <| LX.callQ (now_q (s := s103) (m := m91) ht106 (fun w hw => blkL hw (i := 0) rfl) (fun w hw => hL.push hw)) Pa.en13 rfl rfl rfl rfl rfl <| LX.p (Y.field (v := .int .i64 t106.pos) rfl (fun _ => by kernel_rfl)) rfl <| LX.world (W' := WA w0 base (Ri none 0 ([] : List Int) :: PWl bp al L cl s103 m91 fr)) (fun w hw => (show WA w0 base (Ri none 0 ([] : List Int) :: PWl bp al L cl s103 m91 fr) w from (show WA w0 base (PWl bp al L cl s103 m91 fr) w from hw).nilRow 3 1)) <| LX.call (put_c (fr := fr) (g := none) (c := 0) (ks := ([] : List Int)) (op := 15) (pos := t106.pos) (x := ([] : List UInt8)) s103 m91 hn103 (fun h0 => by have h1 : ((s103.ns).length : Int) + 2 * s.at_ ≤ s.ns.length + 2 * ((s103.at_ : Nat) : Int) + (-4) := hR104.few h0; have h2 := hs.few (hR104.bad h0); have h3 := hK.len; have h4 : s103.at_ < L.length := hR104.lt; show (s103.ns).length ≤ 1000000; omega) (by (simp only [List.length_cons, List.length_nil, List.length_append]; omega)) (AllI.nil) (by (unfold inI; omega)) as_) Pd.en16 rfl rfl rfl rfl rfl ?_
    rintro ⟨r107, s107, m107⟩
    refine LX.have fun ⟨hri107, hp107, hn107⟩ => ?_
    try dsimp only at hri107 hp107 hn107 ⊢
    have hR108 : Rn L.length s s107 ([a] ++ [r91] ++ [r107]) 4 (-3) := hR104.put (us := ([a] ++ [r91])) (ks := ([] : List Int)) hp107 pm
    have hch109 : s103.at_ ≤ s107.at_ := Nat.le_of_eq hp107.eqs.1.symm
    have hle109 : s.at_ < s107.at_ := by omega
    have hlt109 : s107.at_ < L.length := hR108.lt
    have hde109 : s103.deep ≤ s107.deep := Int.le_of_eq hp107.eqs.2.1.symm
    have hdd109 : s107.deep ≤ 60 := hR108.d1
    refine LX.mv rfl <| LX.su [0, 1, 2, 6, 7, 8] rfl <| LX.nt <| CX.sr ?_
    obtain ⟨t110, ht110⟩ : ∃ t, L[s107.at_]? = some t := ⟨_, List.getElem?_eq_getElem (show s107.at_ < L.length from hR108.lt)⟩
    have htk110 := (tok_in hL ht110).1
    have htp110 := (tok_in hL ht110).2
    refine LX.mv rfl <| LX.call (want_c (fr := fr) s107 m107 hL hK ht110 ([93] : List UInt8)) Pd.en35 rfl rfl rfl rfl rfl ?_
    rintro ⟨b111, s111⟩
    refine LX.have fun hw111 => ?_
    try dsimp only at hw111 ⊢
    have hn111 : NdsR 3 m107.rs m107.cells s111.ns := by rw [hw111.ns]; exact hn107
    have hR112 : Rn L.length s s111 ([a] ++ [r91] ++ [r107]) 5 (-5) := hR108.want hw111
    have hch113 : s107.at_ ≤ s111.at_ := hw111.le
    have hle113 : s.at_ < s111.at_ := by omega
    have hlt113 : s111.at_ < L.length := hR112.lt
    have hde113 : s107.deep ≤ s111.deep := Int.le_of_eq hw111.deep.symm
    have hdd113 : s111.deep ≤ 60 := hR112.d1
    refine LX.su [0, 1, 2, 6, 7, 8] rfl <| LX.nt <| CX.sr <| LX.ms 3 rfl <| LX.p (Y.fieldAddr0 Pb.fo42_3 rfl) rfl <| LX.p (Y.ldB 0 Pa.one3 rfl rfl rfl) rfl <| LX.p (Y.sub rfl rfl (by omega)) rfl <| LX.mv rfl <| LX.p (Y.fieldAddr0 Pb.fo42_3 rfl) rfl <| LX.storeB 0 Pb.sz3 rfl rfl rfl rfl rfl rfl rfl rfl <| LX.wq (PWl bp al L cl (RS.dp s111 (s111.deep - 1)) m107 fr) rfl ?_
    have hR114 : Rn L.length s (RS.dp s111 (s111.deep - 1)) ([a] ++ [r91] ++ [r107]) 5 (-5) := hR112.down (by show s.deep + 1 ≤ s111.deep; omega)
    refine LX.su [0, 1, 2, 6, 7, 8] rfl <| LX.nt <| CX.sr <| LX.ms 5 rfl <| LX.buildSlice (e := 3) (size := 1) rfl rfl (fun _ => by kernel_rfl) rfl dc rfl rfl rfl ?_
    intro gt115
    refine LX.wq (Ri (some gt115) 3 ([a, r91, r107]) :: PWl bp al L cl (RS.dp s111 (s111.deep - 1)) m107 fr) rfl <| LX.call (put_c (fr := fr) (g := (some gt115)) (c := 3) (ks := [a, r91, r107]) (op := 14) (pos := pos) (x := ([] : List UInt8)) (RS.dp s111 (s111.deep - 1)) m107 hn111 (fun h0 => by have h1 : ((s111.ns).length : Int) + 2 * s.at_ ≤ s.ns.length + 2 * ((s111.at_ : Nat) : Int) + (-5) := hR114.few h0; have h2 := hs.few (hR114.bad h0); have h3 := hK.len; have h4 : s111.at_ < L.length := hR114.lt; show (s111.ns).length ≤ 1000000; omega) (by (simp only [List.length_cons, List.length_nil, List.length_append]; omega)) ((AllI.cons as_ (AllI.cons as_ (AllI.cons as_ AllI.nil)))) (by (unfold inI; omega)) as_) Pd.en16 rfl rfl rfl rfl rfl ?_
    rintro ⟨r116, s116, m116⟩
    refine LX.have fun ⟨hri116, hp116, hn116⟩ => ?_
    try dsimp only at hri116 hp116 hn116 ⊢
    have hR117 : Rn L.length s s116 ([r116]) 5 (-4) := hR114.put (us := ([] : List Int)) (ks := [a, r91, r107]) hp116 pm
    have hch118 : s111.at_ ≤ s116.at_ := Nat.le_of_eq hp116.eqs.1.symm
    have hle118 : s.at_ < s116.at_ := by omega
    have hlt118 : s116.at_ < L.length := hR117.lt
    have hde118 : (s111.deep - 1) ≤ s116.deep := Int.le_of_eq hp116.eqs.2.1.symm
    have hdd118 : s116.deep ≤ 60 := hR117.d1
    refine LX.mv rfl <| LX.su [6] rfl <| LX.nt <| CX.ret <| PX.ret1 (by simp) Try.results65 rfl ?_
    exact fun w hw => ⟨(r116, s116, m116), rfl, ⟨as_, hR117.wk dc dc, hn116, (by show s1.at_ ≤ s116.at_; omega), (by (intro _; show s1.at_ + 1 ≤ s116.at_; omega))⟩, hw⟩
  try simp at hb8
  refine CX.region <| LX.mv rfl ?_
  have hk119 : Sk L.length s103 := hs.next hR104 dc
  refine LX.call (ih_test s103 m91 fr hk119 hn103 (by show L.length - s103.at_ < N; omega)) Pd.en47 rfl rfl rfl rfl rfl ?_
  rintro ⟨r119, s119, m119⟩
  refine LX.have fun ⟨hri119, hr119, hn119⟩ => ?_
  try dsimp only at hri119 hr119 hn119 ⊢
  have hR120 : Rn L.length s s119 ([a] ++ [r91] ++ [r119]) 5 (-4) := hR104.trans hr119
  have hch121 : s103.at_ ≤ s119.at_ := hr119.le
  have hle121 : s.at_ < s119.at_ := by omega
  have hlt121 : s119.at_ < L.length := hR120.lt
  have hde121 : s103.deep ≤ s119.deep := hr119.d0
  have hdd121 : s119.deep ≤ 60 := hR120.d1
  have hav119 : s119.code = 0 → s103.at_ + 1 ≤ s119.at_ := hr119.adv
  refine LX.mv rfl <| LX.su [0, 1, 2, 6, 7, 8] rfl <| LX.nt <| CX.sr ?_
  obtain ⟨t122, ht122⟩ : ∃ t, L[s119.at_]? = some t := ⟨_, List.getElem?_eq_getElem (show s119.at_ < L.length from hR120.lt)⟩
  have htk122 := (tok_in hL ht122).1
  have htp122 := (tok_in hL ht122).2
  refine LX.mv rfl <| LX.call (want_c (fr := fr) s119 m119 hL hK ht122 ([93] : List UInt8)) Pd.en35 rfl rfl rfl rfl rfl ?_
  rintro ⟨b123, s123⟩
  refine LX.have fun hw123 => ?_
  try dsimp only at hw123 ⊢
  have hn123 : NdsR 3 m119.rs m119.cells s123.ns := by rw [hw123.ns]; exact hn119
  have hR124 : Rn L.length s s123 ([a] ++ [r91] ++ [r119]) 6 (-6) := hR120.want hw123
  have hch125 : s119.at_ ≤ s123.at_ := hw123.le
  have hle125 : s.at_ < s123.at_ := by omega
  have hlt125 : s123.at_ < L.length := hR124.lt
  have hde125 : s119.deep ≤ s123.deep := Int.le_of_eq hw123.deep.symm
  have hdd125 : s123.deep ≤ 60 := hR124.d1
  refine LX.su [0, 1, 2, 6, 7, 8] rfl <| LX.nt <| CX.sr <| LX.ms 3 rfl <| LX.p (Y.fieldAddr0 Pb.fo42_3 rfl) rfl <| LX.p (Y.ldB 0 Pa.one3 rfl rfl rfl) rfl <| LX.p (Y.sub rfl rfl (by omega)) rfl <| LX.mv rfl <| LX.p (Y.fieldAddr0 Pb.fo42_3 rfl) rfl <| LX.storeB 0 Pb.sz3 rfl rfl rfl rfl rfl rfl rfl rfl <| LX.wq (PWl bp al L cl (RS.dp s123 (s123.deep - 1)) m119 fr) rfl ?_
  have hR126 : Rn L.length s (RS.dp s123 (s123.deep - 1)) ([a] ++ [r91] ++ [r119]) 6 (-6) := hR124.down (by show s.deep + 1 ≤ s123.deep; omega)
  refine LX.su [0, 1, 2, 6, 7, 8] rfl <| LX.nt <| CX.sr <| LX.ms 5 rfl <| LX.buildSlice (e := 3) (size := 1) rfl rfl (fun _ => by kernel_rfl) rfl dc rfl rfl rfl ?_
  intro gt127
  refine LX.wq (Ri (some gt127) 3 ([a, r91, r119]) :: PWl bp al L cl (RS.dp s123 (s123.deep - 1)) m119 fr) rfl <| LX.call (put_c (fr := fr) (g := (some gt127)) (c := 3) (ks := [a, r91, r119]) (op := 14) (pos := pos) (x := ([] : List UInt8)) (RS.dp s123 (s123.deep - 1)) m119 hn123 (fun h0 => by have h1 : ((s123.ns).length : Int) + 2 * s.at_ ≤ s.ns.length + 2 * ((s123.at_ : Nat) : Int) + (-6) := hR126.few h0; have h2 := hs.few (hR126.bad h0); have h3 := hK.len; have h4 : s123.at_ < L.length := hR126.lt; show (s123.ns).length ≤ 1000000; omega) (by (simp only [List.length_cons, List.length_nil, List.length_append]; omega)) ((AllI.cons as_ (AllI.cons as_ (AllI.cons as_ AllI.nil)))) (by (unfold inI; omega)) as_) Pd.en16 rfl rfl rfl rfl rfl ?_
  rintro ⟨r128, s128, m128⟩
  refine LX.have fun ⟨hri128, hp128, hn128⟩ => ?_
  try dsimp only at hri128 hp128 hn128 ⊢
  have hR129 : Rn L.length s s128 ([r128]) 6 (-5) := hR126.put (us := ([] : List Int)) (ks := [a, r91, r119]) hp128 pm
  have hch130 : s123.at_ ≤ s128.at_ := Nat.le_of_eq hp128.eqs.1.symm
  have hle130 : s.at_ < s128.at_ := by omega
  have hlt130 : s128.at_ < L.length := hR129.lt
  have hde130 : (s123.deep - 1) ≤ s128.deep := Int.le_of_eq hp128.eqs.2.1.symm
  have hdd130 : s128.deep ≤ 60 := hR129.d1
  refine LX.mv rfl <| LX.su [6] rfl <| LX.nt <| CX.ret <| PX.ret1 (by simp) Try.results65 rfl ?_
  exact fun w hw => ⟨(r128, s128, m128), rfl, ⟨as_, hR129.wk dc dc, hn128, (by show s1.at_ ≤ s128.at_; omega), (by (intro _; show s1.at_ + 1 ≤ s128.at_; omega))⟩, hw⟩
theorem arguments_c {w0 : World} {base : Nat} {bp : Nat} {al : Option Addr} {cl : Nat} {L : List Go.Pa.Tk} (hL : SlAt 3 tokA (Lies w0 base) al L) (hK : Tok6 L) {N : Nat} (h_test : (∀ (s : RS) (m : Mm) (fr : List It), Sk L.length s → NdsR 3 m.rs m.cells s.ns → L.length - s.at_ ≤ N → PF 47 [.pointer (some ⟨bp, 0, none⟩)] w0 base bp al cl L s m fr))  : (∀ (s : RS) (m : Mm) (fr : List It), Sk L.length s → NdsR 3 m.rs m.cells s.ns → L.length - s.at_ ≤ N → PL 64 [.pointer (some ⟨bp, 0, none⟩)] [] (fun v _ => v) (fun _ _ => True) 0 w0 base bp al cl L s m fr) := by
  intro s m fr hs hn hN
  have hR := Rn.refl hs
  have hle : s.at_ ≤ s.at_ := Nat.le_refl _
  have hd0 := hs.d0
  have hd1 := hs.d1
  have hlt := hs.lt
  have hln0 := hK.len
  have hN0 : 0 < N := by omega
  refine FnC.of_body (fn := Try.f64) [(0, _)] Try.func64 rfl Try.ntmps64 rfl ⟨rfl, trivial⟩ ?_
  refine CX.sr <| LX.mv rfl <| LX.su [0, 2] rfl <| LX.nt <| CX.sr <| LX.mv rfl <| LX.su [0, 2, 3] rfl <| LX.nt <| CX.sr <| LX.mv rfl <| LX.su [0, 2, 3, 4] rfl <| LX.nt <| CX.seq <| CX.block ?_
  refine CX.loop (fun z : (List Int × Option Nat × Nat) × (List (List UInt8) × Option Nat × Nat) × RS × Mm => [(0, .pointer (some ⟨bp, 0, none⟩)), (3, rv z.1.2.1 (z.1.1).length z.1.2.2), (4, rv z.2.1.2.1 (z.2.1.1).length z.2.1.2.2)]) (fun (z : (List Int × Option Nat × Nat) × (List (List UInt8) × Option Nat × Nat) × RS × Mm) w => (AllI z.1.1 ∧ (z.1.1).length + 2 * s.at_ ≤ 2 * z.2.2.1.at_ + 0 ∧ (z.2.1.1).length + 2 * s.at_ ≤ 2 * z.2.2.1.at_ + 0 ∧ s.at_ ≤ z.2.2.1.at_ ∧ s.deep ≤ z.2.2.1.deep ∧ Rn L.length s z.2.2.1 z.1.1 0 (0) ∧ NdsR 3 z.2.2.2.rs z.2.2.2.cells z.2.2.1.ns) ∧ WA w0 base (PWl bp al L cl z.2.2.1 z.2.2.2 (Ri z.1.2.1 z.1.2.2 (z.1.1) :: Rs z.2.1.2.1 z.2.1.2.2 (z.2.1.1) :: fr)) w) (fun z : (List Int × Option Nat × Nat) × (List (List UInt8) × Option Nat × Nat) × RS × Mm => L.length - z.2.2.1.at_) (([], none, 0), ([], none, 0), s, m) ⟨rfl, (by rfl), (by rfl), trivial⟩ (fun w hw => ⟨⟨AllI.nil, (by show 0 + 2 * s.at_ ≤ 2 * s.at_ + 0; omega), (by show 0 + 2 * s.at_ ≤ 2 * s.at_ + 0; omega), Nat.le_refl _, Int.le_refl _, (hR.wk dc dc).re pm, hn⟩, ((show WA w0 base (Rs none 0 ([] : List (List UInt8)) :: Ri none 0 ([] : List Int) :: PWl bp al L cl s m fr) w from (show WA w0 base (Ri none 0 ([] : List Int) :: PWl bp al L cl s m fr) w from hw.nilRow 3 1).nilRow 9 1).perm pm)⟩) ?_
  rintro ⟨⟨l1_0, g1_0, c1_0⟩, ⟨l1_1, g1_1, c1_1⟩, s1, m1⟩
  refine CX.have fun ⟨hla1_0, hll1_0, hll1_1, hlo1, hld1, hR1, hn1⟩ => ?_
  try dsimp only at hla1_0 hll1_0 hll1_1 hlo1 hld1 hR1 hn1 ⊢
  have hle1 : s.at_ ≤ s1.at_ := by omega
  have hlt1 : s1.at_ < L.length := hR1.lt
  have hde1 := hR1.d0
  have hdd1 := hR1.d1
  refine CX.seq <| CX.sr ?_
  obtain ⟨t2, ht2⟩ : ∃ t, L[s1.at_]? = some t := ⟨_, List.getElem?_eq_getElem (show s1.at_ < L.length from hR1.lt)⟩
  have htk2 := (tok_in hL ht2).1
  have htp2 := (tok_in hL ht2).2
  refine LX.mv rfl <| LX.callQ (show FnQ Try.prog 12 #[.pointer (some ⟨bp, 0, none⟩)] _ (.bool (decide (s1.code ≠ 0))) from bad_q (s := s1) (m := m1) (fun w hw => blkL hw (i := 0) rfl)) Pb.en12 rfl rfl rfl rfl rfl <| LX.p (Y.not rfl) rfl <| LX.mv rfl <| LX.su [0, 3, 4, 10] rfl ?_
  apply LX.joinAnd 4 14 10 rfl
  · intro hb1
    refine LX.gT rfl rfl rfl hb1 (Y.move rfl) rfl rfl <| LX.callQT rfl rfl rfl hb1 (is_q (s := s1) (m := m1) ht2 ([41] : List UInt8) (fun w hw => blkL hw (i := 0) rfl) (fun w hw => hL.push hw)) Pb.en32 rfl rfl rfl rfl <| LX.gT rfl rfl rfl hb1 (Y.not rfl) rfl rfl <| LX.p (Y.pickT rfl hb1 rfl) rfl ?_
    exact LX.left ⟨rfl, rfl, rfl, rfl, rfl, trivial⟩
  · intro hb1
    refine LX.gF rfl rfl rfl hb1 rfl rfl <| LX.gF rfl rfl rfl hb1 rfl rfl <| LX.gF rfl rfl rfl hb1 rfl rfl <| LX.p (Y.pickF rfl hb1 rfl) rfl ?_
    exact LX.left ⟨rfl, rfl, rfl, rfl, rfl, trivial⟩
  refine LX.su [0, 3, 4, 14] rfl <| LX.nt ?_
  refine CX.cond rfl (fun hb2 => ?_) (fun hb2 => ?_)
  · try simp at hb2
    refine CX.skip <| PX.thenN <| CX.block <| CX.sr <| LX.mv rfl <| LX.callQ (now_q (s := s1) (m := m1) ht2 (fun w hw => blkL hw (i := 0) rfl) (fun w hw => hL.push hw)) Pa.en13 rfl rfl rfl rfl rfl <| LX.alloc rfl Pa.zv44 rfl rfl rfl ?_
    intro bt3
    refine LX.storeA 0 Pa.ag44 rfl rfl rfl rfl rfl rfl rfl rfl rfl <| LX.wq (Tb bt3 t2 :: PWl bp al L cl s1 m1 (Ri g1_0 c1_0 l1_0 :: Rs g1_1 c1_1 l1_1 :: fr)) rfl ?_
    refine LX.wp (PWl bp al L cl s1 m1 (Tb bt3 t2 :: Ri g1_0 c1_0 l1_0 :: Rs g1_1 c1_1 l1_1 :: fr)) ?_
    refine LX.su [0, 3, 4, 5] rfl <| LX.nt <| CX.seq <| CX.sr <| LX.mv rfl <| LX.call (named_w (s := s1) (m := m1) ht2 hK (fun w hw => blkL hw (i := 0) rfl) (fun w hw => hL.push hw)) Pf.en52 rfl rfl rfl rfl rfl ?_
    intro b4
    refine LX.have fun hy4 => ?_
    replace hy4 : b4 = true → t2.kind = 1 ∧ s1.at_ + 2 < L.length := hy4
    refine LX.su [0, 3, 4, 5, 18] rfl <| LX.nt ?_
    refine CX.cond rfl (fun hb3 => ?_) (fun hb3 => ?_)
    · try simp at hb3
      refine CX.seq <| CX.sr <| LX.mv rfl <| LX.p (Y.fieldAddr0 Pa.fo44_1 rfl) rfl ?_
      refine LX.wp (Tb bt3 t2 :: PWl bp al L cl s1 m1 (Ri g1_0 c1_0 l1_0 :: Rs g1_1 c1_1 l1_1 :: fr)) ?_
      refine LX.p (Y.ldB 0 Pa.one9 rfl rfl rfl) rfl ?_
      refine LX.wp (Rs g1_1 c1_1 l1_1 :: PWl bp al L cl s1 m1 (Tb bt3 t2 :: Ri g1_0 c1_0 l1_0 :: fr)) ?_
      refine LX.call (among6_w c1_1 (ss := l1_1) lo t2.text (fun w hw => Go.Tr.row_at (ys := (l1_1).map str) hw (j := 0) rfl rfl dc (fun i z h => map_A h))) Pa.en27 rfl rfl rfl rfl rfl ?_
      intro z5
      refine LX.have fun hz5 => ?_
      replace hz5 : -1 ≤ z5 ∧ z5 < (l1_1).length := hz5
      try simp only [List.length_cons, List.length_nil] at hz5
      refine LX.p (Y.geI rfl rfl) rfl ?_
      refine LX.wp (PWl bp al L cl s1 m1 (Rs g1_1 c1_1 l1_1 :: Tb bt3 t2 :: Ri g1_0 c1_0 l1_0 :: fr)) ?_
      refine LX.su [0, 3, 4, 5, 23] rfl <| LX.nt ?_
      refine CX.cond rfl (fun hb4 => ?_) (fun hb4 => ?_)
      · try simp at hb4
        refine CX.sr <| LX.mv rfl <| LX.call (wrong_c (fr := (Rs g1_1 c1_1 l1_1 :: Tb bt3 t2 :: Ri g1_0 c1_0 l1_0 :: fr)) s1 m1 hL ht2) Pb.en37 rfl rfl rfl rfl rfl ?_
        intro s6
        refine LX.have fun hf6 => ?_
        have hb906 : Bad s1 s6 := FailR.bad hf6 dc
        have hbc6 := hb906.code
        have hn6 : NdsR 3 m1.rs m1.cells s6.ns := by rw [hb906.ns]; exact hn1
        have hR7 : Rn L.length s s6 (l1_0) 0 (0) := hR1.bad2 hb906
        have hch8 : s1.at_ ≤ s6.at_ := Nat.le_of_eq hb906.at_.symm
        have hle8 : s.at_ ≤ s6.at_ := by omega
        have hlt8 : s6.at_ < L.length := hR7.lt
        have hde8 : s1.deep ≤ s6.deep := Int.le_of_eq hb906.deep.symm
        have hdd8 : s6.deep ≤ 60 := hR7.d1
        refine LX.su [0, 3, 4, 5] rfl <| LX.nt <| CX.sr <| LX.mv rfl <| LX.su [0, 2, 3, 4, 5] rfl <| LX.nt <| CX.ret <| PX.thenR <| PX.thenR <| PX.blockR <| PX.thenR <| PX.blockR <| PX.thenR <| PX.ret1 (by simp) Try.results64 rfl ?_
        exact fun w hw => ⟨([], none, 0, false, s6, m1), rfl, ⟨AllI.nil, (by show 0 + 2 * s.at_ ≤ 2 * s6.at_ + 2; omega), (by exact True.intro), (by (intro h9; cases h9; done)), hR7.no as_, hn6⟩, (show WA w0 base (Ri none 0 ([] : List Int) :: PWl bp al L cl s6 m1 fr) w from (show WA w0 base (PWl bp al L cl s6 m1 fr) w from hw.ct).nilRow 3 1)⟩
      try simp at hb4
      refine CX.skip <| PX.thenN <| CX.sr <| LX.mv rfl <| LX.p (Y.fieldAddr0 Pa.fo44_1 rfl) rfl ?_
      refine LX.wp (Tb bt3 t2 :: PWl bp al L cl s1 m1 (Rs g1_1 c1_1 l1_1 :: Ri g1_0 c1_0 l1_0 :: fr)) ?_
      refine LX.p (Y.ldB 0 Pa.one9 rfl rfl rfl) rfl <| LX.buildSlice (e := 9) (size := 1) rfl rfl (fun _ => by kernel_rfl) rfl dc rfl rfl rfl ?_
      intro gt9
      refine LX.wq (Rs (some gt9) 1 ([t2.text]) :: Tb bt3 t2 :: PWl bp al L cl s1 m1 (Rs g1_1 c1_1 l1_1 :: Ri g1_0 c1_0 l1_0 :: fr)) rfl ?_
      refine LX.wp (Rs (some gt9) 1 ([t2.text]) :: Rs g1_1 c1_1 l1_1 :: PWl bp al L cl s1 m1 (Tb bt3 t2 :: Ri g1_0 c1_0 l1_0 :: fr)) ?_
      refine LX.appendT 0 (g := g1_1) (k := (l1_1).length) Pf.el64 rfl rfl rfl rfl rfl rfl rfl lo lo rfl rfl rfl ?_
      intro ga10 ca10
      refine LX.wa (Rs ga10 ca10 (l1_1 ++ [t2.text]) :: PWl bp al L cl s1 m1 (Tb bt3 t2 :: Ri g1_0 c1_0 l1_0 :: fr)) <| LX.sub (l' := [(0, _), (3, _), (4, _), (5, _), (23, _), (26, _), (27, _), (28, _), (29, _), (30, rv ga10 ((l1_1 ++ [t2.text])).length ca10)]) ⟨rfl, rfl, rfl, rfl, rfl, rfl, rfl, rfl, rfl, (by (show some (rv _ _ _) = some (rv _ _ _); simp only [List.length_cons, List.length_append, List.length_nil] <;> rfl)), trivial⟩ <| LX.mv rfl ?_
      refine LX.wp (PWl bp al L cl s1 m1 (Rs ga10 ca10 (l1_1 ++ [t2.text]) :: Tb bt3 t2 :: Ri g1_0 c1_0 l1_0 :: fr)) ?_
      refine LX.su [0, 3, 4, 5] rfl <| LX.nt <| CX.sr ?_
      have hgo11 : s1.at_ + 2 < L.length := by (have h9 := hy4 as_; omega)
      have hln11 := hK.len
      refine LX.ms 3 rfl <| LX.p (Y.fieldAddr0 Pa.fo42_1 rfl) rfl <| LX.p (Y.ldB 0 Pa.one3 rfl rfl rfl) rfl <| LX.p (Y.addN rfl rfl (by (simp only []; omega))) rfl <| LX.mv rfl <| LX.p (Y.fieldAddr0 Pa.fo42_1 rfl) rfl <| LX.storeB 0 Pb.sz3 rfl rfl rfl rfl rfl rfl rfl rfl <| LX.wq (PWl bp al L cl (RS.go s1 2) m1 (Rs ga10 ca10 (l1_1 ++ [t2.text]) :: Tb bt3 t2 :: Ri g1_0 c1_0 l1_0 :: fr)) rfl ?_
      have hR12 : Rn L.length s (RS.go s1 2) (l1_0) 2 (-4) := hR1.go hgo11
      have hle13 : s.at_ < (s1.at_ + 2) := by have h9 : s.at_ ≤ s1.at_ := hR1.le; omega
      have hlt13 : (s1.at_ + 2) < L.length := hgo11
      refine LX.su [0, 3, 4, 5] rfl <| LX.nt <| CX.sr <| LX.mv rfl ?_
      have hk14 : Sk L.length (RS.go s1 2) := hs.next hR12 dc
      refine LX.call (h_test (RS.go s1 2) m1 (Rs ga10 ca10 (l1_1 ++ [t2.text]) :: Tb bt3 t2 :: Ri g1_0 c1_0 l1_0 :: fr) hk14 hn1 (by show L.length - (s1.at_ + 2) ≤ N; omega)) Pd.en47 rfl rfl rfl rfl rfl ?_
      rintro ⟨r14, s14, m14⟩
      refine LX.have fun ⟨hri14, hr14, hn14⟩ => ?_
      try dsimp only at hri14 hr14 hn14 ⊢
      have hR15 : Rn L.length s s14 (l1_0 ++ [r14]) 3 (-4) := hR12.trans hr14
      have hch16 : (s1.at_ + 2) ≤ s14.at_ := hr14.le
      have hle16 : s.at_ < s14.at_ := by omega
      have hlt16 : s14.at_ < L.length := hR15.lt
      have hde16 : s1.deep ≤ s14.deep := hr14.d0
      have hdd16 : s14.deep ≤ 60 := hR15.d1
      have hav14 : s14.code = 0 → (s1.at_ + 2) + 1 ≤ s14.at_ := hr14.adv
      refine LX.mv rfl <| LX.su [0, 3, 4, 5, 6] rfl <| LX.nt <| CX.region <| LX.ms 2 rfl <| LX.p (Y.fieldAddr0 Pf.fo44_2 rfl) rfl ?_
      refine LX.wp (Tb bt3 t2 :: PWl bp al L cl s14 m14 (Rs ga10 ca10 (l1_1 ++ [t2.text]) :: Ri g1_0 c1_0 l1_0 :: fr)) ?_
      refine LX.p (Y.ldB 0 Pa.one3 rfl rfl rfl) rfl <| LX.p (Y.fieldAddr0 Pa.fo44_1 rfl) rfl <| LX.p (Y.ldB 0 Pa.one9 rfl rfl rfl) rfl <| LX.mv rfl <| LX.buildSlice (e := 3) (size := 1) rfl rfl (fun _ => by kernel_rfl) rfl dc rfl rfl rfl ?_
      intro gt17
      refine LX.wq (Ri (some gt17) 1 ([r14]) :: Tb bt3 t2 :: PWl bp al L cl s14 m14 (Rs ga10 ca10 (l1_1 ++ [t2.text]) :: Ri g1_0 c1_0 l1_0 :: fr)) rfl ?_
      refine LX.wp (Ri (some gt17) 1 ([r14]) :: PWl bp al L cl s14 m14 (Tb bt3 t2 :: Rs ga10 ca10 (l1_1 ++ [t2.text]) :: Ri g1_0 c1_0 l1_0 :: fr)) ?_
      refine LX.call (put_c (fr := (Tb bt3 t2 :: Rs ga10 ca10 (l1_1 ++ [t2.text]) :: Ri g1_0 c1_0 l1_0 :: fr)) (g := (some gt17)) (c := 1) (ks := [r14]) (op := 11) (pos := t2.pos) (x := t2.text) s14 m14 hn14 (fun h0 => by have h1 : ((s14.ns).length : Int) + 2 * s.at_ ≤ s.ns.length + 2 * ((s14.at_ : Nat) : Int) + (-4) := hR15.few h0; have h2 := hs.few (hR15.bad h0); have h3 := hK.len; have h4 : s14.at_ < L.length := hR15.lt; show (s14.ns).length ≤ 1000000; omega) (by (simp only [List.length_cons, List.length_nil, List.length_append]; omega)) ((AllI.cons as_ AllI.nil)) (by (unfold inI; omega)) as_) Pd.en16 rfl rfl rfl rfl rfl ?_
      rintro ⟨r18, s18, m18⟩
      refine LX.have fun ⟨hri18, hp18, hn18⟩ => ?_
      try dsimp only at hri18 hp18 hn18 ⊢
      have hR19 : Rn L.length s s18 (l1_0 ++ [r18]) 3 (-3) := hR15.put (us := (l1_0)) (ks := [r14]) hp18 pm
      have hch20 : s14.at_ ≤ s18.at_ := Nat.le_of_eq hp18.eqs.1.symm
      have hle20 : s.at_ < s18.at_ := by omega
      have hlt20 : s18.at_ < L.length := hR19.lt
      have hde20 : s14.deep ≤ s18.deep := Int.le_of_eq hp18.eqs.2.1.symm
      have hdd20 : s18.deep ≤ 60 := hR19.d1
      refine LX.buildSlice (e := 3) (size := 1) rfl rfl (fun _ => by kernel_rfl) rfl dc rfl rfl rfl ?_
      intro gt21
      refine LX.wq (Ri (some gt21) 1 ([r18]) :: PWl bp al L cl s18 m18 (Tb bt3 t2 :: Rs ga10 ca10 (l1_1 ++ [t2.text]) :: Ri g1_0 c1_0 l1_0 :: fr)) rfl ?_
      refine LX.wp (Ri (some gt21) 1 ([r18]) :: Ri g1_0 c1_0 l1_0 :: PWl bp al L cl s18 m18 (Tb bt3 t2 :: Rs ga10 ca10 (l1_1 ++ [t2.text]) :: fr)) ?_
      refine LX.appendT 0 (g := g1_0) (k := (l1_0).length) Pe.el29 rfl rfl rfl rfl rfl rfl rfl lo lo rfl rfl rfl ?_
      intro ga22 ca22
      refine LX.wa (Ri ga22 ca22 (l1_0 ++ [r18]) :: PWl bp al L cl s18 m18 (Tb bt3 t2 :: Rs ga10 ca10 (l1_1 ++ [t2.text]) :: fr)) <| LX.sub (l' := [(0, _), (3, _), (4, _), (5, _), (6, _), (41, _), (42, _), (43, _), (44, _), (45, _), (46, _), (47, _), (48, _), (49, _), (50, _), (51, rv ga22 ((l1_0 ++ [r18])).length ca22)]) ⟨rfl, rfl, rfl, rfl, rfl, rfl, rfl, rfl, rfl, rfl, rfl, rfl, rfl, rfl, rfl, (by (show some (rv _ _ _) = some (rv _ _ _); simp only [List.length_cons, List.length_append, List.length_nil] <;> rfl)), trivial⟩ <| LX.mv rfl ?_
      refine LX.wp (PWl bp al L cl s18 m18 (Ri ga22 ca22 (l1_0 ++ [r18]) :: Tb bt3 t2 :: Rs ga10 ca10 (l1_1 ++ [t2.text]) :: fr)) ?_
      refine LX.su [0, 3, 4] rfl <| LX.nt <| CX.seq <| CX.sr ?_
      obtain ⟨t23, ht23⟩ : ∃ t, L[s18.at_]? = some t := ⟨_, List.getElem?_eq_getElem (show s18.at_ < L.length from hR19.lt)⟩
      have htk23 := (tok_in hL ht23).1
      have htp23 := (tok_in hL ht23).2
      refine LX.mv rfl <| LX.callQ (show FnQ Try.prog 12 #[.pointer (some ⟨bp, 0, none⟩)] _ (.bool (decide (s18.code ≠ 0))) from bad_q (s := s18) (m := m18) (fun w hw => blkL hw (i := 0) rfl)) Pb.en12 rfl rfl rfl rfl rfl <| LX.mv rfl <| LX.su [0, 3, 4, 69] rfl ?_
      apply LX.joinOr 4 73 69 rfl
      · intro hb5
        refine LX.gF rfl rfl rfl hb5 rfl rfl <| LX.gF rfl rfl rfl hb5 rfl rfl <| LX.gF rfl rfl rfl hb5 rfl rfl <| LX.p (Y.pickT rfl hb5 rfl) rfl ?_
        exact LX.left ⟨rfl, rfl, rfl, rfl, rfl, trivial⟩
      · intro hb5
        refine LX.gT rfl rfl rfl hb5 (Y.move rfl) rfl rfl <| LX.callQT rfl rfl rfl hb5 (is_q (s := s18) (m := m18) ht23 ([44] : List UInt8) (fun w hw => blkL hw (i := 0) rfl) (fun w hw => hL.push hw)) Pb.en32 rfl rfl rfl rfl <| LX.gT rfl rfl rfl hb5 (Y.not rfl) rfl rfl <| LX.p (Y.pickF rfl hb5 rfl) rfl ?_
        exact LX.left ⟨rfl, rfl, rfl, rfl, rfl, trivial⟩
      refine LX.su [0, 3, 4, 73] rfl <| LX.nt ?_
      refine CX.cond rfl (fun hb6 => ?_) (fun hb6 => ?_)
      · try simp at hb6
        refine CX.exit <| PX.thenE <| PX.blockO rfl <| PX.thenE <| PX.blockE <| PX.thenN <| CX.sr <| LX.ms 2 rfl <| LX.su [2] rfl <| LX.nt <| CX.ret <| PX.ret1 (by simp) Try.results64 rfl ?_
        exact fun w hw => ⟨((l1_0 ++ [r18]), ga22, ca22, false, s18, m18), rfl, ⟨(AllI.app hla1_0 (AllI.cons as_ AllI.nil)), (by show List.length _ + 2 * s.at_ ≤ 2 * s18.at_ + 2; (try simp only [List.length_cons, List.length_nil, List.length_append]); omega), (by exact True.intro), (by (intro h9; cases h9; done)), (hR19.wk dc dc).re pm, hn18⟩, hw.ct⟩
      try simp at hb6
      refine CX.skip <| PX.thenN <| CX.region ?_
      have hgo24 : s18.at_ + 1 < L.length := by exact hK.fin _ t23 ht23 (by (intro h8; simp_all [isS]; done))
      have hln24 := hK.len
      refine LX.ms 3 rfl <| LX.p (Y.fieldAddr0 Pa.fo42_1 rfl) rfl <| LX.p (Y.ldB 0 Pa.one3 rfl rfl rfl) rfl <| LX.p (Y.addN rfl rfl (by (simp only []; omega))) rfl <| LX.mv rfl <| LX.p (Y.fieldAddr0 Pa.fo42_1 rfl) rfl <| LX.storeB 0 Pb.sz3 rfl rfl rfl rfl rfl rfl rfl rfl <| LX.wq (PWl bp al L cl (RS.go s18 1) m18 (Ri ga22 ca22 (l1_0 ++ [r18]) :: Tb bt3 t2 :: Rs ga10 ca10 (l1_1 ++ [t2.text]) :: fr)) rfl ?_
      have hR25 : Rn L.length s (RS.go s18 1) (l1_0 ++ [r18]) 4 (-5) := hR19.go hgo24
      have hle26 : s.at_ < (s18.at_ + 1) := by have h9 : s.at_ ≤ s18.at_ := hR19.le; omega
      have hlt26 : (s18.at_ + 1) < L.length := hgo24
      refine LX.su [0, 3, 4] rfl <| LX.next <| PX.blockN ?_
      exact PX.again (i := ((l1_0, g1_0, c1_0), (l1_1, g1_1, c1_1), s1, m1)) (((l1_0 ++ [r18]), ga22, ca22), ((l1_1 ++ [t2.text]), ga10, ca10), (RS.go s18 1), m18) (by show L.length - (s18.at_ + 1) < L.length - s1.at_; omega) ⟨rfl, (by rfl), (by rfl), trivial⟩ (fun w hw => ⟨⟨(AllI.app hla1_0 (AllI.cons as_ AllI.nil)), (by show List.length _ + 2 * s.at_ ≤ 2 * (s18.at_ + 1) + 0; (try simp only [List.length_cons, List.length_nil, List.length_append]); omega), (by show List.length _ + 2 * s.at_ ≤ 2 * (s18.at_ + 1) + 0; (try simp only [List.length_cons, List.length_nil, List.length_append]); omega), (by show s.at_ ≤ (s18.at_ + 1); omega), (by show s.deep ≤ s18.deep; omega), (hR25.wk dc dc).re pm, hn18⟩, hw.ct⟩)
    try simp at hb3
    refine CX.seq <| CX.sr <| LX.mv rfl <| LX.p (Y.lenSl rfl Pa.un64 rfl) rfl <| LX.p (Y.gtN rfl rfl) rfl <| LX.mv rfl ?_
    refine LX.caseB (s := 55) rfl (fun hb7 => ?_) (fun hb7 => ?_)
    ·
      refine LX.gF rfl rfl rfl hb7 rfl rfl <| LX.gF rfl rfl rfl hb7 rfl rfl <| LX.gF rfl rfl rfl hb7 rfl rfl <| LX.p (Y.pickT rfl hb7 rfl) rfl <| LX.su [0, 3, 4, 59] rfl <| LX.nt ?_
      refine CX.cond rfl (fun hb8 => ?_) (fun hb8 => ?_)
      · try simp at hb8
        refine CX.sr <| LX.mv rfl <| LX.call (wrong_c (fr := (Tb bt3 t2 :: Ri g1_0 c1_0 l1_0 :: Rs g1_1 c1_1 l1_1 :: fr)) s1 m1 hL ht2) Pb.en37 rfl rfl rfl rfl rfl ?_
        intro s27
        refine LX.have fun hf27 => ?_
        have hb927 : Bad s1 s27 := FailR.bad hf27 dc
        have hbc27 := hb927.code
        have hn27 : NdsR 3 m1.rs m1.cells s27.ns := by rw [hb927.ns]; exact hn1
        have hR28 : Rn L.length s s27 (l1_0) 0 (0) := hR1.bad2 hb927
        have hch29 : s1.at_ ≤ s27.at_ := Nat.le_of_eq hb927.at_.symm
        have hle29 : s.at_ ≤ s27.at_ := by omega
        have hlt29 : s27.at_ < L.length := hR28.lt
        have hde29 : s1.deep ≤ s27.deep := Int.le_of_eq hb927.deep.symm
        have hdd29 : s27.deep ≤ 60 := hR28.d1
        refine LX.su [0, 3, 4] rfl <| LX.nt <| CX.sr <| LX.mv rfl <| LX.su [0, 2, 3, 4] rfl <| LX.nt <| CX.ret <| PX.thenR <| PX.thenR <| PX.blockR <| PX.thenR <| PX.blockR <| PX.thenR <| PX.ret1 (by simp) Try.results64 rfl ?_
        exact fun w hw => ⟨([], none, 0, false, s27, m1), rfl, ⟨AllI.nil, (by show 0 + 2 * s.at_ ≤ 2 * s27.at_ + 2; omega), (by exact True.intro), (by (intro h9; cases h9; done)), hR28.no as_, hn27⟩, (show WA w0 base (Ri none 0 ([] : List Int) :: PWl bp al L cl s27 m1 fr) w from (show WA w0 base (PWl bp al L cl s27 m1 fr) w from hw.ct).nilRow 3 1)⟩
      try simp at hb8
      done
    refine LX.gT rfl rfl rfl hb7 (Y.move rfl) rfl rfl <| LX.callT rfl rfl rfl hb7 (begins_w (s := s1) (m := m1) ht2 (fun w hw => blkL hw (i := 0) rfl) (fun w hw => hL.push hw)) Pe.en36 rfl rfl rfl rfl ?_
    intro b30
    refine LX.have fun hy30 => ?_
    replace hy30 : b30 = true → t2.kind ≠ 8 := hy30
    refine LX.gT rfl rfl rfl hb7 (Y.not rfl) rfl rfl <| LX.p (Y.pickF rfl hb7 rfl) rfl <| LX.su [0, 3, 4, 59] rfl <| LX.nt ?_
    refine CX.cond rfl (fun hb9 => ?_) (fun hb9 => ?_)
    · try simp at hb9
      refine CX.sr <| LX.mv rfl <| LX.call (wrong_c (fr := (Tb bt3 t2 :: Ri g1_0 c1_0 l1_0 :: Rs g1_1 c1_1 l1_1 :: fr)) s1 m1 hL ht2) Pb.en37 rfl rfl rfl rfl rfl ?_
      intro s31
      refine LX.have fun hf31 => ?_
      have hb931 : Bad s1 s31 := FailR.bad hf31 dc
      have hbc31 := hb931.code
      have hn31 : NdsR 3 m1.rs m1.cells s31.ns := by rw [hb931.ns]; exact hn1
      have hR32 : Rn L.length s s31 (l1_0) 0 (0) := hR1.bad2 hb931
      have hch33 : s1.at_ ≤ s31.at_ := Nat.le_of_eq hb931.at_.symm
      have hle33 : s.at_ ≤ s31.at_ := by omega
      have hlt33 : s31.at_ < L.length := hR32.lt
      have hde33 : s1.deep ≤ s31.deep := Int.le_of_eq hb931.deep.symm
      have hdd33 : s31.deep ≤ 60 := hR32.d1
      refine LX.su [0, 3, 4] rfl <| LX.nt <| CX.sr <| LX.mv rfl <| LX.su [0, 2, 3, 4] rfl <| LX.nt <| CX.ret <| PX.thenR <| PX.thenR <| PX.blockR <| PX.thenR <| PX.blockR <| PX.thenR <| PX.ret1 (by simp) Try.results64 rfl ?_
      exact fun w hw => ⟨([], none, 0, false, s31, m1), rfl, ⟨AllI.nil, (by show 0 + 2 * s.at_ ≤ 2 * s31.at_ + 2; omega), (by exact True.intro), (by (intro h9; cases h9; done)), hR32.no as_, hn31⟩, (show WA w0 base (Ri none 0 ([] : List Int) :: PWl bp al L cl s31 m1 fr) w from (show WA w0 base (PWl bp al L cl s31 m1 fr) w from hw.ct).nilRow 3 1)⟩
    try simp at hb9
    refine CX.skip <| PX.thenN <| CX.region <| LX.ms 2 rfl ?_
    have hk34 : Sk L.length s1 := hs.next hR1 dc
    refine LX.call (h_test s1 m1 (Tb bt3 t2 :: Ri g1_0 c1_0 l1_0 :: Rs g1_1 c1_1 l1_1 :: fr) hk34 hn1 (by show L.length - s1.at_ ≤ N; omega)) Pd.en47 rfl rfl rfl rfl rfl ?_
    rintro ⟨r34, s34, m34⟩
    refine LX.have fun ⟨hri34, hr34, hn34⟩ => ?_
    try dsimp only at hri34 hr34 hn34 ⊢
    have hR35 : Rn L.length s s34 (l1_0 ++ [r34]) 1 (0) := hR1.trans hr34
    have hch36 : s1.at_ ≤ s34.at_ := hr34.le
    have hle36 : s.at_ ≤ s34.at_ := by omega
    have hlt36 : s34.at_ < L.length := hR35.lt
    have hde36 : s1.deep ≤ s34.deep := hr34.d0
    have hdd36 : s34.deep ≤ 60 := hR35.d1
    have hav34 : s34.code = 0 → s1.at_ + 1 ≤ s34.at_ := hr34.adv
    refine LX.buildSlice (e := 3) (size := 1) rfl rfl (fun _ => by kernel_rfl) rfl dc rfl rfl rfl ?_
    intro gt37
    refine LX.wq (Ri (some gt37) 1 ([r34]) :: PWl bp al L cl s34 m34 (Tb bt3 t2 :: Ri g1_0 c1_0 l1_0 :: Rs g1_1 c1_1 l1_1 :: fr)) rfl ?_
    refine LX.wp (Ri (some gt37) 1 ([r34]) :: Ri g1_0 c1_0 l1_0 :: PWl bp al L cl s34 m34 (Tb bt3 t2 :: Rs g1_1 c1_1 l1_1 :: fr)) ?_
    refine LX.appendT 0 (g := g1_0) (k := (l1_0).length) Pe.el29 rfl rfl rfl rfl rfl rfl rfl lo lo rfl rfl rfl ?_
    intro ga38 ca38
    refine LX.wa (Ri ga38 ca38 (l1_0 ++ [r34]) :: PWl bp al L cl s34 m34 (Tb bt3 t2 :: Rs g1_1 c1_1 l1_1 :: fr)) <| LX.sub (l' := [(0, _), (3, _), (4, _), (59, _), (62, _), (63, _), (64, _), (65, _), (66, rv ga38 ((l1_0 ++ [r34])).length ca38)]) ⟨rfl, rfl, rfl, rfl, rfl, rfl, rfl, rfl, (by (show some (rv _ _ _) = some (rv _ _ _); simp only [List.length_cons, List.length_append, List.length_nil] <;> rfl)), trivial⟩ <| LX.mv rfl ?_
    refine LX.wp (PWl bp al L cl s34 m34 (Ri ga38 ca38 (l1_0 ++ [r34]) :: Tb bt3 t2 :: Rs g1_1 c1_1 l1_1 :: fr)) ?_
    refine LX.su [0, 3, 4] rfl <| LX.nt <| CX.seq <| CX.sr ?_
    obtain ⟨t39, ht39⟩ : ∃ t, L[s34.at_]? = some t := ⟨_, List.getElem?_eq_getElem (show s34.at_ < L.length from hR35.lt)⟩
    have htk39 := (tok_in hL ht39).1
    have htp39 := (tok_in hL ht39).2
    refine LX.mv rfl <| LX.callQ (show FnQ Try.prog 12 #[.pointer (some ⟨bp, 0, none⟩)] _ (.bool (decide (s34.code ≠ 0))) from bad_q (s := s34) (m := m34) (fun w hw => blkL hw (i := 0) rfl)) Pb.en12 rfl rfl rfl rfl rfl <| LX.mv rfl <| LX.su [0, 3, 4, 69] rfl ?_
    apply LX.joinOr 4 73 69 rfl
    · intro hb10
      refine LX.gF rfl rfl rfl hb10 rfl rfl <| LX.gF rfl rfl rfl hb10 rfl rfl <| LX.gF rfl rfl rfl hb10 rfl rfl <| LX.p (Y.pickT rfl hb10 rfl) rfl ?_
      exact LX.left ⟨rfl, rfl, rfl, rfl, rfl, trivial⟩
    · intro hb10
      refine LX.gT rfl rfl rfl hb10 (Y.move rfl) rfl rfl <| LX.callQT rfl rfl rfl hb10 (is_q (s := s34) (m := m34) ht39 ([44] : List UInt8) (fun w hw => blkL hw (i := 0) rfl) (fun w hw => hL.push hw)) Pb.en32 rfl rfl rfl rfl <| LX.gT rfl rfl rfl hb10 (Y.not rfl) rfl rfl <| LX.p (Y.pickF rfl hb10 rfl) rfl ?_
      exact LX.left ⟨rfl, rfl, rfl, rfl, rfl, trivial⟩
    refine LX.su [0, 3, 4, 73] rfl <| LX.nt ?_
    refine CX.cond rfl (fun hb11 => ?_) (fun hb11 => ?_)
    · try simp at hb11
      refine CX.exit <| PX.thenE <| PX.blockO rfl <| PX.thenE <| PX.blockE <| PX.thenN <| CX.sr <| LX.ms 2 rfl <| LX.su [2] rfl <| LX.nt <| CX.ret <| PX.ret1 (by simp) Try.results64 rfl ?_
      exact fun w hw => ⟨((l1_0 ++ [r34]), ga38, ca38, false, s34, m34), rfl, ⟨(AllI.app hla1_0 (AllI.cons as_ AllI.nil)), (by show List.length _ + 2 * s.at_ ≤ 2 * s34.at_ + 2; (try simp only [List.length_cons, List.length_nil, List.length_append]); omega), (by exact True.intro), (by (intro h9; cases h9; done)), (hR35.wk dc dc).re pm, hn34⟩, hw.ct⟩
    try simp at hb11
    refine CX.skip <| PX.thenN <| CX.region ?_
    have hgo40 : s34.at_ + 1 < L.length := by exact hK.fin _ t39 ht39 (by (intro h8; simp_all [isS]; done))
    have hln40 := hK.len
    refine LX.ms 3 rfl <| LX.p (Y.fieldAddr0 Pa.fo42_1 rfl) rfl <| LX.p (Y.ldB 0 Pa.one3 rfl rfl rfl) rfl <| LX.p (Y.addN rfl rfl (by (simp only []; omega))) rfl <| LX.mv rfl <| LX.p (Y.fieldAddr0 Pa.fo42_1 rfl) rfl <| LX.storeB 0 Pb.sz3 rfl rfl rfl rfl rfl rfl rfl rfl <| LX.wq (PWl bp al L cl (RS.go s34 1) m34 (Ri ga38 ca38 (l1_0 ++ [r34]) :: Tb bt3 t2 :: Rs g1_1 c1_1 l1_1 :: fr)) rfl ?_
    have hR41 : Rn L.length s (RS.go s34 1) (l1_0 ++ [r34]) 2 (-2) := hR35.go hgo40
    have hle42 : s.at_ < (s34.at_ + 1) := by have h9 : s.at_ ≤ s34.at_ := hR35.le; omega
    have hlt42 : (s34.at_ + 1) < L.length := hgo40
    refine LX.su [0, 3, 4] rfl <| LX.next <| PX.blockN ?_
    exact PX.again (i := ((l1_0, g1_0, c1_0), (l1_1, g1_1, c1_1), s1, m1)) (((l1_0 ++ [r34]), ga38, ca38), (l1_1, g1_1, c1_1), (RS.go s34 1), m34) (by show L.length - (s34.at_ + 1) < L.length - s1.at_; omega) ⟨rfl, (by rfl), (by rfl), trivial⟩ (fun w hw => ⟨⟨(AllI.app hla1_0 (AllI.cons as_ AllI.nil)), (by show List.length _ + 2 * s.at_ ≤ 2 * (s34.at_ + 1) + 0; (try simp only [List.length_cons, List.length_nil, List.length_append]); omega), (by show List.length _ + 2 * s.at_ ≤ 2 * (s34.at_ + 1) + 0; (try simp only [List.length_cons, List.length_nil, List.length_append]); omega), (by show s.at_ ≤ (s34.at_ + 1); omega), (by show s.deep ≤ s34.deep; omega), (hR41.wk dc dc).re pm, hn34⟩, hw.ct⟩)
  try simp at hb2
  refine CX.exit <| PX.thenE <| PX.thenE <| PX.blockE <| PX.thenN <| CX.sr <| LX.ms 2 rfl <| LX.su [2] rfl <| LX.nt <| CX.ret <| PX.ret1 (by simp) Try.results64 rfl ?_
  exact fun w hw => ⟨(l1_0, g1_0, c1_0, false, s1, m1), rfl, ⟨hla1_0, (by show List.length _ + 2 * s.at_ ≤ 2 * s1.at_ + 2; (try simp only [List.length_cons, List.length_nil, List.length_append]); omega), (by exact True.intro), (by (intro h9; cases h9; done)), (hR1.wk dc dc).re pm, hn1⟩, hw.ct⟩
end Go.Proofs.Yteibddakpedogaa
