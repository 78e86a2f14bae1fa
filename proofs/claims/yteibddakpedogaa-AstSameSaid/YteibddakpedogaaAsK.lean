/-
  Proved here: the document's parser: loads.
-/
import Derived.Test.YteibddakpedogaaAsJ
import Derived.Test.YteibddakpedogaaNamP
set_option linter.unusedSimpArgs false
namespace Go.Proofs.Yteibddakpedogaa
open Go.SX Go.RowKit Go.Tr Go.As Go.Ck
namespace Pk
theorem en25 : Enters Try.prog 25 := Enters.of Try.func25 (by kernel_rfl) (by kernel_rfl)
theorem en26 : Enters Try.prog 26 := Enters.of Try.func26 (by kernel_rfl) (by kernel_rfl)
theorem en28 : Enters Try.prog 28 := Enters.of Try.func28 (by kernel_rfl) (by kernel_rfl)
theorem en58 : Enters Try.prog 58 := Enters.of Try.func58 (by kernel_rfl) (by kernel_rfl)
theorem en61 : Enters Try.prog 61 := Enters.of Try.func61 (by kernel_rfl) (by kernel_rfl)
theorem un9 : Try.prog.underlying 9 = some .string := by kernel_rfl
end Pk
open Go.Pa (Tk)
theorem letter4_c (W : World → Prop) (c : Nat) : FnC Try.prog 25 #[.int .u8 (c : Int)] W (fun _ : Unit => .bool (Go.Lex.isLet c)) (fun _ => W) := by
  refine FnC.of_body (fn := Try.f25) [(0, _)] Try.func25 rfl Try.ntmps25 rfl ⟨rfl, trivial⟩ ?_
  refine CX.sr <| LX.mv rfl <| LX.su [0, 2] rfl <| LX.nt <| CX.sr <| LX.mv rfl <| LX.p (Y.geN rfl rfl) rfl <| LX.mv rfl <| LX.su [0, 2, 5] rfl ?_
  apply LX.joinAnd 3 8 5 rfl
  · intro hb1
    refine LX.gT rfl rfl rfl hb1 (Y.move rfl) rfl rfl <| LX.gT rfl rfl rfl hb1 (Y.leN rfl rfl) rfl rfl <| LX.p (Y.pickT rfl hb1 rfl) rfl ?_
    exact LX.left ⟨rfl, rfl, rfl, rfl, trivial⟩
  · intro hb1
    refine LX.gF rfl rfl rfl hb1 rfl rfl <| LX.gF rfl rfl rfl hb1 rfl rfl <| LX.p (Y.pickF rfl hb1 rfl) rfl ?_
    exact LX.left ⟨rfl, rfl, rfl, rfl, trivial⟩
  refine LX.mv rfl <| LX.su [0, 2, 9] rfl ?_
  apply LX.joinOr 7 16 9 rfl
  · intro hb2
    refine LX.gF rfl rfl rfl hb2 rfl rfl <| LX.gF rfl rfl rfl hb2 rfl rfl <| LX.gF rfl rfl rfl hb2 rfl rfl <| LX.gU rfl rfl rfl rfl rfl <| LX.gU rfl rfl rfl rfl rfl <| LX.gF rfl rfl rfl hb2 rfl rfl <| LX.p (Y.pickT rfl hb2 rfl) rfl ?_
    exact LX.left ⟨rfl, rfl, rfl, rfl, trivial⟩
  · intro hb2
    refine LX.gT rfl rfl rfl hb2 (Y.move rfl) rfl rfl <| LX.gT rfl rfl rfl hb2 (Y.geN rfl rfl) rfl rfl <| LX.gT rfl rfl rfl hb2 (Y.move rfl) rfl rfl <| LX.su [0, 2, 9, 12] rfl ?_
    apply LX.joinAnd 3 15 12 rfl
    · intro hb3
      refine LX.gT rfl rfl rfl hb3 (Y.move rfl) rfl rfl <| LX.gT rfl rfl rfl hb3 (Y.leN rfl rfl) rfl rfl <| LX.gT rfl rfl rfl hb2 (Y.pickT rfl hb3 rfl) rfl rfl ?_
      exact LX.left ⟨rfl, rfl, rfl, rfl, rfl, trivial⟩
    · intro hb3
      refine LX.gF rfl rfl rfl hb3 rfl rfl <| LX.gF rfl rfl rfl hb3 rfl rfl <| LX.gT rfl rfl rfl hb2 (Y.pickF rfl hb3 rfl) rfl rfl ?_
      exact LX.left ⟨rfl, rfl, rfl, rfl, rfl, trivial⟩
    refine LX.p (Y.pickF rfl hb2 rfl) rfl ?_
    exact LX.left ⟨rfl, rfl, rfl, rfl, trivial⟩
  refine LX.mv rfl <| LX.su [0, 2, 17] rfl ?_
  apply LX.joinOr 3 20 17 rfl
  · intro hb4
    refine LX.gF rfl rfl rfl hb4 rfl rfl <| LX.gF rfl rfl rfl hb4 rfl rfl <| LX.p (Y.pickT rfl hb4 rfl) rfl ?_
    exact LX.left ⟨rfl, rfl, rfl, rfl, trivial⟩
  · intro hb4
    refine LX.gT rfl rfl rfl hb4 (Y.move rfl) rfl rfl <| LX.gT rfl rfl rfl hb4 (Y.eqN rfl rfl) rfl rfl <| LX.p (Y.pickF rfl hb4 rfl) rfl ?_
    exact LX.left ⟨rfl, rfl, rfl, rfl, trivial⟩
  refine LX.mv rfl <| LX.su [2] rfl <| LX.nt <| CX.ret <| PX.ret1 (by simp) Try.results25 rfl ?_
  exact fun w hw => ⟨(), rfl, hw⟩
theorem letter4_q (W : World → Prop) (c : Nat) : FnQ Try.prog 25 #[.int .u8 (c : Int)] W (.bool (Go.Lex.isLet c)) := fun w _ => ((letter4_c (fun w' => w' = w) c) w rfl).mono fun e w' ⟨_, he, hw⟩ => ⟨he, by rw [hw]; exact Below.refl _ _⟩
theorem digit4_c (W : World → Prop) (c : Nat) : FnC Try.prog 26 #[.int .u8 (c : Int)] W (fun _ : Unit => .bool (Go.Lex.isDig c)) (fun _ => W) := by
  refine FnC.of_body (fn := Try.f26) [(0, _)] Try.func26 rfl Try.ntmps26 rfl ⟨rfl, trivial⟩ ?_
  refine CX.sr <| LX.mv rfl <| LX.su [0, 2] rfl <| LX.nt <| CX.sr <| LX.mv rfl <| LX.p (Y.geN rfl rfl) rfl <| LX.mv rfl <| LX.su [0, 2, 5] rfl ?_
  apply LX.joinAnd 3 8 5 rfl
  · intro hb1
    refine LX.gT rfl rfl rfl hb1 (Y.move rfl) rfl rfl <| LX.gT rfl rfl rfl hb1 (Y.leN rfl rfl) rfl rfl <| LX.p (Y.pickT rfl hb1 rfl) rfl ?_
    exact LX.left ⟨rfl, rfl, rfl, rfl, trivial⟩
  · intro hb1
    refine LX.gF rfl rfl rfl hb1 rfl rfl <| LX.gF rfl rfl rfl hb1 rfl rfl <| LX.p (Y.pickF rfl hb1 rfl) rfl ?_
    exact LX.left ⟨rfl, rfl, rfl, rfl, trivial⟩
  refine LX.mv rfl <| LX.su [2] rfl <| LX.nt <| CX.ret <| PX.ret1 (by simp) Try.results26 rfl ?_
  exact fun w hw => ⟨(), rfl, hw⟩
theorem digit4_q (W : World → Prop) (c : Nat) : FnQ Try.prog 26 #[.int .u8 (c : Int)] W (.bool (Go.Lex.isDig c)) := fun w _ => ((digit4_c (fun w' => w' = w) c) w rfl).mono fun e w' ⟨_, he, hw⟩ => ⟨he, by rw [hw]; exact Below.refl _ _⟩
theorem plain6_0 {w0 : World} {base : Nat} (s : List UInt8) (hs : s.length ≤ 1000000)  : FnC Try.prog 61 #[str s] (WA w0 base []) (fun b : Bool => .bool b) (fun _ => WA w0 base []) := by
  refine FnC.of_body (fn := Try.f61) [(0, _)] Try.func61 rfl Try.ntmps61 rfl ⟨rfl, trivial⟩ ?_
  refine CX.sr <| LX.mv rfl <| LX.su [0, 2] rfl <| LX.nt <| CX.seq <| CX.sr <| LX.mv rfl <| LX.su [0, 2, 3] rfl <| LX.nt <| CX.block <| CX.loop (fun j : Nat => [(0, str s), (3, .int .i64 (j : Int))]) (fun (j : Nat) w => j ≤ s.length ∧ WA w0 base [] w) (fun j => s.length - j) 0 ⟨rfl, rfl, trivial⟩ (fun w hw => ⟨Nat.zero_le _, hw⟩) ?_
  intro j
  refine CX.have fun hj0 => ?_
  replace hj0 : j ≤ s.length := hj0
  refine CX.seq <| CX.sr <| LX.ms 2 rfl <| LX.p (Y.lenStr rfl Pk.un9 rfl) rfl <| LX.p (Y.ltN rfl rfl) rfl <| LX.su [0, 3, 7] rfl <| LX.nt ?_
  refine CX.cond rfl (fun hb1 => ?_) (fun hb1 => ?_)
  · try simp at hb1
    have hjl : j < s.length := by omega
    refine CX.skip <| PX.thenN <| CX.seq <| CX.block <| CX.sr <| LX.ms 2 rfl <| LX.p (Y.index rfl rfl Pk.un9 (by omega)) rfl <| LX.callQ (letter4_q _ _) Pk.en25 rfl rfl rfl rfl rfl <| LX.p (Y.not rfl) rfl <| LX.mv rfl <| LX.su [0, 3, 15] rfl ?_
    apply LX.joinAnd 10 25 15 rfl
    · intro hb2
      refine LX.gT rfl rfl rfl hb2 (Y.move rfl) rfl rfl <| LX.gT rfl rfl rfl hb2 (Y.gtN rfl rfl) rfl rfl <| LX.gT rfl rfl rfl hb2 (Y.move rfl) rfl rfl <| LX.su [0, 3, 15, 18] rfl ?_
      apply LX.joinAnd 5 23 18 rfl
      · intro hb3
        have hb3p := hb3
        try simp at hb3p
        refine LX.gT rfl rfl rfl hb3 (Y.move rfl) rfl rfl <| LX.gT rfl rfl rfl hb3 (Y.move rfl) rfl rfl <| LX.gT rfl rfl rfl hb3 (Y.index rfl rfl Pk.un9 (by omega)) rfl rfl <| LX.callQT rfl rfl rfl hb3 (digit4_q _ _) Pk.en26 rfl rfl rfl rfl <| LX.gT rfl rfl rfl hb2 (Y.pickT rfl hb3 rfl) rfl rfl ?_
        exact LX.left ⟨rfl, rfl, rfl, rfl, rfl, trivial⟩
      · intro hb3
        refine LX.gF rfl rfl rfl hb3 rfl rfl <| LX.gF rfl rfl rfl hb3 rfl rfl <| LX.gF rfl rfl rfl hb3 rfl rfl <| LX.gF rfl rfl rfl hb3 rfl rfl <| LX.gT rfl rfl rfl hb2 (Y.pickF rfl hb3 rfl) rfl rfl ?_
        exact LX.left ⟨rfl, rfl, rfl, rfl, rfl, trivial⟩
      refine LX.gT rfl rfl rfl hb2 (Y.not rfl) rfl rfl <| LX.p (Y.pickT rfl hb2 rfl) rfl ?_
      exact LX.left ⟨rfl, rfl, rfl, rfl, trivial⟩
    · intro hb2
      refine LX.gF rfl rfl rfl hb2 rfl rfl <| LX.gF rfl rfl rfl hb2 rfl rfl <| LX.gF rfl rfl rfl hb2 rfl rfl <| LX.gU rfl rfl rfl rfl rfl <| LX.gU rfl rfl rfl rfl rfl <| LX.gU rfl rfl rfl rfl rfl <| LX.gU rfl rfl rfl rfl rfl <| LX.gF rfl rfl rfl hb2 rfl rfl <| LX.gF rfl rfl rfl hb2 rfl rfl <| LX.p (Y.pickF rfl hb2 rfl) rfl ?_
      exact LX.left ⟨rfl, rfl, rfl, rfl, trivial⟩
    refine LX.su [0, 3, 25] rfl <| LX.nt ?_
    refine CX.cond rfl (fun hb4 => ?_) (fun hb4 => ?_)
    · try simp at hb4
      refine CX.sr <| LX.mv rfl <| LX.su [0, 2, 3] rfl <| LX.nt <| CX.ret <| PX.blockR <| PX.thenR <| PX.thenR <| PX.blockR <| PX.thenR <| PX.ret1 (by simp) Try.results61 rfl ?_
      exact fun w hw => ⟨_, rfl, hw.drop (List.nil_sublist _)⟩
    try simp at hb4
    refine CX.skip <| PX.blockN <| PX.thenN <| CX.region <| LX.mv rfl <| LX.p (Y.addN rfl rfl (by (simp only []; omega))) rfl <| LX.mv rfl <| LX.su [0, 3] rfl <| LX.next ?_
    exact PX.again (i := j) (j + 1) (by show s.length - (j + 1) < s.length - j; omega) ⟨rfl, rfl, trivial⟩ (fun w hw => ⟨by show j + 1 ≤ s.length; omega, hw⟩)
  try simp at hb1
  refine CX.exit <| PX.thenE <| PX.thenE <| PX.blockE <| PX.thenN <| CX.sr <| LX.mv rfl <| LX.p (Y.neS rfl rfl) rfl <| LX.mv rfl <| LX.su [2] rfl <| LX.nt <| CX.ret <| PX.ret1 (by simp) Try.results61 rfl ?_
  exact fun w hw => ⟨_, rfl, hw.drop (List.nil_sublist _)⟩
theorem plain6_w {W : World → Prop} [Stab W] (s : List UInt8) (hs : s.length ≤ 1000000)  : FnC Try.prog 61 #[str s] W (fun b : Bool => .bool b) (fun _ => W) := FnC.re fun w hw => plain6_0 s hs 
theorem words6_c {w0 : World} {base : Nat} {fr : List It} : FnC Try.prog 28 #[] (WA w0 base fr) (fun b : Nat => .slice (some ⟨b, 0, none⟩) 17 17) (fun b => WA w0 base (.row (some b) 17 17 9 1 (Go.Lex.wordsList.map str) :: fr)) := by
  refine FnC.of_body (fn := Try.f28) [] Try.func28 rfl Try.ntmps28 rfl trivial ?_
  refine CX.sr <| LX.mv rfl <| LX.su [0] rfl <| LX.nt <| CX.sr <| LX.buildSlice (e := 9) (size := 1) rfl rfl (fun _ => by kernel_rfl) rfl dc rfl rfl rfl ?_
  intro b
  refine LX.mv rfl <| LX.su [0] rfl <| LX.nt <| CX.ret <| PX.ret1 (by simp) Try.results28 rfl ?_
  exact fun w hw => ⟨b, rfl, hw⟩
theorem name6_0 {w0 : World} {base : Nat} (s : List UInt8) (hs : s.length ≤ 1000000)  : FnC Try.prog 58 #[str s] (WA w0 base []) (fun b : Bool => .bool b) (fun _ => WA w0 base []) := by
  refine FnC.of_body (fn := Try.f58) [(0, _)] Try.func58 rfl Try.ntmps58 rfl ⟨rfl, trivial⟩ ?_
  refine CX.sr <| LX.mv rfl <| LX.su [0, 2] rfl <| LX.nt <| CX.sr <| LX.mv rfl <| LX.call (plain6_w s hs) Pk.en61 rfl rfl rfl rfl rfl ?_
  intro b4
  refine LX.mv rfl ?_
  refine LX.caseB (s := 5) rfl (fun hb1 => ?_) (fun hb1 => ?_)
  ·
    have hb1p := hb1
    try simp at hb1p
    refine LX.callT rfl rfl rfl hb1 (words6_c) Pk.en28 rfl rfl rfl rfl ?_
    intro bw
    refine LX.gT rfl rfl rfl hb1 (Y.move rfl) rfl rfl <| LX.callT rfl rfl rfl hb1 (among6_w 17 (ss := Go.Lex.wordsList) dc s (fun w hw => Go.Tr.row_at (ys := Go.Lex.wordsList.map str) hw (j := 0) rfl rfl dc (fun i z h => map_A h))) Pa.en27 rfl rfl rfl rfl ?_
    intro z4
    refine LX.have fun hz4 => LX.gT rfl rfl rfl hb1 (Y.ltI rfl rfl) rfl rfl <| LX.p (Y.pickT rfl hb1 rfl) rfl <| LX.mv rfl <| LX.su [2] rfl <| LX.nt <| CX.ret <| PX.ret1 (by simp) Try.results58 rfl ?_
    exact fun w hw => ⟨_, rfl, hw.drop (List.nil_sublist _)⟩
  have hb1p := hb1
  try simp at hb1p
  refine LX.gF rfl rfl rfl hb1 rfl rfl <| LX.gF rfl rfl rfl hb1 rfl rfl <| LX.gF rfl rfl rfl hb1 rfl rfl <| LX.gF rfl rfl rfl hb1 rfl rfl <| LX.p (Y.pickF rfl hb1 rfl) rfl <| LX.mv rfl <| LX.su [2] rfl <| LX.nt <| CX.ret <| PX.ret1 (by simp) Try.results58 rfl ?_
  exact fun w hw => ⟨_, rfl, hw.drop (List.nil_sublist _)⟩
theorem name6_w {W : World → Prop} [Stab W] (s : List UInt8) (hs : s.length ≤ 1000000)  : FnC Try.prog 58 #[str s] W (fun b : Bool => .bool b) (fun _ => W) := FnC.re fun w hw => name6_0 s hs 
theorem load_c {w0 : World} {base : Nat} {bp : Nat} {al : Option Addr} {cl : Nat} {L : List Go.Pa.Tk} (hL : SlAt 3 tokA (Lies w0 base) al L) (hK : Tok6 L) {N : Nat} (pos : Int) (hpos : inI pos)  : (∀ (s : RS) (m : Mm) (fr : List It), Sk L.length s → NdsR 3 m.rs m.cells s.ns → L.length - s.at_ ≤ N → s.at_ + 1 < L.length → PF 53 [.pointer (some ⟨bp, 0, none⟩), .int .i64 pos] w0 base bp al cl L s m fr) := by
  intro s m fr hs hn hN hgo0
  have hR := Rn.refl hs
  have hle : s.at_ ≤ s.at_ := Nat.le_refl _
  have hd0 := hs.d0
  have hd1 := hs.d1
  have hlt := hs.lt
  have hln0 := hK.len
  have hN0 : 0 < N := by omega
  refine FnC.of_body (fn := Try.f53) [(0, _), (1, _)] Try.func53 rfl Try.ntmps53 rfl ⟨rfl, rfl, trivial⟩ ?_
  refine CX.sr <| LX.mv rfl <| LX.su [0, 1, 4] rfl <| LX.nt <| CX.sr ?_
  obtain ⟨t1, ht1⟩ : ∃ t, L[s.at_]? = some t := ⟨_, List.getElem?_eq_getElem (show s.at_ < L.length from hR.lt)⟩
  have htk1 := (tok_in hL ht1).1
  have htp1 := (tok_in hL ht1).2
  have hgo2 : s.at_ + 1 < L.length := by omega
  have hln2 := hK.len
  refine LX.ms 3 rfl <| LX.p (Y.fieldAddr0 Pa.fo42_1 rfl) rfl <| LX.p (Y.ldB 0 Pa.one3 rfl rfl rfl) rfl <| LX.p (Y.addN rfl rfl (by (simp only []; omega))) rfl <| LX.mv rfl <| LX.p (Y.fieldAddr0 Pa.fo42_1 rfl) rfl <| LX.storeB 0 Pb.sz3 rfl rfl rfl rfl rfl rfl rfl rfl <| LX.wq (PWl bp al L cl (RS.go s 1) m fr) rfl ?_
  have hR3 : Rn L.length s (RS.go s 1) ([] : List Int) 1 (-2) := hR.go hgo2
  have hle4 : s.at_ < (s.at_ + 1) := by have h9 : s.at_ ≤ s.at_ := hR.le; omega
  have hlt4 : (s.at_ + 1) < L.length := hgo2
  refine LX.su [0, 1, 4] rfl <| LX.nt <| CX.sr ?_
  obtain ⟨t5, ht5⟩ : ∃ t, L[(s.at_ + 1)]? = some t := ⟨_, List.getElem?_eq_getElem (show (s.at_ + 1) < L.length from hR3.lt)⟩
  have htk5 := (tok_in hL ht5).1
  have htp5 := (tok_in hL ht5).2
  refine LX.mv rfl <| LX.call (want_c (fr := fr) (RS.go s 1) m hL hK ht5 ([40] : List UInt8)) Pd.en35 rfl rfl rfl rfl rfl ?_
  rintro ⟨b6, s6⟩
  refine LX.have fun hw6 => ?_
  try dsimp only at hw6 ⊢
  have hn6 : NdsR 3 m.rs m.cells s6.ns := by rw [hw6.ns]; exact hn
  have hR7 : Rn L.length s s6 ([] : List Int) 2 (-4) := hR3.want hw6
  have hch8 : (s.at_ + 1) ≤ s6.at_ := hw6.le
  have hle8 : s.at_ < s6.at_ := by omega
  have hlt8 : s6.at_ < L.length := hR7.lt
  have hde8 : s.deep ≤ s6.deep := Int.le_of_eq hw6.deep.symm
  have hdd8 : s6.deep ≤ 60 := hR7.d1
  refine LX.su [0, 1, 4] rfl <| LX.nt <| CX.sr ?_
  obtain ⟨t9, ht9⟩ : ∃ t, L[s6.at_]? = some t := ⟨_, List.getElem?_eq_getElem (show s6.at_ < L.length from hR7.lt)⟩
  have htk9 := (tok_in hL ht9).1
  have htp9 := (tok_in hL ht9).2
  refine LX.mv rfl <| LX.call (kind_c (fr := fr) s6 m hL hK ht9 3 dc) Pg.en42 rfl rfl rfl rfl rfl ?_
  rintro ⟨k10, b10, s10⟩
  refine LX.have fun ⟨hk10, hki10, hkt10, hw10⟩ => ?_
  try dsimp only at hk10 hki10 hkt10 hw10 ⊢
  have hn10 : NdsR 3 m.rs m.cells s10.ns := by rw [hw10.ns]; exact hn6
  have hR11 : Rn L.length s s10 ([] : List Int) 3 (-6) := hR7.want hw10
  have hch12 : s6.at_ ≤ s10.at_ := hw10.le
  have hle12 : s.at_ < s10.at_ := by omega
  have hlt12 : s10.at_ < L.length := hR11.lt
  have hde12 : s6.deep ≤ s10.deep := Int.le_of_eq hw10.deep.symm
  have hdd12 : s10.deep ≤ 60 := hR11.d1
  refine LX.mv rfl <| LX.p (Y.extract rfl rfl) rfl <| LX.p (Y.extract rfl rfl) rfl <| LX.alloc rfl Pa.zv44 rfl rfl rfl ?_
  intro bt13
  refine LX.storeA 0 Pa.ag44 rfl rfl rfl rfl rfl rfl rfl rfl rfl <| LX.wq (Tb bt13 k10 :: PWl bp al L cl s10 m fr) rfl <| LX.mv rfl ?_
  refine LX.wp (PWl bp al L cl s10 m (Tb bt13 k10 :: fr)) ?_
  refine LX.su [0, 1, 4, 5] rfl <| LX.nt <| CX.sr <| LX.mv rfl <| LX.su [0, 1, 4, 5, 7] rfl <| LX.nt <| CX.seq <| CX.block ?_
  refine CX.loop (fun z : (List Int × Option Nat × Nat) × RS × Mm => [(0, .pointer (some ⟨bp, 0, none⟩)), (1, .int .i64 pos), (5, .pointer (some ⟨bt13, 0, none⟩)), (7, rv z.1.2.1 (z.1.1).length z.1.2.2)]) (fun (z : (List Int × Option Nat × Nat) × RS × Mm) w => (AllI z.1.1 ∧ (z.1.1).length + 2 * s.at_ ≤ 2 * z.2.1.at_ + 0 ∧ s10.at_ ≤ z.2.1.at_ ∧ s10.deep ≤ z.2.1.deep ∧ Rn L.length s z.2.1 z.1.1 0 (0) ∧ NdsR 3 z.2.2.rs z.2.2.cells z.2.1.ns) ∧ WA w0 base (PWl bp al L cl z.2.1 z.2.2 (Ri z.1.2.1 z.1.2.2 (z.1.1) :: Tb bt13 k10 :: fr)) w) (fun z : (List Int × Option Nat × Nat) × RS × Mm => L.length - z.2.1.at_) (([], none, 0), s10, m) ⟨rfl, rfl, rfl, (by rfl), trivial⟩ (fun w hw => ⟨⟨AllI.nil, (by show 0 + 2 * s.at_ ≤ 2 * s10.at_ + 0; omega), Nat.le_refl _, Int.le_refl _, (hR11.wk dc dc).re pm, hn10⟩, ((show WA w0 base (Ri none 0 ([] : List Int) :: PWl bp al L cl s10 m (Tb bt13 k10 :: fr)) w from hw.nilRow 3 1).perm pm)⟩) ?_
  rintro ⟨⟨l14_0, g14_0, c14_0⟩, s14, m14⟩
  refine CX.have fun ⟨hla14_0, hll14_0, hlo14, hld14, hR14, hn14⟩ => ?_
  try dsimp only at hla14_0 hll14_0 hlo14 hld14 hR14 hn14 ⊢
  have hle14 : s.at_ < s14.at_ := by omega
  have hlt14 : s14.at_ < L.length := hR14.lt
  have hde14 := hR14.d0
  have hdd14 := hR14.d1
  refine CX.seq <| CX.sr ?_
  obtain ⟨t15, ht15⟩ : ∃ t, L[s14.at_]? = some t := ⟨_, List.getElem?_eq_getElem (show s14.at_ < L.length from hR14.lt)⟩
  have htk15 := (tok_in hL ht15).1
  have htp15 := (tok_in hL ht15).2
  refine LX.mv rfl <| LX.callQ (show FnQ Try.prog 12 #[.pointer (some ⟨bp, 0, none⟩)] _ (.bool (decide (s14.code ≠ 0))) from bad_q (s := s14) (m := m14) (fun w hw => blkL hw (i := 0) rfl)) Pb.en12 rfl rfl rfl rfl rfl <| LX.p (Y.not rfl) rfl <| LX.mv rfl <| LX.su [0, 1, 5, 7, 32] rfl ?_
  apply LX.joinAnd 3 35 32 rfl
  · intro hb1
    refine LX.gT rfl rfl rfl hb1 (Y.move rfl) rfl rfl <| LX.callQT rfl rfl rfl hb1 (is_q (s := s14) (m := m14) ht15 ([44] : List UInt8) (fun w hw => blkL hw (i := 0) rfl) (fun w hw => hL.push hw)) Pb.en32 rfl rfl rfl rfl <| LX.p (Y.pickT rfl hb1 rfl) rfl ?_
    exact LX.left ⟨rfl, rfl, rfl, rfl, rfl, rfl, trivial⟩
  · intro hb1
    refine LX.gF rfl rfl rfl hb1 rfl rfl <| LX.gF rfl rfl rfl hb1 rfl rfl <| LX.p (Y.pickF rfl hb1 rfl) rfl ?_
    exact LX.left ⟨rfl, rfl, rfl, rfl, rfl, rfl, trivial⟩
  refine LX.su [0, 1, 5, 7, 35] rfl <| LX.nt ?_
  refine CX.cond rfl (fun hb2 => ?_) (fun hb2 => ?_)
  · try simp at hb2
    refine CX.skip <| PX.thenN <| CX.block <| CX.sr ?_
    have hgo16 : s14.at_ + 1 < L.length := by exact hK.fin _ t15 ht15 (by (intro h8; simp_all [isS]; done))
    have hln16 := hK.len
    refine LX.ms 3 rfl <| LX.p (Y.fieldAddr0 Pa.fo42_1 rfl) rfl <| LX.p (Y.ldB 0 Pa.one3 rfl rfl rfl) rfl <| LX.p (Y.addN rfl rfl (by (simp only []; omega))) rfl <| LX.mv rfl <| LX.p (Y.fieldAddr0 Pa.fo42_1 rfl) rfl <| LX.storeB 0 Pb.sz3 rfl rfl rfl rfl rfl rfl rfl rfl <| LX.wq (PWl bp al L cl (RS.go s14 1) m14 (Ri g14_0 c14_0 l14_0 :: Tb bt13 k10 :: fr)) rfl ?_
    have hR17 : Rn L.length s (RS.go s14 1) (l14_0) 1 (-2) := hR14.go hgo16
    have hle18 : s.at_ < (s14.at_ + 1) := by have h9 : s.at_ ≤ s14.at_ := hR14.le; omega
    have hlt18 : (s14.at_ + 1) < L.length := hgo16
    refine LX.su [0, 1, 5, 7] rfl <| LX.nt <| CX.seq <| CX.sr ?_
    obtain ⟨t19, ht19⟩ : ∃ t, L[(s14.at_ + 1)]? = some t := ⟨_, List.getElem?_eq_getElem (show (s14.at_ + 1) < L.length from hR17.lt)⟩
    have htk19 := (tok_in hL ht19).1
    have htp19 := (tok_in hL ht19).2
    refine LX.mv rfl <| LX.callQ (is_q (s := (RS.go s14 1)) (m := m14) ht19 ([41] : List UInt8) (fun w hw => blkL hw (i := 0) rfl) (fun w hw => hL.push hw)) Pb.en32 rfl rfl rfl rfl rfl <| LX.su [0, 1, 5, 7, 45] rfl <| LX.nt ?_
    refine CX.cond rfl (fun hb3 => ?_) (fun hb3 => ?_)
    · try simp at hb3
      refine CX.exit <| PX.thenE <| PX.blockO rfl <| PX.thenE <| PX.blockE <| PX.thenN <| CX.seq <| CX.sr <| LX.mv rfl <| LX.callQ (show FnQ Try.prog 12 #[.pointer (some ⟨bp, 0, none⟩)] _ (.bool (decide (s14.code ≠ 0))) from bad_q (s := (RS.go s14 1)) (m := m14) (fun w hw => blkL hw (i := 0) rfl)) Pb.en12 rfl rfl rfl rfl rfl <| LX.p (Y.not rfl) rfl <| LX.mv rfl <| LX.su [0, 1, 5, 7, 102] rfl ?_
      apply LX.joinAnd 4 106 102 rfl
      · intro hb4
        refine LX.gT rfl rfl rfl hb4 (Y.move rfl) rfl rfl <| LX.gT rfl rfl rfl hb4 (Y.lenSl rfl Pc.un29 rfl) rfl rfl <| LX.gT rfl rfl rfl hb4 (Y.eqN rfl rfl) rfl rfl <| LX.p (Y.pickT rfl hb4 rfl) rfl ?_
        exact LX.left ⟨rfl, rfl, rfl, rfl, rfl, rfl, trivial⟩
      · intro hb4
        refine LX.gF rfl rfl rfl hb4 rfl rfl <| LX.gF rfl rfl rfl hb4 rfl rfl <| LX.gF rfl rfl rfl hb4 rfl rfl <| LX.p (Y.pickF rfl hb4 rfl) rfl ?_
        exact LX.left ⟨rfl, rfl, rfl, rfl, rfl, rfl, trivial⟩
      refine LX.su [0, 1, 5, 7, 106] rfl <| LX.nt ?_
      refine CX.cond rfl (fun hb5 => ?_) (fun hb5 => ?_)
      · try simp at hb5
        refine CX.sr <| LX.mv rfl <| LX.call (wrong_c (fr := (Ri g14_0 c14_0 l14_0 :: Tb bt13 k10 :: fr)) (RS.go s14 1) m14 hL ht19) Pb.en37 rfl rfl rfl rfl rfl ?_
        intro s20
        refine LX.have fun hf20 => ?_
        have hb920 : Bad (RS.go s14 1) s20 := FailR.bad hf20 dc
        have hbc20 := hb920.code
        have hn20 : NdsR 3 m14.rs m14.cells s20.ns := by rw [hb920.ns]; exact hn14
        have hR21 : Rn L.length s s20 (l14_0) 1 (-2) := hR17.bad2 hb920
        have hch22 : (s14.at_ + 1) ≤ s20.at_ := Nat.le_of_eq hb920.at_.symm
        have hle22 : s.at_ < s20.at_ := by omega
        have hlt22 : s20.at_ < L.length := hR21.lt
        have hde22 : s14.deep ≤ s20.deep := Int.le_of_eq hb920.deep.symm
        have hdd22 : s20.deep ≤ 60 := hR21.d1
        refine LX.mv rfl <| LX.su [0, 1, 4, 5, 7] rfl <| LX.nt <| CX.ret <| PX.thenR <| PX.ret1 (by simp) Try.results53 rfl ?_
        exact fun w hw => ⟨((-1), s20, m14), rfl, ⟨(by (unfold inI; omega)), hR21.no as_, hn20⟩, hw.ct⟩
      try simp at hb5
      refine CX.skip <| PX.thenN <| CX.sr <| LX.mv rfl <| LX.call (want_c (fr := (Ri g14_0 c14_0 l14_0 :: Tb bt13 k10 :: fr)) (RS.go s14 1) m14 hL hK ht19 ([41] : List UInt8)) Pd.en35 rfl rfl rfl rfl rfl ?_
      rintro ⟨b23, s23⟩
      refine LX.have fun hw23 => ?_
      try dsimp only at hw23 ⊢
      have hn23 : NdsR 3 m14.rs m14.cells s23.ns := by rw [hw23.ns]; exact hn14
      have hR24 : Rn L.length s s23 (l14_0) 2 (-4) := hR17.want hw23
      have hch25 : (s14.at_ + 1) ≤ s23.at_ := hw23.le
      have hle25 : s.at_ < s23.at_ := by omega
      have hlt25 : s23.at_ < L.length := hR24.lt
      have hde25 : s14.deep ≤ s23.deep := Int.le_of_eq hw23.deep.symm
      have hdd25 : s23.deep ≤ 60 := hR24.d1
      refine LX.su [0, 1, 5, 7] rfl <| LX.nt <| CX.sr <| LX.ms 2 rfl <| LX.p (Y.fieldAddr0 Pa.fo44_1 rfl) rfl ?_
      refine LX.wp (Tb bt13 k10 :: PWl bp al L cl s23 m14 (Ri g14_0 c14_0 l14_0 :: fr)) ?_
      refine LX.p (Y.ldB 0 Pa.one9 rfl rfl rfl) rfl <| LX.mv rfl ?_
      refine LX.wp (Ri g14_0 c14_0 l14_0 :: PWl bp al L cl s23 m14 (Tb bt13 k10 :: fr)) ?_
      refine LX.call (put_c (fr := (Tb bt13 k10 :: fr)) (g := g14_0) (c := c14_0) (ks := l14_0) (op := 42) (pos := pos) (x := k10.text) s23 m14 hn23 (fun h0 => by have h1 : ((s23.ns).length : Int) + 2 * s.at_ ≤ s.ns.length + 2 * ((s23.at_ : Nat) : Int) + (-4) := hR24.few h0; have h2 := hs.few (hR24.bad h0); have h3 := hK.len; have h4 : s23.at_ < L.length := hR24.lt; show (s23.ns).length ≤ 1000000; omega) (by omega) (hla14_0) (by (unfold inI; omega)) as_) Pd.en16 rfl rfl rfl rfl rfl ?_
      rintro ⟨r26, s26, m26⟩
      refine LX.have fun ⟨hri26, hp26, hn26⟩ => ?_
      try dsimp only at hri26 hp26 hn26 ⊢
      have hR27 : Rn L.length s s26 ([r26]) 2 (-3) := hR24.put (us := ([] : List Int)) (ks := l14_0) hp26 pm
      have hch28 : s23.at_ ≤ s26.at_ := Nat.le_of_eq hp26.eqs.1.symm
      have hle28 : s.at_ < s26.at_ := by omega
      have hlt28 : s26.at_ < L.length := hR27.lt
      have hde28 : s23.deep ≤ s26.deep := Int.le_of_eq hp26.eqs.2.1.symm
      have hdd28 : s26.deep ≤ 60 := hR27.d1
      refine LX.mv rfl <| LX.su [4] rfl <| LX.nt <| CX.ret <| PX.ret1 (by simp) Try.results53 rfl ?_
      exact fun w hw => ⟨(r26, s26, m26), rfl, ⟨as_, hR27.wk dc dc, hn26⟩, hw.ct⟩
    try simp at hb3
    refine CX.skip <| PX.thenN <| CX.sr <| LX.mv rfl <| LX.callQ (now_q (s := (RS.go s14 1)) (m := m14) ht19 (fun w hw => blkL hw (i := 0) rfl) (fun w hw => hL.push hw)) Pa.en13 rfl rfl rfl rfl rfl <| LX.alloc rfl Pa.zv44 rfl rfl rfl ?_
    intro bt29
    refine LX.storeA 0 Pa.ag44 rfl rfl rfl rfl rfl rfl rfl rfl rfl <| LX.wq (Tb bt29 t19 :: PWl bp al L cl (RS.go s14 1) m14 (Ri g14_0 c14_0 l14_0 :: Tb bt13 k10 :: fr)) rfl ?_
    refine LX.wp (PWl bp al L cl (RS.go s14 1) m14 (Tb bt29 t19 :: Ri g14_0 c14_0 l14_0 :: Tb bt13 k10 :: fr)) ?_
    refine LX.su [0, 1, 5, 7, 8] rfl <| LX.nt <| CX.sr <| LX.p (Y.fieldAddr0 Pa.fo44_1 rfl) rfl ?_
    refine LX.wp (Tb bt29 t19 :: PWl bp al L cl (RS.go s14 1) m14 (Ri g14_0 c14_0 l14_0 :: Tb bt13 k10 :: fr)) ?_
    refine LX.p (Y.ldB 0 Pa.one9 rfl rfl rfl) rfl <| LX.mv rfl ?_
    refine LX.wp (PWl bp al L cl (RS.go s14 1) m14 (Tb bt29 t19 :: Ri g14_0 c14_0 l14_0 :: Tb bt13 k10 :: fr)) ?_
    refine LX.su [0, 1, 5, 7, 8, 9] rfl <| LX.nt <| CX.sr <| LX.p (Y.fieldAddr0 Pa.fo44_0 rfl) rfl ?_
    refine LX.wp (Tb bt29 t19 :: PWl bp al L cl (RS.go s14 1) m14 (Ri g14_0 c14_0 l14_0 :: Tb bt13 k10 :: fr)) ?_
    refine LX.p (Y.ldB 0 Pa.one3 rfl rfl rfl) rfl <| LX.p (Y.neI rfl rfl) rfl <| LX.mv rfl ?_
    refine LX.wp (PWl bp al L cl (RS.go s14 1) m14 (Tb bt29 t19 :: Ri g14_0 c14_0 l14_0 :: Tb bt13 k10 :: fr)) ?_
    refine LX.su [0, 1, 5, 7, 8, 9, 10] rfl <| LX.nt <| CX.seq <| CX.sr <| LX.mv rfl <| LX.p (Y.not rfl) rfl <| LX.su [0, 1, 5, 7, 8, 9, 10, 54] rfl <| LX.nt ?_
    refine CX.cond rfl (fun hb6 => ?_) (fun hb6 => ?_)
    · try simp at hb6
      refine CX.sr ?_
      have hgo30 : (s14.at_ + 1) + 1 < L.length := by exact hK.fin _ t19 ht19 (by omega)
      have hln30 := hK.len
      refine LX.ms 3 rfl <| LX.p (Y.fieldAddr0 Pa.fo42_1 rfl) rfl <| LX.p (Y.ldB 0 Pa.one3 rfl rfl rfl) rfl <| LX.p (Y.addN rfl rfl (by (simp only []; omega))) rfl <| LX.mv rfl <| LX.p (Y.fieldAddr0 Pa.fo42_1 rfl) rfl <| LX.storeB 0 Pb.sz3 rfl rfl rfl rfl rfl rfl rfl rfl <| LX.wq (PWl bp al L cl (RS.go (RS.go s14 1) 1) m14 (Tb bt29 t19 :: Ri g14_0 c14_0 l14_0 :: Tb bt13 k10 :: fr)) rfl ?_
      have hR31 : Rn L.length s (RS.go (RS.go s14 1) 1) (l14_0) 2 (-4) := hR17.go hgo30
      have hle32 : s.at_ < ((s14.at_ + 1) + 1) := by have h9 : s.at_ ≤ (s14.at_ + 1) := hR17.le; omega
      have hlt32 : ((s14.at_ + 1) + 1) < L.length := hgo30
      refine LX.su [0, 1, 5, 7, 8, 9, 10] rfl <| LX.nt <| CX.region ?_
      obtain ⟨t33, ht33⟩ : ∃ t, L[((s14.at_ + 1) + 1)]? = some t := ⟨_, List.getElem?_eq_getElem (show ((s14.at_ + 1) + 1) < L.length from hR31.lt)⟩
      have htk33 := (tok_in hL ht33).1
      have htp33 := (tok_in hL ht33).2
      refine LX.mv rfl <| LX.call (want_c (fr := (Tb bt29 t19 :: Ri g14_0 c14_0 l14_0 :: Tb bt13 k10 :: fr)) (RS.go (RS.go s14 1) 1) m14 hL hK ht33 ([61] : List UInt8)) Pd.en35 rfl rfl rfl rfl rfl ?_
      rintro ⟨b34, s34⟩
      refine LX.have fun hw34 => ?_
      try dsimp only at hw34 ⊢
      have hn34 : NdsR 3 m14.rs m14.cells s34.ns := by rw [hw34.ns]; exact hn14
      have hR35 : Rn L.length s s34 (l14_0) 3 (-6) := hR31.want hw34
      have hch36 : ((s14.at_ + 1) + 1) ≤ s34.at_ := hw34.le
      have hle36 : s.at_ < s34.at_ := by omega
      have hlt36 : s34.at_ < L.length := hR35.lt
      have hde36 : s14.deep ≤ s34.deep := Int.le_of_eq hw34.deep.symm
      have hdd36 : s34.deep ≤ 60 := hR35.d1
      refine LX.su [0, 1, 5, 7, 8, 9, 10] rfl <| LX.nt <| CX.sr ?_
      obtain ⟨t37, ht37⟩ : ∃ t, L[s34.at_]? = some t := ⟨_, List.getElem?_eq_getElem (show s34.at_ < L.length from hR35.lt)⟩
      have htk37 := (tok_in hL ht37).1
      have htp37 := (tok_in hL ht37).2
      refine LX.mv rfl <| LX.call (kind_c (fr := (Tb bt29 t19 :: Ri g14_0 c14_0 l14_0 :: Tb bt13 k10 :: fr)) s34 m14 hL hK ht37 3 dc) Pg.en42 rfl rfl rfl rfl rfl ?_
      rintro ⟨k38, b38, s38⟩
      refine LX.have fun ⟨hk38, hki38, hkt38, hw38⟩ => ?_
      try dsimp only at hk38 hki38 hkt38 hw38 ⊢
      have hn38 : NdsR 3 m14.rs m14.cells s38.ns := by rw [hw38.ns]; exact hn34
      have hR39 : Rn L.length s s38 (l14_0) 4 (-8) := hR35.want hw38
      have hch40 : s34.at_ ≤ s38.at_ := hw38.le
      have hle40 : s.at_ < s38.at_ := by omega
      have hlt40 : s38.at_ < L.length := hR39.lt
      have hde40 : s34.deep ≤ s38.deep := Int.le_of_eq hw38.deep.symm
      have hdd40 : s38.deep ≤ 60 := hR39.d1
      refine LX.mv rfl <| LX.p (Y.extract rfl rfl) rfl <| LX.p (Y.extract rfl rfl) rfl <| LX.alloc rfl Pa.zv44 rfl rfl rfl ?_
      intro bt41
      refine LX.storeA 0 Pa.ag44 rfl rfl rfl rfl rfl rfl rfl rfl rfl <| LX.wq (Tb bt41 k38 :: PWl bp al L cl s38 m14 (Tb bt29 t19 :: Ri g14_0 c14_0 l14_0 :: Tb bt13 k10 :: fr)) rfl <| LX.mv rfl ?_
      refine LX.wp (PWl bp al L cl s38 m14 (Tb bt41 k38 :: Tb bt29 t19 :: Ri g14_0 c14_0 l14_0 :: Tb bt13 k10 :: fr)) ?_
      refine LX.su [0, 1, 5, 7, 8, 9, 10, 11] rfl <| LX.nt <| CX.seq <| CX.sr <| LX.mv rfl <| LX.callQ (show FnQ Try.prog 12 #[.pointer (some ⟨bp, 0, none⟩)] _ (.bool (decide (s38.code ≠ 0))) from bad_q (s := s38) (m := m14) (fun w hw => blkL hw (i := 0) rfl)) Pb.en12 rfl rfl rfl rfl rfl <| LX.su [0, 1, 5, 7, 8, 9, 10, 11, 71] rfl <| LX.nt ?_
      refine CX.cond rfl (fun hb7 => ?_) (fun hb7 => ?_)
      · try simp at hb7
        refine CX.sr <| LX.mv rfl <| LX.su [0, 1, 4, 5, 7, 8, 9, 10, 11] rfl <| LX.nt <| CX.ret <| PX.thenR <| PX.blockR <| PX.thenR <| PX.blockR <| PX.thenR <| PX.ret1 (by simp) Try.results53 rfl ?_
        exact fun w hw => ⟨((-1), s38, m14), rfl, ⟨(by (unfold inI; omega)), hR39.no as_, hn38⟩, hw.ct⟩
      try simp at hb7
      refine CX.skip <| PX.thenN <| CX.seq <| CX.sr <| LX.ms 2 rfl ?_
      refine LX.caseB (s := 73) rfl (fun hb8 => ?_) (fun hb8 => ?_)
      ·
        have hb8p := hb8
        try simp at hb8p
        refine LX.gT rfl rfl rfl hb8 (Y.fieldAddr0 Pa.fo44_1 rfl) rfl rfl ?_
        refine LX.wp (Tb bt41 k38 :: PWl bp al L cl s38 m14 (Tb bt29 t19 :: Ri g14_0 c14_0 l14_0 :: Tb bt13 k10 :: fr)) ?_
        refine LX.gT rfl rfl rfl hb8 (Y.ldB 0 Pa.one9 rfl rfl rfl) rfl rfl <| LX.callT rfl rfl rfl hb8 (name6_w k38.text (by omega)) Pk.en58 rfl rfl rfl rfl ?_
        intro b42
        refine LX.gT rfl rfl rfl hb8 (Y.not rfl) rfl rfl <| LX.p (Y.pickT rfl hb8 rfl) rfl ?_
        refine LX.wp (PWl bp al L cl s38 m14 (Tb bt41 k38 :: Tb bt29 t19 :: Ri g14_0 c14_0 l14_0 :: Tb bt13 k10 :: fr)) ?_
        refine LX.su [0, 1, 5, 7, 8, 9, 11, 78] rfl <| LX.nt ?_
        refine CX.cond rfl (fun hb9 => ?_) (fun hb9 => ?_)
        · try simp at hb9
          refine CX.sr <| LX.mv rfl <| LX.p (Y.fieldAddr0 Pf.fo44_2 rfl) rfl ?_
          refine LX.wp (Tb bt41 k38 :: PWl bp al L cl s38 m14 (Tb bt29 t19 :: Ri g14_0 c14_0 l14_0 :: Tb bt13 k10 :: fr)) ?_
          refine LX.p (Y.ldB 0 Pa.one3 rfl rfl rfl) rfl ?_
          refine LX.wp (PWl bp al L cl s38 m14 (Tb bt41 k38 :: Tb bt29 t19 :: Ri g14_0 c14_0 l14_0 :: Tb bt13 k10 :: fr)) ?_
          refine LX.call (fail_c (fr := (Tb bt41 k38 :: Tb bt29 t19 :: Ri g14_0 c14_0 l14_0 :: Tb bt13 k10 :: fr)) s38 m14 102 k38.pos) Pb.en50 rfl rfl rfl rfl rfl ?_
          intro s43
          refine LX.have fun hf43 => ?_
          have hb943 : Bad s38 s43 := FailR.bad hf43 dc
          have hbc43 := hb943.code
          have hn43 : NdsR 3 m14.rs m14.cells s43.ns := by rw [hb943.ns]; exact hn38
          have hR44 : Rn L.length s s43 (l14_0) 4 (-8) := hR39.bad2 hb943
          have hch45 : s38.at_ ≤ s43.at_ := Nat.le_of_eq hb943.at_.symm
          have hle45 : s.at_ < s43.at_ := by omega
          have hlt45 : s43.at_ < L.length := hR44.lt
          have hde45 : s38.deep ≤ s43.deep := Int.le_of_eq hb943.deep.symm
          have hdd45 : s43.deep ≤ 60 := hR44.d1
          refine LX.mv rfl <| LX.su [0, 1, 4, 5, 7, 8, 9, 11] rfl <| LX.nt <| CX.ret <| PX.thenR <| PX.blockR <| PX.thenR <| PX.blockR <| PX.thenR <| PX.ret1 (by simp) Try.results53 rfl ?_
          exact fun w hw => ⟨((-1), s43, m14), rfl, ⟨(by (unfold inI; omega)), hR44.no as_, hn43⟩, hw.ct⟩
        try simp at hb9
        refine CX.skip <| PX.thenN <| CX.sr <| LX.mv rfl <| LX.p (Y.fieldAddr0 Pf.fo44_2 rfl) rfl ?_
        refine LX.wp (Tb bt41 k38 :: PWl bp al L cl s38 m14 (Tb bt29 t19 :: Ri g14_0 c14_0 l14_0 :: Tb bt13 k10 :: fr)) ?_
        refine LX.p (Y.ldB 0 Pa.one3 rfl rfl rfl) rfl <| LX.p (Y.fieldAddr0 Pa.fo44_1 rfl) rfl <| LX.p (Y.ldB 0 Pa.one9 rfl rfl rfl) rfl ?_
        refine LX.wp (PWl bp al L cl s38 m14 (Tb bt41 k38 :: Tb bt29 t19 :: Ri g14_0 c14_0 l14_0 :: Tb bt13 k10 :: fr)) ?_
        refine LX.world (W' := WA w0 base (Ri none 0 ([] : List Int) :: PWl bp al L cl s38 m14 (Tb bt41 k38 :: Tb bt29 t19 :: Ri g14_0 c14_0 l14_0 :: Tb bt13 k10 :: fr))) (fun w hw => (show WA w0 base (Ri none 0 ([] : List Int) :: PWl bp al L cl s38 m14 (Tb bt41 k38 :: Tb bt29 t19 :: Ri g14_0 c14_0 l14_0 :: Tb bt13 k10 :: fr)) w from (show WA w0 base (PWl bp al L cl s38 m14 (Tb bt41 k38 :: Tb bt29 t19 :: Ri g14_0 c14_0 l14_0 :: Tb bt13 k10 :: fr)) w from hw).nilRow 3 1)) <| LX.call (put_c (fr := (Tb bt41 k38 :: Tb bt29 t19 :: Ri g14_0 c14_0 l14_0 :: Tb bt13 k10 :: fr)) (g := none) (c := 0) (ks := ([] : List Int)) (op := 5) (pos := k38.pos) (x := k38.text) s38 m14 hn38 (fun h0 => by have h1 : ((s38.ns).length : Int) + 2 * s.at_ ≤ s.ns.length + 2 * ((s38.at_ : Nat) : Int) + (-8) := hR39.few h0; have h2 := hs.few (hR39.bad h0); have h3 := hK.len; have h4 : s38.at_ < L.length := hR39.lt; show (s38.ns).length ≤ 1000000; omega) (by (simp only [List.length_cons, List.length_nil, List.length_append]; omega)) (AllI.nil) (by (unfold inI; omega)) as_) Pd.en16 rfl rfl rfl rfl rfl ?_
        rintro ⟨r46, s46, m46⟩
        refine LX.have fun ⟨hri46, hp46, hn46⟩ => ?_
        try dsimp only at hri46 hp46 hn46 ⊢
        have hR47 : Rn L.length s s46 (l14_0 ++ [r46]) 4 (-7) := hR39.put (us := (l14_0)) (ks := ([] : List Int)) hp46 pm
        have hch48 : s38.at_ ≤ s46.at_ := Nat.le_of_eq hp46.eqs.1.symm
        have hle48 : s.at_ < s46.at_ := by omega
        have hlt48 : s46.at_ < L.length := hR47.lt
        have hde48 : s38.deep ≤ s46.deep := Int.le_of_eq hp46.eqs.2.1.symm
        have hdd48 : s46.deep ≤ 60 := hR47.d1
        refine LX.mv rfl <| LX.su [0, 1, 5, 7, 8, 9, 13] rfl <| LX.nt <| CX.region <| LX.ms 2 rfl <| LX.p (Y.fieldAddr0 Pf.fo44_2 rfl) rfl ?_
        refine LX.wp (Tb bt29 t19 :: PWl bp al L cl s46 m46 (Tb bt41 k38 :: Ri g14_0 c14_0 l14_0 :: Tb bt13 k10 :: fr)) ?_
        refine LX.p (Y.ldB 0 Pa.one3 rfl rfl rfl) rfl <| LX.ms 2 rfl <| LX.buildSlice (e := 3) (size := 1) rfl rfl (fun _ => by kernel_rfl) rfl dc rfl rfl rfl ?_
        intro gt49
        refine LX.wq (Ri (some gt49) 1 ([r46]) :: Tb bt29 t19 :: PWl bp al L cl s46 m46 (Tb bt41 k38 :: Ri g14_0 c14_0 l14_0 :: Tb bt13 k10 :: fr)) rfl ?_
        refine LX.wp (Ri (some gt49) 1 ([r46]) :: PWl bp al L cl s46 m46 (Tb bt29 t19 :: Tb bt41 k38 :: Ri g14_0 c14_0 l14_0 :: Tb bt13 k10 :: fr)) ?_
        refine LX.call (put_c (fr := (Tb bt29 t19 :: Tb bt41 k38 :: Ri g14_0 c14_0 l14_0 :: Tb bt13 k10 :: fr)) (g := (some gt49)) (c := 1) (ks := [r46]) (op := 46) (pos := t19.pos) (x := t19.text) s46 m46 hn46 (fun h0 => by have h1 : ((s46.ns).length : Int) + 2 * s.at_ ≤ s.ns.length + 2 * ((s46.at_ : Nat) : Int) + (-7) := hR47.few h0; have h2 := hs.few (hR47.bad h0); have h3 := hK.len; have h4 : s46.at_ < L.length := hR47.lt; show (s46.ns).length ≤ 1000000; omega) (by (simp only [List.length_cons, List.length_nil, List.length_append]; omega)) ((AllI.cons as_ AllI.nil)) (by (unfold inI; omega)) as_) Pd.en16 rfl rfl rfl rfl rfl ?_
        rintro ⟨r50, s50, m50⟩
        refine LX.have fun ⟨hri50, hp50, hn50⟩ => ?_
        try dsimp only at hri50 hp50 hn50 ⊢
        have hR51 : Rn L.length s s50 (l14_0 ++ [r50]) 4 (-6) := hR47.put (us := (l14_0)) (ks := [r46]) hp50 pm
        have hch52 : s46.at_ ≤ s50.at_ := Nat.le_of_eq hp50.eqs.1.symm
        have hle52 : s.at_ < s50.at_ := by omega
        have hlt52 : s50.at_ < L.length := hR51.lt
        have hde52 : s46.deep ≤ s50.deep := Int.le_of_eq hp50.eqs.2.1.symm
        have hdd52 : s50.deep ≤ 60 := hR51.d1
        refine LX.buildSlice (e := 3) (size := 1) rfl rfl (fun _ => by kernel_rfl) rfl dc rfl rfl rfl ?_
        intro gt53
        refine LX.wq (Ri (some gt53) 1 ([r50]) :: PWl bp al L cl s50 m50 (Tb bt29 t19 :: Tb bt41 k38 :: Ri g14_0 c14_0 l14_0 :: Tb bt13 k10 :: fr)) rfl ?_
        refine LX.wp (Ri (some gt53) 1 ([r50]) :: Ri g14_0 c14_0 l14_0 :: PWl bp al L cl s50 m50 (Tb bt29 t19 :: Tb bt41 k38 :: Tb bt13 k10 :: fr)) ?_
        refine LX.appendT 0 (g := g14_0) (k := (l14_0).length) Pe.el29 rfl rfl rfl rfl rfl rfl rfl lo lo rfl rfl rfl ?_
        intro ga54 ca54
        refine LX.wa (Ri ga54 ca54 (l14_0 ++ [r50]) :: PWl bp al L cl s50 m50 (Tb bt29 t19 :: Tb bt41 k38 :: Tb bt13 k10 :: fr)) <| LX.sub (l' := [(0, _), (1, _), (5, _), (7, _), (8, _), (9, _), (13, _), (89, _), (90, _), (91, _), (92, _), (93, _), (94, _), (95, _), (96, _), (97, _), (98, rv ga54 ((l14_0 ++ [r50])).length ca54)]) ⟨rfl, rfl, rfl, rfl, rfl, rfl, rfl, rfl, rfl, rfl, rfl, rfl, rfl, rfl, rfl, rfl, (by (show some (rv _ _ _) = some (rv _ _ _); simp only [List.length_cons, List.length_append, List.length_nil] <;> rfl)), trivial⟩ <| LX.mv rfl ?_
        refine LX.wp (PWl bp al L cl s50 m50 (Ri ga54 ca54 (l14_0 ++ [r50]) :: Tb bt29 t19 :: Tb bt41 k38 :: Tb bt13 k10 :: fr)) ?_
        refine LX.su [0, 1, 5, 7] rfl <| LX.next <| PX.blockN ?_
        exact PX.again (i := ((l14_0, g14_0, c14_0), s14, m14)) (((l14_0 ++ [r50]), ga54, ca54), s50, m50) (by show L.length - s50.at_ < L.length - s14.at_; omega) ⟨rfl, rfl, rfl, (by rfl), trivial⟩ (fun w hw => ⟨⟨(AllI.app hla14_0 (AllI.cons as_ AllI.nil)), (by show List.length _ + 2 * s.at_ ≤ 2 * s50.at_ + 0; (try simp only [List.length_cons, List.length_nil, List.length_append]); omega), (by show s10.at_ ≤ s50.at_; omega), (by show s10.deep ≤ s50.deep; omega), (hR51.wk dc dc).re pm, hn50⟩, hw.ct⟩)
      refine LX.gF rfl rfl rfl hb8 rfl rfl <| LX.gF rfl rfl rfl hb8 rfl rfl <| LX.gF rfl rfl rfl hb8 rfl rfl <| LX.gF rfl rfl rfl hb8 rfl rfl <| LX.p (Y.pickF rfl hb8 rfl) rfl <| LX.su [0, 1, 5, 7, 8, 9, 11, 78] rfl <| LX.nt ?_
      refine CX.cond rfl (fun hb10 => ?_) (fun hb10 => ?_)
      · try simp at hb10
        done
      try simp at hb10
      refine CX.skip <| PX.thenN <| CX.sr <| LX.mv rfl <| LX.p (Y.fieldAddr0 Pf.fo44_2 rfl) rfl ?_
      refine LX.wp (Tb bt41 k38 :: PWl bp al L cl s38 m14 (Tb bt29 t19 :: Ri g14_0 c14_0 l14_0 :: Tb bt13 k10 :: fr)) ?_
      refine LX.p (Y.ldB 0 Pa.one3 rfl rfl rfl) rfl <| LX.p (Y.fieldAddr0 Pa.fo44_1 rfl) rfl <| LX.p (Y.ldB 0 Pa.one9 rfl rfl rfl) rfl ?_
      refine LX.wp (PWl bp al L cl s38 m14 (Tb bt41 k38 :: Tb bt29 t19 :: Ri g14_0 c14_0 l14_0 :: Tb bt13 k10 :: fr)) ?_
      refine LX.world (W' := WA w0 base (Ri none 0 ([] : List Int) :: PWl bp al L cl s38 m14 (Tb bt41 k38 :: Tb bt29 t19 :: Ri g14_0 c14_0 l14_0 :: Tb bt13 k10 :: fr))) (fun w hw => (show WA w0 base (Ri none 0 ([] : List Int) :: PWl bp al L cl s38 m14 (Tb bt41 k38 :: Tb bt29 t19 :: Ri g14_0 c14_0 l14_0 :: Tb bt13 k10 :: fr)) w from (show WA w0 base (PWl bp al L cl s38 m14 (Tb bt41 k38 :: Tb bt29 t19 :: Ri g14_0 c14_0 l14_0 :: Tb bt13 k10 :: fr)) w from hw).nilRow 3 1)) <| LX.call (put_c (fr := (Tb bt41 k38 :: Tb bt29 t19 :: Ri g14_0 c14_0 l14_0 :: Tb bt13 k10 :: fr)) (g := none) (c := 0) (ks := ([] : List Int)) (op := 5) (pos := k38.pos) (x := k38.text) s38 m14 hn38 (fun h0 => by have h1 : ((s38.ns).length : Int) + 2 * s.at_ ≤ s.ns.length + 2 * ((s38.at_ : Nat) : Int) + (-8) := hR39.few h0; have h2 := hs.few (hR39.bad h0); have h3 := hK.len; have h4 : s38.at_ < L.length := hR39.lt; show (s38.ns).length ≤ 1000000; omega) (by (simp only [List.length_cons, List.length_nil, List.length_append]; omega)) (AllI.nil) (by (unfold inI; omega)) as_) Pd.en16 rfl rfl rfl rfl rfl ?_
      rintro ⟨r55, s55, m55⟩
      refine LX.have fun ⟨hri55, hp55, hn55⟩ => ?_
      try dsimp only at hri55 hp55 hn55 ⊢
      have hR56 : Rn L.length s s55 (l14_0 ++ [r55]) 4 (-7) := hR39.put (us := (l14_0)) (ks := ([] : List Int)) hp55 pm
      have hch57 : s38.at_ ≤ s55.at_ := Nat.le_of_eq hp55.eqs.1.symm
      have hle57 : s.at_ < s55.at_ := by omega
      have hlt57 : s55.at_ < L.length := hR56.lt
      have hde57 : s38.deep ≤ s55.deep := Int.le_of_eq hp55.eqs.2.1.symm
      have hdd57 : s55.deep ≤ 60 := hR56.d1
      refine LX.mv rfl <| LX.su [0, 1, 5, 7, 8, 9, 13] rfl <| LX.nt <| CX.region <| LX.ms 2 rfl <| LX.p (Y.fieldAddr0 Pf.fo44_2 rfl) rfl ?_
      refine LX.wp (Tb bt29 t19 :: PWl bp al L cl s55 m55 (Tb bt41 k38 :: Ri g14_0 c14_0 l14_0 :: Tb bt13 k10 :: fr)) ?_
      refine LX.p (Y.ldB 0 Pa.one3 rfl rfl rfl) rfl <| LX.ms 2 rfl <| LX.buildSlice (e := 3) (size := 1) rfl rfl (fun _ => by kernel_rfl) rfl dc rfl rfl rfl ?_
      intro gt58
      refine LX.wq (Ri (some gt58) 1 ([r55]) :: Tb bt29 t19 :: PWl bp al L cl s55 m55 (Tb bt41 k38 :: Ri g14_0 c14_0 l14_0 :: Tb bt13 k10 :: fr)) rfl ?_
      refine LX.wp (Ri (some gt58) 1 ([r55]) :: PWl bp al L cl s55 m55 (Tb bt29 t19 :: Tb bt41 k38 :: Ri g14_0 c14_0 l14_0 :: Tb bt13 k10 :: fr)) ?_
      refine LX.call (put_c (fr := (Tb bt29 t19 :: Tb bt41 k38 :: Ri g14_0 c14_0 l14_0 :: Tb bt13 k10 :: fr)) (g := (some gt58)) (c := 1) (ks := [r55]) (op := 46) (pos := t19.pos) (x := t19.text) s55 m55 hn55 (fun h0 => by have h1 : ((s55.ns).length : Int) + 2 * s.at_ ≤ s.ns.length + 2 * ((s55.at_ : Nat) : Int) + (-7) := hR56.few h0; have h2 := hs.few (hR56.bad h0); have h3 := hK.len; have h4 : s55.at_ < L.length := hR56.lt; show (s55.ns).length ≤ 1000000; omega) (by (simp only [List.length_cons, List.length_nil, List.length_append]; omega)) ((AllI.cons as_ AllI.nil)) (by (unfold inI; omega)) as_) Pd.en16 rfl rfl rfl rfl rfl ?_
      rintro ⟨r59, s59, m59⟩
      refine LX.have fun ⟨hri59, hp59, hn59⟩ => ?_
      try dsimp only at hri59 hp59 hn59 ⊢
      have hR60 : Rn L.length s s59 (l14_0 ++ [r59]) 4 (-6) := hR56.put (us := (l14_0)) (ks := [r55]) hp59 pm
      have hch61 : s55.at_ ≤ s59.at_ := Nat.le_of_eq hp59.eqs.1.symm
      have hle61 : s.at_ < s59.at_ := by omega
      have hlt61 : s59.at_ < L.length := hR60.lt
      have hde61 : s55.deep ≤ s59.deep := Int.le_of_eq hp59.eqs.2.1.symm
      have hdd61 : s59.deep ≤ 60 := hR60.d1
      refine LX.buildSlice (e := 3) (size := 1) rfl rfl (fun _ => by kernel_rfl) rfl dc rfl rfl rfl ?_
      intro gt62
      refine LX.wq (Ri (some gt62) 1 ([r59]) :: PWl bp al L cl s59 m59 (Tb bt29 t19 :: Tb bt41 k38 :: Ri g14_0 c14_0 l14_0 :: Tb bt13 k10 :: fr)) rfl ?_
      refine LX.wp (Ri (some gt62) 1 ([r59]) :: Ri g14_0 c14_0 l14_0 :: PWl bp al L cl s59 m59 (Tb bt29 t19 :: Tb bt41 k38 :: Tb bt13 k10 :: fr)) ?_
      refine LX.appendT 0 (g := g14_0) (k := (l14_0).length) Pe.el29 rfl rfl rfl rfl rfl rfl rfl lo lo rfl rfl rfl ?_
      intro ga63 ca63
      refine LX.wa (Ri ga63 ca63 (l14_0 ++ [r59]) :: PWl bp al L cl s59 m59 (Tb bt29 t19 :: Tb bt41 k38 :: Tb bt13 k10 :: fr)) <| LX.sub (l' := [(0, _), (1, _), (5, _), (7, _), (8, _), (9, _), (13, _), (89, _), (90, _), (91, _), (92, _), (93, _), (94, _), (95, _), (96, _), (97, _), (98, rv ga63 ((l14_0 ++ [r59])).length ca63)]) ⟨rfl, rfl, rfl, rfl, rfl, rfl, rfl, rfl, rfl, rfl, rfl, rfl, rfl, rfl, rfl, rfl, (by (show some (rv _ _ _) = some (rv _ _ _); simp only [List.length_cons, List.length_append, List.length_nil] <;> rfl)), trivial⟩ <| LX.mv rfl ?_
      refine LX.wp (PWl bp al L cl s59 m59 (Ri ga63 ca63 (l14_0 ++ [r59]) :: Tb bt29 t19 :: Tb bt41 k38 :: Tb bt13 k10 :: fr)) ?_
      refine LX.su [0, 1, 5, 7] rfl <| LX.next <| PX.blockN ?_
      exact PX.again (i := ((l14_0, g14_0, c14_0), s14, m14)) (((l14_0 ++ [r59]), ga63, ca63), s59, m59) (by show L.length - s59.at_ < L.length - s14.at_; omega) ⟨rfl, rfl, rfl, (by rfl), trivial⟩ (fun w hw => ⟨⟨(AllI.app hla14_0 (AllI.cons as_ AllI.nil)), (by show List.length _ + 2 * s.at_ ≤ 2 * s59.at_ + 0; (try simp only [List.length_cons, List.length_nil, List.length_append]); omega), (by show s10.at_ ≤ s59.at_; omega), (by show s10.deep ≤ s59.deep; omega), (hR60.wk dc dc).re pm, hn59⟩, hw.ct⟩)
    try simp at hb6
    refine CX.skip <| PX.thenN <| CX.sr <| LX.mv rfl <| LX.call (kind_c (fr := (Tb bt29 t19 :: Ri g14_0 c14_0 l14_0 :: Tb bt13 k10 :: fr)) (RS.go s14 1) m14 hL hK ht19 3 dc) Pg.en42 rfl rfl rfl rfl rfl ?_
    rintro ⟨k64, b64, s64⟩
    refine LX.have fun ⟨hk64, hki64, hkt64, hw64⟩ => ?_
    try dsimp only at hk64 hki64 hkt64 hw64 ⊢
    have hn64 : NdsR 3 m14.rs m14.cells s64.ns := by rw [hw64.ns]; exact hn14
    have hR65 : Rn L.length s s64 (l14_0) 2 (-4) := hR17.want hw64
    have hch66 : (s14.at_ + 1) ≤ s64.at_ := hw64.le
    have hle66 : s.at_ < s64.at_ := by omega
    have hlt66 : s64.at_ < L.length := hR65.lt
    have hde66 : s14.deep ≤ s64.deep := Int.le_of_eq hw64.deep.symm
    have hdd66 : s64.deep ≤ 60 := hR65.d1
    refine LX.mv rfl <| LX.p (Y.extract rfl rfl) rfl <| LX.p (Y.extract rfl rfl) rfl <| LX.alloc rfl Pa.zv44 rfl rfl rfl ?_
    intro bt67
    refine LX.storeA 0 Pa.ag44 rfl rfl rfl rfl rfl rfl rfl rfl rfl <| LX.wq (Tb bt67 k64 :: PWl bp al L cl s64 m14 (Tb bt29 t19 :: Ri g14_0 c14_0 l14_0 :: Tb bt13 k10 :: fr)) rfl <| LX.mv rfl ?_
    refine LX.wp (PWl bp al L cl s64 m14 (Tb bt67 k64 :: Tb bt29 t19 :: Ri g14_0 c14_0 l14_0 :: Tb bt13 k10 :: fr)) ?_
    refine LX.su [0, 1, 5, 7, 8, 9, 10, 11] rfl <| LX.nt <| CX.seq <| CX.sr <| LX.mv rfl <| LX.callQ (show FnQ Try.prog 12 #[.pointer (some ⟨bp, 0, none⟩)] _ (.bool (decide (s64.code ≠ 0))) from bad_q (s := s64) (m := m14) (fun w hw => blkL hw (i := 0) rfl)) Pb.en12 rfl rfl rfl rfl rfl <| LX.su [0, 1, 5, 7, 8, 9, 10, 11, 71] rfl <| LX.nt ?_
    refine CX.cond rfl (fun hb11 => ?_) (fun hb11 => ?_)
    · try simp at hb11
      refine CX.sr <| LX.mv rfl <| LX.su [0, 1, 4, 5, 7, 8, 9, 10, 11] rfl <| LX.nt <| CX.ret <| PX.thenR <| PX.blockR <| PX.thenR <| PX.blockR <| PX.thenR <| PX.ret1 (by simp) Try.results53 rfl ?_
      exact fun w hw => ⟨((-1), s64, m14), rfl, ⟨(by (unfold inI; omega)), hR65.no as_, hn64⟩, hw.ct⟩
    try simp at hb11
    refine CX.skip <| PX.thenN <| CX.seq <| CX.sr <| LX.ms 2 rfl ?_
    refine LX.caseB (s := 73) rfl (fun hb12 => ?_) (fun hb12 => ?_)
    ·
      have hb12p := hb12
      try simp at hb12p
      refine LX.gT rfl rfl rfl hb12 (Y.fieldAddr0 Pa.fo44_1 rfl) rfl rfl ?_
      refine LX.wp (Tb bt67 k64 :: PWl bp al L cl s64 m14 (Tb bt29 t19 :: Ri g14_0 c14_0 l14_0 :: Tb bt13 k10 :: fr)) ?_
      refine LX.gT rfl rfl rfl hb12 (Y.ldB 0 Pa.one9 rfl rfl rfl) rfl rfl <| LX.callT rfl rfl rfl hb12 (name6_w k64.text (by omega)) Pk.en58 rfl rfl rfl rfl ?_
      intro b68
      refine LX.gT rfl rfl rfl hb12 (Y.not rfl) rfl rfl <| LX.p (Y.pickT rfl hb12 rfl) rfl ?_
      refine LX.wp (PWl bp al L cl s64 m14 (Tb bt67 k64 :: Tb bt29 t19 :: Ri g14_0 c14_0 l14_0 :: Tb bt13 k10 :: fr)) ?_
      refine LX.su [0, 1, 5, 7, 8, 9, 11, 78] rfl <| LX.nt ?_
      refine CX.cond rfl (fun hb13 => ?_) (fun hb13 => ?_)
      · try simp at hb13
        refine CX.sr <| LX.mv rfl <| LX.p (Y.fieldAddr0 Pf.fo44_2 rfl) rfl ?_
        refine LX.wp (Tb bt67 k64 :: PWl bp al L cl s64 m14 (Tb bt29 t19 :: Ri g14_0 c14_0 l14_0 :: Tb bt13 k10 :: fr)) ?_
        refine LX.p (Y.ldB 0 Pa.one3 rfl rfl rfl) rfl ?_
        refine LX.wp (PWl bp al L cl s64 m14 (Tb bt67 k64 :: Tb bt29 t19 :: Ri g14_0 c14_0 l14_0 :: Tb bt13 k10 :: fr)) ?_
        refine LX.call (fail_c (fr := (Tb bt67 k64 :: Tb bt29 t19 :: Ri g14_0 c14_0 l14_0 :: Tb bt13 k10 :: fr)) s64 m14 102 k64.pos) Pb.en50 rfl rfl rfl rfl rfl ?_
        intro s69
        refine LX.have fun hf69 => ?_
        have hb969 : Bad s64 s69 := FailR.bad hf69 dc
        have hbc69 := hb969.code
        have hn69 : NdsR 3 m14.rs m14.cells s69.ns := by rw [hb969.ns]; exact hn64
        have hR70 : Rn L.length s s69 (l14_0) 2 (-4) := hR65.bad2 hb969
        have hch71 : s64.at_ ≤ s69.at_ := Nat.le_of_eq hb969.at_.symm
        have hle71 : s.at_ < s69.at_ := by omega
        have hlt71 : s69.at_ < L.length := hR70.lt
        have hde71 : s64.deep ≤ s69.deep := Int.le_of_eq hb969.deep.symm
        have hdd71 : s69.deep ≤ 60 := hR70.d1
        refine LX.mv rfl <| LX.su [0, 1, 4, 5, 7, 8, 9, 11] rfl <| LX.nt <| CX.ret <| PX.thenR <| PX.blockR <| PX.thenR <| PX.blockR <| PX.thenR <| PX.ret1 (by simp) Try.results53 rfl ?_
        exact fun w hw => ⟨((-1), s69, m14), rfl, ⟨(by (unfold inI; omega)), hR70.no as_, hn69⟩, hw.ct⟩
      try simp at hb13
      refine CX.skip <| PX.thenN <| CX.sr <| LX.mv rfl <| LX.p (Y.fieldAddr0 Pf.fo44_2 rfl) rfl ?_
      refine LX.wp (Tb bt67 k64 :: PWl bp al L cl s64 m14 (Tb bt29 t19 :: Ri g14_0 c14_0 l14_0 :: Tb bt13 k10 :: fr)) ?_
      refine LX.p (Y.ldB 0 Pa.one3 rfl rfl rfl) rfl <| LX.p (Y.fieldAddr0 Pa.fo44_1 rfl) rfl <| LX.p (Y.ldB 0 Pa.one9 rfl rfl rfl) rfl ?_
      refine LX.wp (PWl bp al L cl s64 m14 (Tb bt67 k64 :: Tb bt29 t19 :: Ri g14_0 c14_0 l14_0 :: Tb bt13 k10 :: fr)) ?_
      refine LX.world (W' := WA w0 base (Ri none 0 ([] : List Int) :: PWl bp al L cl s64 m14 (Tb bt67 k64 :: Tb bt29 t19 :: Ri g14_0 c14_0 l14_0 :: Tb bt13 k10 :: fr))) (fun w hw => (show WA w0 base (Ri none 0 ([] : List Int) :: PWl bp al L cl s64 m14 (Tb bt67 k64 :: Tb bt29 t19 :: Ri g14_0 c14_0 l14_0 :: Tb bt13 k10 :: fr)) w from (show WA w0 base (PWl bp al L cl s64 m14 (Tb bt67 k64 :: Tb bt29 t19 :: Ri g14_0 c14_0 l14_0 :: Tb bt13 k10 :: fr)) w from hw).nilRow 3 1)) <| LX.call (put_c (fr := (Tb bt67 k64 :: Tb bt29 t19 :: Ri g14_0 c14_0 l14_0 :: Tb bt13 k10 :: fr)) (g := none) (c := 0) (ks := ([] : List Int)) (op := 5) (pos := k64.pos) (x := k64.text) s64 m14 hn64 (fun h0 => by have h1 : ((s64.ns).length : Int) + 2 * s.at_ ≤ s.ns.length + 2 * ((s64.at_ : Nat) : Int) + (-4) := hR65.few h0; have h2 := hs.few (hR65.bad h0); have h3 := hK.len; have h4 : s64.at_ < L.length := hR65.lt; show (s64.ns).length ≤ 1000000; omega) (by (simp only [List.length_cons, List.length_nil, List.length_append]; omega)) (AllI.nil) (by (unfold inI; omega)) as_) Pd.en16 rfl rfl rfl rfl rfl ?_
      rintro ⟨r72, s72, m72⟩
      refine LX.have fun ⟨hri72, hp72, hn72⟩ => ?_
      try dsimp only at hri72 hp72 hn72 ⊢
      have hR73 : Rn L.length s s72 (l14_0 ++ [r72]) 2 (-3) := hR65.put (us := (l14_0)) (ks := ([] : List Int)) hp72 pm
      have hch74 : s64.at_ ≤ s72.at_ := Nat.le_of_eq hp72.eqs.1.symm
      have hle74 : s.at_ < s72.at_ := by omega
      have hlt74 : s72.at_ < L.length := hR73.lt
      have hde74 : s64.deep ≤ s72.deep := Int.le_of_eq hp72.eqs.2.1.symm
      have hdd74 : s72.deep ≤ 60 := hR73.d1
      refine LX.mv rfl <| LX.su [0, 1, 5, 7, 8, 9, 13] rfl <| LX.nt <| CX.region <| LX.ms 2 rfl <| LX.p (Y.fieldAddr0 Pf.fo44_2 rfl) rfl ?_
      refine LX.wp (Tb bt29 t19 :: PWl bp al L cl s72 m72 (Tb bt67 k64 :: Ri g14_0 c14_0 l14_0 :: Tb bt13 k10 :: fr)) ?_
      refine LX.p (Y.ldB 0 Pa.one3 rfl rfl rfl) rfl <| LX.ms 2 rfl <| LX.buildSlice (e := 3) (size := 1) rfl rfl (fun _ => by kernel_rfl) rfl dc rfl rfl rfl ?_
      intro gt75
      refine LX.wq (Ri (some gt75) 1 ([r72]) :: Tb bt29 t19 :: PWl bp al L cl s72 m72 (Tb bt67 k64 :: Ri g14_0 c14_0 l14_0 :: Tb bt13 k10 :: fr)) rfl ?_
      refine LX.wp (Ri (some gt75) 1 ([r72]) :: PWl bp al L cl s72 m72 (Tb bt29 t19 :: Tb bt67 k64 :: Ri g14_0 c14_0 l14_0 :: Tb bt13 k10 :: fr)) ?_
      refine LX.call (put_c (fr := (Tb bt29 t19 :: Tb bt67 k64 :: Ri g14_0 c14_0 l14_0 :: Tb bt13 k10 :: fr)) (g := (some gt75)) (c := 1) (ks := [r72]) (op := 46) (pos := t19.pos) (x := t19.text) s72 m72 hn72 (fun h0 => by have h1 : ((s72.ns).length : Int) + 2 * s.at_ ≤ s.ns.length + 2 * ((s72.at_ : Nat) : Int) + (-3) := hR73.few h0; have h2 := hs.few (hR73.bad h0); have h3 := hK.len; have h4 : s72.at_ < L.length := hR73.lt; show (s72.ns).length ≤ 1000000; omega) (by (simp only [List.length_cons, List.length_nil, List.length_append]; omega)) ((AllI.cons as_ AllI.nil)) (by (unfold inI; omega)) as_) Pd.en16 rfl rfl rfl rfl rfl ?_
      rintro ⟨r76, s76, m76⟩
      refine LX.have fun ⟨hri76, hp76, hn76⟩ => ?_
      try dsimp only at hri76 hp76 hn76 ⊢
      have hR77 : Rn L.length s s76 (l14_0 ++ [r76]) 2 (-2) := hR73.put (us := (l14_0)) (ks := [r72]) hp76 pm
      have hch78 : s72.at_ ≤ s76.at_ := Nat.le_of_eq hp76.eqs.1.symm
      have hle78 : s.at_ < s76.at_ := by omega
      have hlt78 : s76.at_ < L.length := hR77.lt
      have hde78 : s72.deep ≤ s76.deep := Int.le_of_eq hp76.eqs.2.1.symm
      have hdd78 : s76.deep ≤ 60 := hR77.d1
      refine LX.buildSlice (e := 3) (size := 1) rfl rfl (fun _ => by kernel_rfl) rfl dc rfl rfl rfl ?_
      intro gt79
      refine LX.wq (Ri (some gt79) 1 ([r76]) :: PWl bp al L cl s76 m76 (Tb bt29 t19 :: Tb bt67 k64 :: Ri g14_0 c14_0 l14_0 :: Tb bt13 k10 :: fr)) rfl ?_
      refine LX.wp (Ri (some gt79) 1 ([r76]) :: Ri g14_0 c14_0 l14_0 :: PWl bp al L cl s76 m76 (Tb bt29 t19 :: Tb bt67 k64 :: Tb bt13 k10 :: fr)) ?_
      refine LX.appendT 0 (g := g14_0) (k := (l14_0).length) Pe.el29 rfl rfl rfl rfl rfl rfl rfl lo lo rfl rfl rfl ?_
      intro ga80 ca80
      refine LX.wa (Ri ga80 ca80 (l14_0 ++ [r76]) :: PWl bp al L cl s76 m76 (Tb bt29 t19 :: Tb bt67 k64 :: Tb bt13 k10 :: fr)) <| LX.sub (l' := [(0, _), (1, _), (5, _), (7, _), (8, _), (9, _), (13, _), (89, _), (90, _), (91, _), (92, _), (93, _), (94, _), (95, _), (96, _), (97, _), (98, rv ga80 ((l14_0 ++ [r76])).length ca80)]) ⟨rfl, rfl, rfl, rfl, rfl, rfl, rfl, rfl, rfl, rfl, rfl, rfl, rfl, rfl, rfl, rfl, (by (show some (rv _ _ _) = some (rv _ _ _); simp only [List.length_cons, List.length_append, List.length_nil] <;> rfl)), trivial⟩ <| LX.mv rfl ?_
      refine LX.wp (PWl bp al L cl s76 m76 (Ri ga80 ca80 (l14_0 ++ [r76]) :: Tb bt29 t19 :: Tb bt67 k64 :: Tb bt13 k10 :: fr)) ?_
      refine LX.su [0, 1, 5, 7] rfl <| LX.next <| PX.blockN ?_
      exact PX.again (i := ((l14_0, g14_0, c14_0), s14, m14)) (((l14_0 ++ [r76]), ga80, ca80), s76, m76) (by show L.length - s76.at_ < L.length - s14.at_; omega) ⟨rfl, rfl, rfl, (by rfl), trivial⟩ (fun w hw => ⟨⟨(AllI.app hla14_0 (AllI.cons as_ AllI.nil)), (by show List.length _ + 2 * s.at_ ≤ 2 * s76.at_ + 0; (try simp only [List.length_cons, List.length_nil, List.length_append]); omega), (by show s10.at_ ≤ s76.at_; omega), (by show s10.deep ≤ s76.deep; omega), (hR77.wk dc dc).re pm, hn76⟩, hw.ct⟩)
    refine LX.gF rfl rfl rfl hb12 rfl rfl <| LX.gF rfl rfl rfl hb12 rfl rfl <| LX.gF rfl rfl rfl hb12 rfl rfl <| LX.gF rfl rfl rfl hb12 rfl rfl <| LX.p (Y.pickF rfl hb12 rfl) rfl <| LX.su [0, 1, 5, 7, 8, 9, 11, 78] rfl <| LX.nt ?_
    refine CX.cond rfl (fun hb14 => ?_) (fun hb14 => ?_)
    · try simp at hb14
      done
    try simp at hb14
    refine CX.skip <| PX.thenN <| CX.sr <| LX.mv rfl <| LX.p (Y.fieldAddr0 Pf.fo44_2 rfl) rfl ?_
    refine LX.wp (Tb bt67 k64 :: PWl bp al L cl s64 m14 (Tb bt29 t19 :: Ri g14_0 c14_0 l14_0 :: Tb bt13 k10 :: fr)) ?_
    refine LX.p (Y.ldB 0 Pa.one3 rfl rfl rfl) rfl <| LX.p (Y.fieldAddr0 Pa.fo44_1 rfl) rfl <| LX.p (Y.ldB 0 Pa.one9 rfl rfl rfl) rfl ?_
    refine LX.wp (PWl bp al L cl s64 m14 (Tb bt67 k64 :: Tb bt29 t19 :: Ri g14_0 c14_0 l14_0 :: Tb bt13 k10 :: fr)) ?_
    refine LX.world (W' := WA w0 base (Ri none 0 ([] : List Int) :: PWl bp al L cl s64 m14 (Tb bt67 k64 :: Tb bt29 t19 :: Ri g14_0 c14_0 l14_0 :: Tb bt13 k10 :: fr))) (fun w hw => (show WA w0 base (Ri none 0 ([] : List Int) :: PWl bp al L cl s64 m14 (Tb bt67 k64 :: Tb bt29 t19 :: Ri g14_0 c14_0 l14_0 :: Tb bt13 k10 :: fr)) w from (show WA w0 base (PWl bp al L cl s64 m14 (Tb bt67 k64 :: Tb bt29 t19 :: Ri g14_0 c14_0 l14_0 :: Tb bt13 k10 :: fr)) w from hw).nilRow 3 1)) <| LX.call (put_c (fr := (Tb bt67 k64 :: Tb bt29 t19 :: Ri g14_0 c14_0 l14_0 :: Tb bt13 k10 :: fr)) (g := none) (c := 0) (ks := ([] : List Int)) (op := 5) (pos := k64.pos) (x := k64.text) s64 m14 hn64 (fun h0 => by have h1 : ((s64.ns).length : Int) + 2 * s.at_ ≤ s.ns.length + 2 * ((s64.at_ : Nat) : Int) + (-4) := hR65.few h0; have h2 := hs.few (hR65.bad h0); have h3 := hK.len; have h4 : s64.at_ < L.length := hR65.lt; show (s64.ns).length ≤ 1000000; omega) (by (simp only [List.length_cons, List.length_nil, List.length_append]; omega)) (AllI.nil) (by (unfold inI; omega)) as_) Pd.en16 rfl rfl rfl rfl rfl ?_
    rintro ⟨r81, s81, m81⟩
    refine LX.have fun ⟨hri81, hp81, hn81⟩ => ?_
    try dsimp only at hri81 hp81 hn81 ⊢
    have hR82 : Rn L.length s s81 (l14_0 ++ [r81]) 2 (-3) := hR65.put (us := (l14_0)) (ks := ([] : List Int)) hp81 pm
    have hch83 : s64.at_ ≤ s81.at_ := Nat.le_of_eq hp81.eqs.1.symm
    have hle83 : s.at_ < s81.at_ := by omega
    have hlt83 : s81.at_ < L.length := hR82.lt
    have hde83 : s64.deep ≤ s81.deep := Int.le_of_eq hp81.eqs.2.1.symm
    have hdd83 : s81.deep ≤ 60 := hR82.d1
    refine LX.mv rfl <| LX.su [0, 1, 5, 7, 8, 9, 13] rfl <| LX.nt <| CX.region <| LX.ms 2 rfl <| LX.p (Y.fieldAddr0 Pf.fo44_2 rfl) rfl ?_
    refine LX.wp (Tb bt29 t19 :: PWl bp al L cl s81 m81 (Tb bt67 k64 :: Ri g14_0 c14_0 l14_0 :: Tb bt13 k10 :: fr)) ?_
    refine LX.p (Y.ldB 0 Pa.one3 rfl rfl rfl) rfl <| LX.ms 2 rfl <| LX.buildSlice (e := 3) (size := 1) rfl rfl (fun _ => by kernel_rfl) rfl dc rfl rfl rfl ?_
    intro gt84
    refine LX.wq (Ri (some gt84) 1 ([r81]) :: Tb bt29 t19 :: PWl bp al L cl s81 m81 (Tb bt67 k64 :: Ri g14_0 c14_0 l14_0 :: Tb bt13 k10 :: fr)) rfl ?_
    refine LX.wp (Ri (some gt84) 1 ([r81]) :: PWl bp al L cl s81 m81 (Tb bt29 t19 :: Tb bt67 k64 :: Ri g14_0 c14_0 l14_0 :: Tb bt13 k10 :: fr)) ?_
    refine LX.call (put_c (fr := (Tb bt29 t19 :: Tb bt67 k64 :: Ri g14_0 c14_0 l14_0 :: Tb bt13 k10 :: fr)) (g := (some gt84)) (c := 1) (ks := [r81]) (op := 46) (pos := t19.pos) (x := t19.text) s81 m81 hn81 (fun h0 => by have h1 : ((s81.ns).length : Int) + 2 * s.at_ ≤ s.ns.length + 2 * ((s81.at_ : Nat) : Int) + (-3) := hR82.few h0; have h2 := hs.few (hR82.bad h0); have h3 := hK.len; have h4 : s81.at_ < L.length := hR82.lt; show (s81.ns).length ≤ 1000000; omega) (by (simp only [List.length_cons, List.length_nil, List.length_append]; omega)) ((AllI.cons as_ AllI.nil)) (by (unfold inI; omega)) as_) Pd.en16 rfl rfl rfl rfl rfl ?_
    rintro ⟨r85, s85, m85⟩
    refine LX.have fun ⟨hri85, hp85, hn85⟩ => ?_
    try dsimp only at hri85 hp85 hn85 ⊢
    have hR86 : Rn L.length s s85 (l14_0 ++ [r85]) 2 (-2) := hR82.put (us := (l14_0)) (ks := [r81]) hp85 pm
    have hch87 : s81.at_ ≤ s85.at_ := Nat.le_of_eq hp85.eqs.1.symm
    have hle87 : s.at_ < s85.at_ := by omega
    have hlt87 : s85.at_ < L.length := hR86.lt
    have hde87 : s81.deep ≤ s85.deep := Int.le_of_eq hp85.eqs.2.1.symm
    have hdd87 : s85.deep ≤ 60 := hR86.d1
    refine LX.buildSlice (e := 3) (size := 1) rfl rfl (fun _ => by kernel_rfl) rfl dc rfl rfl rfl ?_
    intro gt88
    refine LX.wq (Ri (some gt88) 1 ([r85]) :: PWl bp al L cl s85 m85 (Tb bt29 t19 :: Tb bt67 k64 :: Ri g14_0 c14_0 l14_0 :: Tb bt13 k10 :: fr)) rfl ?_
    refine LX.wp (Ri (some gt88) 1 ([r85]) :: Ri g14_0 c14_0 l14_0 :: PWl bp al L cl s85 m85 (Tb bt29 t19 :: Tb bt67 k64 :: Tb bt13 k10 :: fr)) ?_
    refine LX.appendT 0 (g := g14_0) (k := (l14_0).length) Pe.el29 rfl rfl rfl rfl rfl rfl rfl lo lo rfl rfl rfl ?_
    intro ga89 ca89
    refine LX.wa (Ri ga89 ca89 (l14_0 ++ [r85]) :: PWl bp al L cl s85 m85 (Tb bt29 t19 :: Tb bt67 k64 :: Tb bt13 k10 :: fr)) <| LX.sub (l' := [(0, _), (1, _), (5, _), (7, _), (8, _), (9, _), (13, _), (89, _), (90, _), (91, _), (92, _), (93, _), (94, _), (95, _), (96, _), (97, _), (98, rv ga89 ((l14_0 ++ [r85])).length ca89)]) ⟨rfl, rfl, rfl, rfl, rfl, rfl, rfl, rfl, rfl, rfl, rfl, rfl, rfl, rfl, rfl, rfl, (by (show some (rv _ _ _) = some (rv _ _ _); simp only [List.length_cons, List.length_append, List.length_nil] <;> rfl)), trivial⟩ <| LX.mv rfl ?_
    refine LX.wp (PWl bp al L cl s85 m85 (Ri ga89 ca89 (l14_0 ++ [r85]) :: Tb bt29 t19 :: Tb bt67 k64 :: Tb bt13 k10 :: fr)) ?_
    refine LX.su [0, 1, 5, 7] rfl <| LX.next <| PX.blockN ?_
    exact PX.again (i := ((l14_0, g14_0, c14_0), s14, m14)) (((l14_0 ++ [r85]), ga89, ca89), s85, m85) (by show L.length - s85.at_ < L.length - s14.at_; omega) ⟨rfl, rfl, rfl, (by rfl), trivial⟩ (fun w hw => ⟨⟨(AllI.app hla14_0 (AllI.cons as_ AllI.nil)), (by show List.length _ + 2 * s.at_ ≤ 2 * s85.at_ + 0; (try simp only [List.length_cons, List.length_nil, List.length_append]); omega), (by show s10.at_ ≤ s85.at_; omega), (by show s10.deep ≤ s85.deep; omega), (hR86.wk dc dc).re pm, hn85⟩, hw.ct⟩)
  try simp at hb2
  refine CX.exit <| PX.thenE <| PX.thenE <| PX.blockE <| PX.thenN <| CX.seq <| CX.sr <| LX.mv rfl <| LX.callQ (show FnQ Try.prog 12 #[.pointer (some ⟨bp, 0, none⟩)] _ (.bool (decide (s14.code ≠ 0))) from bad_q (s := s14) (m := m14) (fun w hw => blkL hw (i := 0) rfl)) Pb.en12 rfl rfl rfl rfl rfl <| LX.p (Y.not rfl) rfl <| LX.mv rfl <| LX.su [0, 1, 5, 7, 102] rfl ?_
  apply LX.joinAnd 4 106 102 rfl
  · intro hb15
    refine LX.gT rfl rfl rfl hb15 (Y.move rfl) rfl rfl <| LX.gT rfl rfl rfl hb15 (Y.lenSl rfl Pc.un29 rfl) rfl rfl <| LX.gT rfl rfl rfl hb15 (Y.eqN rfl rfl) rfl rfl <| LX.p (Y.pickT rfl hb15 rfl) rfl ?_
    exact LX.left ⟨rfl, rfl, rfl, rfl, rfl, rfl, trivial⟩
  · intro hb15
    refine LX.gF rfl rfl rfl hb15 rfl rfl <| LX.gF rfl rfl rfl hb15 rfl rfl <| LX.gF rfl rfl rfl hb15 rfl rfl <| LX.p (Y.pickF rfl hb15 rfl) rfl ?_
    exact LX.left ⟨rfl, rfl, rfl, rfl, rfl, rfl, trivial⟩
  refine LX.su [0, 1, 5, 7, 106] rfl <| LX.nt ?_
  refine CX.cond rfl (fun hb16 => ?_) (fun hb16 => ?_)
  · try simp at hb16
    refine CX.sr <| LX.mv rfl <| LX.call (wrong_c (fr := (Ri g14_0 c14_0 l14_0 :: Tb bt13 k10 :: fr)) s14 m14 hL ht15) Pb.en37 rfl rfl rfl rfl rfl ?_
    intro s90
    refine LX.have fun hf90 => ?_
    have hb990 : Bad s14 s90 := FailR.bad hf90 dc
    have hbc90 := hb990.code
    have hn90 : NdsR 3 m14.rs m14.cells s90.ns := by rw [hb990.ns]; exact hn14
    have hR91 : Rn L.length s s90 (l14_0) 0 (0) := hR14.bad2 hb990
    have hch92 : s14.at_ ≤ s90.at_ := Nat.le_of_eq hb990.at_.symm
    have hle92 : s.at_ < s90.at_ := by omega
    have hlt92 : s90.at_ < L.length := hR91.lt
    have hde92 : s14.deep ≤ s90.deep := Int.le_of_eq hb990.deep.symm
    have hdd92 : s90.deep ≤ 60 := hR91.d1
    refine LX.mv rfl <| LX.su [0, 1, 4, 5, 7] rfl <| LX.nt <| CX.ret <| PX.thenR <| PX.ret1 (by simp) Try.results53 rfl ?_
    exact fun w hw => ⟨((-1), s90, m14), rfl, ⟨(by (unfold inI; omega)), hR91.no as_, hn90⟩, hw.ct⟩
  try simp at hb16
  refine CX.skip <| PX.thenN <| CX.sr <| LX.mv rfl <| LX.call (want_c (fr := (Ri g14_0 c14_0 l14_0 :: Tb bt13 k10 :: fr)) s14 m14 hL hK ht15 ([41] : List UInt8)) Pd.en35 rfl rfl rfl rfl rfl ?_
  rintro ⟨b93, s93⟩
  refine LX.have fun hw93 => ?_
  try dsimp only at hw93 ⊢
  have hn93 : NdsR 3 m14.rs m14.cells s93.ns := by rw [hw93.ns]; exact hn14
  have hR94 : Rn L.length s s93 (l14_0) 1 (-2) := hR14.want hw93
  have hch95 : s14.at_ ≤ s93.at_ := hw93.le
  have hle95 : s.at_ < s93.at_ := by omega
  have hlt95 : s93.at_ < L.length := hR94.lt
  have hde95 : s14.deep ≤ s93.deep := Int.le_of_eq hw93.deep.symm
  have hdd95 : s93.deep ≤ 60 := hR94.d1
  refine LX.su [0, 1, 5, 7] rfl <| LX.nt <| CX.sr <| LX.ms 2 rfl <| LX.p (Y.fieldAddr0 Pa.fo44_1 rfl) rfl ?_
  refine LX.wp (Tb bt13 k10 :: PWl bp al L cl s93 m14 (Ri g14_0 c14_0 l14_0 :: fr)) ?_
  refine LX.p (Y.ldB 0 Pa.one9 rfl rfl rfl) rfl <| LX.mv rfl ?_
  refine LX.wp (Ri g14_0 c14_0 l14_0 :: PWl bp al L cl s93 m14 (Tb bt13 k10 :: fr)) ?_
  refine LX.call (put_c (fr := (Tb bt13 k10 :: fr)) (g := g14_0) (c := c14_0) (ks := l14_0) (op := 42) (pos := pos) (x := k10.text) s93 m14 hn93 (fun h0 => by have h1 : ((s93.ns).length : Int) + 2 * s.at_ ≤ s.ns.length + 2 * ((s93.at_ : Nat) : Int) + (-2) := hR94.few h0; have h2 := hs.few (hR94.bad h0); have h3 := hK.len; have h4 : s93.at_ < L.length := hR94.lt; show (s93.ns).length ≤ 1000000; omega) (by omega) (hla14_0) (by (unfold inI; omega)) as_) Pd.en16 rfl rfl rfl rfl rfl ?_
  rintro ⟨r96, s96, m96⟩
  refine LX.have fun ⟨hri96, hp96, hn96⟩ => ?_
  try dsimp only at hri96 hp96 hn96 ⊢
  have hR97 : Rn L.length s s96 ([r96]) 1 (-1) := hR94.put (us := ([] : List Int)) (ks := l14_0) hp96 pm
  have hch98 : s93.at_ ≤ s96.at_ := Nat.le_of_eq hp96.eqs.1.symm
  have hle98 : s.at_ < s96.at_ := by omega
  have hlt98 : s96.at_ < L.length := hR97.lt
  have hde98 : s93.deep ≤ s96.deep := Int.le_of_eq hp96.eqs.2.1.symm
  have hdd98 : s96.deep ≤ 60 := hR97.d1
  refine LX.mv rfl <| LX.su [4] rfl <| LX.nt <| CX.ret <| PX.ret1 (by simp) Try.results53 rfl ?_
  exact fun w hw => ⟨(r96, s96, m96), rfl, ⟨as_, hR97.wk dc dc, hn96⟩, hw.ct⟩
end Go.Proofs.Yteibddakpedogaa
