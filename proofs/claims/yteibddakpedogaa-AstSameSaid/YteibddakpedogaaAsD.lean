/-
  Proved here: the document's parser: signs between.
-/
import Derived.Test.YteibddakpedogaaAsC
set_option linter.unusedSimpArgs false
namespace Go.Proofs.Yteibddakpedogaa
open Go.SX Go.RowKit Go.Tr Go.As Go.Ck
namespace Pd
theorem en16 : Enters Try.prog 16 := Enters.of Try.func16 (by kernel_rfl) (by kernel_rfl)
theorem en35 : Enters Try.prog 35 := Enters.of Try.func35 (by kernel_rfl) (by kernel_rfl)
theorem en47 : Enters Try.prog 47 := Enters.of Try.func47 (by kernel_rfl) (by kernel_rfl)
theorem en48 : Enters Try.prog 48 := Enters.of Try.func48 (by kernel_rfl) (by kernel_rfl)
theorem en56 : Enters Try.prog 56 := Enters.of Try.func56 (by kernel_rfl) (by kernel_rfl)
theorem en59 : Enters Try.prog 59 := Enters.of Try.func59 (by kernel_rfl) (by kernel_rfl)
theorem en60 : Enters Try.prog 60 := Enters.of Try.func60 (by kernel_rfl) (by kernel_rfl)
theorem en62 : Enters Try.prog 62 := Enters.of Try.func62 (by kernel_rfl) (by kernel_rfl)
theorem en66 : Enters Try.prog 66 := Enters.of Try.func66 (by kernel_rfl) (by kernel_rfl)
theorem en70 : Enters Try.prog 70 := Enters.of Try.func70 (by kernel_rfl) (by kernel_rfl)
theorem en71 : Enters Try.prog 71 := Enters.of Try.func71 (by kernel_rfl) (by kernel_rfl)
theorem en72 : Enters Try.prog 72 := Enters.of Try.func72 (by kernel_rfl) (by kernel_rfl)
theorem en73 : Enters Try.prog 73 := Enters.of Try.func73 (by kernel_rfl) (by kernel_rfl)
end Pd
open Go.Pa (Tk)
/-- what a function that lays one node comes to -/
@[reducible] def PF (f : Nat) (args : List Value) (w0 : World) (base bp : Nat) (al : Option Addr) (cl : Nat) (L : List Tk) (s : RS) (m : Mm) (fr : List It) : Prop :=
  FnC Try.prog f args.toArray (WA w0 base (PWl bp al L cl s m fr)) (fun q : Int × RS × Mm => .int .i64 q.1) (fun q w => (inI q.1 ∧ Rn L.length s q.2.1 [q.1] 1 0 ∧ NdsR 3 q.2.2.rs q.2.2.cells q.2.1.ns) ∧ WA w0 base (PWl bp al L cl q.2.1 q.2.2 fr) w)
/-- one that may lay a node more than it takes tokens -/
@[reducible] def PF1 (f : Nat) (args : List Value) (w0 : World) (base bp : Nat) (al : Option Addr) (cl : Nat) (L : List Tk) (s : RS) (m : Mm) (fr : List It) : Prop :=
  FnC Try.prog f args.toArray (WA w0 base (PWl bp al L cl s m fr)) (fun q : Int × RS × Mm => .int .i64 q.1) (fun q w => (inI q.1 ∧ Rn L.length s q.2.1 [q.1] 1 1 ∧ NdsR 3 q.2.2.rs q.2.2.cells q.2.1.ns) ∧ WA w0 base (PWl bp al L cl q.2.1 q.2.2 fr) w)
def AllI (l : List Int) : Prop := ∀ z ∈ l, inI z
theorem AllI.nil : AllI [] := fun z h => by cases h
theorem AllI.cons {z : Int} {l : List Int} (h : inI z) (g : AllI l) : AllI (z :: l) := fun y hy => by
  rcases List.mem_cons.1 hy with rfl | hy
  · exact h
  · exact g y hy
theorem AllI.app {l r : List Int} (h : AllI l) (g : AllI r) : AllI (l ++ r) := fun y hy => (List.mem_append.1 hy).elim (h y) (g y)
theorem _root_.Go.SX.WA.fr1 {w0 w : World} {base : Nat} {b r x : It} {rs fr : List It} (h : WA w0 base (b :: r :: (rs ++ (x :: fr))) w) : WA w0 base (b :: r :: (rs ++ fr)) w := h.drop (.cons_cons _ (.cons_cons _ (List.Sublist.append (List.Sublist.refl _) (List.sublist_cons_self _ _))))
theorem root_at {n : Nat} {s q : RS} {r : Int} {ks : List Int} {j : Nat} {k : Int} (hs : Sk n s) (h : Rn n s q ks j k) (h0 : q.code = 0) (hr : r ∈ ks) : ∃ i : Nat, r = (i : Int) ∧ i < q.ns.length ∧ ∀ (k : Nat) x, q.ns[k]? = some x → ∀ z ∈ x.kids, 0 ≤ z ∧ z < (k : Int) := by
  obtain ⟨R, hR⟩ := hs.ft (h.bad h0)
  have hF := h.ft h0 R hR
  have h1 := hF.rng (List.mem_append_right R hr)
  exact ⟨r.toNat, by omega, by omega, hF.kid⟩
theorem or_c {w0 : World} {base : Nat} {bp : Nat} {al : Option Addr} {cl : Nat} {L : List Go.Pa.Tk} (hL : SlAt 3 tokA (Lies w0 base) al L) (hK : Tok6 L) {N : Nat} (h_and : (∀ (s : RS) (m : Mm) (fr : List It), Sk L.length s → NdsR 3 m.rs m.cells s.ns → L.length - s.at_ ≤ N → PF 59 [.pointer (some ⟨bp, 0, none⟩)] w0 base bp al cl L s m fr))  : (∀ (s : RS) (m : Mm) (fr : List It), Sk L.length s → NdsR 3 m.rs m.cells s.ns → L.length - s.at_ ≤ N → PF 56 [.pointer (some ⟨bp, 0, none⟩)] w0 base bp al cl L s m fr) := by
  intro s m fr hs hn hN
  have hR := Rn.refl hs
  have hle : s.at_ ≤ s.at_ := Nat.le_refl _
  have hd0 := hs.d0
  have hd1 := hs.d1
  have hlt := hs.lt
  have hln0 := hK.len
  have hN0 : 0 < N := by omega
  refine FnC.of_body (fn := Try.f56) [(0, _)] Try.func56 rfl Try.ntmps56 rfl ⟨rfl, trivial⟩ ?_
  refine CX.sr <| LX.mv rfl <| LX.su [0, 2] rfl <| LX.nt <| CX.sr <| LX.mv rfl ?_
  have hk1 : Sk L.length s := hs.next hR dc
  refine LX.call (h_and s m fr hk1 hn (by show L.length - s.at_ ≤ N; omega)) Pd.en59 rfl rfl rfl rfl rfl ?_
  rintro ⟨r1, s1, m1⟩
  refine LX.have fun ⟨hri1, hr1, hn1⟩ => ?_
  try dsimp only at hri1 hr1 hn1 ⊢
  have hR2 : Rn L.length s s1 ([r1]) 1 (0) := hR.trans hr1
  have hch3 : s.at_ ≤ s1.at_ := hr1.le
  have hle3 : s.at_ ≤ s1.at_ := by omega
  have hlt3 : s1.at_ < L.length := hR2.lt
  have hde3 : s.deep ≤ s1.deep := hr1.d0
  have hdd3 : s1.deep ≤ 60 := hR2.d1
  have hav1 : s1.code = 0 → s.at_ + 1 ≤ s1.at_ := hr1.adv
  refine LX.mv rfl <| LX.su [0, 2, 3] rfl <| LX.nt <| CX.seq <| CX.block <| CX.loop (fun z : Int × RS × Mm => [(0, .pointer (some ⟨bp, 0, none⟩)), (3, .int .i64 z.1)]) (fun (z : Int × RS × Mm) w => (inI z.1 ∧ Rn L.length s z.2.1 [z.1] 1 (0) ∧ NdsR 3 z.2.2.rs z.2.2.cells z.2.1.ns) ∧ WA w0 base (PWl bp al L cl z.2.1 z.2.2 fr) w) (fun z => L.length - z.2.1.at_) (r1, s1, m1) ⟨rfl, rfl, trivial⟩ (fun w hw => ⟨⟨by assumption, hR2.wk dc dc, hn1⟩, hw⟩) ?_
  rintro ⟨r4, s4, m4⟩
  refine CX.have fun ⟨hri4, hR4, hn4⟩ => ?_
  try dsimp only at hri4 hR4 hn4 ⊢
  have hle4 : s.at_ ≤ s4.at_ := hR4.le
  have hlt4 := hR4.lt
  have hde4 := hR4.d0
  have hdd4 := hR4.d1
  refine CX.seq <| CX.sr ?_
  obtain ⟨t5, ht5⟩ : ∃ t, L[s4.at_]? = some t := ⟨_, List.getElem?_eq_getElem (show s4.at_ < L.length from hR4.lt)⟩
  have htk5 := (tok_in hL ht5).1
  have htp5 := (tok_in hL ht5).2
  refine LX.mv rfl <| LX.callQ (show FnQ Try.prog 12 #[.pointer (some ⟨bp, 0, none⟩)] _ (.bool (decide (s4.code ≠ 0))) from bad_q (s := s4) (m := m4) (fun w hw => blkL hw (i := 0) rfl)) Pb.en12 rfl rfl rfl rfl rfl <| LX.p (Y.not rfl) rfl <| LX.mv rfl <| LX.su [0, 3, 11] rfl ?_
  apply LX.joinAnd 3 14 11 rfl
  · intro hb1
    refine LX.gT rfl rfl rfl hb1 (Y.move rfl) rfl rfl <| LX.callQT rfl rfl rfl hb1 (is_q (s := s4) (m := m4) ht5 ([111, 114] : List UInt8) (fun w hw => blkL hw (i := 0) rfl) (fun w hw => hL.push hw)) Pb.en32 rfl rfl rfl rfl <| LX.p (Y.pickT rfl hb1 rfl) rfl ?_
    exact LX.left ⟨rfl, rfl, rfl, rfl, trivial⟩
  · intro hb1
    refine LX.gF rfl rfl rfl hb1 rfl rfl <| LX.gF rfl rfl rfl hb1 rfl rfl <| LX.p (Y.pickF rfl hb1 rfl) rfl ?_
    exact LX.left ⟨rfl, rfl, rfl, rfl, trivial⟩
  refine LX.su [0, 3, 14] rfl <| LX.nt ?_
  refine CX.cond rfl (fun hb2 => ?_) (fun hb2 => ?_)
  · try simp at hb2
    refine CX.skip <| PX.thenN <| CX.block <| CX.sr <| LX.mv rfl <| LX.callQ (now_q (s := s4) (m := m4) ht5 (fun w hw => blkL hw (i := 0) rfl) (fun w hw => hL.push hw)) Pa.en13 rfl rfl rfl rfl rfl <| LX.p (Y.field (v := .int .i64 t5.pos) rfl (fun _ => by kernel_rfl)) rfl <| LX.mv rfl <| LX.su [0, 3, 4] rfl <| LX.nt <| CX.sr ?_
    have hgo6 : s4.at_ + 1 < L.length := by exact hK.fin _ t5 ht5 (by (intro h8; simp_all [isS]; done))
    have hln6 := hK.len
    refine LX.ms 3 rfl <| LX.p (Y.fieldAddr0 Pa.fo42_1 rfl) rfl <| LX.p (Y.ldB 0 Pa.one3 rfl rfl rfl) rfl <| LX.p (Y.addN rfl rfl (by (simp only []; omega))) rfl <| LX.mv rfl <| LX.p (Y.fieldAddr0 Pa.fo42_1 rfl) rfl <| LX.storeB 0 Pb.sz3 rfl rfl rfl rfl rfl rfl rfl rfl <| LX.wq (PWl bp al L cl (RS.go s4 1) m4 fr) rfl ?_
    have hR7 : Rn L.length s (RS.go s4 1) ([r4]) 2 (-2) := hR4.go hgo6
    have hle8 : s.at_ < (s4.at_ + 1) := by have h9 : s.at_ ≤ s4.at_ := hR4.le; omega
    have hlt8 : (s4.at_ + 1) < L.length := hgo6
    refine LX.su [0, 3, 4] rfl <| LX.nt <| CX.sr <| LX.mv rfl ?_
    have hk9 : Sk L.length (RS.go s4 1) := hs.next hR7 dc
    refine LX.call (h_and (RS.go s4 1) m4 fr hk9 hn4 (by show L.length - (s4.at_ + 1) ≤ N; omega)) Pd.en59 rfl rfl rfl rfl rfl ?_
    rintro ⟨r9, s9, m9⟩
    refine LX.have fun ⟨hri9, hr9, hn9⟩ => ?_
    try dsimp only at hri9 hr9 hn9 ⊢
    have hR10 : Rn L.length s s9 ([r4] ++ [r9]) 3 (-2) := hR7.trans hr9
    have hch11 : (s4.at_ + 1) ≤ s9.at_ := hr9.le
    have hle11 : s.at_ < s9.at_ := by omega
    have hlt11 : s9.at_ < L.length := hR10.lt
    have hde11 : s4.deep ≤ s9.deep := hr9.d0
    have hdd11 : s9.deep ≤ 60 := hR10.d1
    have hav9 : s9.code = 0 → (s4.at_ + 1) + 1 ≤ s9.at_ := hr9.adv
    refine LX.mv rfl <| LX.su [0, 3, 4, 5] rfl <| LX.nt <| CX.region <| LX.ms 4 rfl <| LX.buildSlice (e := 3) (size := 1) rfl rfl (fun _ => by kernel_rfl) rfl dc rfl rfl rfl ?_
    intro gt12
    refine LX.wq (Ri (some gt12) 2 ([r4, r9]) :: PWl bp al L cl s9 m9 fr) rfl <| LX.call (put_c (fr := fr) (g := (some gt12)) (c := 2) (ks := [r4, r9]) (op := 19) (pos := t5.pos) (x := ([] : List UInt8)) s9 m9 hn9 (fun h0 => by have h1 : ((s9.ns).length : Int) + 2 * s.at_ ≤ s.ns.length + 2 * ((s9.at_ : Nat) : Int) + (-2) := hR10.few h0; have h2 := hs.few (hR10.bad h0); have h3 := hK.len; have h4 : s9.at_ < L.length := hR10.lt; show (s9.ns).length ≤ 1000000; omega) (by (simp only [List.length_cons, List.length_nil, List.length_append]; omega)) ((AllI.cons as_ (AllI.cons as_ AllI.nil))) (by (unfold inI; omega)) as_) Pd.en16 rfl rfl rfl rfl rfl ?_
    rintro ⟨r13, s13, m13⟩
    refine LX.have fun ⟨hri13, hp13, hn13⟩ => ?_
    try dsimp only at hri13 hp13 hn13 ⊢
    have hR14 : Rn L.length s s13 ([r13]) 3 (-1) := hR10.put (us := ([] : List Int)) (ks := [r4, r9]) hp13 pm
    have hch15 : s9.at_ ≤ s13.at_ := Nat.le_of_eq hp13.eqs.1.symm
    have hle15 : s.at_ < s13.at_ := by omega
    have hlt15 : s13.at_ < L.length := hR14.lt
    have hde15 : s9.deep ≤ s13.deep := Int.le_of_eq hp13.eqs.2.1.symm
    have hdd15 : s13.deep ≤ 60 := hR14.d1
    refine LX.mv rfl <| LX.su [0, 3] rfl <| LX.next <| PX.blockN ?_
    exact PX.again (i := (r4, s4, m4)) (r13, s13, m13) (by show L.length - s13.at_ < L.length - s4.at_; omega) ⟨rfl, rfl, trivial⟩ (fun w hw => ⟨⟨by assumption, hR14.wk dc dc, hn13⟩, hw⟩)
  try simp at hb2
  refine CX.exit <| PX.thenE <| PX.thenE <| PX.blockE <| PX.thenN <| CX.sr <| LX.ms 2 rfl <| LX.su [2] rfl <| LX.nt <| CX.ret <| PX.ret1 (by simp) Try.results56 rfl ?_
  exact fun w hw => ⟨(r4, s4, m4), rfl, ⟨as_, hR4.wk dc dc, hn4⟩, hw⟩
theorem and_c {w0 : World} {base : Nat} {bp : Nat} {al : Option Addr} {cl : Nat} {L : List Go.Pa.Tk} (hL : SlAt 3 tokA (Lies w0 base) al L) (hK : Tok6 L) {N : Nat} (h_not : (∀ (s : RS) (m : Mm) (fr : List It), Sk L.length s → NdsR 3 m.rs m.cells s.ns → L.length - s.at_ ≤ N → PF 62 [.pointer (some ⟨bp, 0, none⟩)] w0 base bp al cl L s m fr))  : (∀ (s : RS) (m : Mm) (fr : List It), Sk L.length s → NdsR 3 m.rs m.cells s.ns → L.length - s.at_ ≤ N → PF 59 [.pointer (some ⟨bp, 0, none⟩)] w0 base bp al cl L s m fr) := by
  intro s m fr hs hn hN
  have hR := Rn.refl hs
  have hle : s.at_ ≤ s.at_ := Nat.le_refl _
  have hd0 := hs.d0
  have hd1 := hs.d1
  have hlt := hs.lt
  have hln0 := hK.len
  have hN0 : 0 < N := by omega
  refine FnC.of_body (fn := Try.f59) [(0, _)] Try.func59 rfl Try.ntmps59 rfl ⟨rfl, trivial⟩ ?_
  refine CX.sr <| LX.mv rfl <| LX.su [0, 2] rfl <| LX.nt <| CX.sr <| LX.mv rfl ?_
  have hk1 : Sk L.length s := hs.next hR dc
  refine LX.call (h_not s m fr hk1 hn (by show L.length - s.at_ ≤ N; omega)) Pd.en62 rfl rfl rfl rfl rfl ?_
  rintro ⟨r1, s1, m1⟩
  refine LX.have fun ⟨hri1, hr1, hn1⟩ => ?_
  try dsimp only at hri1 hr1 hn1 ⊢
  have hR2 : Rn L.length s s1 ([r1]) 1 (0) := hR.trans hr1
  have hch3 : s.at_ ≤ s1.at_ := hr1.le
  have hle3 : s.at_ ≤ s1.at_ := by omega
  have hlt3 : s1.at_ < L.length := hR2.lt
  have hde3 : s.deep ≤ s1.deep := hr1.d0
  have hdd3 : s1.deep ≤ 60 := hR2.d1
  have hav1 : s1.code = 0 → s.at_ + 1 ≤ s1.at_ := hr1.adv
  refine LX.mv rfl <| LX.su [0, 2, 3] rfl <| LX.nt <| CX.seq <| CX.block <| CX.loop (fun z : Int × RS × Mm => [(0, .pointer (some ⟨bp, 0, none⟩)), (3, .int .i64 z.1)]) (fun (z : Int × RS × Mm) w => (inI z.1 ∧ Rn L.length s z.2.1 [z.1] 1 (0) ∧ NdsR 3 z.2.2.rs z.2.2.cells z.2.1.ns) ∧ WA w0 base (PWl bp al L cl z.2.1 z.2.2 fr) w) (fun z => L.length - z.2.1.at_) (r1, s1, m1) ⟨rfl, rfl, trivial⟩ (fun w hw => ⟨⟨by assumption, hR2.wk dc dc, hn1⟩, hw⟩) ?_
  rintro ⟨r4, s4, m4⟩
  refine CX.have fun ⟨hri4, hR4, hn4⟩ => ?_
  try dsimp only at hri4 hR4 hn4 ⊢
  have hle4 : s.at_ ≤ s4.at_ := hR4.le
  have hlt4 := hR4.lt
  have hde4 := hR4.d0
  have hdd4 := hR4.d1
  refine CX.seq <| CX.sr ?_
  obtain ⟨t5, ht5⟩ : ∃ t, L[s4.at_]? = some t := ⟨_, List.getElem?_eq_getElem (show s4.at_ < L.length from hR4.lt)⟩
  have htk5 := (tok_in hL ht5).1
  have htp5 := (tok_in hL ht5).2
  refine LX.mv rfl <| LX.callQ (show FnQ Try.prog 12 #[.pointer (some ⟨bp, 0, none⟩)] _ (.bool (decide (s4.code ≠ 0))) from bad_q (s := s4) (m := m4) (fun w hw => blkL hw (i := 0) rfl)) Pb.en12 rfl rfl rfl rfl rfl <| LX.p (Y.not rfl) rfl <| LX.mv rfl <| LX.su [0, 3, 11] rfl ?_
  apply LX.joinAnd 3 14 11 rfl
  · intro hb1
    refine LX.gT rfl rfl rfl hb1 (Y.move rfl) rfl rfl <| LX.callQT rfl rfl rfl hb1 (is_q (s := s4) (m := m4) ht5 ([97, 110, 100] : List UInt8) (fun w hw => blkL hw (i := 0) rfl) (fun w hw => hL.push hw)) Pb.en32 rfl rfl rfl rfl <| LX.p (Y.pickT rfl hb1 rfl) rfl ?_
    exact LX.left ⟨rfl, rfl, rfl, rfl, trivial⟩
  · intro hb1
    refine LX.gF rfl rfl rfl hb1 rfl rfl <| LX.gF rfl rfl rfl hb1 rfl rfl <| LX.p (Y.pickF rfl hb1 rfl) rfl ?_
    exact LX.left ⟨rfl, rfl, rfl, rfl, trivial⟩
  refine LX.su [0, 3, 14] rfl <| LX.nt ?_
  refine CX.cond rfl (fun hb2 => ?_) (fun hb2 => ?_)
  · try simp at hb2
    refine CX.skip <| PX.thenN <| CX.block <| CX.sr <| LX.mv rfl <| LX.callQ (now_q (s := s4) (m := m4) ht5 (fun w hw => blkL hw (i := 0) rfl) (fun w hw => hL.push hw)) Pa.en13 rfl rfl rfl rfl rfl <| LX.p (Y.field (v := .int .i64 t5.pos) rfl (fun _ => by kernel_rfl)) rfl <| LX.mv rfl <| LX.su [0, 3, 4] rfl <| LX.nt <| CX.sr ?_
    have hgo6 : s4.at_ + 1 < L.length := by exact hK.fin _ t5 ht5 (by (intro h8; simp_all [isS]; done))
    have hln6 := hK.len
    refine LX.ms 3 rfl <| LX.p (Y.fieldAddr0 Pa.fo42_1 rfl) rfl <| LX.p (Y.ldB 0 Pa.one3 rfl rfl rfl) rfl <| LX.p (Y.addN rfl rfl (by (simp only []; omega))) rfl <| LX.mv rfl <| LX.p (Y.fieldAddr0 Pa.fo42_1 rfl) rfl <| LX.storeB 0 Pb.sz3 rfl rfl rfl rfl rfl rfl rfl rfl <| LX.wq (PWl bp al L cl (RS.go s4 1) m4 fr) rfl ?_
    have hR7 : Rn L.length s (RS.go s4 1) ([r4]) 2 (-2) := hR4.go hgo6
    have hle8 : s.at_ < (s4.at_ + 1) := by have h9 : s.at_ ≤ s4.at_ := hR4.le; omega
    have hlt8 : (s4.at_ + 1) < L.length := hgo6
    refine LX.su [0, 3, 4] rfl <| LX.nt <| CX.sr <| LX.mv rfl ?_
    have hk9 : Sk L.length (RS.go s4 1) := hs.next hR7 dc
    refine LX.call (h_not (RS.go s4 1) m4 fr hk9 hn4 (by show L.length - (s4.at_ + 1) ≤ N; omega)) Pd.en62 rfl rfl rfl rfl rfl ?_
    rintro ⟨r9, s9, m9⟩
    refine LX.have fun ⟨hri9, hr9, hn9⟩ => ?_
    try dsimp only at hri9 hr9 hn9 ⊢
    have hR10 : Rn L.length s s9 ([r4] ++ [r9]) 3 (-2) := hR7.trans hr9
    have hch11 : (s4.at_ + 1) ≤ s9.at_ := hr9.le
    have hle11 : s.at_ < s9.at_ := by omega
    have hlt11 : s9.at_ < L.length := hR10.lt
    have hde11 : s4.deep ≤ s9.deep := hr9.d0
    have hdd11 : s9.deep ≤ 60 := hR10.d1
    have hav9 : s9.code = 0 → (s4.at_ + 1) + 1 ≤ s9.at_ := hr9.adv
    refine LX.mv rfl <| LX.su [0, 3, 4, 5] rfl <| LX.nt <| CX.region <| LX.ms 4 rfl <| LX.buildSlice (e := 3) (size := 1) rfl rfl (fun _ => by kernel_rfl) rfl dc rfl rfl rfl ?_
    intro gt12
    refine LX.wq (Ri (some gt12) 2 ([r4, r9]) :: PWl bp al L cl s9 m9 fr) rfl <| LX.call (put_c (fr := fr) (g := (some gt12)) (c := 2) (ks := [r4, r9]) (op := 18) (pos := t5.pos) (x := ([] : List UInt8)) s9 m9 hn9 (fun h0 => by have h1 : ((s9.ns).length : Int) + 2 * s.at_ ≤ s.ns.length + 2 * ((s9.at_ : Nat) : Int) + (-2) := hR10.few h0; have h2 := hs.few (hR10.bad h0); have h3 := hK.len; have h4 : s9.at_ < L.length := hR10.lt; show (s9.ns).length ≤ 1000000; omega) (by (simp only [List.length_cons, List.length_nil, List.length_append]; omega)) ((AllI.cons as_ (AllI.cons as_ AllI.nil))) (by (unfold inI; omega)) as_) Pd.en16 rfl rfl rfl rfl rfl ?_
    rintro ⟨r13, s13, m13⟩
    refine LX.have fun ⟨hri13, hp13, hn13⟩ => ?_
    try dsimp only at hri13 hp13 hn13 ⊢
    have hR14 : Rn L.length s s13 ([r13]) 3 (-1) := hR10.put (us := ([] : List Int)) (ks := [r4, r9]) hp13 pm
    have hch15 : s9.at_ ≤ s13.at_ := Nat.le_of_eq hp13.eqs.1.symm
    have hle15 : s.at_ < s13.at_ := by omega
    have hlt15 : s13.at_ < L.length := hR14.lt
    have hde15 : s9.deep ≤ s13.deep := Int.le_of_eq hp13.eqs.2.1.symm
    have hdd15 : s13.deep ≤ 60 := hR14.d1
    refine LX.mv rfl <| LX.su [0, 3] rfl <| LX.next <| PX.blockN ?_
    exact PX.again (i := (r4, s4, m4)) (r13, s13, m13) (by show L.length - s13.at_ < L.length - s4.at_; omega) ⟨rfl, rfl, trivial⟩ (fun w hw => ⟨⟨by assumption, hR14.wk dc dc, hn13⟩, hw⟩)
  try simp at hb2
  refine CX.exit <| PX.thenE <| PX.thenE <| PX.blockE <| PX.thenN <| CX.sr <| LX.ms 2 rfl <| LX.su [2] rfl <| LX.nt <| CX.ret <| PX.ret1 (by simp) Try.results59 rfl ?_
  exact fun w hw => ⟨(r4, s4, m4), rfl, ⟨as_, hR4.wk dc dc, hn4⟩, hw⟩
theorem not_c {w0 : World} {base : Nat} {bp : Nat} {al : Option Addr} {cl : Nat} {L : List Go.Pa.Tk} (hL : SlAt 3 tokA (Lies w0 base) al L) (hK : Tok6 L) {N : Nat} (ih_not : (∀ (s : RS) (m : Mm) (fr : List It), Sk L.length s → NdsR 3 m.rs m.cells s.ns → L.length - s.at_ < N → PF 62 [.pointer (some ⟨bp, 0, none⟩)] w0 base bp al cl L s m fr)) (h_compare : (∀ (s : RS) (m : Mm) (fr : List It), Sk L.length s → NdsR 3 m.rs m.cells s.ns → L.length - s.at_ ≤ N → PF 66 [.pointer (some ⟨bp, 0, none⟩)] w0 base bp al cl L s m fr))  : (∀ (s : RS) (m : Mm) (fr : List It), Sk L.length s → NdsR 3 m.rs m.cells s.ns → L.length - s.at_ ≤ N → PF 62 [.pointer (some ⟨bp, 0, none⟩)] w0 base bp al cl L s m fr) := by
  intro s m fr hs hn hN
  have hR := Rn.refl hs
  have hle : s.at_ ≤ s.at_ := Nat.le_refl _
  have hd0 := hs.d0
  have hd1 := hs.d1
  have hlt := hs.lt
  have hln0 := hK.len
  have hN0 : 0 < N := by omega
  refine FnC.of_body (fn := Try.f62) [(0, _)] Try.func62 rfl Try.ntmps62 rfl ⟨rfl, trivial⟩ ?_
  refine CX.sr <| LX.mv rfl <| LX.su [0, 2] rfl <| LX.nt <| CX.seq <| CX.sr ?_
  obtain ⟨t1, ht1⟩ : ∃ t, L[s.at_]? = some t := ⟨_, List.getElem?_eq_getElem (show s.at_ < L.length from hR.lt)⟩
  have htk1 := (tok_in hL ht1).1
  have htp1 := (tok_in hL ht1).2
  refine LX.mv rfl <| LX.callQ (show FnQ Try.prog 12 #[.pointer (some ⟨bp, 0, none⟩)] _ (.bool (decide (s.code ≠ 0))) from bad_q (s := s) (m := m) (fun w hw => blkL hw (i := 0) rfl)) Pb.en12 rfl rfl rfl rfl rfl <| LX.p (Y.not rfl) rfl <| LX.mv rfl <| LX.su [0, 2, 8] rfl ?_
  apply LX.joinAnd 3 11 8 rfl
  · intro hb1
    refine LX.gT rfl rfl rfl hb1 (Y.move rfl) rfl rfl <| LX.callQT rfl rfl rfl hb1 (is_q (s := s) (m := m) ht1 ([110, 111, 116] : List UInt8) (fun w hw => blkL hw (i := 0) rfl) (fun w hw => hL.push hw)) Pb.en32 rfl rfl rfl rfl <| LX.p (Y.pickT rfl hb1 rfl) rfl ?_
    exact LX.left ⟨rfl, rfl, rfl, rfl, trivial⟩
  · intro hb1
    refine LX.gF rfl rfl rfl hb1 rfl rfl <| LX.gF rfl rfl rfl hb1 rfl rfl <| LX.p (Y.pickF rfl hb1 rfl) rfl ?_
    exact LX.left ⟨rfl, rfl, rfl, rfl, trivial⟩
  refine LX.su [0, 2, 11] rfl <| LX.nt ?_
  refine CX.cond rfl (fun hb2 => ?_) (fun hb2 => ?_)
  · try simp at hb2
    refine CX.sr <| LX.mv rfl <| LX.callQ (now_q (s := s) (m := m) ht1 (fun w hw => blkL hw (i := 0) rfl) (fun w hw => hL.push hw)) Pa.en13 rfl rfl rfl rfl rfl <| LX.p (Y.field (v := .int .i64 t1.pos) rfl (fun _ => by kernel_rfl)) rfl <| LX.mv rfl <| LX.su [0, 2, 3] rfl <| LX.nt <| CX.seq <| CX.sr <| LX.ms 2 rfl ?_
    have hd02 : 0 ≤ s.deep := by have h9 := hs.d0; have h8 : s.deep ≤ s.deep := hR.d0; omega
    refine LX.call (enter_c (fr := fr) s m hd02 t1.pos) Pd.en48 rfl rfl rfl rfl rfl ?_
    rintro ⟨b2, s2⟩
    refine LX.have fun he2 => ?_
    try dsimp only at he2 ⊢
    have hn2 : NdsR 3 m.rs m.cells s2.ns := by rw [he2.ns]; exact hn
    refine LX.p (Y.not rfl) rfl <| LX.su [0, 2, 3, 18] rfl <| LX.nt ?_
    refine CX.cond rfl (fun hb3 => ?_) (fun hb3 => ?_)
    · try simp at hb3
      have hb902 := he2.f (by exact hb3)
      have hbc2 := hb902.code
      have hR3 : Rn L.length s s2 ([] : List Int) 0 (0) := hR.bad2 hb902
      have hch902 : s.at_ ≤ s2.at_ := Nat.le_of_eq hb902.at_.symm
      refine CX.sr <| LX.mv rfl <| LX.su [0, 2, 3] rfl <| LX.nt <| CX.ret <| PX.thenR <| PX.thenR <| PX.ret1 (by simp) Try.results62 rfl ?_
      exact fun w hw => ⟨((-1), s2, m), rfl, ⟨(by (unfold inI; omega)), hR3.no as_, hn2⟩, hw⟩
    try simp at hb3
    obtain ⟨hc2, hdl2, hq2⟩ := he2.t (by exact hb3)
    subst hq2
    have hR4 : Rn L.length s (RS.dp s (s.deep + 1)) ([] : List Int) 0 (0) := hR.up hdl2
    refine CX.skip <| PX.thenN <| CX.sr ?_
    have hgo5 : s.at_ + 1 < L.length := by exact hK.fin _ t1 ht1 (by (intro h8; simp_all [isS]; done))
    have hln5 := hK.len
    refine LX.ms 3 rfl <| LX.p (Y.fieldAddr0 Pa.fo42_1 rfl) rfl <| LX.p (Y.ldB 0 Pa.one3 rfl rfl rfl) rfl <| LX.p (Y.addN rfl rfl (by (simp only []; omega))) rfl <| LX.mv rfl <| LX.p (Y.fieldAddr0 Pa.fo42_1 rfl) rfl <| LX.storeB 0 Pb.sz3 rfl rfl rfl rfl rfl rfl rfl rfl <| LX.wq (PWl bp al L cl (RS.go (RS.dp s (s.deep + 1)) 1) m fr) rfl ?_
    have hR6 : Rn L.length s (RS.go (RS.dp s (s.deep + 1)) 1) ([] : List Int) 1 (-2) := hR4.go hgo5
    have hle7 : s.at_ < (s.at_ + 1) := by have h9 : s.at_ ≤ s.at_ := hR4.le; omega
    have hlt7 : (s.at_ + 1) < L.length := hgo5
    refine LX.su [0, 2, 3] rfl <| LX.nt <| CX.sr <| LX.mv rfl ?_
    have hk8 : Sk L.length (RS.go (RS.dp s (s.deep + 1)) 1) := hs.next hR6 dc
    refine LX.call (ih_not (RS.go (RS.dp s (s.deep + 1)) 1) m fr hk8 hn2 (by show L.length - (s.at_ + 1) < N; omega)) Pd.en62 rfl rfl rfl rfl rfl ?_
    rintro ⟨r8, s8, m8⟩
    refine LX.have fun ⟨hri8, hr8, hn8⟩ => ?_
    try dsimp only at hri8 hr8 hn8 ⊢
    have hR9 : Rn L.length s s8 ([r8]) 2 (-2) := hR6.trans hr8
    have hch10 : (s.at_ + 1) ≤ s8.at_ := hr8.le
    have hle10 : s.at_ < s8.at_ := by omega
    have hlt10 : s8.at_ < L.length := hR9.lt
    have hde10 : (s.deep + 1) ≤ s8.deep := hr8.d0
    have hdd10 : s8.deep ≤ 60 := hR9.d1
    have hav8 : s8.code = 0 → (s.at_ + 1) + 1 ≤ s8.at_ := hr8.adv
    refine LX.mv rfl <| LX.su [0, 2, 3, 4] rfl <| LX.nt <| CX.sr <| LX.ms 3 rfl <| LX.p (Y.fieldAddr0 Pb.fo42_3 rfl) rfl <| LX.p (Y.ldB 0 Pa.one3 rfl rfl rfl) rfl <| LX.p (Y.sub rfl rfl (by omega)) rfl <| LX.mv rfl <| LX.p (Y.fieldAddr0 Pb.fo42_3 rfl) rfl <| LX.storeB 0 Pb.sz3 rfl rfl rfl rfl rfl rfl rfl rfl <| LX.wq (PWl bp al L cl (RS.dp s8 (s8.deep - 1)) m8 fr) rfl ?_
    have hR11 : Rn L.length s (RS.dp s8 (s8.deep - 1)) ([r8]) 2 (-2) := hR9.down (by show s.deep + 1 ≤ s8.deep; omega)
    refine LX.su [0, 2, 3, 4] rfl <| LX.nt <| CX.sr <| LX.ms 3 rfl <| LX.buildSlice (e := 3) (size := 1) rfl rfl (fun _ => by kernel_rfl) rfl dc rfl rfl rfl ?_
    intro gt12
    refine LX.wq (Ri (some gt12) 1 ([r8]) :: PWl bp al L cl (RS.dp s8 (s8.deep - 1)) m8 fr) rfl <| LX.call (put_c (fr := fr) (g := (some gt12)) (c := 1) (ks := [r8]) (op := 17) (pos := t1.pos) (x := ([] : List UInt8)) (RS.dp s8 (s8.deep - 1)) m8 hn8 (fun h0 => by have h1 : ((s8.ns).length : Int) + 2 * s.at_ ≤ s.ns.length + 2 * ((s8.at_ : Nat) : Int) + (-2) := hR11.few h0; have h2 := hs.few (hR11.bad h0); have h3 := hK.len; have h4 : s8.at_ < L.length := hR11.lt; show (s8.ns).length ≤ 1000000; omega) (by (simp only [List.length_cons, List.length_nil, List.length_append]; omega)) ((AllI.cons as_ AllI.nil)) (by (unfold inI; omega)) as_) Pd.en16 rfl rfl rfl rfl rfl ?_
    rintro ⟨r13, s13, m13⟩
    refine LX.have fun ⟨hri13, hp13, hn13⟩ => ?_
    try dsimp only at hri13 hp13 hn13 ⊢
    have hR14 : Rn L.length s s13 ([r13]) 2 (-1) := hR11.put (us := ([] : List Int)) (ks := [r8]) hp13 pm
    have hch15 : s8.at_ ≤ s13.at_ := Nat.le_of_eq hp13.eqs.1.symm
    have hle15 : s.at_ < s13.at_ := by omega
    have hlt15 : s13.at_ < L.length := hR14.lt
    have hde15 : (s8.deep - 1) ≤ s13.deep := Int.le_of_eq hp13.eqs.2.1.symm
    have hdd15 : s13.deep ≤ 60 := hR14.d1
    refine LX.mv rfl <| LX.su [0, 2] rfl <| LX.nt <| CX.ret <| PX.thenR <| PX.ret1 (by simp) Try.results62 rfl ?_
    exact fun w hw => ⟨(r13, s13, m13), rfl, ⟨as_, hR14.wk dc dc, hn13⟩, hw⟩
  try simp at hb2
  refine CX.skip <| PX.thenN <| CX.sr <| LX.mv rfl ?_
  have hk16 : Sk L.length s := hs.next hR dc
  refine LX.call (h_compare s m fr hk16 hn (by show L.length - s.at_ ≤ N; omega)) Pd.en66 rfl rfl rfl rfl rfl ?_
  rintro ⟨r16, s16, m16⟩
  refine LX.have fun ⟨hri16, hr16, hn16⟩ => ?_
  try dsimp only at hri16 hr16 hn16 ⊢
  have hR17 : Rn L.length s s16 ([r16]) 1 (0) := hR.trans hr16
  have hch18 : s.at_ ≤ s16.at_ := hr16.le
  have hle18 : s.at_ ≤ s16.at_ := by omega
  have hlt18 : s16.at_ < L.length := hR17.lt
  have hde18 : s.deep ≤ s16.deep := hr16.d0
  have hdd18 : s16.deep ≤ 60 := hR17.d1
  have hav16 : s16.code = 0 → s.at_ + 1 ≤ s16.at_ := hr16.adv
  refine LX.mv rfl <| LX.su [2] rfl <| LX.nt <| CX.ret <| PX.ret1 (by simp) Try.results62 rfl ?_
  exact fun w hw => ⟨(r16, s16, m16), rfl, ⟨as_, hR17.wk dc dc, hn16⟩, hw⟩
theorem unary_c {w0 : World} {base : Nat} {bp : Nat} {al : Option Addr} {cl : Nat} {L : List Go.Pa.Tk} (hL : SlAt 3 tokA (Lies w0 base) al L) (hK : Tok6 L) {N : Nat} (ih_unary : (∀ (s : RS) (m : Mm) (fr : List It), Sk L.length s → NdsR 3 m.rs m.cells s.ns → L.length - s.at_ < N → PF 73 [.pointer (some ⟨bp, 0, none⟩)] w0 base bp al cl L s m fr)) (h_primary : (∀ (s : RS) (m : Mm) (fr : List It), Sk L.length s → NdsR 3 m.rs m.cells s.ns → L.length - s.at_ ≤ N → PF 60 [.pointer (some ⟨bp, 0, none⟩)] w0 base bp al cl L s m fr))  : (∀ (s : RS) (m : Mm) (fr : List It), Sk L.length s → NdsR 3 m.rs m.cells s.ns → L.length - s.at_ ≤ N → PF 73 [.pointer (some ⟨bp, 0, none⟩)] w0 base bp al cl L s m fr) := by
  intro s m fr hs hn hN
  have hR := Rn.refl hs
  have hle : s.at_ ≤ s.at_ := Nat.le_refl _
  have hd0 := hs.d0
  have hd1 := hs.d1
  have hlt := hs.lt
  have hln0 := hK.len
  have hN0 : 0 < N := by omega
  refine FnC.of_body (fn := Try.f73) [(0, _)] Try.func73 rfl Try.ntmps73 rfl ⟨rfl, trivial⟩ ?_
  refine CX.sr <| LX.mv rfl <| LX.su [0, 2] rfl <| LX.nt <| CX.seq <| CX.sr ?_
  obtain ⟨t1, ht1⟩ : ∃ t, L[s.at_]? = some t := ⟨_, List.getElem?_eq_getElem (show s.at_ < L.length from hR.lt)⟩
  have htk1 := (tok_in hL ht1).1
  have htp1 := (tok_in hL ht1).2
  refine LX.mv rfl <| LX.callQ (show FnQ Try.prog 12 #[.pointer (some ⟨bp, 0, none⟩)] _ (.bool (decide (s.code ≠ 0))) from bad_q (s := s) (m := m) (fun w hw => blkL hw (i := 0) rfl)) Pb.en12 rfl rfl rfl rfl rfl <| LX.p (Y.not rfl) rfl <| LX.mv rfl <| LX.su [0, 2, 8] rfl ?_
  apply LX.joinAnd 3 11 8 rfl
  · intro hb1
    refine LX.gT rfl rfl rfl hb1 (Y.move rfl) rfl rfl <| LX.callQT rfl rfl rfl hb1 (is_q (s := s) (m := m) ht1 ([45] : List UInt8) (fun w hw => blkL hw (i := 0) rfl) (fun w hw => hL.push hw)) Pb.en32 rfl rfl rfl rfl <| LX.p (Y.pickT rfl hb1 rfl) rfl ?_
    exact LX.left ⟨rfl, rfl, rfl, rfl, trivial⟩
  · intro hb1
    refine LX.gF rfl rfl rfl hb1 rfl rfl <| LX.gF rfl rfl rfl hb1 rfl rfl <| LX.p (Y.pickF rfl hb1 rfl) rfl ?_
    exact LX.left ⟨rfl, rfl, rfl, rfl, trivial⟩
  refine LX.su [0, 2, 11] rfl <| LX.nt ?_
  refine CX.cond rfl (fun hb2 => ?_) (fun hb2 => ?_)
  · try simp at hb2
    refine CX.sr <| LX.mv rfl <| LX.callQ (now_q (s := s) (m := m) ht1 (fun w hw => blkL hw (i := 0) rfl) (fun w hw => hL.push hw)) Pa.en13 rfl rfl rfl rfl rfl <| LX.p (Y.field (v := .int .i64 t1.pos) rfl (fun _ => by kernel_rfl)) rfl <| LX.mv rfl <| LX.su [0, 2, 3] rfl <| LX.nt <| CX.seq <| CX.sr <| LX.ms 2 rfl ?_
    have hd02 : 0 ≤ s.deep := by have h9 := hs.d0; have h8 : s.deep ≤ s.deep := hR.d0; omega
    refine LX.call (enter_c (fr := fr) s m hd02 t1.pos) Pd.en48 rfl rfl rfl rfl rfl ?_
    rintro ⟨b2, s2⟩
    refine LX.have fun he2 => ?_
    try dsimp only at he2 ⊢
    have hn2 : NdsR 3 m.rs m.cells s2.ns := by rw [he2.ns]; exact hn
    refine LX.p (Y.not rfl) rfl <| LX.su [0, 2, 3, 18] rfl <| LX.nt ?_
    refine CX.cond rfl (fun hb3 => ?_) (fun hb3 => ?_)
    · try simp at hb3
      have hb902 := he2.f (by exact hb3)
      have hbc2 := hb902.code
      have hR3 : Rn L.length s s2 ([] : List Int) 0 (0) := hR.bad2 hb902
      have hch902 : s.at_ ≤ s2.at_ := Nat.le_of_eq hb902.at_.symm
      refine CX.sr <| LX.mv rfl <| LX.su [0, 2, 3] rfl <| LX.nt <| CX.ret <| PX.thenR <| PX.thenR <| PX.ret1 (by simp) Try.results73 rfl ?_
      exact fun w hw => ⟨((-1), s2, m), rfl, ⟨(by (unfold inI; omega)), hR3.no as_, hn2⟩, hw⟩
    try simp at hb3
    obtain ⟨hc2, hdl2, hq2⟩ := he2.t (by exact hb3)
    subst hq2
    have hR4 : Rn L.length s (RS.dp s (s.deep + 1)) ([] : List Int) 0 (0) := hR.up hdl2
    refine CX.skip <| PX.thenN <| CX.sr ?_
    have hgo5 : s.at_ + 1 < L.length := by exact hK.fin _ t1 ht1 (by (intro h8; simp_all [isS]; done))
    have hln5 := hK.len
    refine LX.ms 3 rfl <| LX.p (Y.fieldAddr0 Pa.fo42_1 rfl) rfl <| LX.p (Y.ldB 0 Pa.one3 rfl rfl rfl) rfl <| LX.p (Y.addN rfl rfl (by (simp only []; omega))) rfl <| LX.mv rfl <| LX.p (Y.fieldAddr0 Pa.fo42_1 rfl) rfl <| LX.storeB 0 Pb.sz3 rfl rfl rfl rfl rfl rfl rfl rfl <| LX.wq (PWl bp al L cl (RS.go (RS.dp s (s.deep + 1)) 1) m fr) rfl ?_
    have hR6 : Rn L.length s (RS.go (RS.dp s (s.deep + 1)) 1) ([] : List Int) 1 (-2) := hR4.go hgo5
    have hle7 : s.at_ < (s.at_ + 1) := by have h9 : s.at_ ≤ s.at_ := hR4.le; omega
    have hlt7 : (s.at_ + 1) < L.length := hgo5
    refine LX.su [0, 2, 3] rfl <| LX.nt <| CX.sr <| LX.mv rfl ?_
    have hk8 : Sk L.length (RS.go (RS.dp s (s.deep + 1)) 1) := hs.next hR6 dc
    refine LX.call (ih_unary (RS.go (RS.dp s (s.deep + 1)) 1) m fr hk8 hn2 (by show L.length - (s.at_ + 1) < N; omega)) Pd.en73 rfl rfl rfl rfl rfl ?_
    rintro ⟨r8, s8, m8⟩
    refine LX.have fun ⟨hri8, hr8, hn8⟩ => ?_
    try dsimp only at hri8 hr8 hn8 ⊢
    have hR9 : Rn L.length s s8 ([r8]) 2 (-2) := hR6.trans hr8
    have hch10 : (s.at_ + 1) ≤ s8.at_ := hr8.le
    have hle10 : s.at_ < s8.at_ := by omega
    have hlt10 : s8.at_ < L.length := hR9.lt
    have hde10 : (s.deep + 1) ≤ s8.deep := hr8.d0
    have hdd10 : s8.deep ≤ 60 := hR9.d1
    have hav8 : s8.code = 0 → (s.at_ + 1) + 1 ≤ s8.at_ := hr8.adv
    refine LX.mv rfl <| LX.su [0, 2, 3, 4] rfl <| LX.nt <| CX.sr <| LX.ms 3 rfl <| LX.p (Y.fieldAddr0 Pb.fo42_3 rfl) rfl <| LX.p (Y.ldB 0 Pa.one3 rfl rfl rfl) rfl <| LX.p (Y.sub rfl rfl (by omega)) rfl <| LX.mv rfl <| LX.p (Y.fieldAddr0 Pb.fo42_3 rfl) rfl <| LX.storeB 0 Pb.sz3 rfl rfl rfl rfl rfl rfl rfl rfl <| LX.wq (PWl bp al L cl (RS.dp s8 (s8.deep - 1)) m8 fr) rfl ?_
    have hR11 : Rn L.length s (RS.dp s8 (s8.deep - 1)) ([r8]) 2 (-2) := hR9.down (by show s.deep + 1 ≤ s8.deep; omega)
    refine LX.su [0, 2, 3, 4] rfl <| LX.nt <| CX.sr <| LX.ms 3 rfl <| LX.buildSlice (e := 3) (size := 1) rfl rfl (fun _ => by kernel_rfl) rfl dc rfl rfl rfl ?_
    intro gt12
    refine LX.wq (Ri (some gt12) 1 ([r8]) :: PWl bp al L cl (RS.dp s8 (s8.deep - 1)) m8 fr) rfl <| LX.call (put_c (fr := fr) (g := (some gt12)) (c := 1) (ks := [r8]) (op := 16) (pos := t1.pos) (x := ([] : List UInt8)) (RS.dp s8 (s8.deep - 1)) m8 hn8 (fun h0 => by have h1 : ((s8.ns).length : Int) + 2 * s.at_ ≤ s.ns.length + 2 * ((s8.at_ : Nat) : Int) + (-2) := hR11.few h0; have h2 := hs.few (hR11.bad h0); have h3 := hK.len; have h4 : s8.at_ < L.length := hR11.lt; show (s8.ns).length ≤ 1000000; omega) (by (simp only [List.length_cons, List.length_nil, List.length_append]; omega)) ((AllI.cons as_ AllI.nil)) (by (unfold inI; omega)) as_) Pd.en16 rfl rfl rfl rfl rfl ?_
    rintro ⟨r13, s13, m13⟩
    refine LX.have fun ⟨hri13, hp13, hn13⟩ => ?_
    try dsimp only at hri13 hp13 hn13 ⊢
    have hR14 : Rn L.length s s13 ([r13]) 2 (-1) := hR11.put (us := ([] : List Int)) (ks := [r8]) hp13 pm
    have hch15 : s8.at_ ≤ s13.at_ := Nat.le_of_eq hp13.eqs.1.symm
    have hle15 : s.at_ < s13.at_ := by omega
    have hlt15 : s13.at_ < L.length := hR14.lt
    have hde15 : (s8.deep - 1) ≤ s13.deep := Int.le_of_eq hp13.eqs.2.1.symm
    have hdd15 : s13.deep ≤ 60 := hR14.d1
    refine LX.mv rfl <| LX.su [0, 2] rfl <| LX.nt <| CX.ret <| PX.thenR <| PX.ret1 (by simp) Try.results73 rfl ?_
    exact fun w hw => ⟨(r13, s13, m13), rfl, ⟨as_, hR14.wk dc dc, hn13⟩, hw⟩
  try simp at hb2
  refine CX.skip <| PX.thenN <| CX.sr <| LX.mv rfl ?_
  have hk16 : Sk L.length s := hs.next hR dc
  refine LX.call (h_primary s m fr hk16 hn (by show L.length - s.at_ ≤ N; omega)) Pd.en60 rfl rfl rfl rfl rfl ?_
  rintro ⟨r16, s16, m16⟩
  refine LX.have fun ⟨hri16, hr16, hn16⟩ => ?_
  try dsimp only at hri16 hr16 hn16 ⊢
  have hR17 : Rn L.length s s16 ([r16]) 1 (0) := hR.trans hr16
  have hch18 : s.at_ ≤ s16.at_ := hr16.le
  have hle18 : s.at_ ≤ s16.at_ := by omega
  have hlt18 : s16.at_ < L.length := hR17.lt
  have hde18 : s.deep ≤ s16.deep := hr16.d0
  have hdd18 : s16.deep ≤ 60 := hR17.d1
  have hav16 : s16.code = 0 → s.at_ + 1 ≤ s16.at_ := hr16.adv
  refine LX.mv rfl <| LX.su [2] rfl <| LX.nt <| CX.ret <| PX.ret1 (by simp) Try.results73 rfl ?_
  exact fun w hw => ⟨(r16, s16, m16), rfl, ⟨as_, hR17.wk dc dc, hn16⟩, hw⟩
theorem sum_c {w0 : World} {base : Nat} {bp : Nat} {al : Option Addr} {cl : Nat} {L : List Go.Pa.Tk} (hL : SlAt 3 tokA (Lies w0 base) al L) (hK : Tok6 L) {N : Nat} (h_product : (∀ (s : RS) (m : Mm) (fr : List It), Sk L.length s → NdsR 3 m.rs m.cells s.ns → L.length - s.at_ ≤ N → PF 72 [.pointer (some ⟨bp, 0, none⟩)] w0 base bp al cl L s m fr))  : (∀ (s : RS) (m : Mm) (fr : List It), Sk L.length s → NdsR 3 m.rs m.cells s.ns → L.length - s.at_ ≤ N → PF 70 [.pointer (some ⟨bp, 0, none⟩)] w0 base bp al cl L s m fr) := by
  intro s m fr hs hn hN
  have hR := Rn.refl hs
  have hle : s.at_ ≤ s.at_ := Nat.le_refl _
  have hd0 := hs.d0
  have hd1 := hs.d1
  have hlt := hs.lt
  have hln0 := hK.len
  have hN0 : 0 < N := by omega
  refine FnC.of_body (fn := Try.f70) [(0, _)] Try.func70 rfl Try.ntmps70 rfl ⟨rfl, trivial⟩ ?_
  refine CX.sr <| LX.mv rfl <| LX.su [0, 2] rfl <| LX.nt <| CX.sr <| LX.mv rfl ?_
  have hk1 : Sk L.length s := hs.next hR dc
  refine LX.call (h_product s m fr hk1 hn (by show L.length - s.at_ ≤ N; omega)) Pd.en72 rfl rfl rfl rfl rfl ?_
  rintro ⟨r1, s1, m1⟩
  refine LX.have fun ⟨hri1, hr1, hn1⟩ => ?_
  try dsimp only at hri1 hr1 hn1 ⊢
  have hR2 : Rn L.length s s1 ([r1]) 1 (0) := hR.trans hr1
  have hch3 : s.at_ ≤ s1.at_ := hr1.le
  have hle3 : s.at_ ≤ s1.at_ := by omega
  have hlt3 : s1.at_ < L.length := hR2.lt
  have hde3 : s.deep ≤ s1.deep := hr1.d0
  have hdd3 : s1.deep ≤ 60 := hR2.d1
  have hav1 : s1.code = 0 → s.at_ + 1 ≤ s1.at_ := hr1.adv
  refine LX.mv rfl <| LX.su [0, 2, 3] rfl <| LX.nt <| CX.seq <| CX.block <| CX.loop (fun z : Int × RS × Mm => [(0, .pointer (some ⟨bp, 0, none⟩)), (3, .int .i64 z.1)]) (fun (z : Int × RS × Mm) w => (inI z.1 ∧ Rn L.length s z.2.1 [z.1] 1 (0) ∧ NdsR 3 z.2.2.rs z.2.2.cells z.2.1.ns) ∧ WA w0 base (PWl bp al L cl z.2.1 z.2.2 fr) w) (fun z => L.length - z.2.1.at_) (r1, s1, m1) ⟨rfl, rfl, trivial⟩ (fun w hw => ⟨⟨by assumption, hR2.wk dc dc, hn1⟩, hw⟩) ?_
  rintro ⟨r4, s4, m4⟩
  refine CX.have fun ⟨hri4, hR4, hn4⟩ => ?_
  try dsimp only at hri4 hR4 hn4 ⊢
  have hle4 : s.at_ ≤ s4.at_ := hR4.le
  have hlt4 := hR4.lt
  have hde4 := hR4.d0
  have hdd4 := hR4.d1
  refine CX.seq <| CX.sr ?_
  obtain ⟨t5, ht5⟩ : ∃ t, L[s4.at_]? = some t := ⟨_, List.getElem?_eq_getElem (show s4.at_ < L.length from hR4.lt)⟩
  have htk5 := (tok_in hL ht5).1
  have htp5 := (tok_in hL ht5).2
  refine LX.mv rfl <| LX.callQ (show FnQ Try.prog 12 #[.pointer (some ⟨bp, 0, none⟩)] _ (.bool (decide (s4.code ≠ 0))) from bad_q (s := s4) (m := m4) (fun w hw => blkL hw (i := 0) rfl)) Pb.en12 rfl rfl rfl rfl rfl <| LX.p (Y.not rfl) rfl <| LX.mv rfl <| LX.su [0, 3, 12] rfl ?_
  apply LX.joinAnd 7 19 12 rfl
  · intro hb1
    refine LX.gT rfl rfl rfl hb1 (Y.move rfl) rfl rfl <| LX.callQT rfl rfl rfl hb1 (is_q (s := s4) (m := m4) ht5 ([43] : List UInt8) (fun w hw => blkL hw (i := 0) rfl) (fun w hw => hL.push hw)) Pb.en32 rfl rfl rfl rfl <| LX.gT rfl rfl rfl hb1 (Y.move rfl) rfl rfl <| LX.su [0, 3, 12, 15] rfl ?_
    apply LX.joinOr 3 18 15 rfl
    · intro hb2
      refine LX.gF rfl rfl rfl hb2 rfl rfl <| LX.gF rfl rfl rfl hb2 rfl rfl <| LX.gT rfl rfl rfl hb1 (Y.pickT rfl hb2 rfl) rfl rfl ?_
      exact LX.left ⟨rfl, rfl, rfl, rfl, rfl, trivial⟩
    · intro hb2
      refine LX.gT rfl rfl rfl hb2 (Y.move rfl) rfl rfl <| LX.callQT rfl rfl rfl hb2 (is_q (s := s4) (m := m4) ht5 ([45] : List UInt8) (fun w hw => blkL hw (i := 0) rfl) (fun w hw => hL.push hw)) Pb.en32 rfl rfl rfl rfl <| LX.gT rfl rfl rfl hb1 (Y.pickF rfl hb2 rfl) rfl rfl ?_
      exact LX.left ⟨rfl, rfl, rfl, rfl, rfl, trivial⟩
    refine LX.p (Y.pickT rfl hb1 rfl) rfl ?_
    exact LX.left ⟨rfl, rfl, rfl, rfl, trivial⟩
  · intro hb1
    refine LX.gF rfl rfl rfl hb1 rfl rfl <| LX.gF rfl rfl rfl hb1 rfl rfl <| LX.gF rfl rfl rfl hb1 rfl rfl <| LX.gU rfl rfl rfl rfl rfl <| LX.gU rfl rfl rfl rfl rfl <| LX.gF rfl rfl rfl hb1 rfl rfl <| LX.p (Y.pickF rfl hb1 rfl) rfl ?_
    exact LX.left ⟨rfl, rfl, rfl, rfl, trivial⟩
  refine LX.su [0, 3, 19] rfl <| LX.nt ?_
  refine CX.cond rfl (fun hb3 => ?_) (fun hb3 => ?_)
  · try simp at hb3
    refine CX.skip <| PX.thenN <| CX.block <| CX.sr <| LX.mv rfl <| LX.su [0, 3, 4] rfl <| LX.nt <| CX.seq <| CX.sr <| LX.mv rfl <| LX.callQ (is_q (s := s4) (m := m4) ht5 ([45] : List UInt8) (fun w hw => blkL hw (i := 0) rfl) (fun w hw => hL.push hw)) Pb.en32 rfl rfl rfl rfl rfl <| LX.su [0, 3, 4, 21] rfl <| LX.nt ?_
    refine CX.cond rfl (fun hb4 => ?_) (fun hb4 => ?_)
    · try simp at hb4
      refine CX.region <| LX.mv rfl <| LX.su [0, 3, 4] rfl <| LX.nt <| CX.sr <| LX.mv rfl <| LX.callQ (now_q (s := s4) (m := m4) ht5 (fun w hw => blkL hw (i := 0) rfl) (fun w hw => hL.push hw)) Pa.en13 rfl rfl rfl rfl rfl <| LX.p (Y.field (v := .int .i64 t5.pos) rfl (fun _ => by kernel_rfl)) rfl <| LX.mv rfl <| LX.su [0, 3, 4, 5] rfl <| LX.nt <| CX.sr ?_
      have hgo6 : s4.at_ + 1 < L.length := by exact hK.fin _ t5 ht5 (by (intro h8; simp_all [isS]; done))
      have hln6 := hK.len
      refine LX.ms 3 rfl <| LX.p (Y.fieldAddr0 Pa.fo42_1 rfl) rfl <| LX.p (Y.ldB 0 Pa.one3 rfl rfl rfl) rfl <| LX.p (Y.addN rfl rfl (by (simp only []; omega))) rfl <| LX.mv rfl <| LX.p (Y.fieldAddr0 Pa.fo42_1 rfl) rfl <| LX.storeB 0 Pb.sz3 rfl rfl rfl rfl rfl rfl rfl rfl <| LX.wq (PWl bp al L cl (RS.go s4 1) m4 fr) rfl ?_
      have hR7 : Rn L.length s (RS.go s4 1) ([r4]) 2 (-2) := hR4.go hgo6
      have hle8 : s.at_ < (s4.at_ + 1) := by have h9 : s.at_ ≤ s4.at_ := hR4.le; omega
      have hlt8 : (s4.at_ + 1) < L.length := hgo6
      refine LX.su [0, 3, 4, 5] rfl <| LX.nt <| CX.sr <| LX.mv rfl ?_
      have hk9 : Sk L.length (RS.go s4 1) := hs.next hR7 dc
      refine LX.call (h_product (RS.go s4 1) m4 fr hk9 hn4 (by show L.length - (s4.at_ + 1) ≤ N; omega)) Pd.en72 rfl rfl rfl rfl rfl ?_
      rintro ⟨r9, s9, m9⟩
      refine LX.have fun ⟨hri9, hr9, hn9⟩ => ?_
      try dsimp only at hri9 hr9 hn9 ⊢
      have hR10 : Rn L.length s s9 ([r4] ++ [r9]) 3 (-2) := hR7.trans hr9
      have hch11 : (s4.at_ + 1) ≤ s9.at_ := hr9.le
      have hle11 : s.at_ < s9.at_ := by omega
      have hlt11 : s9.at_ < L.length := hR10.lt
      have hde11 : s4.deep ≤ s9.deep := hr9.d0
      have hdd11 : s9.deep ≤ 60 := hR10.d1
      have hav9 : s9.code = 0 → (s4.at_ + 1) + 1 ≤ s9.at_ := hr9.adv
      refine LX.mv rfl <| LX.su [0, 3, 4, 5, 6] rfl <| LX.nt <| CX.region <| LX.ms 5 rfl <| LX.buildSlice (e := 3) (size := 1) rfl rfl (fun _ => by kernel_rfl) rfl dc rfl rfl rfl ?_
      intro gt12
      refine LX.wq (Ri (some gt12) 2 ([r4, r9]) :: PWl bp al L cl s9 m9 fr) rfl <| LX.call (put_c (fr := fr) (g := (some gt12)) (c := 2) (ks := [r4, r9]) (op := 22) (pos := t5.pos) (x := ([] : List UInt8)) s9 m9 hn9 (fun h0 => by have h1 : ((s9.ns).length : Int) + 2 * s.at_ ≤ s.ns.length + 2 * ((s9.at_ : Nat) : Int) + (-2) := hR10.few h0; have h2 := hs.few (hR10.bad h0); have h3 := hK.len; have h4 : s9.at_ < L.length := hR10.lt; show (s9.ns).length ≤ 1000000; omega) (by (simp only [List.length_cons, List.length_nil, List.length_append]; omega)) ((AllI.cons as_ (AllI.cons as_ AllI.nil))) (by (unfold inI; omega)) as_) Pd.en16 rfl rfl rfl rfl rfl ?_
      rintro ⟨r13, s13, m13⟩
      refine LX.have fun ⟨hri13, hp13, hn13⟩ => ?_
      try dsimp only at hri13 hp13 hn13 ⊢
      have hR14 : Rn L.length s s13 ([r13]) 3 (-1) := hR10.put (us := ([] : List Int)) (ks := [r4, r9]) hp13 pm
      have hch15 : s9.at_ ≤ s13.at_ := Nat.le_of_eq hp13.eqs.1.symm
      have hle15 : s.at_ < s13.at_ := by omega
      have hlt15 : s13.at_ < L.length := hR14.lt
      have hde15 : s9.deep ≤ s13.deep := Int.le_of_eq hp13.eqs.2.1.symm
      have hdd15 : s13.deep ≤ 60 := hR14.d1
      refine LX.mv rfl <| LX.su [0, 3] rfl <| LX.next <| PX.blockN ?_
      exact PX.again (i := (r4, s4, m4)) (r13, s13, m13) (by show L.length - s13.at_ < L.length - s4.at_; omega) ⟨rfl, rfl, trivial⟩ (fun w hw => ⟨⟨by assumption, hR14.wk dc dc, hn13⟩, hw⟩)
    try simp at hb4
    refine CX.skip <| PX.thenN <| CX.sr <| LX.mv rfl <| LX.callQ (now_q (s := s4) (m := m4) ht5 (fun w hw => blkL hw (i := 0) rfl) (fun w hw => hL.push hw)) Pa.en13 rfl rfl rfl rfl rfl <| LX.p (Y.field (v := .int .i64 t5.pos) rfl (fun _ => by kernel_rfl)) rfl <| LX.mv rfl <| LX.su [0, 3, 4, 5] rfl <| LX.nt <| CX.sr ?_
    have hgo16 : s4.at_ + 1 < L.length := by exact hK.fin _ t5 ht5 (by (intro h8; simp_all [isS]; done))
    have hln16 := hK.len
    refine LX.ms 3 rfl <| LX.p (Y.fieldAddr0 Pa.fo42_1 rfl) rfl <| LX.p (Y.ldB 0 Pa.one3 rfl rfl rfl) rfl <| LX.p (Y.addN rfl rfl (by (simp only []; omega))) rfl <| LX.mv rfl <| LX.p (Y.fieldAddr0 Pa.fo42_1 rfl) rfl <| LX.storeB 0 Pb.sz3 rfl rfl rfl rfl rfl rfl rfl rfl <| LX.wq (PWl bp al L cl (RS.go s4 1) m4 fr) rfl ?_
    have hR17 : Rn L.length s (RS.go s4 1) ([r4]) 2 (-2) := hR4.go hgo16
    have hle18 : s.at_ < (s4.at_ + 1) := by have h9 : s.at_ ≤ s4.at_ := hR4.le; omega
    have hlt18 : (s4.at_ + 1) < L.length := hgo16
    refine LX.su [0, 3, 4, 5] rfl <| LX.nt <| CX.sr <| LX.mv rfl ?_
    have hk19 : Sk L.length (RS.go s4 1) := hs.next hR17 dc
    refine LX.call (h_product (RS.go s4 1) m4 fr hk19 hn4 (by show L.length - (s4.at_ + 1) ≤ N; omega)) Pd.en72 rfl rfl rfl rfl rfl ?_
    rintro ⟨r19, s19, m19⟩
    refine LX.have fun ⟨hri19, hr19, hn19⟩ => ?_
    try dsimp only at hri19 hr19 hn19 ⊢
    have hR20 : Rn L.length s s19 ([r4] ++ [r19]) 3 (-2) := hR17.trans hr19
    have hch21 : (s4.at_ + 1) ≤ s19.at_ := hr19.le
    have hle21 : s.at_ < s19.at_ := by omega
    have hlt21 : s19.at_ < L.length := hR20.lt
    have hde21 : s4.deep ≤ s19.deep := hr19.d0
    have hdd21 : s19.deep ≤ 60 := hR20.d1
    have hav19 : s19.code = 0 → (s4.at_ + 1) + 1 ≤ s19.at_ := hr19.adv
    refine LX.mv rfl <| LX.su [0, 3, 4, 5, 6] rfl <| LX.nt <| CX.region <| LX.ms 5 rfl <| LX.buildSlice (e := 3) (size := 1) rfl rfl (fun _ => by kernel_rfl) rfl dc rfl rfl rfl ?_
    intro gt22
    refine LX.wq (Ri (some gt22) 2 ([r4, r19]) :: PWl bp al L cl s19 m19 fr) rfl <| LX.call (put_c (fr := fr) (g := (some gt22)) (c := 2) (ks := [r4, r19]) (op := 21) (pos := t5.pos) (x := ([] : List UInt8)) s19 m19 hn19 (fun h0 => by have h1 : ((s19.ns).length : Int) + 2 * s.at_ ≤ s.ns.length + 2 * ((s19.at_ : Nat) : Int) + (-2) := hR20.few h0; have h2 := hs.few (hR20.bad h0); have h3 := hK.len; have h4 : s19.at_ < L.length := hR20.lt; show (s19.ns).length ≤ 1000000; omega) (by (simp only [List.length_cons, List.length_nil, List.length_append]; omega)) ((AllI.cons as_ (AllI.cons as_ AllI.nil))) (by (unfold inI; omega)) as_) Pd.en16 rfl rfl rfl rfl rfl ?_
    rintro ⟨r23, s23, m23⟩
    refine LX.have fun ⟨hri23, hp23, hn23⟩ => ?_
    try dsimp only at hri23 hp23 hn23 ⊢
    have hR24 : Rn L.length s s23 ([r23]) 3 (-1) := hR20.put (us := ([] : List Int)) (ks := [r4, r19]) hp23 pm
    have hch25 : s19.at_ ≤ s23.at_ := Nat.le_of_eq hp23.eqs.1.symm
    have hle25 : s.at_ < s23.at_ := by omega
    have hlt25 : s23.at_ < L.length := hR24.lt
    have hde25 : s19.deep ≤ s23.deep := Int.le_of_eq hp23.eqs.2.1.symm
    have hdd25 : s23.deep ≤ 60 := hR24.d1
    refine LX.mv rfl <| LX.su [0, 3] rfl <| LX.next <| PX.blockN ?_
    exact PX.again (i := (r4, s4, m4)) (r23, s23, m23) (by show L.length - s23.at_ < L.length - s4.at_; omega) ⟨rfl, rfl, trivial⟩ (fun w hw => ⟨⟨by assumption, hR24.wk dc dc, hn23⟩, hw⟩)
  try simp at hb3
  refine CX.exit <| PX.thenE <| PX.thenE <| PX.blockE <| PX.thenN <| CX.sr <| LX.ms 2 rfl <| LX.su [2] rfl <| LX.nt <| CX.ret <| PX.ret1 (by simp) Try.results70 rfl ?_
  exact fun w hw => ⟨(r4, s4, m4), rfl, ⟨as_, hR4.wk dc dc, hn4⟩, hw⟩
theorem product_c {w0 : World} {base : Nat} {bp : Nat} {al : Option Addr} {cl : Nat} {L : List Go.Pa.Tk} (hL : SlAt 3 tokA (Lies w0 base) al L) (hK : Tok6 L) {N : Nat} (h_unary : (∀ (s : RS) (m : Mm) (fr : List It), Sk L.length s → NdsR 3 m.rs m.cells s.ns → L.length - s.at_ ≤ N → PF 73 [.pointer (some ⟨bp, 0, none⟩)] w0 base bp al cl L s m fr))  : (∀ (s : RS) (m : Mm) (fr : List It), Sk L.length s → NdsR 3 m.rs m.cells s.ns → L.length - s.at_ ≤ N → PF 72 [.pointer (some ⟨bp, 0, none⟩)] w0 base bp al cl L s m fr) := by
  intro s m fr hs hn hN
  have hR := Rn.refl hs
  have hle : s.at_ ≤ s.at_ := Nat.le_refl _
  have hd0 := hs.d0
  have hd1 := hs.d1
  have hlt := hs.lt
  have hln0 := hK.len
  have hN0 : 0 < N := by omega
  refine FnC.of_body (fn := Try.f72) [(0, _)] Try.func72 rfl Try.ntmps72 rfl ⟨rfl, trivial⟩ ?_
  refine CX.sr <| LX.mv rfl <| LX.su [0, 2] rfl <| LX.nt <| CX.sr <| LX.mv rfl ?_
  have hk1 : Sk L.length s := hs.next hR dc
  refine LX.call (h_unary s m fr hk1 hn (by show L.length - s.at_ ≤ N; omega)) Pd.en73 rfl rfl rfl rfl rfl ?_
  rintro ⟨r1, s1, m1⟩
  refine LX.have fun ⟨hri1, hr1, hn1⟩ => ?_
  try dsimp only at hri1 hr1 hn1 ⊢
  have hR2 : Rn L.length s s1 ([r1]) 1 (0) := hR.trans hr1
  have hch3 : s.at_ ≤ s1.at_ := hr1.le
  have hle3 : s.at_ ≤ s1.at_ := by omega
  have hlt3 : s1.at_ < L.length := hR2.lt
  have hde3 : s.deep ≤ s1.deep := hr1.d0
  have hdd3 : s1.deep ≤ 60 := hR2.d1
  have hav1 : s1.code = 0 → s.at_ + 1 ≤ s1.at_ := hr1.adv
  refine LX.mv rfl <| LX.su [0, 2, 3] rfl <| LX.nt <| CX.seq <| CX.block <| CX.loop (fun z : Int × RS × Mm => [(0, .pointer (some ⟨bp, 0, none⟩)), (3, .int .i64 z.1)]) (fun (z : Int × RS × Mm) w => (inI z.1 ∧ Rn L.length s z.2.1 [z.1] 1 (0) ∧ NdsR 3 z.2.2.rs z.2.2.cells z.2.1.ns) ∧ WA w0 base (PWl bp al L cl z.2.1 z.2.2 fr) w) (fun z => L.length - z.2.1.at_) (r1, s1, m1) ⟨rfl, rfl, trivial⟩ (fun w hw => ⟨⟨by assumption, hR2.wk dc dc, hn1⟩, hw⟩) ?_
  rintro ⟨r4, s4, m4⟩
  refine CX.have fun ⟨hri4, hR4, hn4⟩ => ?_
  try dsimp only at hri4 hR4 hn4 ⊢
  have hle4 : s.at_ ≤ s4.at_ := hR4.le
  have hlt4 := hR4.lt
  have hde4 := hR4.d0
  have hdd4 := hR4.d1
  refine CX.seq <| CX.sr ?_
  obtain ⟨t5, ht5⟩ : ∃ t, L[s4.at_]? = some t := ⟨_, List.getElem?_eq_getElem (show s4.at_ < L.length from hR4.lt)⟩
  have htk5 := (tok_in hL ht5).1
  have htp5 := (tok_in hL ht5).2
  refine LX.mv rfl <| LX.callQ (show FnQ Try.prog 12 #[.pointer (some ⟨bp, 0, none⟩)] _ (.bool (decide (s4.code ≠ 0))) from bad_q (s := s4) (m := m4) (fun w hw => blkL hw (i := 0) rfl)) Pb.en12 rfl rfl rfl rfl rfl <| LX.p (Y.not rfl) rfl <| LX.mv rfl <| LX.su [0, 3, 12] rfl ?_
  apply LX.joinAnd 11 23 12 rfl
  · intro hb1
    refine LX.gT rfl rfl rfl hb1 (Y.move rfl) rfl rfl <| LX.callQT rfl rfl rfl hb1 (is_q (s := s4) (m := m4) ht5 ([42] : List UInt8) (fun w hw => blkL hw (i := 0) rfl) (fun w hw => hL.push hw)) Pb.en32 rfl rfl rfl rfl <| LX.gT rfl rfl rfl hb1 (Y.move rfl) rfl rfl <| LX.su [0, 3, 12, 15] rfl ?_
    apply LX.joinOr 3 18 15 rfl
    · intro hb2
      refine LX.gF rfl rfl rfl hb2 rfl rfl <| LX.gF rfl rfl rfl hb2 rfl rfl <| LX.gT rfl rfl rfl hb1 (Y.pickT rfl hb2 rfl) rfl rfl ?_
      exact LX.left ⟨rfl, rfl, rfl, rfl, rfl, trivial⟩
    · intro hb2
      refine LX.gT rfl rfl rfl hb2 (Y.move rfl) rfl rfl <| LX.callQT rfl rfl rfl hb2 (is_q (s := s4) (m := m4) ht5 ([47, 47] : List UInt8) (fun w hw => blkL hw (i := 0) rfl) (fun w hw => hL.push hw)) Pb.en32 rfl rfl rfl rfl <| LX.gT rfl rfl rfl hb1 (Y.pickF rfl hb2 rfl) rfl rfl ?_
      exact LX.left ⟨rfl, rfl, rfl, rfl, rfl, trivial⟩
    refine LX.gT rfl rfl rfl hb1 (Y.move rfl) rfl rfl <| LX.su [0, 3, 12, 19] rfl ?_
    apply LX.joinOr 3 22 19 rfl
    · intro hb3
      refine LX.gF rfl rfl rfl hb3 rfl rfl <| LX.gF rfl rfl rfl hb3 rfl rfl <| LX.gT rfl rfl rfl hb1 (Y.pickT rfl hb3 rfl) rfl rfl ?_
      exact LX.left ⟨rfl, rfl, rfl, rfl, rfl, trivial⟩
    · intro hb3
      refine LX.gT rfl rfl rfl hb3 (Y.move rfl) rfl rfl <| LX.callQT rfl rfl rfl hb3 (is_q (s := s4) (m := m4) ht5 ([37] : List UInt8) (fun w hw => blkL hw (i := 0) rfl) (fun w hw => hL.push hw)) Pb.en32 rfl rfl rfl rfl <| LX.gT rfl rfl rfl hb1 (Y.pickF rfl hb3 rfl) rfl rfl ?_
      exact LX.left ⟨rfl, rfl, rfl, rfl, rfl, trivial⟩
    refine LX.p (Y.pickT rfl hb1 rfl) rfl ?_
    exact LX.left ⟨rfl, rfl, rfl, rfl, trivial⟩
  · intro hb1
    refine LX.gF rfl rfl rfl hb1 rfl rfl <| LX.gF rfl rfl rfl hb1 rfl rfl <| LX.gF rfl rfl rfl hb1 rfl rfl <| LX.gU rfl rfl rfl rfl rfl <| LX.gU rfl rfl rfl rfl rfl <| LX.gF rfl rfl rfl hb1 rfl rfl <| LX.gF rfl rfl rfl hb1 rfl rfl <| LX.gU rfl rfl rfl rfl rfl <| LX.gU rfl rfl rfl rfl rfl <| LX.gF rfl rfl rfl hb1 rfl rfl <| LX.p (Y.pickF rfl hb1 rfl) rfl ?_
    exact LX.left ⟨rfl, rfl, rfl, rfl, trivial⟩
  refine LX.su [0, 3, 23] rfl <| LX.nt ?_
  refine CX.cond rfl (fun hb4 => ?_) (fun hb4 => ?_)
  · try simp at hb4
    refine CX.skip <| PX.thenN <| CX.block <| CX.sr <| LX.mv rfl <| LX.su [0, 3, 4] rfl <| LX.nt <| CX.seq <| CX.sr <| LX.mv rfl <| LX.callQ (is_q (s := s4) (m := m4) ht5 ([47, 47] : List UInt8) (fun w hw => blkL hw (i := 0) rfl) (fun w hw => hL.push hw)) Pb.en32 rfl rfl rfl rfl rfl <| LX.su [0, 3, 4, 25] rfl <| LX.nt ?_
    refine CX.cond rfl (fun hb5 => ?_) (fun hb5 => ?_)
    · try simp at hb5
      refine CX.region <| LX.mv rfl <| LX.su [0, 3, 4] rfl <| LX.nt <| CX.seq <| CX.sr <| LX.mv rfl <| LX.callQ (is_q (s := s4) (m := m4) ht5 ([37] : List UInt8) (fun w hw => blkL hw (i := 0) rfl) (fun w hw => hL.push hw)) Pb.en32 rfl rfl rfl rfl rfl <| LX.su [0, 3, 4, 27] rfl <| LX.nt ?_
      refine CX.cond rfl (fun hb6 => ?_) (fun hb6 => ?_)
      · try simp at hb6
        refine CX.region <| LX.mv rfl <| LX.su [0, 3, 4] rfl <| LX.nt <| CX.sr <| LX.mv rfl <| LX.callQ (now_q (s := s4) (m := m4) ht5 (fun w hw => blkL hw (i := 0) rfl) (fun w hw => hL.push hw)) Pa.en13 rfl rfl rfl rfl rfl <| LX.p (Y.field (v := .int .i64 t5.pos) rfl (fun _ => by kernel_rfl)) rfl <| LX.mv rfl <| LX.su [0, 3, 4, 5] rfl <| LX.nt <| CX.sr ?_
        have hgo6 : s4.at_ + 1 < L.length := by exact hK.fin _ t5 ht5 (by (intro h8; simp_all [isS]; done))
        have hln6 := hK.len
        refine LX.ms 3 rfl <| LX.p (Y.fieldAddr0 Pa.fo42_1 rfl) rfl <| LX.p (Y.ldB 0 Pa.one3 rfl rfl rfl) rfl <| LX.p (Y.addN rfl rfl (by (simp only []; omega))) rfl <| LX.mv rfl <| LX.p (Y.fieldAddr0 Pa.fo42_1 rfl) rfl <| LX.storeB 0 Pb.sz3 rfl rfl rfl rfl rfl rfl rfl rfl <| LX.wq (PWl bp al L cl (RS.go s4 1) m4 fr) rfl ?_
        have hR7 : Rn L.length s (RS.go s4 1) ([r4]) 2 (-2) := hR4.go hgo6
        have hle8 : s.at_ < (s4.at_ + 1) := by have h9 : s.at_ ≤ s4.at_ := hR4.le; omega
        have hlt8 : (s4.at_ + 1) < L.length := hgo6
        refine LX.su [0, 3, 4, 5] rfl <| LX.nt <| CX.sr <| LX.mv rfl ?_
        have hk9 : Sk L.length (RS.go s4 1) := hs.next hR7 dc
        refine LX.call (h_unary (RS.go s4 1) m4 fr hk9 hn4 (by show L.length - (s4.at_ + 1) ≤ N; omega)) Pd.en73 rfl rfl rfl rfl rfl ?_
        rintro ⟨r9, s9, m9⟩
        refine LX.have fun ⟨hri9, hr9, hn9⟩ => ?_
        try dsimp only at hri9 hr9 hn9 ⊢
        have hR10 : Rn L.length s s9 ([r4] ++ [r9]) 3 (-2) := hR7.trans hr9
        have hch11 : (s4.at_ + 1) ≤ s9.at_ := hr9.le
        have hle11 : s.at_ < s9.at_ := by omega
        have hlt11 : s9.at_ < L.length := hR10.lt
        have hde11 : s4.deep ≤ s9.deep := hr9.d0
        have hdd11 : s9.deep ≤ 60 := hR10.d1
        have hav9 : s9.code = 0 → (s4.at_ + 1) + 1 ≤ s9.at_ := hr9.adv
        refine LX.mv rfl <| LX.su [0, 3, 4, 5, 6] rfl <| LX.nt <| CX.region <| LX.ms 5 rfl <| LX.buildSlice (e := 3) (size := 1) rfl rfl (fun _ => by kernel_rfl) rfl dc rfl rfl rfl ?_
        intro gt12
        refine LX.wq (Ri (some gt12) 2 ([r4, r9]) :: PWl bp al L cl s9 m9 fr) rfl <| LX.call (put_c (fr := fr) (g := (some gt12)) (c := 2) (ks := [r4, r9]) (op := 25) (pos := t5.pos) (x := ([] : List UInt8)) s9 m9 hn9 (fun h0 => by have h1 : ((s9.ns).length : Int) + 2 * s.at_ ≤ s.ns.length + 2 * ((s9.at_ : Nat) : Int) + (-2) := hR10.few h0; have h2 := hs.few (hR10.bad h0); have h3 := hK.len; have h4 : s9.at_ < L.length := hR10.lt; show (s9.ns).length ≤ 1000000; omega) (by (simp only [List.length_cons, List.length_nil, List.length_append]; omega)) ((AllI.cons as_ (AllI.cons as_ AllI.nil))) (by (unfold inI; omega)) as_) Pd.en16 rfl rfl rfl rfl rfl ?_
        rintro ⟨r13, s13, m13⟩
        refine LX.have fun ⟨hri13, hp13, hn13⟩ => ?_
        try dsimp only at hri13 hp13 hn13 ⊢
        have hR14 : Rn L.length s s13 ([r13]) 3 (-1) := hR10.put (us := ([] : List Int)) (ks := [r4, r9]) hp13 pm
        have hch15 : s9.at_ ≤ s13.at_ := Nat.le_of_eq hp13.eqs.1.symm
        have hle15 : s.at_ < s13.at_ := by omega
        have hlt15 : s13.at_ < L.length := hR14.lt
        have hde15 : s9.deep ≤ s13.deep := Int.le_of_eq hp13.eqs.2.1.symm
        have hdd15 : s13.deep ≤ 60 := hR14.d1
        refine LX.mv rfl <| LX.su [0, 3] rfl <| LX.next <| PX.blockN ?_
        exact PX.again (i := (r4, s4, m4)) (r13, s13, m13) (by show L.length - s13.at_ < L.length - s4.at_; omega) ⟨rfl, rfl, trivial⟩ (fun w hw => ⟨⟨by assumption, hR14.wk dc dc, hn13⟩, hw⟩)
      try simp at hb6
      refine CX.skip <| PX.thenN <| CX.sr <| LX.mv rfl <| LX.callQ (now_q (s := s4) (m := m4) ht5 (fun w hw => blkL hw (i := 0) rfl) (fun w hw => hL.push hw)) Pa.en13 rfl rfl rfl rfl rfl <| LX.p (Y.field (v := .int .i64 t5.pos) rfl (fun _ => by kernel_rfl)) rfl <| LX.mv rfl <| LX.su [0, 3, 4, 5] rfl <| LX.nt <| CX.sr ?_
      have hgo16 : s4.at_ + 1 < L.length := by exact hK.fin _ t5 ht5 (by (intro h8; simp_all [isS]; done))
      have hln16 := hK.len
      refine LX.ms 3 rfl <| LX.p (Y.fieldAddr0 Pa.fo42_1 rfl) rfl <| LX.p (Y.ldB 0 Pa.one3 rfl rfl rfl) rfl <| LX.p (Y.addN rfl rfl (by (simp only []; omega))) rfl <| LX.mv rfl <| LX.p (Y.fieldAddr0 Pa.fo42_1 rfl) rfl <| LX.storeB 0 Pb.sz3 rfl rfl rfl rfl rfl rfl rfl rfl <| LX.wq (PWl bp al L cl (RS.go s4 1) m4 fr) rfl ?_
      have hR17 : Rn L.length s (RS.go s4 1) ([r4]) 2 (-2) := hR4.go hgo16
      have hle18 : s.at_ < (s4.at_ + 1) := by have h9 : s.at_ ≤ s4.at_ := hR4.le; omega
      have hlt18 : (s4.at_ + 1) < L.length := hgo16
      refine LX.su [0, 3, 4, 5] rfl <| LX.nt <| CX.sr <| LX.mv rfl ?_
      have hk19 : Sk L.length (RS.go s4 1) := hs.next hR17 dc
      refine LX.call (h_unary (RS.go s4 1) m4 fr hk19 hn4 (by show L.length - (s4.at_ + 1) ≤ N; omega)) Pd.en73 rfl rfl rfl rfl rfl ?_
      rintro ⟨r19, s19, m19⟩
      refine LX.have fun ⟨hri19, hr19, hn19⟩ => ?_
      try dsimp only at hri19 hr19 hn19 ⊢
      have hR20 : Rn L.length s s19 ([r4] ++ [r19]) 3 (-2) := hR17.trans hr19
      have hch21 : (s4.at_ + 1) ≤ s19.at_ := hr19.le
      have hle21 : s.at_ < s19.at_ := by omega
      have hlt21 : s19.at_ < L.length := hR20.lt
      have hde21 : s4.deep ≤ s19.deep := hr19.d0
      have hdd21 : s19.deep ≤ 60 := hR20.d1
      have hav19 : s19.code = 0 → (s4.at_ + 1) + 1 ≤ s19.at_ := hr19.adv
      refine LX.mv rfl <| LX.su [0, 3, 4, 5, 6] rfl <| LX.nt <| CX.region <| LX.ms 5 rfl <| LX.buildSlice (e := 3) (size := 1) rfl rfl (fun _ => by kernel_rfl) rfl dc rfl rfl rfl ?_
      intro gt22
      refine LX.wq (Ri (some gt22) 2 ([r4, r19]) :: PWl bp al L cl s19 m19 fr) rfl <| LX.call (put_c (fr := fr) (g := (some gt22)) (c := 2) (ks := [r4, r19]) (op := 24) (pos := t5.pos) (x := ([] : List UInt8)) s19 m19 hn19 (fun h0 => by have h1 : ((s19.ns).length : Int) + 2 * s.at_ ≤ s.ns.length + 2 * ((s19.at_ : Nat) : Int) + (-2) := hR20.few h0; have h2 := hs.few (hR20.bad h0); have h3 := hK.len; have h4 : s19.at_ < L.length := hR20.lt; show (s19.ns).length ≤ 1000000; omega) (by (simp only [List.length_cons, List.length_nil, List.length_append]; omega)) ((AllI.cons as_ (AllI.cons as_ AllI.nil))) (by (unfold inI; omega)) as_) Pd.en16 rfl rfl rfl rfl rfl ?_
      rintro ⟨r23, s23, m23⟩
      refine LX.have fun ⟨hri23, hp23, hn23⟩ => ?_
      try dsimp only at hri23 hp23 hn23 ⊢
      have hR24 : Rn L.length s s23 ([r23]) 3 (-1) := hR20.put (us := ([] : List Int)) (ks := [r4, r19]) hp23 pm
      have hch25 : s19.at_ ≤ s23.at_ := Nat.le_of_eq hp23.eqs.1.symm
      have hle25 : s.at_ < s23.at_ := by omega
      have hlt25 : s23.at_ < L.length := hR24.lt
      have hde25 : s19.deep ≤ s23.deep := Int.le_of_eq hp23.eqs.2.1.symm
      have hdd25 : s23.deep ≤ 60 := hR24.d1
      refine LX.mv rfl <| LX.su [0, 3] rfl <| LX.next <| PX.blockN ?_
      exact PX.again (i := (r4, s4, m4)) (r23, s23, m23) (by show L.length - s23.at_ < L.length - s4.at_; omega) ⟨rfl, rfl, trivial⟩ (fun w hw => ⟨⟨by assumption, hR24.wk dc dc, hn23⟩, hw⟩)
    try simp at hb5
    refine CX.skip <| PX.thenN <| CX.seq <| CX.sr <| LX.mv rfl <| LX.callQ (is_q (s := s4) (m := m4) ht5 ([37] : List UInt8) (fun w hw => blkL hw (i := 0) rfl) (fun w hw => hL.push hw)) Pb.en32 rfl rfl rfl rfl rfl <| LX.su [0, 3, 4, 27] rfl <| LX.nt ?_
    refine CX.cond rfl (fun hb7 => ?_) (fun hb7 => ?_)
    · try simp at hb7
      refine CX.region <| LX.mv rfl <| LX.su [0, 3, 4] rfl <| LX.nt <| CX.sr <| LX.mv rfl <| LX.callQ (now_q (s := s4) (m := m4) ht5 (fun w hw => blkL hw (i := 0) rfl) (fun w hw => hL.push hw)) Pa.en13 rfl rfl rfl rfl rfl <| LX.p (Y.field (v := .int .i64 t5.pos) rfl (fun _ => by kernel_rfl)) rfl <| LX.mv rfl <| LX.su [0, 3, 4, 5] rfl <| LX.nt <| CX.sr ?_
      have hgo26 : s4.at_ + 1 < L.length := by exact hK.fin _ t5 ht5 (by (intro h8; simp_all [isS]; done))
      have hln26 := hK.len
      refine LX.ms 3 rfl <| LX.p (Y.fieldAddr0 Pa.fo42_1 rfl) rfl <| LX.p (Y.ldB 0 Pa.one3 rfl rfl rfl) rfl <| LX.p (Y.addN rfl rfl (by (simp only []; omega))) rfl <| LX.mv rfl <| LX.p (Y.fieldAddr0 Pa.fo42_1 rfl) rfl <| LX.storeB 0 Pb.sz3 rfl rfl rfl rfl rfl rfl rfl rfl <| LX.wq (PWl bp al L cl (RS.go s4 1) m4 fr) rfl ?_
      have hR27 : Rn L.length s (RS.go s4 1) ([r4]) 2 (-2) := hR4.go hgo26
      have hle28 : s.at_ < (s4.at_ + 1) := by have h9 : s.at_ ≤ s4.at_ := hR4.le; omega
      have hlt28 : (s4.at_ + 1) < L.length := hgo26
      refine LX.su [0, 3, 4, 5] rfl <| LX.nt <| CX.sr <| LX.mv rfl ?_
      have hk29 : Sk L.length (RS.go s4 1) := hs.next hR27 dc
      refine LX.call (h_unary (RS.go s4 1) m4 fr hk29 hn4 (by show L.length - (s4.at_ + 1) ≤ N; omega)) Pd.en73 rfl rfl rfl rfl rfl ?_
      rintro ⟨r29, s29, m29⟩
      refine LX.have fun ⟨hri29, hr29, hn29⟩ => ?_
      try dsimp only at hri29 hr29 hn29 ⊢
      have hR30 : Rn L.length s s29 ([r4] ++ [r29]) 3 (-2) := hR27.trans hr29
      have hch31 : (s4.at_ + 1) ≤ s29.at_ := hr29.le
      have hle31 : s.at_ < s29.at_ := by omega
      have hlt31 : s29.at_ < L.length := hR30.lt
      have hde31 : s4.deep ≤ s29.deep := hr29.d0
      have hdd31 : s29.deep ≤ 60 := hR30.d1
      have hav29 : s29.code = 0 → (s4.at_ + 1) + 1 ≤ s29.at_ := hr29.adv
      refine LX.mv rfl <| LX.su [0, 3, 4, 5, 6] rfl <| LX.nt <| CX.region <| LX.ms 5 rfl <| LX.buildSlice (e := 3) (size := 1) rfl rfl (fun _ => by kernel_rfl) rfl dc rfl rfl rfl ?_
      intro gt32
      refine LX.wq (Ri (some gt32) 2 ([r4, r29]) :: PWl bp al L cl s29 m29 fr) rfl <| LX.call (put_c (fr := fr) (g := (some gt32)) (c := 2) (ks := [r4, r29]) (op := 25) (pos := t5.pos) (x := ([] : List UInt8)) s29 m29 hn29 (fun h0 => by have h1 : ((s29.ns).length : Int) + 2 * s.at_ ≤ s.ns.length + 2 * ((s29.at_ : Nat) : Int) + (-2) := hR30.few h0; have h2 := hs.few (hR30.bad h0); have h3 := hK.len; have h4 : s29.at_ < L.length := hR30.lt; show (s29.ns).length ≤ 1000000; omega) (by (simp only [List.length_cons, List.length_nil, List.length_append]; omega)) ((AllI.cons as_ (AllI.cons as_ AllI.nil))) (by (unfold inI; omega)) as_) Pd.en16 rfl rfl rfl rfl rfl ?_
      rintro ⟨r33, s33, m33⟩
      refine LX.have fun ⟨hri33, hp33, hn33⟩ => ?_
      try dsimp only at hri33 hp33 hn33 ⊢
      have hR34 : Rn L.length s s33 ([r33]) 3 (-1) := hR30.put (us := ([] : List Int)) (ks := [r4, r29]) hp33 pm
      have hch35 : s29.at_ ≤ s33.at_ := Nat.le_of_eq hp33.eqs.1.symm
      have hle35 : s.at_ < s33.at_ := by omega
      have hlt35 : s33.at_ < L.length := hR34.lt
      have hde35 : s29.deep ≤ s33.deep := Int.le_of_eq hp33.eqs.2.1.symm
      have hdd35 : s33.deep ≤ 60 := hR34.d1
      refine LX.mv rfl <| LX.su [0, 3] rfl <| LX.next <| PX.blockN ?_
      exact PX.again (i := (r4, s4, m4)) (r33, s33, m33) (by show L.length - s33.at_ < L.length - s4.at_; omega) ⟨rfl, rfl, trivial⟩ (fun w hw => ⟨⟨by assumption, hR34.wk dc dc, hn33⟩, hw⟩)
    try simp at hb7
    refine CX.skip <| PX.thenN <| CX.sr <| LX.mv rfl <| LX.callQ (now_q (s := s4) (m := m4) ht5 (fun w hw => blkL hw (i := 0) rfl) (fun w hw => hL.push hw)) Pa.en13 rfl rfl rfl rfl rfl <| LX.p (Y.field (v := .int .i64 t5.pos) rfl (fun _ => by kernel_rfl)) rfl <| LX.mv rfl <| LX.su [0, 3, 4, 5] rfl <| LX.nt <| CX.sr ?_
    have hgo36 : s4.at_ + 1 < L.length := by exact hK.fin _ t5 ht5 (by (intro h8; simp_all [isS]; done))
    have hln36 := hK.len
    refine LX.ms 3 rfl <| LX.p (Y.fieldAddr0 Pa.fo42_1 rfl) rfl <| LX.p (Y.ldB 0 Pa.one3 rfl rfl rfl) rfl <| LX.p (Y.addN rfl rfl (by (simp only []; omega))) rfl <| LX.mv rfl <| LX.p (Y.fieldAddr0 Pa.fo42_1 rfl) rfl <| LX.storeB 0 Pb.sz3 rfl rfl rfl rfl rfl rfl rfl rfl <| LX.wq (PWl bp al L cl (RS.go s4 1) m4 fr) rfl ?_
    have hR37 : Rn L.length s (RS.go s4 1) ([r4]) 2 (-2) := hR4.go hgo36
    have hle38 : s.at_ < (s4.at_ + 1) := by have h9 : s.at_ ≤ s4.at_ := hR4.le; omega
    have hlt38 : (s4.at_ + 1) < L.length := hgo36
    refine LX.su [0, 3, 4, 5] rfl <| LX.nt <| CX.sr <| LX.mv rfl ?_
    have hk39 : Sk L.length (RS.go s4 1) := hs.next hR37 dc
    refine LX.call (h_unary (RS.go s4 1) m4 fr hk39 hn4 (by show L.length - (s4.at_ + 1) ≤ N; omega)) Pd.en73 rfl rfl rfl rfl rfl ?_
    rintro ⟨r39, s39, m39⟩
    refine LX.have fun ⟨hri39, hr39, hn39⟩ => ?_
    try dsimp only at hri39 hr39 hn39 ⊢
    have hR40 : Rn L.length s s39 ([r4] ++ [r39]) 3 (-2) := hR37.trans hr39
    have hch41 : (s4.at_ + 1) ≤ s39.at_ := hr39.le
    have hle41 : s.at_ < s39.at_ := by omega
    have hlt41 : s39.at_ < L.length := hR40.lt
    have hde41 : s4.deep ≤ s39.deep := hr39.d0
    have hdd41 : s39.deep ≤ 60 := hR40.d1
    have hav39 : s39.code = 0 → (s4.at_ + 1) + 1 ≤ s39.at_ := hr39.adv
    refine LX.mv rfl <| LX.su [0, 3, 4, 5, 6] rfl <| LX.nt <| CX.region <| LX.ms 5 rfl <| LX.buildSlice (e := 3) (size := 1) rfl rfl (fun _ => by kernel_rfl) rfl dc rfl rfl rfl ?_
    intro gt42
    refine LX.wq (Ri (some gt42) 2 ([r4, r39]) :: PWl bp al L cl s39 m39 fr) rfl <| LX.call (put_c (fr := fr) (g := (some gt42)) (c := 2) (ks := [r4, r39]) (op := 23) (pos := t5.pos) (x := ([] : List UInt8)) s39 m39 hn39 (fun h0 => by have h1 : ((s39.ns).length : Int) + 2 * s.at_ ≤ s.ns.length + 2 * ((s39.at_ : Nat) : Int) + (-2) := hR40.few h0; have h2 := hs.few (hR40.bad h0); have h3 := hK.len; have h4 : s39.at_ < L.length := hR40.lt; show (s39.ns).length ≤ 1000000; omega) (by (simp only [List.length_cons, List.length_nil, List.length_append]; omega)) ((AllI.cons as_ (AllI.cons as_ AllI.nil))) (by (unfold inI; omega)) as_) Pd.en16 rfl rfl rfl rfl rfl ?_
    rintro ⟨r43, s43, m43⟩
    refine LX.have fun ⟨hri43, hp43, hn43⟩ => ?_
    try dsimp only at hri43 hp43 hn43 ⊢
    have hR44 : Rn L.length s s43 ([r43]) 3 (-1) := hR40.put (us := ([] : List Int)) (ks := [r4, r39]) hp43 pm
    have hch45 : s39.at_ ≤ s43.at_ := Nat.le_of_eq hp43.eqs.1.symm
    have hle45 : s.at_ < s43.at_ := by omega
    have hlt45 : s43.at_ < L.length := hR44.lt
    have hde45 : s39.deep ≤ s43.deep := Int.le_of_eq hp43.eqs.2.1.symm
    have hdd45 : s43.deep ≤ 60 := hR44.d1
    refine LX.mv rfl <| LX.su [0, 3] rfl <| LX.next <| PX.blockN ?_
    exact PX.again (i := (r4, s4, m4)) (r43, s43, m43) (by show L.length - s43.at_ < L.length - s4.at_; omega) ⟨rfl, rfl, trivial⟩ (fun w hw => ⟨⟨by assumption, hR44.wk dc dc, hn43⟩, hw⟩)
  try simp at hb4
  refine CX.exit <| PX.thenE <| PX.thenE <| PX.blockE <| PX.thenN <| CX.sr <| LX.ms 2 rfl <| LX.su [2] rfl <| LX.nt <| CX.ret <| PX.ret1 (by simp) Try.results72 rfl ?_
  exact fun w hw => ⟨(r4, s4, m4), rfl, ⟨as_, hR4.wk dc dc, hn4⟩, hw⟩
theorem compare_c {w0 : World} {base : Nat} {bp : Nat} {al : Option Addr} {cl : Nat} {L : List Go.Pa.Tk} (hL : SlAt 3 tokA (Lies w0 base) al L) (hK : Tok6 L) {N : Nat} (h_sum : (∀ (s : RS) (m : Mm) (fr : List It), Sk L.length s → NdsR 3 m.rs m.cells s.ns → L.length - s.at_ ≤ N → PF 70 [.pointer (some ⟨bp, 0, none⟩)] w0 base bp al cl L s m fr))  : (∀ (s : RS) (m : Mm) (fr : List It), Sk L.length s → NdsR 3 m.rs m.cells s.ns → L.length - s.at_ ≤ N → PF 66 [.pointer (some ⟨bp, 0, none⟩)] w0 base bp al cl L s m fr) := by
  intro s m fr hs hn hN
  have hR := Rn.refl hs
  have hle : s.at_ ≤ s.at_ := Nat.le_refl _
  have hd0 := hs.d0
  have hd1 := hs.d1
  have hlt := hs.lt
  have hln0 := hK.len
  have hN0 : 0 < N := by omega
  refine FnC.of_body (fn := Try.f66) [(0, _)] Try.func66 rfl Try.ntmps66 rfl ⟨rfl, trivial⟩ ?_
  refine CX.sr <| LX.mv rfl <| LX.su [0, 2] rfl <| LX.nt <| CX.sr <| LX.mv rfl ?_
  have hk1 : Sk L.length s := hs.next hR dc
  refine LX.call (h_sum s m fr hk1 hn (by show L.length - s.at_ ≤ N; omega)) Pd.en70 rfl rfl rfl rfl rfl ?_
  rintro ⟨r1, s1, m1⟩
  refine LX.have fun ⟨hri1, hr1, hn1⟩ => ?_
  try dsimp only at hri1 hr1 hn1 ⊢
  have hR2 : Rn L.length s s1 ([r1]) 1 (0) := hR.trans hr1
  have hch3 : s.at_ ≤ s1.at_ := hr1.le
  have hle3 : s.at_ ≤ s1.at_ := by omega
  have hlt3 : s1.at_ < L.length := hR2.lt
  have hde3 : s.deep ≤ s1.deep := hr1.d0
  have hdd3 : s1.deep ≤ 60 := hR2.d1
  have hav1 : s1.code = 0 → s.at_ + 1 ≤ s1.at_ := hr1.adv
  refine LX.mv rfl <| LX.su [0, 2, 3] rfl <| LX.nt <| CX.seq <| CX.sr <| LX.mv rfl <| LX.callQ (show FnQ Try.prog 12 #[.pointer (some ⟨bp, 0, none⟩)] _ (.bool (decide (s1.code ≠ 0))) from bad_q (s := s1) (m := m1) (fun w hw => blkL hw (i := 0) rfl)) Pb.en12 rfl rfl rfl rfl rfl <| LX.su [0, 2, 3, 10] rfl <| LX.nt ?_
  refine CX.cond rfl (fun hb1 => ?_) (fun hb1 => ?_)
  · try simp at hb1
    refine CX.sr <| LX.mv rfl <| LX.su [0, 2, 3] rfl <| LX.nt <| CX.ret <| PX.thenR <| PX.ret1 (by simp) Try.results66 rfl ?_
    exact fun w hw => ⟨((-1), s1, m1), rfl, ⟨(by (unfold inI; omega)), hR2.no as_, hn1⟩, hw⟩
  try simp at hb1
  refine CX.skip <| PX.thenN <| CX.sr ?_
  obtain ⟨t4, ht4⟩ : ∃ t, L[s1.at_]? = some t := ⟨_, List.getElem?_eq_getElem (show s1.at_ < L.length from hR2.lt)⟩
  have htk4 := (tok_in hL ht4).1
  have htp4 := (tok_in hL ht4).2
  refine LX.mv rfl <| LX.call (rel_w (s := s1) (m := m1) ht4 (fun w hw => blkL hw (i := 0) rfl) (fun w hw => hL.push hw)) Pd.en71 rfl rfl rfl rfl rfl ?_
  intro b5
  refine LX.have fun hy5 => ?_
  replace hy5 : (0 ≤ b5 ∧ b5 ≤ 33) ∧ (b5 ≠ 0 → t4.kind ≠ 8) := hy5
  refine LX.mv rfl <| LX.su [0, 2, 3, 4] rfl <| LX.nt <| CX.seq <| CX.sr <| LX.mv rfl <| LX.p (Y.eqI rfl rfl) rfl <| LX.su [0, 2, 3, 4, 14] rfl <| LX.nt ?_
  refine CX.cond rfl (fun hb2 => ?_) (fun hb2 => ?_)
  · try simp at hb2
    refine CX.sr <| LX.ms 2 rfl <| LX.su [0, 2, 3, 4] rfl <| LX.nt <| CX.ret <| PX.thenR <| PX.ret1 (by simp) Try.results66 rfl ?_
    exact fun w hw => ⟨(r1, s1, m1), rfl, ⟨as_, hR2.wk dc dc, hn1⟩, hw⟩
  try simp at hb2
  refine CX.skip <| PX.thenN <| CX.sr <| LX.mv rfl <| LX.callQ (now_q (s := s1) (m := m1) ht4 (fun w hw => blkL hw (i := 0) rfl) (fun w hw => hL.push hw)) Pa.en13 rfl rfl rfl rfl rfl <| LX.p (Y.field (v := .int .i64 t4.pos) rfl (fun _ => by kernel_rfl)) rfl <| LX.mv rfl <| LX.su [0, 2, 3, 4, 5] rfl <| LX.nt <| CX.sr ?_
  have hgo6 : s1.at_ + 1 < L.length := by exact hK.fin _ t4 ht4 (by omega)
  have hln6 := hK.len
  refine LX.ms 3 rfl <| LX.p (Y.fieldAddr0 Pa.fo42_1 rfl) rfl <| LX.p (Y.ldB 0 Pa.one3 rfl rfl rfl) rfl <| LX.p (Y.addN rfl rfl (by (simp only []; omega))) rfl <| LX.mv rfl <| LX.p (Y.fieldAddr0 Pa.fo42_1 rfl) rfl <| LX.storeB 0 Pb.sz3 rfl rfl rfl rfl rfl rfl rfl rfl <| LX.wq (PWl bp al L cl (RS.go s1 1) m1 fr) rfl ?_
  have hR7 : Rn L.length s (RS.go s1 1) ([r1]) 2 (-2) := hR2.go hgo6
  have hle8 : s.at_ < (s1.at_ + 1) := by have h9 : s.at_ ≤ s1.at_ := hR2.le; omega
  have hlt8 : (s1.at_ + 1) < L.length := hgo6
  refine LX.su [0, 2, 3, 4, 5] rfl <| LX.nt <| CX.seq <| CX.sr ?_
  obtain ⟨t9, ht9⟩ : ∃ t, L[(s1.at_ + 1)]? = some t := ⟨_, List.getElem?_eq_getElem (show (s1.at_ + 1) < L.length from hR7.lt)⟩
  have htk9 := (tok_in hL ht9).1
  have htp9 := (tok_in hL ht9).2
  refine LX.mv rfl <| LX.p (Y.eqI rfl rfl) rfl <| LX.mv rfl ?_
  refine LX.caseB (s := 29) rfl (fun hb3 => ?_) (fun hb3 => ?_)
  ·
    have hb3p := hb3
    try simp at hb3p
    refine LX.gT rfl rfl rfl hb3 (Y.move rfl) rfl rfl <| LX.callT rfl rfl rfl hb3 (want_c (fr := fr) (RS.go s1 1) m1 hL hK ht9 ([105, 110] : List UInt8)) Pd.en35 rfl rfl rfl rfl ?_
    rintro ⟨b10, s10⟩
    refine LX.have fun hw10 => ?_
    try dsimp only at hw10 ⊢
    have hn10 : NdsR 3 m1.rs m1.cells s10.ns := by rw [hw10.ns]; exact hn1
    have hR11 : Rn L.length s s10 ([r1]) 3 (-4) := hR7.want hw10
    have hch12 : (s1.at_ + 1) ≤ s10.at_ := hw10.le
    have hle12 : s.at_ < s10.at_ := by omega
    have hlt12 : s10.at_ < L.length := hR11.lt
    have hde12 : s1.deep ≤ s10.deep := Int.le_of_eq hw10.deep.symm
    have hdd12 : s10.deep ≤ 60 := hR11.d1
    refine LX.gT rfl rfl rfl hb3 (Y.not rfl) rfl rfl <| LX.p (Y.pickT rfl hb3 rfl) rfl <| LX.su [0, 2, 3, 4, 5, 33] rfl <| LX.nt ?_
    refine CX.cond rfl (fun hb4 => ?_) (fun hb4 => ?_)
    · try simp at hb4
      have hbc10 := (hw10.f (by exact hb4)).code
      refine CX.sr <| LX.mv rfl <| LX.su [0, 2, 3, 4, 5] rfl <| LX.nt <| CX.ret <| PX.thenR <| PX.ret1 (by simp) Try.results66 rfl ?_
      exact fun w hw => ⟨((-1), s10, m1), rfl, ⟨(by (unfold inI; omega)), hR11.no as_, hn10⟩, hw⟩
    try simp at hb4
    have hc10 := (hw10.t (by exact hb4)).1
    refine CX.skip <| PX.thenN <| CX.sr <| LX.mv rfl ?_
    have hk13 : Sk L.length s10 := hs.next hR11 dc
    refine LX.call (h_sum s10 m1 fr hk13 hn10 (by show L.length - s10.at_ ≤ N; omega)) Pd.en70 rfl rfl rfl rfl rfl ?_
    rintro ⟨r13, s13, m13⟩
    refine LX.have fun ⟨hri13, hr13, hn13⟩ => ?_
    try dsimp only at hri13 hr13 hn13 ⊢
    have hR14 : Rn L.length s s13 ([r1] ++ [r13]) 4 (-4) := hR11.trans hr13
    have hch15 : s10.at_ ≤ s13.at_ := hr13.le
    have hle15 : s.at_ < s13.at_ := by omega
    have hlt15 : s13.at_ < L.length := hR14.lt
    have hde15 : s10.deep ≤ s13.deep := hr13.d0
    have hdd15 : s13.deep ≤ 60 := hR14.d1
    have hav13 : s13.code = 0 → s10.at_ + 1 ≤ s13.at_ := hr13.adv
    refine LX.mv rfl <| LX.su [0, 2, 3, 4, 5, 6] rfl <| LX.nt <| CX.seq <| CX.sr ?_
    obtain ⟨t16, ht16⟩ : ∃ t, L[s13.at_]? = some t := ⟨_, List.getElem?_eq_getElem (show s13.at_ < L.length from hR14.lt)⟩
    have htk16 := (tok_in hL ht16).1
    have htp16 := (tok_in hL ht16).2
    refine LX.mv rfl <| LX.callQ (show FnQ Try.prog 12 #[.pointer (some ⟨bp, 0, none⟩)] _ (.bool (decide (s13.code ≠ 0))) from bad_q (s := s13) (m := m13) (fun w hw => blkL hw (i := 0) rfl)) Pb.en12 rfl rfl rfl rfl rfl <| LX.p (Y.not rfl) rfl <| LX.mv rfl ?_
    refine LX.caseB (s := 39) rfl (fun hb5 => ?_) (fun hb5 => ?_)
    ·
      refine LX.gT rfl rfl rfl hb5 (Y.move rfl) rfl rfl <| LX.callT rfl rfl rfl hb5 (rel_w (s := s13) (m := m13) ht16 (fun w hw => blkL hw (i := 0) rfl) (fun w hw => hL.push hw)) Pd.en71 rfl rfl rfl rfl ?_
      intro b17
      refine LX.have fun hy17 => ?_
      replace hy17 : (0 ≤ b17 ∧ b17 ≤ 33) ∧ (b17 ≠ 0 → t16.kind ≠ 8) := hy17
      refine LX.gT rfl rfl rfl hb5 (Y.neI rfl rfl) rfl rfl <| LX.p (Y.pickT rfl hb5 rfl) rfl <| LX.su [0, 2, 3, 4, 5, 6, 43] rfl <| LX.nt ?_
      refine CX.cond rfl (fun hb6 => ?_) (fun hb6 => ?_)
      · try simp at hb6
        refine CX.sr <| LX.mv rfl <| LX.call (wrong_c (fr := fr) s13 m13 hL ht16) Pb.en37 rfl rfl rfl rfl rfl ?_
        intro s18
        refine LX.have fun hf18 => ?_
        have hb918 : Bad s13 s18 := FailR.bad hf18 dc
        have hbc18 := hb918.code
        have hn18 : NdsR 3 m13.rs m13.cells s18.ns := by rw [hb918.ns]; exact hn13
        have hR19 : Rn L.length s s18 ([r1] ++ [r13]) 4 (-4) := hR14.bad2 hb918
        have hch20 : s13.at_ ≤ s18.at_ := Nat.le_of_eq hb918.at_.symm
        have hle20 : s.at_ < s18.at_ := by omega
        have hlt20 : s18.at_ < L.length := hR19.lt
        have hde20 : s13.deep ≤ s18.deep := Int.le_of_eq hb918.deep.symm
        have hdd20 : s18.deep ≤ 60 := hR19.d1
        refine LX.mv rfl <| LX.su [0, 2, 3, 4, 5, 6] rfl <| LX.nt <| CX.ret <| PX.thenR <| PX.ret1 (by simp) Try.results66 rfl ?_
        exact fun w hw => ⟨((-1), s18, m13), rfl, ⟨(by (unfold inI; omega)), hR19.no as_, hn18⟩, hw⟩
      try simp at hb6
      refine CX.skip <| PX.thenN <| CX.sr <| LX.ms 5 rfl <| LX.buildSlice (e := 3) (size := 1) rfl rfl (fun _ => by kernel_rfl) rfl dc rfl rfl rfl ?_
      intro gt21
      refine LX.wq (Ri (some gt21) 2 ([r1, r13]) :: PWl bp al L cl s13 m13 fr) rfl <| LX.call (put_c (fr := fr) (g := (some gt21)) (c := 2) (ks := [r1, r13]) (op := b5) (pos := t4.pos) (x := ([] : List UInt8)) s13 m13 hn13 (fun h0 => by have h1 : ((s13.ns).length : Int) + 2 * s.at_ ≤ s.ns.length + 2 * ((s13.at_ : Nat) : Int) + (-4) := hR14.few h0; have h2 := hs.few (hR14.bad h0); have h3 := hK.len; have h4 : s13.at_ < L.length := hR14.lt; show (s13.ns).length ≤ 1000000; omega) (by (simp only [List.length_cons, List.length_nil, List.length_append]; omega)) ((AllI.cons as_ (AllI.cons as_ AllI.nil))) (by (unfold inI; omega)) as_) Pd.en16 rfl rfl rfl rfl rfl ?_
      rintro ⟨r22, s22, m22⟩
      refine LX.have fun ⟨hri22, hp22, hn22⟩ => ?_
      try dsimp only at hri22 hp22 hn22 ⊢
      have hR23 : Rn L.length s s22 ([r22]) 4 (-3) := hR14.put (us := ([] : List Int)) (ks := [r1, r13]) hp22 pm
      have hch24 : s13.at_ ≤ s22.at_ := Nat.le_of_eq hp22.eqs.1.symm
      have hle24 : s.at_ < s22.at_ := by omega
      have hlt24 : s22.at_ < L.length := hR23.lt
      have hde24 : s13.deep ≤ s22.deep := Int.le_of_eq hp22.eqs.2.1.symm
      have hdd24 : s22.deep ≤ 60 := hR23.d1
      refine LX.mv rfl <| LX.su [2] rfl <| LX.nt <| CX.ret <| PX.ret1 (by simp) Try.results66 rfl ?_
      exact fun w hw => ⟨(r22, s22, m22), rfl, ⟨as_, hR23.wk dc dc, hn22⟩, hw⟩
    refine LX.gF rfl rfl rfl hb5 rfl rfl <| LX.gF rfl rfl rfl hb5 rfl rfl <| LX.gF rfl rfl rfl hb5 rfl rfl <| LX.p (Y.pickF rfl hb5 rfl) rfl <| LX.su [0, 2, 3, 4, 5, 6, 43] rfl <| LX.nt ?_
    refine CX.cond rfl (fun hb7 => ?_) (fun hb7 => ?_)
    · try simp at hb7
      done
    try simp at hb7
    refine CX.skip <| PX.thenN <| CX.sr <| LX.ms 5 rfl <| LX.buildSlice (e := 3) (size := 1) rfl rfl (fun _ => by kernel_rfl) rfl dc rfl rfl rfl ?_
    intro gt25
    refine LX.wq (Ri (some gt25) 2 ([r1, r13]) :: PWl bp al L cl s13 m13 fr) rfl <| LX.call (put_c (fr := fr) (g := (some gt25)) (c := 2) (ks := [r1, r13]) (op := b5) (pos := t4.pos) (x := ([] : List UInt8)) s13 m13 hn13 (fun h0 => by have h1 : ((s13.ns).length : Int) + 2 * s.at_ ≤ s.ns.length + 2 * ((s13.at_ : Nat) : Int) + (-4) := hR14.few h0; have h2 := hs.few (hR14.bad h0); have h3 := hK.len; have h4 : s13.at_ < L.length := hR14.lt; show (s13.ns).length ≤ 1000000; omega) (by (simp only [List.length_cons, List.length_nil, List.length_append]; omega)) ((AllI.cons as_ (AllI.cons as_ AllI.nil))) (by (unfold inI; omega)) as_) Pd.en16 rfl rfl rfl rfl rfl ?_
    rintro ⟨r26, s26, m26⟩
    refine LX.have fun ⟨hri26, hp26, hn26⟩ => ?_
    try dsimp only at hri26 hp26 hn26 ⊢
    have hR27 : Rn L.length s s26 ([r26]) 4 (-3) := hR14.put (us := ([] : List Int)) (ks := [r1, r13]) hp26 pm
    have hch28 : s13.at_ ≤ s26.at_ := Nat.le_of_eq hp26.eqs.1.symm
    have hle28 : s.at_ < s26.at_ := by omega
    have hlt28 : s26.at_ < L.length := hR27.lt
    have hde28 : s13.deep ≤ s26.deep := Int.le_of_eq hp26.eqs.2.1.symm
    have hdd28 : s26.deep ≤ 60 := hR27.d1
    refine LX.mv rfl <| LX.su [2] rfl <| LX.nt <| CX.ret <| PX.ret1 (by simp) Try.results66 rfl ?_
    exact fun w hw => ⟨(r26, s26, m26), rfl, ⟨as_, hR27.wk dc dc, hn26⟩, hw⟩
  refine LX.gF rfl rfl rfl hb3 rfl rfl <| LX.gF rfl rfl rfl hb3 rfl rfl <| LX.gF rfl rfl rfl hb3 rfl rfl <| LX.p (Y.pickF rfl hb3 rfl) rfl <| LX.su [0, 2, 3, 4, 5, 33] rfl <| LX.nt ?_
  refine CX.cond rfl (fun hb8 => ?_) (fun hb8 => ?_)
  · try simp at hb8
    done
  try simp at hb8
  refine CX.skip <| PX.thenN <| CX.sr <| LX.mv rfl ?_
  have hk29 : Sk L.length (RS.go s1 1) := hs.next hR7 dc
  refine LX.call (h_sum (RS.go s1 1) m1 fr hk29 hn1 (by show L.length - (s1.at_ + 1) ≤ N; omega)) Pd.en70 rfl rfl rfl rfl rfl ?_
  rintro ⟨r29, s29, m29⟩
  refine LX.have fun ⟨hri29, hr29, hn29⟩ => ?_
  try dsimp only at hri29 hr29 hn29 ⊢
  have hR30 : Rn L.length s s29 ([r1] ++ [r29]) 3 (-2) := hR7.trans hr29
  have hch31 : (s1.at_ + 1) ≤ s29.at_ := hr29.le
  have hle31 : s.at_ < s29.at_ := by omega
  have hlt31 : s29.at_ < L.length := hR30.lt
  have hde31 : s1.deep ≤ s29.deep := hr29.d0
  have hdd31 : s29.deep ≤ 60 := hR30.d1
  have hav29 : s29.code = 0 → (s1.at_ + 1) + 1 ≤ s29.at_ := hr29.adv
  refine LX.mv rfl <| LX.su [0, 2, 3, 4, 5, 6] rfl <| LX.nt <| CX.seq <| CX.sr ?_
  obtain ⟨t32, ht32⟩ : ∃ t, L[s29.at_]? = some t := ⟨_, List.getElem?_eq_getElem (show s29.at_ < L.length from hR30.lt)⟩
  have htk32 := (tok_in hL ht32).1
  have htp32 := (tok_in hL ht32).2
  refine LX.mv rfl <| LX.callQ (show FnQ Try.prog 12 #[.pointer (some ⟨bp, 0, none⟩)] _ (.bool (decide (s29.code ≠ 0))) from bad_q (s := s29) (m := m29) (fun w hw => blkL hw (i := 0) rfl)) Pb.en12 rfl rfl rfl rfl rfl <| LX.p (Y.not rfl) rfl <| LX.mv rfl ?_
  refine LX.caseB (s := 39) rfl (fun hb9 => ?_) (fun hb9 => ?_)
  ·
    refine LX.gT rfl rfl rfl hb9 (Y.move rfl) rfl rfl <| LX.callT rfl rfl rfl hb9 (rel_w (s := s29) (m := m29) ht32 (fun w hw => blkL hw (i := 0) rfl) (fun w hw => hL.push hw)) Pd.en71 rfl rfl rfl rfl ?_
    intro b33
    refine LX.have fun hy33 => ?_
    replace hy33 : (0 ≤ b33 ∧ b33 ≤ 33) ∧ (b33 ≠ 0 → t32.kind ≠ 8) := hy33
    refine LX.gT rfl rfl rfl hb9 (Y.neI rfl rfl) rfl rfl <| LX.p (Y.pickT rfl hb9 rfl) rfl <| LX.su [0, 2, 3, 4, 5, 6, 43] rfl <| LX.nt ?_
    refine CX.cond rfl (fun hb10 => ?_) (fun hb10 => ?_)
    · try simp at hb10
      refine CX.sr <| LX.mv rfl <| LX.call (wrong_c (fr := fr) s29 m29 hL ht32) Pb.en37 rfl rfl rfl rfl rfl ?_
      intro s34
      refine LX.have fun hf34 => ?_
      have hb934 : Bad s29 s34 := FailR.bad hf34 dc
      have hbc34 := hb934.code
      have hn34 : NdsR 3 m29.rs m29.cells s34.ns := by rw [hb934.ns]; exact hn29
      have hR35 : Rn L.length s s34 ([r1] ++ [r29]) 3 (-2) := hR30.bad2 hb934
      have hch36 : s29.at_ ≤ s34.at_ := Nat.le_of_eq hb934.at_.symm
      have hle36 : s.at_ < s34.at_ := by omega
      have hlt36 : s34.at_ < L.length := hR35.lt
      have hde36 : s29.deep ≤ s34.deep := Int.le_of_eq hb934.deep.symm
      have hdd36 : s34.deep ≤ 60 := hR35.d1
      refine LX.mv rfl <| LX.su [0, 2, 3, 4, 5, 6] rfl <| LX.nt <| CX.ret <| PX.thenR <| PX.ret1 (by simp) Try.results66 rfl ?_
      exact fun w hw => ⟨((-1), s34, m29), rfl, ⟨(by (unfold inI; omega)), hR35.no as_, hn34⟩, hw⟩
    try simp at hb10
    refine CX.skip <| PX.thenN <| CX.sr <| LX.ms 5 rfl <| LX.buildSlice (e := 3) (size := 1) rfl rfl (fun _ => by kernel_rfl) rfl dc rfl rfl rfl ?_
    intro gt37
    refine LX.wq (Ri (some gt37) 2 ([r1, r29]) :: PWl bp al L cl s29 m29 fr) rfl <| LX.call (put_c (fr := fr) (g := (some gt37)) (c := 2) (ks := [r1, r29]) (op := b5) (pos := t4.pos) (x := ([] : List UInt8)) s29 m29 hn29 (fun h0 => by have h1 : ((s29.ns).length : Int) + 2 * s.at_ ≤ s.ns.length + 2 * ((s29.at_ : Nat) : Int) + (-2) := hR30.few h0; have h2 := hs.few (hR30.bad h0); have h3 := hK.len; have h4 : s29.at_ < L.length := hR30.lt; show (s29.ns).length ≤ 1000000; omega) (by (simp only [List.length_cons, List.length_nil, List.length_append]; omega)) ((AllI.cons as_ (AllI.cons as_ AllI.nil))) (by (unfold inI; omega)) as_) Pd.en16 rfl rfl rfl rfl rfl ?_
    rintro ⟨r38, s38, m38⟩
    refine LX.have fun ⟨hri38, hp38, hn38⟩ => ?_
    try dsimp only at hri38 hp38 hn38 ⊢
    have hR39 : Rn L.length s s38 ([r38]) 3 (-1) := hR30.put (us := ([] : List Int)) (ks := [r1, r29]) hp38 pm
    have hch40 : s29.at_ ≤ s38.at_ := Nat.le_of_eq hp38.eqs.1.symm
    have hle40 : s.at_ < s38.at_ := by omega
    have hlt40 : s38.at_ < L.length := hR39.lt
    have hde40 : s29.deep ≤ s38.deep := Int.le_of_eq hp38.eqs.2.1.symm
    have hdd40 : s38.deep ≤ 60 := hR39.d1
    refine LX.mv rfl <| LX.su [2] rfl <| LX.nt <| CX.ret <| PX.ret1 (by simp) Try.results66 rfl ?_
    exact fun w hw => ⟨(r38, s38, m38), rfl, ⟨as_, hR39.wk dc dc, hn38⟩, hw⟩
  refine LX.gF rfl rfl rfl hb9 rfl rfl <| LX.gF rfl rfl rfl hb9 rfl rfl <| LX.gF rfl rfl rfl hb9 rfl rfl <| LX.p (Y.pickF rfl hb9 rfl) rfl <| LX.su [0, 2, 3, 4, 5, 6, 43] rfl <| LX.nt ?_
  refine CX.cond rfl (fun hb11 => ?_) (fun hb11 => ?_)
  · try simp at hb11
    done
  try simp at hb11
  refine CX.skip <| PX.thenN <| CX.sr <| LX.ms 5 rfl <| LX.buildSlice (e := 3) (size := 1) rfl rfl (fun _ => by kernel_rfl) rfl dc rfl rfl rfl ?_
  intro gt41
  refine LX.wq (Ri (some gt41) 2 ([r1, r29]) :: PWl bp al L cl s29 m29 fr) rfl <| LX.call (put_c (fr := fr) (g := (some gt41)) (c := 2) (ks := [r1, r29]) (op := b5) (pos := t4.pos) (x := ([] : List UInt8)) s29 m29 hn29 (fun h0 => by have h1 : ((s29.ns).length : Int) + 2 * s.at_ ≤ s.ns.length + 2 * ((s29.at_ : Nat) : Int) + (-2) := hR30.few h0; have h2 := hs.few (hR30.bad h0); have h3 := hK.len; have h4 : s29.at_ < L.length := hR30.lt; show (s29.ns).length ≤ 1000000; omega) (by (simp only [List.length_cons, List.length_nil, List.length_append]; omega)) ((AllI.cons as_ (AllI.cons as_ AllI.nil))) (by (unfold inI; omega)) as_) Pd.en16 rfl rfl rfl rfl rfl ?_
  rintro ⟨r42, s42, m42⟩
  refine LX.have fun ⟨hri42, hp42, hn42⟩ => ?_
  try dsimp only at hri42 hp42 hn42 ⊢
  have hR43 : Rn L.length s s42 ([r42]) 3 (-1) := hR30.put (us := ([] : List Int)) (ks := [r1, r29]) hp42 pm
  have hch44 : s29.at_ ≤ s42.at_ := Nat.le_of_eq hp42.eqs.1.symm
  have hle44 : s.at_ < s42.at_ := by omega
  have hlt44 : s42.at_ < L.length := hR43.lt
  have hde44 : s29.deep ≤ s42.deep := Int.le_of_eq hp42.eqs.2.1.symm
  have hdd44 : s42.deep ≤ 60 := hR43.d1
  refine LX.mv rfl <| LX.su [2] rfl <| LX.nt <| CX.ret <| PX.ret1 (by simp) Try.results66 rfl ?_
  exact fun w hw => ⟨(r42, s42, m42), rfl, ⟨as_, hR43.wk dc dc, hn42⟩, hw⟩
theorem test_c {w0 : World} {base : Nat} {bp : Nat} {al : Option Addr} {cl : Nat} {L : List Go.Pa.Tk} (hL : SlAt 3 tokA (Lies w0 base) al L) (hK : Tok6 L) {N : Nat} (h_or : (∀ (s : RS) (m : Mm) (fr : List It), Sk L.length s → NdsR 3 m.rs m.cells s.ns → L.length - s.at_ ≤ N → PF 56 [.pointer (some ⟨bp, 0, none⟩)] w0 base bp al cl L s m fr)) (ih_test : (∀ (s : RS) (m : Mm) (fr : List It), Sk L.length s → NdsR 3 m.rs m.cells s.ns → L.length - s.at_ < N → PF 47 [.pointer (some ⟨bp, 0, none⟩)] w0 base bp al cl L s m fr))  : (∀ (s : RS) (m : Mm) (fr : List It), Sk L.length s → NdsR 3 m.rs m.cells s.ns → L.length - s.at_ ≤ N → PF 47 [.pointer (some ⟨bp, 0, none⟩)] w0 base bp al cl L s m fr) := by
  intro s m fr hs hn hN
  have hR := Rn.refl hs
  have hle : s.at_ ≤ s.at_ := Nat.le_refl _
  have hd0 := hs.d0
  have hd1 := hs.d1
  have hlt := hs.lt
  have hln0 := hK.len
  have hN0 : 0 < N := by omega
  refine FnC.of_body (fn := Try.f47) [(0, _)] Try.func47 rfl Try.ntmps47 rfl ⟨rfl, trivial⟩ ?_
  refine CX.sr <| LX.mv rfl <| LX.su [0, 2] rfl <| LX.nt <| CX.sr <| LX.mv rfl ?_
  have hk1 : Sk L.length s := hs.next hR dc
  refine LX.call (h_or s m fr hk1 hn (by show L.length - s.at_ ≤ N; omega)) Pd.en56 rfl rfl rfl rfl rfl ?_
  rintro ⟨r1, s1, m1⟩
  refine LX.have fun ⟨hri1, hr1, hn1⟩ => ?_
  try dsimp only at hri1 hr1 hn1 ⊢
  have hR2 : Rn L.length s s1 ([r1]) 1 (0) := hR.trans hr1
  have hch3 : s.at_ ≤ s1.at_ := hr1.le
  have hle3 : s.at_ ≤ s1.at_ := by omega
  have hlt3 : s1.at_ < L.length := hR2.lt
  have hde3 : s.deep ≤ s1.deep := hr1.d0
  have hdd3 : s1.deep ≤ 60 := hR2.d1
  have hav1 : s1.code = 0 → s.at_ + 1 ≤ s1.at_ := hr1.adv
  refine LX.mv rfl <| LX.su [0, 2, 3] rfl <| LX.nt <| CX.seq <| CX.sr ?_
  obtain ⟨t4, ht4⟩ : ∃ t, L[s1.at_]? = some t := ⟨_, List.getElem?_eq_getElem (show s1.at_ < L.length from hR2.lt)⟩
  have htk4 := (tok_in hL ht4).1
  have htp4 := (tok_in hL ht4).2
  refine LX.mv rfl <| LX.callQ (show FnQ Try.prog 12 #[.pointer (some ⟨bp, 0, none⟩)] _ (.bool (decide (s1.code ≠ 0))) from bad_q (s := s1) (m := m1) (fun w hw => blkL hw (i := 0) rfl)) Pb.en12 rfl rfl rfl rfl rfl <| LX.mv rfl <| LX.su [0, 2, 3, 11] rfl ?_
  apply LX.joinOr 4 15 11 rfl
  · intro hb1
    refine LX.gF rfl rfl rfl hb1 rfl rfl <| LX.gF rfl rfl rfl hb1 rfl rfl <| LX.gF rfl rfl rfl hb1 rfl rfl <| LX.p (Y.pickT rfl hb1 rfl) rfl ?_
    exact LX.left ⟨rfl, rfl, rfl, rfl, rfl, trivial⟩
  · intro hb1
    refine LX.gT rfl rfl rfl hb1 (Y.move rfl) rfl rfl <| LX.callQT rfl rfl rfl hb1 (is_q (s := s1) (m := m1) ht4 ([105, 102] : List UInt8) (fun w hw => blkL hw (i := 0) rfl) (fun w hw => hL.push hw)) Pb.en32 rfl rfl rfl rfl <| LX.gT rfl rfl rfl hb1 (Y.not rfl) rfl rfl <| LX.p (Y.pickF rfl hb1 rfl) rfl ?_
    exact LX.left ⟨rfl, rfl, rfl, rfl, rfl, trivial⟩
  refine LX.su [0, 2, 3, 15] rfl <| LX.nt ?_
  refine CX.cond rfl (fun hb2 => ?_) (fun hb2 => ?_)
  · try simp at hb2
    refine CX.sr <| LX.ms 2 rfl <| LX.su [0, 2, 3] rfl <| LX.nt <| CX.ret <| PX.thenR <| PX.ret1 (by simp) Try.results47 rfl ?_
    exact fun w hw => ⟨(r1, s1, m1), rfl, ⟨as_, hR2.wk dc dc, hn1⟩, hw⟩
  try simp at hb2
  refine CX.skip <| PX.thenN <| CX.sr <| LX.mv rfl <| LX.callQ (now_q (s := s1) (m := m1) ht4 (fun w hw => blkL hw (i := 0) rfl) (fun w hw => hL.push hw)) Pa.en13 rfl rfl rfl rfl rfl <| LX.p (Y.field (v := .int .i64 t4.pos) rfl (fun _ => by kernel_rfl)) rfl <| LX.mv rfl <| LX.su [0, 2, 3, 4] rfl <| LX.nt <| CX.seq <| CX.sr <| LX.ms 2 rfl ?_
  have hd05 : 0 ≤ s1.deep := by have h9 := hs.d0; have h8 : s.deep ≤ s1.deep := hR2.d0; omega
  refine LX.call (enter_c (fr := fr) s1 m1 hd05 t4.pos) Pd.en48 rfl rfl rfl rfl rfl ?_
  rintro ⟨b5, s5⟩
  refine LX.have fun he5 => ?_
  try dsimp only at he5 ⊢
  have hn5 : NdsR 3 m1.rs m1.cells s5.ns := by rw [he5.ns]; exact hn1
  refine LX.p (Y.not rfl) rfl <| LX.su [0, 2, 3, 4, 23] rfl <| LX.nt ?_
  refine CX.cond rfl (fun hb3 => ?_) (fun hb3 => ?_)
  · try simp at hb3
    have hb905 := he5.f (by exact hb3)
    have hbc5 := hb905.code
    have hR6 : Rn L.length s s5 ([r1]) 1 (0) := hR2.bad2 hb905
    have hch905 : s1.at_ ≤ s5.at_ := Nat.le_of_eq hb905.at_.symm
    refine CX.sr <| LX.mv rfl <| LX.su [0, 2, 3, 4] rfl <| LX.nt <| CX.ret <| PX.thenR <| PX.ret1 (by simp) Try.results47 rfl ?_
    exact fun w hw => ⟨((-1), s5, m1), rfl, ⟨(by (unfold inI; omega)), hR6.no as_, hn5⟩, hw⟩
  try simp at hb3
  obtain ⟨hc5, hdl5, hq5⟩ := he5.t (by exact hb3)
  subst hq5
  have hR7 : Rn L.length s (RS.dp s1 (s1.deep + 1)) ([r1]) 1 (0) := hR2.up hdl5
  refine CX.skip <| PX.thenN <| CX.sr ?_
  have hgo8 : s1.at_ + 1 < L.length := by exact hK.fin _ t4 ht4 (by (intro h8; simp_all [isS]; done))
  have hln8 := hK.len
  refine LX.ms 3 rfl <| LX.p (Y.fieldAddr0 Pa.fo42_1 rfl) rfl <| LX.p (Y.ldB 0 Pa.one3 rfl rfl rfl) rfl <| LX.p (Y.addN rfl rfl (by (simp only []; omega))) rfl <| LX.mv rfl <| LX.p (Y.fieldAddr0 Pa.fo42_1 rfl) rfl <| LX.storeB 0 Pb.sz3 rfl rfl rfl rfl rfl rfl rfl rfl <| LX.wq (PWl bp al L cl (RS.go (RS.dp s1 (s1.deep + 1)) 1) m1 fr) rfl ?_
  have hR9 : Rn L.length s (RS.go (RS.dp s1 (s1.deep + 1)) 1) ([r1]) 2 (-2) := hR7.go hgo8
  have hle10 : s.at_ < (s1.at_ + 1) := by have h9 : s.at_ ≤ s1.at_ := hR7.le; omega
  have hlt10 : (s1.at_ + 1) < L.length := hgo8
  refine LX.su [0, 2, 3, 4] rfl <| LX.nt <| CX.sr <| LX.mv rfl ?_
  have hk11 : Sk L.length (RS.go (RS.dp s1 (s1.deep + 1)) 1) := hs.next hR9 dc
  refine LX.call (h_or (RS.go (RS.dp s1 (s1.deep + 1)) 1) m1 fr hk11 hn5 (by show L.length - (s1.at_ + 1) ≤ N; omega)) Pd.en56 rfl rfl rfl rfl rfl ?_
  rintro ⟨r11, s11, m11⟩
  refine LX.have fun ⟨hri11, hr11, hn11⟩ => ?_
  try dsimp only at hri11 hr11 hn11 ⊢
  have hR12 : Rn L.length s s11 ([r1] ++ [r11]) 3 (-2) := hR9.trans hr11
  have hch13 : (s1.at_ + 1) ≤ s11.at_ := hr11.le
  have hle13 : s.at_ < s11.at_ := by omega
  have hlt13 : s11.at_ < L.length := hR12.lt
  have hde13 : (s1.deep + 1) ≤ s11.deep := hr11.d0
  have hdd13 : s11.deep ≤ 60 := hR12.d1
  have hav11 : s11.code = 0 → (s1.at_ + 1) + 1 ≤ s11.at_ := hr11.adv
  refine LX.mv rfl <| LX.su [0, 2, 3, 4, 5] rfl <| LX.nt <| CX.seq <| CX.sr ?_
  obtain ⟨t14, ht14⟩ : ∃ t, L[s11.at_]? = some t := ⟨_, List.getElem?_eq_getElem (show s11.at_ < L.length from hR12.lt)⟩
  have htk14 := (tok_in hL ht14).1
  have htp14 := (tok_in hL ht14).2
  refine LX.mv rfl <| LX.call (want_c (fr := fr) s11 m11 hL hK ht14 ([101, 108, 115, 101] : List UInt8)) Pd.en35 rfl rfl rfl rfl rfl ?_
  rintro ⟨b15, s15⟩
  refine LX.have fun hw15 => ?_
  try dsimp only at hw15 ⊢
  have hn15 : NdsR 3 m11.rs m11.cells s15.ns := by rw [hw15.ns]; exact hn11
  have hR16 : Rn L.length s s15 ([r1] ++ [r11]) 4 (-4) := hR12.want hw15
  have hch17 : s11.at_ ≤ s15.at_ := hw15.le
  have hle17 : s.at_ < s15.at_ := by omega
  have hlt17 : s15.at_ < L.length := hR16.lt
  have hde17 : s11.deep ≤ s15.deep := Int.le_of_eq hw15.deep.symm
  have hdd17 : s15.deep ≤ 60 := hR16.d1
  refine LX.p (Y.not rfl) rfl <| LX.su [0, 2, 3, 4, 5, 36] rfl <| LX.nt ?_
  refine CX.cond rfl (fun hb4 => ?_) (fun hb4 => ?_)
  · try simp at hb4
    have hbc15 := (hw15.f (by exact hb4)).code
    refine CX.sr <| LX.mv rfl <| LX.su [0, 2, 3, 4, 5] rfl <| LX.nt <| CX.ret <| PX.thenR <| PX.ret1 (by simp) Try.results47 rfl ?_
    exact fun w hw => ⟨((-1), s15, m11), rfl, ⟨(by (unfold inI; omega)), hR16.no as_, hn15⟩, hw⟩
  try simp at hb4
  have hc15 := (hw15.t (by exact hb4)).1
  refine CX.skip <| PX.thenN <| CX.sr <| LX.mv rfl ?_
  have hk18 : Sk L.length s15 := hs.next hR16 dc
  refine LX.call (ih_test s15 m11 fr hk18 hn15 (by show L.length - s15.at_ < N; omega)) Pd.en47 rfl rfl rfl rfl rfl ?_
  rintro ⟨r18, s18, m18⟩
  refine LX.have fun ⟨hri18, hr18, hn18⟩ => ?_
  try dsimp only at hri18 hr18 hn18 ⊢
  have hR19 : Rn L.length s s18 ([r1] ++ [r11] ++ [r18]) 5 (-4) := hR16.trans hr18
  have hch20 : s15.at_ ≤ s18.at_ := hr18.le
  have hle20 : s.at_ < s18.at_ := by omega
  have hlt20 : s18.at_ < L.length := hR19.lt
  have hde20 : s15.deep ≤ s18.deep := hr18.d0
  have hdd20 : s18.deep ≤ 60 := hR19.d1
  have hav18 : s18.code = 0 → s15.at_ + 1 ≤ s18.at_ := hr18.adv
  refine LX.mv rfl <| LX.su [0, 2, 3, 4, 5, 6] rfl <| LX.nt <| CX.sr <| LX.ms 3 rfl <| LX.p (Y.fieldAddr0 Pb.fo42_3 rfl) rfl <| LX.p (Y.ldB 0 Pa.one3 rfl rfl rfl) rfl <| LX.p (Y.sub rfl rfl (by omega)) rfl <| LX.mv rfl <| LX.p (Y.fieldAddr0 Pb.fo42_3 rfl) rfl <| LX.storeB 0 Pb.sz3 rfl rfl rfl rfl rfl rfl rfl rfl <| LX.wq (PWl bp al L cl (RS.dp s18 (s18.deep - 1)) m18 fr) rfl ?_
  have hR21 : Rn L.length s (RS.dp s18 (s18.deep - 1)) ([r1] ++ [r11] ++ [r18]) 5 (-4) := hR19.down (by show s.deep + 1 ≤ s18.deep; omega)
  refine LX.su [0, 2, 3, 4, 5, 6] rfl <| LX.nt <| CX.sr <| LX.ms 5 rfl <| LX.buildSlice (e := 3) (size := 1) rfl rfl (fun _ => by kernel_rfl) rfl dc rfl rfl rfl ?_
  intro gt22
  refine LX.wq (Ri (some gt22) 3 ([r11, r1, r18]) :: PWl bp al L cl (RS.dp s18 (s18.deep - 1)) m18 fr) rfl <| LX.call (put_c (fr := fr) (g := (some gt22)) (c := 3) (ks := [r11, r1, r18]) (op := 20) (pos := t4.pos) (x := ([] : List UInt8)) (RS.dp s18 (s18.deep - 1)) m18 hn18 (fun h0 => by have h1 : ((s18.ns).length : Int) + 2 * s.at_ ≤ s.ns.length + 2 * ((s18.at_ : Nat) : Int) + (-4) := hR21.few h0; have h2 := hs.few (hR21.bad h0); have h3 := hK.len; have h4 : s18.at_ < L.length := hR21.lt; show (s18.ns).length ≤ 1000000; omega) (by (simp only [List.length_cons, List.length_nil, List.length_append]; omega)) ((AllI.cons as_ (AllI.cons as_ (AllI.cons as_ AllI.nil)))) (by (unfold inI; omega)) as_) Pd.en16 rfl rfl rfl rfl rfl ?_
  rintro ⟨r23, s23, m23⟩
  refine LX.have fun ⟨hri23, hp23, hn23⟩ => ?_
  try dsimp only at hri23 hp23 hn23 ⊢
  have hR24 : Rn L.length s s23 ([r23]) 5 (-3) := hR21.put (us := ([] : List Int)) (ks := [r11, r1, r18]) hp23 pm
  have hch25 : s18.at_ ≤ s23.at_ := Nat.le_of_eq hp23.eqs.1.symm
  have hle25 : s.at_ < s23.at_ := by omega
  have hlt25 : s23.at_ < L.length := hR24.lt
  have hde25 : (s18.deep - 1) ≤ s23.deep := Int.le_of_eq hp23.eqs.2.1.symm
  have hdd25 : s23.deep ≤ 60 := hR24.d1
  refine LX.mv rfl <| LX.su [2] rfl <| LX.nt <| CX.ret <| PX.ret1 (by simp) Try.results47 rfl ?_
  exact fun w hw => ⟨(r23, s23, m23), rfl, ⟨as_, hR24.wk dc dc, hn23⟩, hw⟩
end Go.Proofs.Yteibddakpedogaa
