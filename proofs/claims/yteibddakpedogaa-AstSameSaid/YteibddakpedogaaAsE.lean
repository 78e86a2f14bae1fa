/-
  Proved here: the document's parser: lists.
-/
import Derived.Test.YteibddakpedogaaAsD
set_option linter.unusedSimpArgs false
namespace Go.Proofs.Yteibddakpedogaa
open Go.SX Go.RowKit Go.Tr Go.As Go.Ck
namespace Pe
theorem en34 : Enters Try.prog 34 := Enters.of Try.func34 (by kernel_rfl) (by kernel_rfl)
theorem en36 : Enters Try.prog 36 := Enters.of Try.func36 (by kernel_rfl) (by kernel_rfl)
theorem en51 : Enters Try.prog 51 := Enters.of Try.func51 (by kernel_rfl) (by kernel_rfl)
theorem el29 : Elem Try.prog 29 3 1 8 := Elem.of Pc.un29 (z := .int .i64 0) (by kernel_rfl) rfl
end Pe
open Go.Pa (Tk)
/-- what a function that hands back a list of nodes comes to: a list behind 'pre', and a truth value -/
@[reducible] def PL (f : Nat) (args : List Value) (pre : List Int) (vv : Value → Bool → Value) (B : Bool → List Int → Prop) (j : Nat) (w0 : World) (base bp : Nat) (al : Option Addr) (cl : Nat) (L : List Tk) (s : RS) (m : Mm) (fr : List It) : Prop :=
  FnC Try.prog f args.toArray (WA w0 base (PWl bp al L cl s m fr)) (fun q : List Int × Option Nat × Nat × Bool × RS × Mm => vv (rv q.2.1 (pre ++ q.1).length q.2.2.1) q.2.2.2.1) (fun q w => (AllI q.1 ∧ q.1.length + 2 * s.at_ ≤ 2 * q.2.2.2.2.1.at_ + 2 ∧ B q.2.2.2.1 q.1 ∧ (q.2.2.2.1 = true → q.2.2.2.2.1.code = 0 → (q.2.2.2.2.1.ns.length : Int) + 2 * s.at_ + 1 ≤ s.ns.length + 2 * q.2.2.2.2.1.at_) ∧ Rn L.length s q.2.2.2.2.1 q.1 j 0 ∧ NdsR 3 q.2.2.2.2.2.rs q.2.2.2.2.2.cells q.2.2.2.2.1.ns) ∧ WA w0 base (Ri q.2.1 q.2.2.1 (pre ++ q.1) :: PWl bp al L cl q.2.2.2.2.1 q.2.2.2.2.2 fr) w)
theorem rest_c {w0 : World} {base : Nat} {bp : Nat} {al : Option Addr} {cl : Nat} {L : List Go.Pa.Tk} (hL : SlAt 3 tokA (Lies w0 base) al L) (hK : Tok6 L) {N : Nat} (h_test : (∀ (s : RS) (m : Mm) (fr : List It), Sk L.length s → NdsR 3 m.rs m.cells s.ns → L.length - s.at_ ≤ N → PF 47 [.pointer (some ⟨bp, 0, none⟩)] w0 base bp al cl L s m fr)) (first : Int) (hfi : inI first)  : (∀ (s : RS) (m : Mm) (fr : List It), Sk L.length s → NdsR 3 m.rs m.cells s.ns → L.length - s.at_ ≤ N → PL 51 [.pointer (some ⟨bp, 0, none⟩), .int .i64 first] [first] (fun v b => .tuple #[v, .bool b]) (fun b l => b = false → l = []) 0 w0 base bp al cl L s m fr) := by
  intro s m fr hs hn hN
  have hR := Rn.refl hs
  have hle : s.at_ ≤ s.at_ := Nat.le_refl _
  have hd0 := hs.d0
  have hd1 := hs.d1
  have hlt := hs.lt
  have hln0 := hK.len
  have hN0 : 0 < N := by omega
  refine FnC.of_body (fn := Try.f51) [(0, _), (1, _)] Try.func51 rfl Try.ntmps51 rfl ⟨rfl, rfl, trivial⟩ ?_
  refine CX.sr <| LX.ms 2 rfl <| LX.su [0, 1, 4, 5] rfl <| LX.nt <| CX.sr <| LX.mv rfl <| LX.buildSlice (e := 3) (size := 1) rfl rfl (fun _ => by kernel_rfl) rfl dc rfl rfl rfl ?_
  intro gt1
  refine LX.wq (Ri (some gt1) 1 ([first]) :: PWl bp al L cl s m fr) rfl <| LX.mv rfl ?_
  refine LX.wp (PWl bp al L cl s m (Ri (some gt1) 1 ([first]) :: fr)) ?_
  refine LX.su [0, 4, 5, 6] rfl <| LX.nt <| CX.sr <| LX.mv rfl <| LX.su [0, 4, 5, 6, 7] rfl <| LX.nt <| CX.seq <| CX.block ?_
  refine CX.loop (fun z : (List Int × Option Nat × Nat) × (Bool) × RS × Mm => [(0, .pointer (some ⟨bp, 0, none⟩)), (6, rv z.1.2.1 ((first :: z.1.1)).length z.1.2.2), (7, .bool z.2.1)]) (fun (z : (List Int × Option Nat × Nat) × (Bool) × RS × Mm) w => (AllI z.1.1 ∧ (z.1.1).length + 2 * s.at_ ≤ 2 * z.2.2.1.at_ + 0 ∧ s.at_ ≤ z.2.2.1.at_ ∧ s.deep ≤ z.2.2.1.deep ∧ Rn L.length s z.2.2.1 z.1.1 0 (0) ∧ NdsR 3 z.2.2.2.rs z.2.2.2.cells z.2.2.1.ns ∧ ((z.2.1 = false → z.1.1 = []) ∧ (z.2.1 = true → z.2.2.1.code = 0 → (z.2.2.1.ns.length : Int) + 2 * s.at_ + 1 ≤ s.ns.length + 2 * z.2.2.1.at_))) ∧ WA w0 base (PWl bp al L cl z.2.2.1 z.2.2.2 (Ri z.1.2.1 z.1.2.2 (first :: z.1.1) :: fr)) w) (fun z : (List Int × Option Nat × Nat) × (Bool) × RS × Mm => L.length - z.2.2.1.at_) ((([] : List Int), (some gt1), 1), false, s, m) ⟨rfl, (by rfl), rfl, trivial⟩ (fun w hw => ⟨⟨AllI.nil, (by show List.length _ + 2 * s.at_ ≤ 2 * s.at_ + 0; (try simp only [List.length_cons, List.length_nil, List.length_append]); omega), Nat.le_refl _, Int.le_refl _, (hR.wk dc dc).re pm, hn, ⟨(by (intro _; rfl)), (by (intro h9; cases h9; done))⟩⟩, (hw.perm pm)⟩) ?_
  rintro ⟨⟨l2_0, g2_0, c2_0⟩, v2_1, s2, m2⟩
  refine CX.have fun ⟨hla2_0, hll2_0, hlo2, hld2, hR2, hn2, hbz2⟩ => ?_
  try dsimp only at hla2_0 hll2_0 hlo2 hld2 hR2 hn2 hbz2 ⊢
  have hbza2 := hbz2.1
  have hbzb2 := hbz2.2
  have hle2 : s.at_ ≤ s2.at_ := by omega
  have hlt2 : s2.at_ < L.length := hR2.lt
  have hde2 := hR2.d0
  have hdd2 := hR2.d1
  refine CX.seq <| CX.sr ?_
  obtain ⟨t3, ht3⟩ : ∃ t, L[s2.at_]? = some t := ⟨_, List.getElem?_eq_getElem (show s2.at_ < L.length from hR2.lt)⟩
  have htk3 := (tok_in hL ht3).1
  have htp3 := (tok_in hL ht3).2
  refine LX.mv rfl <| LX.callQ (show FnQ Try.prog 12 #[.pointer (some ⟨bp, 0, none⟩)] _ (.bool (decide (s2.code ≠ 0))) from bad_q (s := s2) (m := m2) (fun w hw => blkL hw (i := 0) rfl)) Pb.en12 rfl rfl rfl rfl rfl <| LX.p (Y.not rfl) rfl <| LX.mv rfl <| LX.su [0, 6, 7, 13] rfl ?_
  apply LX.joinAnd 3 16 13 rfl
  · intro hb1
    refine LX.gT rfl rfl rfl hb1 (Y.move rfl) rfl rfl <| LX.callQT rfl rfl rfl hb1 (is_q (s := s2) (m := m2) ht3 ([44] : List UInt8) (fun w hw => blkL hw (i := 0) rfl) (fun w hw => hL.push hw)) Pb.en32 rfl rfl rfl rfl <| LX.p (Y.pickT rfl hb1 rfl) rfl ?_
    exact LX.left ⟨rfl, rfl, rfl, rfl, rfl, trivial⟩
  · intro hb1
    refine LX.gF rfl rfl rfl hb1 rfl rfl <| LX.gF rfl rfl rfl hb1 rfl rfl <| LX.p (Y.pickF rfl hb1 rfl) rfl ?_
    exact LX.left ⟨rfl, rfl, rfl, rfl, rfl, trivial⟩
  refine LX.su [0, 6, 7, 16] rfl <| LX.nt ?_
  refine CX.cond rfl (fun hb2 => ?_) (fun hb2 => ?_)
  · try simp at hb2
    refine CX.skip <| PX.thenN <| CX.block <| CX.sr ?_
    have hgo4 : s2.at_ + 1 < L.length := by exact hK.fin _ t3 ht3 (by (intro h8; simp_all [isS]; done))
    have hln4 := hK.len
    refine LX.ms 3 rfl <| LX.p (Y.fieldAddr0 Pa.fo42_1 rfl) rfl <| LX.p (Y.ldB 0 Pa.one3 rfl rfl rfl) rfl <| LX.p (Y.addN rfl rfl (by (simp only []; omega))) rfl <| LX.mv rfl <| LX.p (Y.fieldAddr0 Pa.fo42_1 rfl) rfl <| LX.storeB 0 Pb.sz3 rfl rfl rfl rfl rfl rfl rfl rfl <| LX.wq (PWl bp al L cl (RS.go s2 1) m2 (Ri g2_0 c2_0 (first :: l2_0) :: fr)) rfl ?_
    have hR5 : Rn L.length s (RS.go s2 1) (l2_0) 1 (-2) := hR2.go hgo4
    have hle6 : s.at_ < (s2.at_ + 1) := by have h9 : s.at_ ≤ s2.at_ := hR2.le; omega
    have hlt6 : (s2.at_ + 1) < L.length := hgo4
    refine LX.su [0, 6, 7] rfl <| LX.nt <| CX.sr <| LX.mv rfl <| LX.su [0, 6, 7] rfl <| LX.nt <| CX.seq <| CX.sr ?_
    obtain ⟨t7, ht7⟩ : ∃ t, L[(s2.at_ + 1)]? = some t := ⟨_, List.getElem?_eq_getElem (show (s2.at_ + 1) < L.length from hR5.lt)⟩
    have htk7 := (tok_in hL ht7).1
    have htp7 := (tok_in hL ht7).2
    refine LX.mv rfl <| LX.call (begins_w (s := (RS.go s2 1)) (m := m2) ht7 (fun w hw => blkL hw (i := 0) rfl) (fun w hw => hL.push hw)) Pe.en36 rfl rfl rfl rfl rfl ?_
    intro b8
    refine LX.have fun hy8 => ?_
    replace hy8 : b8 = true → t7.kind ≠ 8 := hy8
    refine LX.p (Y.not rfl) rfl <| LX.su [0, 6, 7, 27] rfl <| LX.nt ?_
    refine CX.cond rfl (fun hb3 => ?_) (fun hb3 => ?_)
    · try simp at hb3
      refine CX.exit <| PX.thenE <| PX.blockO rfl <| PX.thenE <| PX.blockE <| PX.thenN <| CX.sr <| LX.ms 4 rfl <| LX.su [4, 5] rfl <| LX.nt <| CX.ret <| PX.ret2 (by simp) Try.results51 rfl rfl ?_
      exact fun w hw => ⟨(l2_0, g2_0, c2_0, true, (RS.go s2 1), m2), rfl, ⟨hla2_0, (by show List.length _ + 2 * s.at_ ≤ 2 * (s2.at_ + 1) + 2; (try simp only [List.length_cons, List.length_nil, List.length_append]); omega), (by (intro h9; cases h9; done)), (by (intro _ h0; have h1 : ((s2.ns).length : Int) + 2 * s.at_ ≤ s.ns.length + 2 * (((s2.at_ + 1) : Nat) : Int) + (-2) := hR5.few h0; show ((s2.ns).length : Int) + 2 * s.at_ + 1 ≤ s.ns.length + 2 * (((s2.at_ + 1) : Nat) : Int); omega)), (hR5.wk dc dc).re pm, hn2⟩, (hw.perm pm)⟩
    try simp at hb3
    refine CX.skip <| PX.thenN <| CX.region <| LX.ms 2 rfl ?_
    have hk9 : Sk L.length (RS.go s2 1) := hs.next hR5 dc
    refine LX.call (h_test (RS.go s2 1) m2 (Ri g2_0 c2_0 (first :: l2_0) :: fr) hk9 hn2 (by show L.length - (s2.at_ + 1) ≤ N; omega)) Pd.en47 rfl rfl rfl rfl rfl ?_
    rintro ⟨r9, s9, m9⟩
    refine LX.have fun ⟨hri9, hr9, hn9⟩ => ?_
    try dsimp only at hri9 hr9 hn9 ⊢
    have hR10 : Rn L.length s s9 (l2_0 ++ [r9]) 2 (-2) := hR5.trans hr9
    have hch11 : (s2.at_ + 1) ≤ s9.at_ := hr9.le
    have hle11 : s.at_ < s9.at_ := by omega
    have hlt11 : s9.at_ < L.length := hR10.lt
    have hde11 : s2.deep ≤ s9.deep := hr9.d0
    have hdd11 : s9.deep ≤ 60 := hR10.d1
    have hav9 : s9.code = 0 → (s2.at_ + 1) + 1 ≤ s9.at_ := hr9.adv
    refine LX.buildSlice (e := 3) (size := 1) rfl rfl (fun _ => by kernel_rfl) rfl dc rfl rfl rfl ?_
    intro gt12
    refine LX.wq (Ri (some gt12) 1 ([r9]) :: PWl bp al L cl s9 m9 (Ri g2_0 c2_0 (first :: l2_0) :: fr)) rfl ?_
    refine LX.wp (Ri (some gt12) 1 ([r9]) :: Ri g2_0 c2_0 (first :: l2_0) :: PWl bp al L cl s9 m9 fr) ?_
    refine LX.appendT 0 (g := g2_0) (k := ((first :: l2_0)).length) Pe.el29 rfl rfl rfl rfl rfl rfl rfl lo lo rfl rfl rfl ?_
    intro ga13 ca13
    refine LX.world (W' := WA w0 base (Ri ga13 ca13 (first :: (l2_0 ++ [r9])) :: PWl bp al L cl s9 m9 fr)) (fun w hw => show WA w0 base (Ri ga13 ca13 ((first :: l2_0) ++ [r9]) :: PWl bp al L cl s9 m9 fr) w from by dsimp only [Ri, Rs]; rw [List.length_append, List.map_append]; exact hw) <| LX.sub (l' := [(0, _), (6, _), (7, _), (27, _), (28, _), (29, _), (30, _), (31, _), (32, rv ga13 ((first :: (l2_0 ++ [r9]))).length ca13)]) ⟨rfl, rfl, rfl, rfl, rfl, rfl, rfl, rfl, (by (show some (rv _ _ _) = some (rv _ _ _); simp only [List.length_cons, List.length_append, List.length_nil] <;> rfl)), trivial⟩ <| LX.mv rfl ?_
    refine LX.wp (PWl bp al L cl s9 m9 (Ri ga13 ca13 (first :: (l2_0 ++ [r9])) :: fr)) ?_
    refine LX.su [0, 6, 7] rfl <| LX.next <| PX.blockN ?_
    exact PX.again (i := ((l2_0, g2_0, c2_0), v2_1, s2, m2)) (((l2_0 ++ [r9]), ga13, ca13), true, s9, m9) (by show L.length - s9.at_ < L.length - s2.at_; omega) ⟨rfl, (by rfl), rfl, trivial⟩ (fun w hw => ⟨⟨(AllI.app hla2_0 (AllI.cons as_ AllI.nil)), (by show List.length _ + 2 * s.at_ ≤ 2 * s9.at_ + 0; (try simp only [List.length_cons, List.length_nil, List.length_append]); omega), (by show s.at_ ≤ s9.at_; omega), (by show s.deep ≤ s9.deep; omega), (hR10.wk dc dc).re pm, hn9, ⟨(by (intro h9; cases h9; done)), (by (intro _ h0; have h1 : ((s9.ns).length : Int) + 2 * s.at_ ≤ s.ns.length + 2 * ((s9.at_ : Nat) : Int) + (-2) := hR10.few h0; show ((s9.ns).length : Int) + 2 * s.at_ + 1 ≤ s.ns.length + 2 * ((s9.at_ : Nat) : Int); omega))⟩⟩, (hw.perm pm)⟩)
  try simp at hb2
  refine CX.exit <| PX.thenE <| PX.thenE <| PX.blockE <| PX.thenN <| CX.sr <| LX.ms 4 rfl <| LX.su [4, 5] rfl <| LX.nt <| CX.ret <| PX.ret2 (by simp) Try.results51 rfl rfl ?_
  exact fun w hw => ⟨(l2_0, g2_0, c2_0, v2_1, s2, m2), rfl, ⟨hla2_0, (by show List.length _ + 2 * s.at_ ≤ 2 * s2.at_ + 2; (try simp only [List.length_cons, List.length_nil, List.length_append]); omega), as_, as_, (hR2.wk dc dc).re pm, hn2⟩, (hw.perm pm)⟩
theorem tuple_c {w0 : World} {base : Nat} {bp : Nat} {al : Option Addr} {cl : Nat} {L : List Go.Pa.Tk} (hL : SlAt 3 tokA (Lies w0 base) al L) (hK : Tok6 L) {N : Nat} (h_test : (∀ (s : RS) (m : Mm) (fr : List It), Sk L.length s → NdsR 3 m.rs m.cells s.ns → L.length - s.at_ ≤ N → PF 47 [.pointer (some ⟨bp, 0, none⟩)] w0 base bp al cl L s m fr))  : (∀ (s : RS) (m : Mm) (fr : List It), Sk L.length s → NdsR 3 m.rs m.cells s.ns → L.length - s.at_ ≤ N → PF 38 [.pointer (some ⟨bp, 0, none⟩)] w0 base bp al cl L s m fr) := by
  intro s m fr hs hn hN
  have hR := Rn.refl hs
  have hle : s.at_ ≤ s.at_ := Nat.le_refl _
  have hd0 := hs.d0
  have hd1 := hs.d1
  have hlt := hs.lt
  have hln0 := hK.len
  have hN0 : 0 < N := by omega
  refine FnC.of_body (fn := Try.f38) [(0, _)] Try.func38 rfl Try.ntmps38 rfl ⟨rfl, trivial⟩ ?_
  refine CX.sr <| LX.mv rfl <| LX.su [0, 2] rfl <| LX.nt <| CX.sr ?_
  obtain ⟨t1, ht1⟩ : ∃ t, L[s.at_]? = some t := ⟨_, List.getElem?_eq_getElem (show s.at_ < L.length from hR.lt)⟩
  have htk1 := (tok_in hL ht1).1
  have htp1 := (tok_in hL ht1).2
  refine LX.mv rfl <| LX.callQ (now_q (s := s) (m := m) ht1 (fun w hw => blkL hw (i := 0) rfl) (fun w hw => hL.push hw)) Pa.en13 rfl rfl rfl rfl rfl <| LX.p (Y.field (v := .int .i64 t1.pos) rfl (fun _ => by kernel_rfl)) rfl <| LX.mv rfl <| LX.su [0, 2, 3] rfl <| LX.nt <| CX.sr <| LX.mv rfl ?_
  have hk2 : Sk L.length s := hs.next hR dc
  refine LX.call (h_test s m fr hk2 hn (by show L.length - s.at_ ≤ N; omega)) Pd.en47 rfl rfl rfl rfl rfl ?_
  rintro ⟨r2, s2, m2⟩
  refine LX.have fun ⟨hri2, hr2, hn2⟩ => ?_
  try dsimp only at hri2 hr2 hn2 ⊢
  have hR3 : Rn L.length s s2 ([r2]) 1 (0) := hR.trans hr2
  have hch4 : s.at_ ≤ s2.at_ := hr2.le
  have hle4 : s.at_ ≤ s2.at_ := by omega
  have hlt4 : s2.at_ < L.length := hR3.lt
  have hde4 : s.deep ≤ s2.deep := hr2.d0
  have hdd4 : s2.deep ≤ 60 := hR3.d1
  have hav2 : s2.code = 0 → s.at_ + 1 ≤ s2.at_ := hr2.adv
  refine LX.mv rfl <| LX.su [0, 2, 3, 4] rfl <| LX.nt <| CX.sr <| LX.ms 2 rfl ?_
  have hk5 : Sk L.length s2 := hs.next hR3 dc
  refine LX.call (rest_c hL hK h_test r2 as_ s2 m2 fr hk5 hn2 (by show L.length - s2.at_ ≤ N; omega)) Pe.en51 rfl rfl rfl rfl rfl ?_
  rintro ⟨l5, g5, c5, b5, s5, m5⟩
  refine LX.have fun ⟨hla5, hll5, hbl5, hbk5, hr5, hn5⟩ => ?_
  try dsimp only at hla5 hll5 hbl5 hbk5 hr5 hn5 ⊢
  have hR6 : Rn L.length s s5 ((r2 :: l5)) 1 (0) := (hR3.trans hr5).re pm
  have hch7 : s2.at_ ≤ s5.at_ := hr5.le
  have hle7 : s.at_ ≤ s5.at_ := by omega
  have hlt7 : s5.at_ < L.length := hR6.lt
  have hde7 : s2.deep ≤ s5.deep := hr5.d0
  have hdd7 : s5.deep ≤ 60 := hR6.d1
  refine LX.wq (Ri g5 c5 (r2 :: l5) :: PWl bp al L cl s5 m5 fr) rfl ?_
  rcases b5 with _ | _
  ·
    obtain rfl : l5 = [] := hbl5 rfl
    refine LX.wq (Ri g5 c5 ([r2]) :: PWl bp al L cl s5 m5 fr) rfl ?_
    have hR8 : Rn L.length s s5 ([r2]) 1 (0) := hR6
    refine LX.mv rfl <| LX.p (Y.extract rfl rfl) rfl <| LX.p (Y.extract rfl rfl) rfl <| LX.ms 2 rfl ?_
    refine LX.wp (PWl bp al L cl s5 m5 (Ri g5 c5 ([r2]) :: fr)) ?_
    refine LX.su [0, 2, 3, 4, 5, 6] rfl <| LX.nt <| CX.seq <| CX.sr <| LX.mv rfl <| LX.p (Y.not rfl) rfl <| LX.su [0, 2, 3, 4, 5, 19] rfl <| LX.nt ?_
    refine CX.cond rfl (fun hb1 => ?_) (fun hb1 => ?_)
    · try simp at hb1
      refine CX.sr <| LX.ms 2 rfl <| LX.su [0, 2, 3, 5] rfl <| LX.nt <| CX.ret <| PX.thenR <| PX.ret1 (by simp) Try.results38 rfl ?_
      exact fun w hw => ⟨(r2, s5, m5), rfl, ⟨as_, hR8.wk dc dc, hn5⟩, hw.ct⟩
    try simp at hb1
    done
  have hR9 : Rn L.length s s5 ((r2 :: l5)) 1 (-1) := hR6.kk (fun h0 => by have h1 := hR3.few (hr5.bad h0); have h2 := hbk5 rfl h0; show ((s5.ns.length : Nat) : Int) + 2 * s.at_ ≤ s.ns.length + 2 * s5.at_ + (-1); omega)
  refine LX.mv rfl <| LX.p (Y.extract rfl rfl) rfl <| LX.p (Y.extract rfl rfl) rfl <| LX.ms 2 rfl ?_
  refine LX.wp (PWl bp al L cl s5 m5 (Ri g5 c5 (r2 :: l5) :: fr)) ?_
  refine LX.su [0, 2, 3, 4, 5, 6] rfl <| LX.nt <| CX.seq <| CX.sr <| LX.mv rfl <| LX.p (Y.not rfl) rfl <| LX.su [0, 2, 3, 4, 5, 19] rfl <| LX.nt ?_
  refine CX.cond rfl (fun hb2 => ?_) (fun hb2 => ?_)
  · try simp at hb2
    done
  try simp at hb2
  refine CX.skip <| PX.thenN <| CX.sr <| LX.ms 3 rfl ?_
  refine LX.wp (Ri g5 c5 (r2 :: l5) :: PWl bp al L cl s5 m5 fr) ?_
  refine LX.call (put_c (fr := fr) (g := g5) (c := c5) (ks := (r2 :: l5)) (op := 8) (pos := t1.pos) (x := ([] : List UInt8)) s5 m5 hn5 (fun h0 => by have h1 : ((s5.ns).length : Int) + 2 * s.at_ ≤ s.ns.length + 2 * ((s5.at_ : Nat) : Int) + (-1) := hR9.few h0; have h2 := hs.few (hR9.bad h0); have h3 := hK.len; have h4 : s5.at_ < L.length := hR9.lt; show (s5.ns).length ≤ 1000000; omega) (by (simp only [List.length_cons, List.length_nil, List.length_append]; omega)) ((AllI.cons as_ hla5)) (by (unfold inI; omega)) as_) Pd.en16 rfl rfl rfl rfl rfl ?_
  rintro ⟨r10, s10, m10⟩
  refine LX.have fun ⟨hri10, hp10, hn10⟩ => ?_
  try dsimp only at hri10 hp10 hn10 ⊢
  have hR11 : Rn L.length s s10 ([r10]) 1 (0) := hR9.put (us := ([] : List Int)) (ks := (r2 :: l5)) hp10 pm
  have hch12 : s5.at_ ≤ s10.at_ := Nat.le_of_eq hp10.eqs.1.symm
  have hle12 : s.at_ ≤ s10.at_ := by omega
  have hlt12 : s10.at_ < L.length := hR11.lt
  have hde12 : s5.deep ≤ s10.deep := Int.le_of_eq hp10.eqs.2.1.symm
  have hdd12 : s10.deep ≤ 60 := hR11.d1
  refine LX.mv rfl <| LX.su [2] rfl <| LX.nt <| CX.ret <| PX.ret1 (by simp) Try.results38 rfl ?_
  exact fun w hw => ⟨(r10, s10, m10), rfl, ⟨as_, hR11.wk dc dc, hn10⟩, hw⟩
theorem round_c {w0 : World} {base : Nat} {bp : Nat} {al : Option Addr} {cl : Nat} {L : List Go.Pa.Tk} (hL : SlAt 3 tokA (Lies w0 base) al L) (hK : Tok6 L) {N : Nat} (ih_test : (∀ (s : RS) (m : Mm) (fr : List It), Sk L.length s → NdsR 3 m.rs m.cells s.ns → L.length - s.at_ < N → PF 47 [.pointer (some ⟨bp, 0, none⟩)] w0 base bp al cl L s m fr)) (pos : Int) (hpos : inI pos)  : (∀ (s : RS) (m : Mm) (fr : List It), Sk L.length s → NdsR 3 m.rs m.cells s.ns → L.length - s.at_ ≤ N → s.at_ + 1 < L.length → PF 67 [.pointer (some ⟨bp, 0, none⟩), .int .i64 pos] w0 base bp al cl L s m fr) := by
  intro s m fr hs hn hN hgo0
  have hR := Rn.refl hs
  have hle : s.at_ ≤ s.at_ := Nat.le_refl _
  have hd0 := hs.d0
  have hd1 := hs.d1
  have hlt := hs.lt
  have hln0 := hK.len
  have hN0 : 0 < N := by omega
  refine FnC.of_body (fn := Try.f67) [(0, _), (1, _)] Try.func67 rfl Try.ntmps67 rfl ⟨rfl, rfl, trivial⟩ ?_
  refine CX.sr <| LX.mv rfl <| LX.su [0, 1, 4] rfl <| LX.nt <| CX.seq <| CX.sr <| LX.ms 2 rfl ?_
  have hd01 : 0 ≤ s.deep := by have h9 := hs.d0; have h8 : s.deep ≤ s.deep := hR.d0; omega
  refine LX.call (enter_c (fr := fr) s m hd01 pos) Pd.en48 rfl rfl rfl rfl rfl ?_
  rintro ⟨b1, s1⟩
  refine LX.have fun he1 => ?_
  try dsimp only at he1 ⊢
  have hn1 : NdsR 3 m.rs m.cells s1.ns := by rw [he1.ns]; exact hn
  refine LX.p (Y.not rfl) rfl <| LX.su [0, 1, 4, 11] rfl <| LX.nt ?_
  refine CX.cond rfl (fun hb1 => ?_) (fun hb1 => ?_)
  · try simp at hb1
    have hb901 := he1.f (by exact hb1)
    have hbc1 := hb901.code
    have hR2 : Rn L.length s s1 ([] : List Int) 0 (0) := hR.bad2 hb901
    have hch901 : s.at_ ≤ s1.at_ := Nat.le_of_eq hb901.at_.symm
    refine CX.sr <| LX.mv rfl <| LX.su [0, 1, 4] rfl <| LX.nt <| CX.ret <| PX.thenR <| PX.ret1 (by simp) Try.results67 rfl ?_
    exact fun w hw => ⟨((-1), s1, m), rfl, ⟨(by (unfold inI; omega)), hR2.no as_, hn1⟩, hw⟩
  try simp at hb1
  obtain ⟨hc1, hdl1, hq1⟩ := he1.t (by exact hb1)
  subst hq1
  have hR3 : Rn L.length s (RS.dp s (s.deep + 1)) ([] : List Int) 0 (0) := hR.up hdl1
  refine CX.skip <| PX.thenN <| CX.sr ?_
  obtain ⟨t4, ht4⟩ : ∃ t, L[s.at_]? = some t := ⟨_, List.getElem?_eq_getElem (show s.at_ < L.length from hR3.lt)⟩
  have htk4 := (tok_in hL ht4).1
  have htp4 := (tok_in hL ht4).2
  have hgo5 : s.at_ + 1 < L.length := by omega
  have hln5 := hK.len
  refine LX.ms 3 rfl <| LX.p (Y.fieldAddr0 Pa.fo42_1 rfl) rfl <| LX.p (Y.ldB 0 Pa.one3 rfl rfl rfl) rfl <| LX.p (Y.addN rfl rfl (by (simp only []; omega))) rfl <| LX.mv rfl <| LX.p (Y.fieldAddr0 Pa.fo42_1 rfl) rfl <| LX.storeB 0 Pb.sz3 rfl rfl rfl rfl rfl rfl rfl rfl <| LX.wq (PWl bp al L cl (RS.go (RS.dp s (s.deep + 1)) 1) m fr) rfl ?_
  have hR6 : Rn L.length s (RS.go (RS.dp s (s.deep + 1)) 1) ([] : List Int) 1 (-2) := hR3.go hgo5
  have hle7 : s.at_ < (s.at_ + 1) := by have h9 : s.at_ ≤ s.at_ := hR3.le; omega
  have hlt7 : (s.at_ + 1) < L.length := hgo5
  refine LX.su [0, 1, 4] rfl <| LX.nt <| CX.seq <| CX.sr ?_
  obtain ⟨t8, ht8⟩ : ∃ t, L[(s.at_ + 1)]? = some t := ⟨_, List.getElem?_eq_getElem (show (s.at_ + 1) < L.length from hR6.lt)⟩
  have htk8 := (tok_in hL ht8).1
  have htp8 := (tok_in hL ht8).2
  refine LX.mv rfl <| LX.callQ (is_q (s := (RS.go (RS.dp s (s.deep + 1)) 1)) (m := m) ht8 ([41] : List UInt8) (fun w hw => blkL hw (i := 0) rfl) (fun w hw => hL.push hw)) Pb.en32 rfl rfl rfl rfl rfl <| LX.su [0, 1, 4, 21] rfl <| LX.nt ?_
  refine CX.cond rfl (fun hb2 => ?_) (fun hb2 => ?_)
  · try simp at hb2
    refine CX.sr ?_
    have hgo9 : (s.at_ + 1) + 1 < L.length := by exact hK.fin _ t8 ht8 (by (intro h8; simp_all [isS]; done))
    have hln9 := hK.len
    refine LX.ms 3 rfl <| LX.p (Y.fieldAddr0 Pa.fo42_1 rfl) rfl <| LX.p (Y.ldB 0 Pa.one3 rfl rfl rfl) rfl <| LX.p (Y.addN rfl rfl (by (simp only []; omega))) rfl <| LX.mv rfl <| LX.p (Y.fieldAddr0 Pa.fo42_1 rfl) rfl <| LX.storeB 0 Pb.sz3 rfl rfl rfl rfl rfl rfl rfl rfl <| LX.wq (PWl bp al L cl (RS.go (RS.go (RS.dp s (s.deep + 1)) 1) 1) m fr) rfl ?_
    have hR10 : Rn L.length s (RS.go (RS.go (RS.dp s (s.deep + 1)) 1) 1) ([] : List Int) 2 (-4) := hR6.go hgo9
    have hle11 : s.at_ < ((s.at_ + 1) + 1) := by have h9 : s.at_ ≤ (s.at_ + 1) := hR6.le; omega
    have hlt11 : ((s.at_ + 1) + 1) < L.length := hgo9
    refine LX.su [0, 1, 4] rfl <| LX.nt <| CX.sr <| LX.ms 3 rfl <| LX.p (Y.fieldAddr0 Pb.fo42_3 rfl) rfl <| LX.p (Y.ldB 0 Pa.one3 rfl rfl rfl) rfl <| LX.p (Y.sub rfl rfl (by (simp only []; omega))) rfl <| LX.mv rfl <| LX.p (Y.fieldAddr0 Pb.fo42_3 rfl) rfl <| LX.storeB 0 Pb.sz3 rfl rfl rfl rfl rfl rfl rfl rfl <| LX.wq (PWl bp al L cl (RS.dp (RS.go (RS.go (RS.dp s (s.deep + 1)) 1) 1) ((s.deep + 1) - 1)) m fr) rfl ?_
    have hR12 : Rn L.length s (RS.dp (RS.go (RS.go (RS.dp s (s.deep + 1)) 1) 1) ((s.deep + 1) - 1)) ([] : List Int) 2 (-4) := hR10.down (by show s.deep + 1 ≤ (s.deep + 1); omega)
    refine LX.su [0, 1, 4] rfl <| LX.nt <| CX.sr <| LX.ms 2 rfl <| LX.world (W' := WA w0 base (Ri none 0 ([] : List Int) :: PWl bp al L cl (RS.dp (RS.go (RS.go (RS.dp s (s.deep + 1)) 1) 1) ((s.deep + 1) - 1)) m fr)) (fun w hw => (show WA w0 base (Ri none 0 ([] : List Int) :: PWl bp al L cl (RS.dp (RS.go (RS.go (RS.dp s (s.deep + 1)) 1) 1) ((s.deep + 1) - 1)) m fr) w from (show WA w0 base (PWl bp al L cl (RS.dp (RS.go (RS.go (RS.dp s (s.deep + 1)) 1) 1) ((s.deep + 1) - 1)) m fr) w from hw).nilRow 3 1)) <| LX.call (put_c (fr := fr) (g := none) (c := 0) (ks := ([] : List Int)) (op := 8) (pos := pos) (x := ([] : List UInt8)) (RS.dp (RS.go (RS.go (RS.dp s (s.deep + 1)) 1) 1) ((s.deep + 1) - 1)) m hn1 (fun h0 => by have h1 : ((s.ns).length : Int) + 2 * s.at_ ≤ s.ns.length + 2 * ((((s.at_ + 1) + 1) : Nat) : Int) + (-4) := hR12.few h0; have h2 := hs.few (hR12.bad h0); have h3 := hK.len; have h4 : ((s.at_ + 1) + 1) < L.length := hR12.lt; show (s.ns).length ≤ 1000000; omega) (by (simp only [List.length_cons, List.length_nil, List.length_append]; omega)) (AllI.nil) (by (unfold inI; omega)) as_) Pd.en16 rfl rfl rfl rfl rfl ?_
    rintro ⟨r13, s13, m13⟩
    refine LX.have fun ⟨hri13, hp13, hn13⟩ => ?_
    try dsimp only at hri13 hp13 hn13 ⊢
    have hR14 : Rn L.length s s13 ([r13]) 2 (-3) := hR12.put (us := ([] : List Int)) (ks := ([] : List Int)) hp13 pm
    have hch15 : ((s.at_ + 1) + 1) ≤ s13.at_ := Nat.le_of_eq hp13.eqs.1.symm
    have hle15 : s.at_ < s13.at_ := by omega
    have hlt15 : s13.at_ < L.length := hR14.lt
    have hde15 : ((s.deep + 1) - 1) ≤ s13.deep := Int.le_of_eq hp13.eqs.2.1.symm
    have hdd15 : s13.deep ≤ 60 := hR14.d1
    refine LX.mv rfl <| LX.su [0, 1, 4] rfl <| LX.nt <| CX.ret <| PX.thenR <| PX.ret1 (by simp) Try.results67 rfl ?_
    exact fun w hw => ⟨(r13, s13, m13), rfl, ⟨as_, hR14.wk dc dc, hn13⟩, hw⟩
  try simp at hb2
  refine CX.skip <| PX.thenN <| CX.sr <| LX.mv rfl ?_
  have hk16 : Sk L.length (RS.go (RS.dp s (s.deep + 1)) 1) := hs.next hR6 dc
  refine LX.call (ih_test (RS.go (RS.dp s (s.deep + 1)) 1) m fr hk16 hn1 (by show L.length - (s.at_ + 1) < N; omega)) Pd.en47 rfl rfl rfl rfl rfl ?_
  rintro ⟨r16, s16, m16⟩
  refine LX.have fun ⟨hri16, hr16, hn16⟩ => ?_
  try dsimp only at hri16 hr16 hn16 ⊢
  have hR17 : Rn L.length s s16 ([r16]) 2 (-2) := hR6.trans hr16
  have hch18 : (s.at_ + 1) ≤ s16.at_ := hr16.le
  have hle18 : s.at_ < s16.at_ := by omega
  have hlt18 : s16.at_ < L.length := hR17.lt
  have hde18 : (s.deep + 1) ≤ s16.deep := hr16.d0
  have hdd18 : s16.deep ≤ 60 := hR17.d1
  have hav16 : s16.code = 0 → (s.at_ + 1) + 1 ≤ s16.at_ := hr16.adv
  refine LX.mv rfl <| LX.su [0, 1, 4, 5] rfl <| LX.nt <| CX.sr <| LX.ms 2 rfl ?_
  have hk19 : Sk L.length s16 := hs.next hR17 dc
  refine LX.call (rest_c (N := N - 1) hL hK (fun s m fr a b c => ih_test s m fr a b (by omega)) r16 as_ s16 m16 fr hk19 hn16 (by show L.length - s16.at_ ≤ N - 1; omega)) Pe.en51 rfl rfl rfl rfl rfl ?_
  rintro ⟨l19, g19, c19, b19, s19, m19⟩
  refine LX.have fun ⟨hla19, hll19, hbl19, hbk19, hr19, hn19⟩ => ?_
  try dsimp only at hla19 hll19 hbl19 hbk19 hr19 hn19 ⊢
  have hR20 : Rn L.length s s19 ((r16 :: l19)) 2 (-2) := (hR17.trans hr19).re pm
  have hch21 : s16.at_ ≤ s19.at_ := hr19.le
  have hle21 : s.at_ < s19.at_ := by omega
  have hlt21 : s19.at_ < L.length := hR20.lt
  have hde21 : s16.deep ≤ s19.deep := hr19.d0
  have hdd21 : s19.deep ≤ 60 := hR20.d1
  refine LX.wq (Ri g19 c19 (r16 :: l19) :: PWl bp al L cl s19 m19 fr) rfl ?_
  rcases b19 with _ | _
  ·
    obtain rfl : l19 = [] := hbl19 rfl
    refine LX.wq (Ri g19 c19 ([r16]) :: PWl bp al L cl s19 m19 fr) rfl ?_
    have hR22 : Rn L.length s s19 ([r16]) 2 (-2) := hR20
    refine LX.mv rfl <| LX.p (Y.extract rfl rfl) rfl <| LX.p (Y.extract rfl rfl) rfl <| LX.ms 2 rfl ?_
    refine LX.wp (PWl bp al L cl s19 m19 (Ri g19 c19 ([r16]) :: fr)) ?_
    refine LX.su [0, 1, 4, 5, 6, 7] rfl <| LX.nt <| CX.sr ?_
    obtain ⟨t23, ht23⟩ : ∃ t, L[s19.at_]? = some t := ⟨_, List.getElem?_eq_getElem (show s19.at_ < L.length from hR22.lt)⟩
    have htk23 := (tok_in hL ht23).1
    have htp23 := (tok_in hL ht23).2
    refine LX.mv rfl <| LX.call (want_c (fr := (Ri g19 c19 ([r16]) :: fr)) s19 m19 hL hK ht23 ([41] : List UInt8)) Pd.en35 rfl rfl rfl rfl rfl ?_
    rintro ⟨b24, s24⟩
    refine LX.have fun hw24 => ?_
    try dsimp only at hw24 ⊢
    have hn24 : NdsR 3 m19.rs m19.cells s24.ns := by rw [hw24.ns]; exact hn19
    have hR25 : Rn L.length s s24 ([r16]) 3 (-4) := hR22.want hw24
    have hch26 : s19.at_ ≤ s24.at_ := hw24.le
    have hle26 : s.at_ < s24.at_ := by omega
    have hlt26 : s24.at_ < L.length := hR25.lt
    have hde26 : s19.deep ≤ s24.deep := Int.le_of_eq hw24.deep.symm
    have hdd26 : s24.deep ≤ 60 := hR25.d1
    refine LX.su [0, 1, 4, 5, 6, 7] rfl <| LX.nt <| CX.sr <| LX.ms 3 rfl <| LX.p (Y.fieldAddr0 Pb.fo42_3 rfl) rfl <| LX.p (Y.ldB 0 Pa.one3 rfl rfl rfl) rfl <| LX.p (Y.sub rfl rfl (by omega)) rfl <| LX.mv rfl <| LX.p (Y.fieldAddr0 Pb.fo42_3 rfl) rfl <| LX.storeB 0 Pb.sz3 rfl rfl rfl rfl rfl rfl rfl rfl <| LX.wq (PWl bp al L cl (RS.dp s24 (s24.deep - 1)) m19 (Ri g19 c19 ([r16]) :: fr)) rfl ?_
    have hR27 : Rn L.length s (RS.dp s24 (s24.deep - 1)) ([r16]) 3 (-4) := hR25.down (by show s.deep + 1 ≤ s24.deep; omega)
    refine LX.su [0, 1, 4, 5, 6, 7] rfl <| LX.nt <| CX.seq <| CX.sr <| LX.mv rfl <| LX.p (Y.not rfl) rfl <| LX.su [0, 1, 4, 5, 6, 60] rfl <| LX.nt ?_
    refine CX.cond rfl (fun hb3 => ?_) (fun hb3 => ?_)
    · try simp at hb3
      refine CX.sr <| LX.ms 2 rfl <| LX.su [0, 1, 4, 6] rfl <| LX.nt <| CX.ret <| PX.thenR <| PX.ret1 (by simp) Try.results67 rfl ?_
      exact fun w hw => ⟨(r16, (RS.dp s24 (s24.deep - 1)), m19), rfl, ⟨as_, hR27.wk dc dc, hn24⟩, hw.ct⟩
    try simp at hb3
    done
  have hR28 : Rn L.length s s19 ((r16 :: l19)) 2 (-3) := hR20.kk (fun h0 => by have h1 := hR17.few (hr19.bad h0); have h2 := hbk19 rfl h0; show ((s19.ns.length : Nat) : Int) + 2 * s.at_ ≤ s.ns.length + 2 * s19.at_ + (-3); omega)
  refine LX.mv rfl <| LX.p (Y.extract rfl rfl) rfl <| LX.p (Y.extract rfl rfl) rfl <| LX.ms 2 rfl ?_
  refine LX.wp (PWl bp al L cl s19 m19 (Ri g19 c19 (r16 :: l19) :: fr)) ?_
  refine LX.su [0, 1, 4, 5, 6, 7] rfl <| LX.nt <| CX.sr ?_
  obtain ⟨t29, ht29⟩ : ∃ t, L[s19.at_]? = some t := ⟨_, List.getElem?_eq_getElem (show s19.at_ < L.length from hR28.lt)⟩
  have htk29 := (tok_in hL ht29).1
  have htp29 := (tok_in hL ht29).2
  refine LX.mv rfl <| LX.call (want_c (fr := (Ri g19 c19 (r16 :: l19) :: fr)) s19 m19 hL hK ht29 ([41] : List UInt8)) Pd.en35 rfl rfl rfl rfl rfl ?_
  rintro ⟨b30, s30⟩
  refine LX.have fun hw30 => ?_
  try dsimp only at hw30 ⊢
  have hn30 : NdsR 3 m19.rs m19.cells s30.ns := by rw [hw30.ns]; exact hn19
  have hR31 : Rn L.length s s30 ((r16 :: l19)) 3 (-5) := hR28.want hw30
  have hch32 : s19.at_ ≤ s30.at_ := hw30.le
  have hle32 : s.at_ < s30.at_ := by omega
  have hlt32 : s30.at_ < L.length := hR31.lt
  have hde32 : s19.deep ≤ s30.deep := Int.le_of_eq hw30.deep.symm
  have hdd32 : s30.deep ≤ 60 := hR31.d1
  refine LX.su [0, 1, 4, 5, 6, 7] rfl <| LX.nt <| CX.sr <| LX.ms 3 rfl <| LX.p (Y.fieldAddr0 Pb.fo42_3 rfl) rfl <| LX.p (Y.ldB 0 Pa.one3 rfl rfl rfl) rfl <| LX.p (Y.sub rfl rfl (by omega)) rfl <| LX.mv rfl <| LX.p (Y.fieldAddr0 Pb.fo42_3 rfl) rfl <| LX.storeB 0 Pb.sz3 rfl rfl rfl rfl rfl rfl rfl rfl <| LX.wq (PWl bp al L cl (RS.dp s30 (s30.deep - 1)) m19 (Ri g19 c19 (r16 :: l19) :: fr)) rfl ?_
  have hR33 : Rn L.length s (RS.dp s30 (s30.deep - 1)) ((r16 :: l19)) 3 (-5) := hR31.down (by show s.deep + 1 ≤ s30.deep; omega)
  refine LX.su [0, 1, 4, 5, 6, 7] rfl <| LX.nt <| CX.seq <| CX.sr <| LX.mv rfl <| LX.p (Y.not rfl) rfl <| LX.su [0, 1, 4, 5, 6, 60] rfl <| LX.nt ?_
  refine CX.cond rfl (fun hb4 => ?_) (fun hb4 => ?_)
  · try simp at hb4
    done
  try simp at hb4
  refine CX.skip <| PX.thenN <| CX.sr <| LX.ms 3 rfl ?_
  refine LX.wp (Ri g19 c19 (r16 :: l19) :: PWl bp al L cl (RS.dp s30 (s30.deep - 1)) m19 fr) ?_
  refine LX.call (put_c (fr := fr) (g := g19) (c := c19) (ks := (r16 :: l19)) (op := 8) (pos := pos) (x := ([] : List UInt8)) (RS.dp s30 (s30.deep - 1)) m19 hn30 (fun h0 => by have h1 : ((s30.ns).length : Int) + 2 * s.at_ ≤ s.ns.length + 2 * ((s30.at_ : Nat) : Int) + (-5) := hR33.few h0; have h2 := hs.few (hR33.bad h0); have h3 := hK.len; have h4 : s30.at_ < L.length := hR33.lt; show (s30.ns).length ≤ 1000000; omega) (by (simp only [List.length_cons, List.length_nil, List.length_append]; omega)) ((AllI.cons as_ hla19)) (by (unfold inI; omega)) as_) Pd.en16 rfl rfl rfl rfl rfl ?_
  rintro ⟨r34, s34, m34⟩
  refine LX.have fun ⟨hri34, hp34, hn34⟩ => ?_
  try dsimp only at hri34 hp34 hn34 ⊢
  have hR35 : Rn L.length s s34 ([r34]) 3 (-4) := hR33.put (us := ([] : List Int)) (ks := (r16 :: l19)) hp34 pm
  have hch36 : s30.at_ ≤ s34.at_ := Nat.le_of_eq hp34.eqs.1.symm
  have hle36 : s.at_ < s34.at_ := by omega
  have hlt36 : s34.at_ < L.length := hR35.lt
  have hde36 : (s30.deep - 1) ≤ s34.deep := Int.le_of_eq hp34.eqs.2.1.symm
  have hdd36 : s34.deep ≤ 60 := hR35.d1
  refine LX.mv rfl <| LX.su [4] rfl <| LX.nt <| CX.ret <| PX.ret1 (by simp) Try.results67 rfl ?_
  exact fun w hw => ⟨(r34, s34, m34), rfl, ⟨as_, hR35.wk dc dc, hn34⟩, hw⟩
theorem square_c {w0 : World} {base : Nat} {bp : Nat} {al : Option Addr} {cl : Nat} {L : List Go.Pa.Tk} (hL : SlAt 3 tokA (Lies w0 base) al L) (hK : Tok6 L) {N : Nat} (ih_test : (∀ (s : RS) (m : Mm) (fr : List It), Sk L.length s → NdsR 3 m.rs m.cells s.ns → L.length - s.at_ < N → PF 47 [.pointer (some ⟨bp, 0, none⟩)] w0 base bp al cl L s m fr)) (ih_or : (∀ (s : RS) (m : Mm) (fr : List It), Sk L.length s → NdsR 3 m.rs m.cells s.ns → L.length - s.at_ < N → PF 56 [.pointer (some ⟨bp, 0, none⟩)] w0 base bp al cl L s m fr)) (ih_targets : (∀ (s : RS) (m : Mm) (fr : List It), Sk L.length s → NdsR 3 m.rs m.cells s.ns → L.length - s.at_ < N → PF 34 [.pointer (some ⟨bp, 0, none⟩)] w0 base bp al cl L s m fr)) (pos : Int) (hpos : inI pos)  : (∀ (s : RS) (m : Mm) (fr : List It), Sk L.length s → NdsR 3 m.rs m.cells s.ns → L.length - s.at_ ≤ N → s.at_ + 1 < L.length → PF 68 [.pointer (some ⟨bp, 0, none⟩), .int .i64 pos] w0 base bp al cl L s m fr) := by
  intro s m fr hs hn hN hgo0
  have hR := Rn.refl hs
  have hle : s.at_ ≤ s.at_ := Nat.le_refl _
  have hd0 := hs.d0
  have hd1 := hs.d1
  have hlt := hs.lt
  have hln0 := hK.len
  have hN0 : 0 < N := by omega
  refine FnC.of_body (fn := Try.f68) [(0, _), (1, _)] Try.func68 rfl Try.ntmps68 rfl ⟨rfl, rfl, trivial⟩ ?_
  refine CX.sr <| LX.mv rfl <| LX.su [0, 1, 4] rfl <| LX.nt <| CX.seq <| CX.sr <| LX.ms 2 rfl ?_
  have hd01 : 0 ≤ s.deep := by have h9 := hs.d0; have h8 : s.deep ≤ s.deep := hR.d0; omega
  refine LX.call (enter_c (fr := fr) s m hd01 pos) Pd.en48 rfl rfl rfl rfl rfl ?_
  rintro ⟨b1, s1⟩
  refine LX.have fun he1 => ?_
  try dsimp only at he1 ⊢
  have hn1 : NdsR 3 m.rs m.cells s1.ns := by rw [he1.ns]; exact hn
  refine LX.p (Y.not rfl) rfl <| LX.su [0, 1, 4, 13] rfl <| LX.nt ?_
  refine CX.cond rfl (fun hb1 => ?_) (fun hb1 => ?_)
  · try simp at hb1
    have hb901 := he1.f (by exact hb1)
    have hbc1 := hb901.code
    have hR2 : Rn L.length s s1 ([] : List Int) 0 (0) := hR.bad2 hb901
    have hch901 : s.at_ ≤ s1.at_ := Nat.le_of_eq hb901.at_.symm
    refine CX.sr <| LX.mv rfl <| LX.su [0, 1, 4] rfl <| LX.nt <| CX.ret <| PX.thenR <| PX.ret1 (by simp) Try.results68 rfl ?_
    exact fun w hw => ⟨((-1), s1, m), rfl, ⟨(by (unfold inI; omega)), hR2.no as_, hn1⟩, hw⟩
  try simp at hb1
  obtain ⟨hc1, hdl1, hq1⟩ := he1.t (by exact hb1)
  subst hq1
  have hR3 : Rn L.length s (RS.dp s (s.deep + 1)) ([] : List Int) 0 (0) := hR.up hdl1
  refine CX.skip <| PX.thenN <| CX.sr ?_
  obtain ⟨t4, ht4⟩ : ∃ t, L[s.at_]? = some t := ⟨_, List.getElem?_eq_getElem (show s.at_ < L.length from hR3.lt)⟩
  have htk4 := (tok_in hL ht4).1
  have htp4 := (tok_in hL ht4).2
  have hgo5 : s.at_ + 1 < L.length := by omega
  have hln5 := hK.len
  refine LX.ms 3 rfl <| LX.p (Y.fieldAddr0 Pa.fo42_1 rfl) rfl <| LX.p (Y.ldB 0 Pa.one3 rfl rfl rfl) rfl <| LX.p (Y.addN rfl rfl (by (simp only []; omega))) rfl <| LX.mv rfl <| LX.p (Y.fieldAddr0 Pa.fo42_1 rfl) rfl <| LX.storeB 0 Pb.sz3 rfl rfl rfl rfl rfl rfl rfl rfl <| LX.wq (PWl bp al L cl (RS.go (RS.dp s (s.deep + 1)) 1) m fr) rfl ?_
  have hR6 : Rn L.length s (RS.go (RS.dp s (s.deep + 1)) 1) ([] : List Int) 1 (-2) := hR3.go hgo5
  have hle7 : s.at_ < (s.at_ + 1) := by have h9 : s.at_ ≤ s.at_ := hR3.le; omega
  have hlt7 : (s.at_ + 1) < L.length := hgo5
  refine LX.su [0, 1, 4] rfl <| LX.nt <| CX.seq <| CX.sr ?_
  obtain ⟨t8, ht8⟩ : ∃ t, L[(s.at_ + 1)]? = some t := ⟨_, List.getElem?_eq_getElem (show (s.at_ + 1) < L.length from hR6.lt)⟩
  have htk8 := (tok_in hL ht8).1
  have htp8 := (tok_in hL ht8).2
  refine LX.mv rfl <| LX.callQ (is_q (s := (RS.go (RS.dp s (s.deep + 1)) 1)) (m := m) ht8 ([93] : List UInt8) (fun w hw => blkL hw (i := 0) rfl) (fun w hw => hL.push hw)) Pb.en32 rfl rfl rfl rfl rfl <| LX.su [0, 1, 4, 23] rfl <| LX.nt ?_
  refine CX.cond rfl (fun hb2 => ?_) (fun hb2 => ?_)
  · try simp at hb2
    refine CX.sr ?_
    have hgo9 : (s.at_ + 1) + 1 < L.length := by exact hK.fin _ t8 ht8 (by (intro h8; simp_all [isS]; done))
    have hln9 := hK.len
    refine LX.ms 3 rfl <| LX.p (Y.fieldAddr0 Pa.fo42_1 rfl) rfl <| LX.p (Y.ldB 0 Pa.one3 rfl rfl rfl) rfl <| LX.p (Y.addN rfl rfl (by (simp only []; omega))) rfl <| LX.mv rfl <| LX.p (Y.fieldAddr0 Pa.fo42_1 rfl) rfl <| LX.storeB 0 Pb.sz3 rfl rfl rfl rfl rfl rfl rfl rfl <| LX.wq (PWl bp al L cl (RS.go (RS.go (RS.dp s (s.deep + 1)) 1) 1) m fr) rfl ?_
    have hR10 : Rn L.length s (RS.go (RS.go (RS.dp s (s.deep + 1)) 1) 1) ([] : List Int) 2 (-4) := hR6.go hgo9
    have hle11 : s.at_ < ((s.at_ + 1) + 1) := by have h9 : s.at_ ≤ (s.at_ + 1) := hR6.le; omega
    have hlt11 : ((s.at_ + 1) + 1) < L.length := hgo9
    refine LX.su [0, 1, 4] rfl <| LX.nt <| CX.sr <| LX.ms 3 rfl <| LX.p (Y.fieldAddr0 Pb.fo42_3 rfl) rfl <| LX.p (Y.ldB 0 Pa.one3 rfl rfl rfl) rfl <| LX.p (Y.sub rfl rfl (by (simp only []; omega))) rfl <| LX.mv rfl <| LX.p (Y.fieldAddr0 Pb.fo42_3 rfl) rfl <| LX.storeB 0 Pb.sz3 rfl rfl rfl rfl rfl rfl rfl rfl <| LX.wq (PWl bp al L cl (RS.dp (RS.go (RS.go (RS.dp s (s.deep + 1)) 1) 1) ((s.deep + 1) - 1)) m fr) rfl ?_
    have hR12 : Rn L.length s (RS.dp (RS.go (RS.go (RS.dp s (s.deep + 1)) 1) 1) ((s.deep + 1) - 1)) ([] : List Int) 2 (-4) := hR10.down (by show s.deep + 1 ≤ (s.deep + 1); omega)
    refine LX.su [0, 1, 4] rfl <| LX.nt <| CX.sr <| LX.ms 2 rfl <| LX.world (W' := WA w0 base (Ri none 0 ([] : List Int) :: PWl bp al L cl (RS.dp (RS.go (RS.go (RS.dp s (s.deep + 1)) 1) 1) ((s.deep + 1) - 1)) m fr)) (fun w hw => (show WA w0 base (Ri none 0 ([] : List Int) :: PWl bp al L cl (RS.dp (RS.go (RS.go (RS.dp s (s.deep + 1)) 1) 1) ((s.deep + 1) - 1)) m fr) w from (show WA w0 base (PWl bp al L cl (RS.dp (RS.go (RS.go (RS.dp s (s.deep + 1)) 1) 1) ((s.deep + 1) - 1)) m fr) w from hw).nilRow 3 1)) <| LX.call (put_c (fr := fr) (g := none) (c := 0) (ks := ([] : List Int)) (op := 7) (pos := pos) (x := ([] : List UInt8)) (RS.dp (RS.go (RS.go (RS.dp s (s.deep + 1)) 1) 1) ((s.deep + 1) - 1)) m hn1 (fun h0 => by have h1 : ((s.ns).length : Int) + 2 * s.at_ ≤ s.ns.length + 2 * ((((s.at_ + 1) + 1) : Nat) : Int) + (-4) := hR12.few h0; have h2 := hs.few (hR12.bad h0); have h3 := hK.len; have h4 : ((s.at_ + 1) + 1) < L.length := hR12.lt; show (s.ns).length ≤ 1000000; omega) (by (simp only [List.length_cons, List.length_nil, List.length_append]; omega)) (AllI.nil) (by (unfold inI; omega)) as_) Pd.en16 rfl rfl rfl rfl rfl ?_
    rintro ⟨r13, s13, m13⟩
    refine LX.have fun ⟨hri13, hp13, hn13⟩ => ?_
    try dsimp only at hri13 hp13 hn13 ⊢
    have hR14 : Rn L.length s s13 ([r13]) 2 (-3) := hR12.put (us := ([] : List Int)) (ks := ([] : List Int)) hp13 pm
    have hch15 : ((s.at_ + 1) + 1) ≤ s13.at_ := Nat.le_of_eq hp13.eqs.1.symm
    have hle15 : s.at_ < s13.at_ := by omega
    have hlt15 : s13.at_ < L.length := hR14.lt
    have hde15 : ((s.deep + 1) - 1) ≤ s13.deep := Int.le_of_eq hp13.eqs.2.1.symm
    have hdd15 : s13.deep ≤ 60 := hR14.d1
    refine LX.mv rfl <| LX.su [0, 1, 4] rfl <| LX.nt <| CX.ret <| PX.thenR <| PX.ret1 (by simp) Try.results68 rfl ?_
    exact fun w hw => ⟨(r13, s13, m13), rfl, ⟨as_, hR14.wk dc dc, hn13⟩, hw⟩
  try simp at hb2
  refine CX.skip <| PX.thenN <| CX.sr <| LX.mv rfl ?_
  have hk16 : Sk L.length (RS.go (RS.dp s (s.deep + 1)) 1) := hs.next hR6 dc
  refine LX.call (ih_test (RS.go (RS.dp s (s.deep + 1)) 1) m fr hk16 hn1 (by show L.length - (s.at_ + 1) < N; omega)) Pd.en47 rfl rfl rfl rfl rfl ?_
  rintro ⟨r16, s16, m16⟩
  refine LX.have fun ⟨hri16, hr16, hn16⟩ => ?_
  try dsimp only at hri16 hr16 hn16 ⊢
  have hR17 : Rn L.length s s16 ([r16]) 2 (-2) := hR6.trans hr16
  have hch18 : (s.at_ + 1) ≤ s16.at_ := hr16.le
  have hle18 : s.at_ < s16.at_ := by omega
  have hlt18 : s16.at_ < L.length := hR17.lt
  have hde18 : (s.deep + 1) ≤ s16.deep := hr16.d0
  have hdd18 : s16.deep ≤ 60 := hR17.d1
  have hav16 : s16.code = 0 → (s.at_ + 1) + 1 ≤ s16.at_ := hr16.adv
  refine LX.mv rfl <| LX.su [0, 1, 4, 5] rfl <| LX.nt <| CX.seq <| CX.sr ?_
  obtain ⟨t19, ht19⟩ : ∃ t, L[s16.at_]? = some t := ⟨_, List.getElem?_eq_getElem (show s16.at_ < L.length from hR17.lt)⟩
  have htk19 := (tok_in hL ht19).1
  have htp19 := (tok_in hL ht19).2
  refine LX.mv rfl <| LX.callQ (show FnQ Try.prog 12 #[.pointer (some ⟨bp, 0, none⟩)] _ (.bool (decide (s16.code ≠ 0))) from bad_q (s := s16) (m := m16) (fun w hw => blkL hw (i := 0) rfl)) Pb.en12 rfl rfl rfl rfl rfl <| LX.p (Y.not rfl) rfl <| LX.mv rfl <| LX.su [0, 1, 4, 5, 48] rfl ?_
  apply LX.joinAnd 3 51 48 rfl
  · intro hb3
    refine LX.gT rfl rfl rfl hb3 (Y.move rfl) rfl rfl <| LX.callQT rfl rfl rfl hb3 (is_q (s := s16) (m := m16) ht19 ([102, 111, 114] : List UInt8) (fun w hw => blkL hw (i := 0) rfl) (fun w hw => hL.push hw)) Pb.en32 rfl rfl rfl rfl <| LX.p (Y.pickT rfl hb3 rfl) rfl ?_
    exact LX.left ⟨rfl, rfl, rfl, rfl, rfl, rfl, trivial⟩
  · intro hb3
    refine LX.gF rfl rfl rfl hb3 rfl rfl <| LX.gF rfl rfl rfl hb3 rfl rfl <| LX.p (Y.pickF rfl hb3 rfl) rfl ?_
    exact LX.left ⟨rfl, rfl, rfl, rfl, rfl, rfl, trivial⟩
  refine LX.su [0, 1, 4, 5, 51] rfl <| LX.nt ?_
  refine CX.cond rfl (fun hb4 => ?_) (fun hb4 => ?_)
  · try simp at hb4
    refine CX.sr ?_
    have hgo20 : s16.at_ + 1 < L.length := by exact hK.fin _ t19 ht19 (by (intro h8; simp_all [isS]; done))
    have hln20 := hK.len
    refine LX.ms 3 rfl <| LX.p (Y.fieldAddr0 Pa.fo42_1 rfl) rfl <| LX.p (Y.ldB 0 Pa.one3 rfl rfl rfl) rfl <| LX.p (Y.addN rfl rfl (by (simp only []; omega))) rfl <| LX.mv rfl <| LX.p (Y.fieldAddr0 Pa.fo42_1 rfl) rfl <| LX.storeB 0 Pb.sz3 rfl rfl rfl rfl rfl rfl rfl rfl <| LX.wq (PWl bp al L cl (RS.go s16 1) m16 fr) rfl ?_
    have hR21 : Rn L.length s (RS.go s16 1) ([r16]) 3 (-4) := hR17.go hgo20
    have hle22 : s.at_ < (s16.at_ + 1) := by have h9 : s.at_ ≤ s16.at_ := hR17.le; omega
    have hlt22 : (s16.at_ + 1) < L.length := hgo20
    refine LX.su [0, 1, 4, 5] rfl <| LX.nt <| CX.sr <| LX.mv rfl ?_
    have hk23 : Sk L.length (RS.go s16 1) := hs.next hR21 dc
    refine LX.call (ih_targets (RS.go s16 1) m16 fr hk23 hn16 (by show L.length - (s16.at_ + 1) < N; omega)) Pe.en34 rfl rfl rfl rfl rfl ?_
    rintro ⟨r23, s23, m23⟩
    refine LX.have fun ⟨hri23, hr23, hn23⟩ => ?_
    try dsimp only at hri23 hr23 hn23 ⊢
    have hR24 : Rn L.length s s23 ([r16] ++ [r23]) 4 (-4) := hR21.trans hr23
    have hch25 : (s16.at_ + 1) ≤ s23.at_ := hr23.le
    have hle25 : s.at_ < s23.at_ := by omega
    have hlt25 : s23.at_ < L.length := hR24.lt
    have hde25 : s16.deep ≤ s23.deep := hr23.d0
    have hdd25 : s23.deep ≤ 60 := hR24.d1
    have hav23 : s23.code = 0 → (s16.at_ + 1) + 1 ≤ s23.at_ := hr23.adv
    refine LX.mv rfl <| LX.su [0, 1, 4, 5, 6] rfl <| LX.nt <| CX.sr ?_
    obtain ⟨t26, ht26⟩ : ∃ t, L[s23.at_]? = some t := ⟨_, List.getElem?_eq_getElem (show s23.at_ < L.length from hR24.lt)⟩
    have htk26 := (tok_in hL ht26).1
    have htp26 := (tok_in hL ht26).2
    refine LX.mv rfl <| LX.call (want_c (fr := fr) s23 m23 hL hK ht26 ([105, 110] : List UInt8)) Pd.en35 rfl rfl rfl rfl rfl ?_
    rintro ⟨b27, s27⟩
    refine LX.have fun hw27 => ?_
    try dsimp only at hw27 ⊢
    have hn27 : NdsR 3 m23.rs m23.cells s27.ns := by rw [hw27.ns]; exact hn23
    have hR28 : Rn L.length s s27 ([r16] ++ [r23]) 5 (-6) := hR24.want hw27
    have hch29 : s23.at_ ≤ s27.at_ := hw27.le
    have hle29 : s.at_ < s27.at_ := by omega
    have hlt29 : s27.at_ < L.length := hR28.lt
    have hde29 : s23.deep ≤ s27.deep := Int.le_of_eq hw27.deep.symm
    have hdd29 : s27.deep ≤ 60 := hR28.d1
    refine LX.su [0, 1, 4, 5, 6] rfl <| LX.nt <| CX.sr <| LX.ms 3 rfl ?_
    have hk30 : Sk L.length s27 := hs.next hR28 dc
    refine LX.call (ih_or s27 m23 fr hk30 hn27 (by show L.length - s27.at_ < N; omega)) Pd.en56 rfl rfl rfl rfl rfl ?_
    rintro ⟨r30, s30, m30⟩
    refine LX.have fun ⟨hri30, hr30, hn30⟩ => ?_
    try dsimp only at hri30 hr30 hn30 ⊢
    have hR31 : Rn L.length s s30 ([r16] ++ [r23] ++ [r30]) 6 (-6) := hR28.trans hr30
    have hch32 : s27.at_ ≤ s30.at_ := hr30.le
    have hle32 : s.at_ < s30.at_ := by omega
    have hlt32 : s30.at_ < L.length := hR31.lt
    have hde32 : s27.deep ≤ s30.deep := hr30.d0
    have hdd32 : s30.deep ≤ 60 := hR31.d1
    have hav30 : s30.code = 0 → s27.at_ + 1 ≤ s30.at_ := hr30.adv
    refine LX.buildSlice (e := 3) (size := 1) rfl rfl (fun _ => by kernel_rfl) rfl dc rfl rfl rfl ?_
    intro gt33
    refine LX.wq (Ri (some gt33) 3 ([r16, r23, r30]) :: PWl bp al L cl s30 m30 fr) rfl <| LX.mv rfl ?_
    refine LX.wp (PWl bp al L cl s30 m30 (Ri (some gt33) 3 ([r16, r23, r30]) :: fr)) ?_
    refine LX.su [0, 1, 4, 5, 7] rfl <| LX.nt <| CX.seq <| CX.sr ?_
    obtain ⟨t34, ht34⟩ : ∃ t, L[s30.at_]? = some t := ⟨_, List.getElem?_eq_getElem (show s30.at_ < L.length from hR31.lt)⟩
    have htk34 := (tok_in hL ht34).1
    have htp34 := (tok_in hL ht34).2
    refine LX.mv rfl <| LX.callQ (show FnQ Try.prog 12 #[.pointer (some ⟨bp, 0, none⟩)] _ (.bool (decide (s30.code ≠ 0))) from bad_q (s := s30) (m := m30) (fun w hw => blkL hw (i := 0) rfl)) Pb.en12 rfl rfl rfl rfl rfl <| LX.p (Y.not rfl) rfl <| LX.mv rfl <| LX.su [0, 1, 4, 5, 7, 72] rfl ?_
    apply LX.joinAnd 3 75 72 rfl
    · intro hb5
      refine LX.gT rfl rfl rfl hb5 (Y.move rfl) rfl rfl <| LX.callQT rfl rfl rfl hb5 (is_q (s := s30) (m := m30) ht34 ([105, 102] : List UInt8) (fun w hw => blkL hw (i := 0) rfl) (fun w hw => hL.push hw)) Pb.en32 rfl rfl rfl rfl <| LX.p (Y.pickT rfl hb5 rfl) rfl ?_
      exact LX.left ⟨rfl, rfl, rfl, rfl, rfl, rfl, rfl, trivial⟩
    · intro hb5
      refine LX.gF rfl rfl rfl hb5 rfl rfl <| LX.gF rfl rfl rfl hb5 rfl rfl <| LX.p (Y.pickF rfl hb5 rfl) rfl ?_
      exact LX.left ⟨rfl, rfl, rfl, rfl, rfl, rfl, rfl, trivial⟩
    refine LX.su [0, 1, 4, 5, 7, 75] rfl <| LX.nt ?_
    refine CX.cond rfl (fun hb6 => ?_) (fun hb6 => ?_)
    · try simp at hb6
      refine CX.sr ?_
      have hgo35 : s30.at_ + 1 < L.length := by exact hK.fin _ t34 ht34 (by (intro h8; simp_all [isS]; done))
      have hln35 := hK.len
      refine LX.ms 3 rfl <| LX.p (Y.fieldAddr0 Pa.fo42_1 rfl) rfl <| LX.p (Y.ldB 0 Pa.one3 rfl rfl rfl) rfl <| LX.p (Y.addN rfl rfl (by (simp only []; omega))) rfl <| LX.mv rfl <| LX.p (Y.fieldAddr0 Pa.fo42_1 rfl) rfl <| LX.storeB 0 Pb.sz3 rfl rfl rfl rfl rfl rfl rfl rfl <| LX.wq (PWl bp al L cl (RS.go s30 1) m30 (Ri (some gt33) 3 ([r16, r23, r30]) :: fr)) rfl ?_
      have hR36 : Rn L.length s (RS.go s30 1) ([r16] ++ [r23] ++ [r30]) 7 (-8) := hR31.go hgo35
      have hle37 : s.at_ < (s30.at_ + 1) := by have h9 : s.at_ ≤ s30.at_ := hR31.le; omega
      have hlt37 : (s30.at_ + 1) < L.length := hgo35
      refine LX.su [0, 1, 4, 5, 7] rfl <| LX.nt <| CX.region <| LX.ms 2 rfl ?_
      have hk38 : Sk L.length (RS.go s30 1) := hs.next hR36 dc
      refine LX.call (ih_or (RS.go s30 1) m30 (Ri (some gt33) 3 ([r16, r23, r30]) :: fr) hk38 hn30 (by show L.length - (s30.at_ + 1) < N; omega)) Pd.en56 rfl rfl rfl rfl rfl ?_
      rintro ⟨r38, s38, m38⟩
      refine LX.have fun ⟨hri38, hr38, hn38⟩ => ?_
      try dsimp only at hri38 hr38 hn38 ⊢
      have hR39 : Rn L.length s s38 ([r16] ++ [r23] ++ [r30] ++ [r38]) 8 (-8) := hR36.trans hr38
      have hch40 : (s30.at_ + 1) ≤ s38.at_ := hr38.le
      have hle40 : s.at_ < s38.at_ := by omega
      have hlt40 : s38.at_ < L.length := hR39.lt
      have hde40 : s30.deep ≤ s38.deep := hr38.d0
      have hdd40 : s38.deep ≤ 60 := hR39.d1
      have hav38 : s38.code = 0 → (s30.at_ + 1) + 1 ≤ s38.at_ := hr38.adv
      refine LX.buildSlice (e := 3) (size := 1) rfl rfl (fun _ => by kernel_rfl) rfl dc rfl rfl rfl ?_
      intro gt41
      refine LX.wq (Ri (some gt41) 1 ([r38]) :: PWl bp al L cl s38 m38 (Ri (some gt33) 3 ([r16, r23, r30]) :: fr)) rfl ?_
      refine LX.wp (Ri (some gt41) 1 ([r38]) :: Ri (some gt33) 3 ([r16, r23, r30]) :: PWl bp al L cl s38 m38 fr) ?_
      refine LX.appendT 0 (g := (some gt33)) (k := ([r16, r23, r30]).length) Pe.el29 rfl rfl rfl rfl rfl rfl rfl lo lo rfl rfl rfl ?_
      intro ga42 ca42
      refine LX.wa (Ri ga42 ca42 ([r16, r23, r30] ++ [r38]) :: PWl bp al L cl s38 m38 fr) <| LX.sub (l' := [(0, _), (1, _), (4, _), (5, _), (7, _), (84, _), (85, _), (86, _), (87, _), (88, rv ga42 (([r16, r23, r30] ++ [r38])).length ca42)]) ⟨rfl, rfl, rfl, rfl, rfl, rfl, rfl, rfl, rfl, (by rfl), trivial⟩ <| LX.mv rfl ?_
      refine LX.wp (PWl bp al L cl s38 m38 (Ri ga42 ca42 ([r16, r23, r30] ++ [r38]) :: fr)) ?_
      refine LX.su [0, 1, 4, 5, 7] rfl <| LX.nt <| CX.sr ?_
      obtain ⟨t43, ht43⟩ : ∃ t, L[s38.at_]? = some t := ⟨_, List.getElem?_eq_getElem (show s38.at_ < L.length from hR39.lt)⟩
      have htk43 := (tok_in hL ht43).1
      have htp43 := (tok_in hL ht43).2
      refine LX.mv rfl <| LX.call (want_c (fr := (Ri ga42 ca42 ([r16, r23, r30] ++ [r38]) :: fr)) s38 m38 hL hK ht43 ([93] : List UInt8)) Pd.en35 rfl rfl rfl rfl rfl ?_
      rintro ⟨b44, s44⟩
      refine LX.have fun hw44 => ?_
      try dsimp only at hw44 ⊢
      have hn44 : NdsR 3 m38.rs m38.cells s44.ns := by rw [hw44.ns]; exact hn38
      have hR45 : Rn L.length s s44 ([r16] ++ [r23] ++ [r30] ++ [r38]) 9 (-10) := hR39.want hw44
      have hch46 : s38.at_ ≤ s44.at_ := hw44.le
      have hle46 : s.at_ < s44.at_ := by omega
      have hlt46 : s44.at_ < L.length := hR45.lt
      have hde46 : s38.deep ≤ s44.deep := Int.le_of_eq hw44.deep.symm
      have hdd46 : s44.deep ≤ 60 := hR45.d1
      refine LX.su [0, 1, 4, 5, 7] rfl <| LX.nt <| CX.sr <| LX.ms 3 rfl <| LX.p (Y.fieldAddr0 Pb.fo42_3 rfl) rfl <| LX.p (Y.ldB 0 Pa.one3 rfl rfl rfl) rfl <| LX.p (Y.sub rfl rfl (by omega)) rfl <| LX.mv rfl <| LX.p (Y.fieldAddr0 Pb.fo42_3 rfl) rfl <| LX.storeB 0 Pb.sz3 rfl rfl rfl rfl rfl rfl rfl rfl <| LX.wq (PWl bp al L cl (RS.dp s44 (s44.deep - 1)) m38 (Ri ga42 ca42 ([r16, r23, r30] ++ [r38]) :: fr)) rfl ?_
      have hR47 : Rn L.length s (RS.dp s44 (s44.deep - 1)) ([r16] ++ [r23] ++ [r30] ++ [r38]) 9 (-10) := hR45.down (by show s.deep + 1 ≤ s44.deep; omega)
      refine LX.su [0, 1, 4, 5, 7] rfl <| LX.nt <| CX.sr <| LX.ms 3 rfl ?_
      refine LX.wp (Ri ga42 ca42 ([r16, r23, r30] ++ [r38]) :: PWl bp al L cl (RS.dp s44 (s44.deep - 1)) m38 fr) ?_
      refine LX.call (put_c (fr := fr) (g := ga42) (c := ca42) (ks := ([r16, r23, r30] ++ [r38])) (op := 34) (pos := pos) (x := ([] : List UInt8)) (RS.dp s44 (s44.deep - 1)) m38 hn44 (fun h0 => by have h1 : ((s44.ns).length : Int) + 2 * s.at_ ≤ s.ns.length + 2 * ((s44.at_ : Nat) : Int) + (-10) := hR47.few h0; have h2 := hs.few (hR47.bad h0); have h3 := hK.len; have h4 : s44.at_ < L.length := hR47.lt; show (s44.ns).length ≤ 1000000; omega) (by (simp only [List.length_cons, List.length_nil, List.length_append]; omega)) ((AllI.app (AllI.cons as_ (AllI.cons as_ (AllI.cons as_ AllI.nil))) (AllI.cons as_ AllI.nil))) (by (unfold inI; omega)) as_) Pd.en16 rfl rfl rfl rfl rfl ?_
      rintro ⟨r48, s48, m48⟩
      refine LX.have fun ⟨hri48, hp48, hn48⟩ => ?_
      try dsimp only at hri48 hp48 hn48 ⊢
      have hR49 : Rn L.length s s48 ([r48]) 9 (-9) := hR47.put (us := ([] : List Int)) (ks := ([r16, r23, r30] ++ [r38])) hp48 pm
      have hch50 : s44.at_ ≤ s48.at_ := Nat.le_of_eq hp48.eqs.1.symm
      have hle50 : s.at_ < s48.at_ := by omega
      have hlt50 : s48.at_ < L.length := hR49.lt
      have hde50 : (s44.deep - 1) ≤ s48.deep := Int.le_of_eq hp48.eqs.2.1.symm
      have hdd50 : s48.deep ≤ 60 := hR49.d1
      refine LX.mv rfl <| LX.su [0, 1, 4, 5] rfl <| LX.nt <| CX.ret <| PX.thenR <| PX.ret1 (by simp) Try.results68 rfl ?_
      exact fun w hw => ⟨(r48, s48, m48), rfl, ⟨as_, hR49.wk dc dc, hn48⟩, hw⟩
    try simp at hb6
    refine CX.skip <| PX.thenN <| CX.sr <| LX.mv rfl <| LX.call (want_c (fr := (Ri (some gt33) 3 ([r16, r23, r30]) :: fr)) s30 m30 hL hK ht34 ([93] : List UInt8)) Pd.en35 rfl rfl rfl rfl rfl ?_
    rintro ⟨b51, s51⟩
    refine LX.have fun hw51 => ?_
    try dsimp only at hw51 ⊢
    have hn51 : NdsR 3 m30.rs m30.cells s51.ns := by rw [hw51.ns]; exact hn30
    have hR52 : Rn L.length s s51 ([r16] ++ [r23] ++ [r30]) 7 (-8) := hR31.want hw51
    have hch53 : s30.at_ ≤ s51.at_ := hw51.le
    have hle53 : s.at_ < s51.at_ := by omega
    have hlt53 : s51.at_ < L.length := hR52.lt
    have hde53 : s30.deep ≤ s51.deep := Int.le_of_eq hw51.deep.symm
    have hdd53 : s51.deep ≤ 60 := hR52.d1
    refine LX.su [0, 1, 4, 5, 7] rfl <| LX.nt <| CX.sr <| LX.ms 3 rfl <| LX.p (Y.fieldAddr0 Pb.fo42_3 rfl) rfl <| LX.p (Y.ldB 0 Pa.one3 rfl rfl rfl) rfl <| LX.p (Y.sub rfl rfl (by omega)) rfl <| LX.mv rfl <| LX.p (Y.fieldAddr0 Pb.fo42_3 rfl) rfl <| LX.storeB 0 Pb.sz3 rfl rfl rfl rfl rfl rfl rfl rfl <| LX.wq (PWl bp al L cl (RS.dp s51 (s51.deep - 1)) m30 (Ri (some gt33) 3 ([r16, r23, r30]) :: fr)) rfl ?_
    have hR54 : Rn L.length s (RS.dp s51 (s51.deep - 1)) ([r16] ++ [r23] ++ [r30]) 7 (-8) := hR52.down (by show s.deep + 1 ≤ s51.deep; omega)
    refine LX.su [0, 1, 4, 5, 7] rfl <| LX.nt <| CX.sr <| LX.ms 3 rfl ?_
    refine LX.wp (Ri (some gt33) 3 ([r16, r23, r30]) :: PWl bp al L cl (RS.dp s51 (s51.deep - 1)) m30 fr) ?_
    refine LX.call (put_c (fr := fr) (g := (some gt33)) (c := 3) (ks := [r16, r23, r30]) (op := 34) (pos := pos) (x := ([] : List UInt8)) (RS.dp s51 (s51.deep - 1)) m30 hn51 (fun h0 => by have h1 : ((s51.ns).length : Int) + 2 * s.at_ ≤ s.ns.length + 2 * ((s51.at_ : Nat) : Int) + (-8) := hR54.few h0; have h2 := hs.few (hR54.bad h0); have h3 := hK.len; have h4 : s51.at_ < L.length := hR54.lt; show (s51.ns).length ≤ 1000000; omega) (by (simp only [List.length_cons, List.length_nil, List.length_append]; omega)) ((AllI.cons as_ (AllI.cons as_ (AllI.cons as_ AllI.nil)))) (by (unfold inI; omega)) as_) Pd.en16 rfl rfl rfl rfl rfl ?_
    rintro ⟨r55, s55, m55⟩
    refine LX.have fun ⟨hri55, hp55, hn55⟩ => ?_
    try dsimp only at hri55 hp55 hn55 ⊢
    have hR56 : Rn L.length s s55 ([r55]) 7 (-7) := hR54.put (us := ([] : List Int)) (ks := [r16, r23, r30]) hp55 pm
    have hch57 : s51.at_ ≤ s55.at_ := Nat.le_of_eq hp55.eqs.1.symm
    have hle57 : s.at_ < s55.at_ := by omega
    have hlt57 : s55.at_ < L.length := hR56.lt
    have hde57 : (s51.deep - 1) ≤ s55.deep := Int.le_of_eq hp55.eqs.2.1.symm
    have hdd57 : s55.deep ≤ 60 := hR56.d1
    refine LX.mv rfl <| LX.su [0, 1, 4, 5] rfl <| LX.nt <| CX.ret <| PX.thenR <| PX.ret1 (by simp) Try.results68 rfl ?_
    exact fun w hw => ⟨(r55, s55, m55), rfl, ⟨as_, hR56.wk dc dc, hn55⟩, hw⟩
  try simp at hb4
  refine CX.skip <| PX.thenN <| CX.sr <| LX.ms 2 rfl ?_
  have hk58 : Sk L.length s16 := hs.next hR17 dc
  refine LX.call (rest_c (N := N - 1) hL hK (fun s m fr a b c => ih_test s m fr a b (by omega)) r16 as_ s16 m16 fr hk58 hn16 (by show L.length - s16.at_ ≤ N - 1; omega)) Pe.en51 rfl rfl rfl rfl rfl ?_
  rintro ⟨l58, g58, c58, b58, s58, m58⟩
  refine LX.have fun ⟨hla58, hll58, hbl58, hbk58, hr58, hn58⟩ => ?_
  try dsimp only at hla58 hll58 hbl58 hbk58 hr58 hn58 ⊢
  have hR59 : Rn L.length s s58 ((r16 :: l58)) 2 (-2) := (hR17.trans hr58).re pm
  have hch60 : s16.at_ ≤ s58.at_ := hr58.le
  have hle60 : s.at_ < s58.at_ := by omega
  have hlt60 : s58.at_ < L.length := hR59.lt
  have hde60 : s16.deep ≤ s58.deep := hr58.d0
  have hdd60 : s58.deep ≤ 60 := hR59.d1
  refine LX.wq (Ri g58 c58 (r16 :: l58) :: PWl bp al L cl s58 m58 fr) rfl ?_
  rcases b58 with _ | _
  ·
    obtain rfl : l58 = [] := hbl58 rfl
    refine LX.wq (Ri g58 c58 ([r16]) :: PWl bp al L cl s58 m58 fr) rfl ?_
    have hR61 : Rn L.length s s58 ([r16]) 2 (-2) := hR59
    refine LX.mv rfl <| LX.p (Y.extract rfl rfl) rfl <| LX.p (Y.extract rfl rfl) rfl <| LX.ms 2 rfl ?_
    refine LX.wp (PWl bp al L cl s58 m58 (Ri g58 c58 ([r16]) :: fr)) ?_
    refine LX.su [0, 1, 4, 8] rfl <| LX.nt <| CX.sr ?_
    obtain ⟨t62, ht62⟩ : ∃ t, L[s58.at_]? = some t := ⟨_, List.getElem?_eq_getElem (show s58.at_ < L.length from hR61.lt)⟩
    have htk62 := (tok_in hL ht62).1
    have htp62 := (tok_in hL ht62).2
    refine LX.mv rfl <| LX.call (want_c (fr := (Ri g58 c58 ([r16]) :: fr)) s58 m58 hL hK ht62 ([93] : List UInt8)) Pd.en35 rfl rfl rfl rfl rfl ?_
    rintro ⟨b63, s63⟩
    refine LX.have fun hw63 => ?_
    try dsimp only at hw63 ⊢
    have hn63 : NdsR 3 m58.rs m58.cells s63.ns := by rw [hw63.ns]; exact hn58
    have hR64 : Rn L.length s s63 ([r16]) 3 (-4) := hR61.want hw63
    have hch65 : s58.at_ ≤ s63.at_ := hw63.le
    have hle65 : s.at_ < s63.at_ := by omega
    have hlt65 : s63.at_ < L.length := hR64.lt
    have hde65 : s58.deep ≤ s63.deep := Int.le_of_eq hw63.deep.symm
    have hdd65 : s63.deep ≤ 60 := hR64.d1
    refine LX.su [0, 1, 4, 8] rfl <| LX.nt <| CX.sr <| LX.ms 3 rfl <| LX.p (Y.fieldAddr0 Pb.fo42_3 rfl) rfl <| LX.p (Y.ldB 0 Pa.one3 rfl rfl rfl) rfl <| LX.p (Y.sub rfl rfl (by omega)) rfl <| LX.mv rfl <| LX.p (Y.fieldAddr0 Pb.fo42_3 rfl) rfl <| LX.storeB 0 Pb.sz3 rfl rfl rfl rfl rfl rfl rfl rfl <| LX.wq (PWl bp al L cl (RS.dp s63 (s63.deep - 1)) m58 (Ri g58 c58 ([r16]) :: fr)) rfl ?_
    have hR66 : Rn L.length s (RS.dp s63 (s63.deep - 1)) ([r16]) 3 (-4) := hR64.down (by show s.deep + 1 ≤ s63.deep; omega)
    refine LX.su [0, 1, 4, 8] rfl <| LX.nt <| CX.sr <| LX.ms 3 rfl ?_
    refine LX.wp (Ri g58 c58 ([r16]) :: PWl bp al L cl (RS.dp s63 (s63.deep - 1)) m58 fr) ?_
    refine LX.call (put_c (fr := fr) (g := g58) (c := c58) (ks := [r16]) (op := 7) (pos := pos) (x := ([] : List UInt8)) (RS.dp s63 (s63.deep - 1)) m58 hn63 (fun h0 => by have h1 : ((s63.ns).length : Int) + 2 * s.at_ ≤ s.ns.length + 2 * ((s63.at_ : Nat) : Int) + (-4) := hR66.few h0; have h2 := hs.few (hR66.bad h0); have h3 := hK.len; have h4 : s63.at_ < L.length := hR66.lt; show (s63.ns).length ≤ 1000000; omega) (by (simp only [List.length_cons, List.length_nil, List.length_append]; omega)) ((AllI.cons as_ AllI.nil)) (by (unfold inI; omega)) as_) Pd.en16 rfl rfl rfl rfl rfl ?_
    rintro ⟨r67, s67, m67⟩
    refine LX.have fun ⟨hri67, hp67, hn67⟩ => ?_
    try dsimp only at hri67 hp67 hn67 ⊢
    have hR68 : Rn L.length s s67 ([r67]) 3 (-3) := hR66.put (us := ([] : List Int)) (ks := [r16]) hp67 pm
    have hch69 : s63.at_ ≤ s67.at_ := Nat.le_of_eq hp67.eqs.1.symm
    have hle69 : s.at_ < s67.at_ := by omega
    have hlt69 : s67.at_ < L.length := hR68.lt
    have hde69 : (s63.deep - 1) ≤ s67.deep := Int.le_of_eq hp67.eqs.2.1.symm
    have hdd69 : s67.deep ≤ 60 := hR68.d1
    refine LX.mv rfl <| LX.su [4] rfl <| LX.nt <| CX.ret <| PX.ret1 (by simp) Try.results68 rfl ?_
    exact fun w hw => ⟨(r67, s67, m67), rfl, ⟨as_, hR68.wk dc dc, hn67⟩, hw⟩
  have hR70 : Rn L.length s s58 ((r16 :: l58)) 2 (-3) := hR59.kk (fun h0 => by have h1 := hR17.few (hr58.bad h0); have h2 := hbk58 rfl h0; show ((s58.ns.length : Nat) : Int) + 2 * s.at_ ≤ s.ns.length + 2 * s58.at_ + (-3); omega)
  refine LX.mv rfl <| LX.p (Y.extract rfl rfl) rfl <| LX.p (Y.extract rfl rfl) rfl <| LX.ms 2 rfl ?_
  refine LX.wp (PWl bp al L cl s58 m58 (Ri g58 c58 (r16 :: l58) :: fr)) ?_
  refine LX.su [0, 1, 4, 8] rfl <| LX.nt <| CX.sr ?_
  obtain ⟨t71, ht71⟩ : ∃ t, L[s58.at_]? = some t := ⟨_, List.getElem?_eq_getElem (show s58.at_ < L.length from hR70.lt)⟩
  have htk71 := (tok_in hL ht71).1
  have htp71 := (tok_in hL ht71).2
  refine LX.mv rfl <| LX.call (want_c (fr := (Ri g58 c58 (r16 :: l58) :: fr)) s58 m58 hL hK ht71 ([93] : List UInt8)) Pd.en35 rfl rfl rfl rfl rfl ?_
  rintro ⟨b72, s72⟩
  refine LX.have fun hw72 => ?_
  try dsimp only at hw72 ⊢
  have hn72 : NdsR 3 m58.rs m58.cells s72.ns := by rw [hw72.ns]; exact hn58
  have hR73 : Rn L.length s s72 ((r16 :: l58)) 3 (-5) := hR70.want hw72
  have hch74 : s58.at_ ≤ s72.at_ := hw72.le
  have hle74 : s.at_ < s72.at_ := by omega
  have hlt74 : s72.at_ < L.length := hR73.lt
  have hde74 : s58.deep ≤ s72.deep := Int.le_of_eq hw72.deep.symm
  have hdd74 : s72.deep ≤ 60 := hR73.d1
  refine LX.su [0, 1, 4, 8] rfl <| LX.nt <| CX.sr <| LX.ms 3 rfl <| LX.p (Y.fieldAddr0 Pb.fo42_3 rfl) rfl <| LX.p (Y.ldB 0 Pa.one3 rfl rfl rfl) rfl <| LX.p (Y.sub rfl rfl (by omega)) rfl <| LX.mv rfl <| LX.p (Y.fieldAddr0 Pb.fo42_3 rfl) rfl <| LX.storeB 0 Pb.sz3 rfl rfl rfl rfl rfl rfl rfl rfl <| LX.wq (PWl bp al L cl (RS.dp s72 (s72.deep - 1)) m58 (Ri g58 c58 (r16 :: l58) :: fr)) rfl ?_
  have hR75 : Rn L.length s (RS.dp s72 (s72.deep - 1)) ((r16 :: l58)) 3 (-5) := hR73.down (by show s.deep + 1 ≤ s72.deep; omega)
  refine LX.su [0, 1, 4, 8] rfl <| LX.nt <| CX.sr <| LX.ms 3 rfl ?_
  refine LX.wp (Ri g58 c58 (r16 :: l58) :: PWl bp al L cl (RS.dp s72 (s72.deep - 1)) m58 fr) ?_
  refine LX.call (put_c (fr := fr) (g := g58) (c := c58) (ks := (r16 :: l58)) (op := 7) (pos := pos) (x := ([] : List UInt8)) (RS.dp s72 (s72.deep - 1)) m58 hn72 (fun h0 => by have h1 : ((s72.ns).length : Int) + 2 * s.at_ ≤ s.ns.length + 2 * ((s72.at_ : Nat) : Int) + (-5) := hR75.few h0; have h2 := hs.few (hR75.bad h0); have h3 := hK.len; have h4 : s72.at_ < L.length := hR75.lt; show (s72.ns).length ≤ 1000000; omega) (by (simp only [List.length_cons, List.length_nil, List.length_append]; omega)) ((AllI.cons as_ hla58)) (by (unfold inI; omega)) as_) Pd.en16 rfl rfl rfl rfl rfl ?_
  rintro ⟨r76, s76, m76⟩
  refine LX.have fun ⟨hri76, hp76, hn76⟩ => ?_
  try dsimp only at hri76 hp76 hn76 ⊢
  have hR77 : Rn L.length s s76 ([r76]) 3 (-4) := hR75.put (us := ([] : List Int)) (ks := (r16 :: l58)) hp76 pm
  have hch78 : s72.at_ ≤ s76.at_ := Nat.le_of_eq hp76.eqs.1.symm
  have hle78 : s.at_ < s76.at_ := by omega
  have hlt78 : s76.at_ < L.length := hR77.lt
  have hde78 : (s72.deep - 1) ≤ s76.deep := Int.le_of_eq hp76.eqs.2.1.symm
  have hdd78 : s76.deep ≤ 60 := hR77.d1
  refine LX.mv rfl <| LX.su [4] rfl <| LX.nt <| CX.ret <| PX.ret1 (by simp) Try.results68 rfl ?_
  exact fun w hw => ⟨(r76, s76, m76), rfl, ⟨as_, hR77.wk dc dc, hn76⟩, hw⟩
theorem curly_c {w0 : World} {base : Nat} {bp : Nat} {al : Option Addr} {cl : Nat} {L : List Go.Pa.Tk} (hL : SlAt 3 tokA (Lies w0 base) al L) (hK : Tok6 L) {N : Nat} (ih_test : (∀ (s : RS) (m : Mm) (fr : List It), Sk L.length s → NdsR 3 m.rs m.cells s.ns → L.length - s.at_ < N → PF 47 [.pointer (some ⟨bp, 0, none⟩)] w0 base bp al cl L s m fr)) (pos : Int) (hpos : inI pos)  : (∀ (s : RS) (m : Mm) (fr : List It), Sk L.length s → NdsR 3 m.rs m.cells s.ns → L.length - s.at_ ≤ N → s.at_ + 1 < L.length → PF 69 [.pointer (some ⟨bp, 0, none⟩), .int .i64 pos] w0 base bp al cl L s m fr) := by
  intro s m fr hs hn hN hgo0
  have hR := Rn.refl hs
  have hle : s.at_ ≤ s.at_ := Nat.le_refl _
  have hd0 := hs.d0
  have hd1 := hs.d1
  have hlt := hs.lt
  have hln0 := hK.len
  have hN0 : 0 < N := by omega
  refine FnC.of_body (fn := Try.f69) [(0, _), (1, _)] Try.func69 rfl Try.ntmps69 rfl ⟨rfl, rfl, trivial⟩ ?_
  refine CX.sr <| LX.mv rfl <| LX.su [0, 1, 4] rfl <| LX.nt <| CX.seq <| CX.sr <| LX.ms 2 rfl ?_
  have hd01 : 0 ≤ s.deep := by have h9 := hs.d0; have h8 : s.deep ≤ s.deep := hR.d0; omega
  refine LX.call (enter_c (fr := fr) s m hd01 pos) Pd.en48 rfl rfl rfl rfl rfl ?_
  rintro ⟨b1, s1⟩
  refine LX.have fun he1 => ?_
  try dsimp only at he1 ⊢
  have hn1 : NdsR 3 m.rs m.cells s1.ns := by rw [he1.ns]; exact hn
  refine LX.p (Y.not rfl) rfl <| LX.su [0, 1, 4, 11] rfl <| LX.nt ?_
  refine CX.cond rfl (fun hb1 => ?_) (fun hb1 => ?_)
  · try simp at hb1
    have hb901 := he1.f (by exact hb1)
    have hbc1 := hb901.code
    have hR2 : Rn L.length s s1 ([] : List Int) 0 (0) := hR.bad2 hb901
    have hch901 : s.at_ ≤ s1.at_ := Nat.le_of_eq hb901.at_.symm
    refine CX.sr <| LX.mv rfl <| LX.su [0, 1, 4] rfl <| LX.nt <| CX.ret <| PX.thenR <| PX.ret1 (by simp) Try.results69 rfl ?_
    exact fun w hw => ⟨((-1), s1, m), rfl, ⟨(by (unfold inI; omega)), hR2.no as_, hn1⟩, hw⟩
  try simp at hb1
  obtain ⟨hc1, hdl1, hq1⟩ := he1.t (by exact hb1)
  subst hq1
  have hR3 : Rn L.length s (RS.dp s (s.deep + 1)) ([] : List Int) 0 (0) := hR.up hdl1
  refine CX.skip <| PX.thenN <| CX.sr ?_
  obtain ⟨t4, ht4⟩ : ∃ t, L[s.at_]? = some t := ⟨_, List.getElem?_eq_getElem (show s.at_ < L.length from hR3.lt)⟩
  have htk4 := (tok_in hL ht4).1
  have htp4 := (tok_in hL ht4).2
  have hgo5 : s.at_ + 1 < L.length := by omega
  have hln5 := hK.len
  refine LX.ms 3 rfl <| LX.p (Y.fieldAddr0 Pa.fo42_1 rfl) rfl <| LX.p (Y.ldB 0 Pa.one3 rfl rfl rfl) rfl <| LX.p (Y.addN rfl rfl (by (simp only []; omega))) rfl <| LX.mv rfl <| LX.p (Y.fieldAddr0 Pa.fo42_1 rfl) rfl <| LX.storeB 0 Pb.sz3 rfl rfl rfl rfl rfl rfl rfl rfl <| LX.wq (PWl bp al L cl (RS.go (RS.dp s (s.deep + 1)) 1) m fr) rfl ?_
  have hR6 : Rn L.length s (RS.go (RS.dp s (s.deep + 1)) 1) ([] : List Int) 1 (-2) := hR3.go hgo5
  have hle7 : s.at_ < (s.at_ + 1) := by have h9 : s.at_ ≤ s.at_ := hR3.le; omega
  have hlt7 : (s.at_ + 1) < L.length := hgo5
  refine LX.su [0, 1, 4] rfl <| LX.nt <| CX.sr <| LX.mv rfl <| LX.su [0, 1, 4, 5] rfl <| LX.nt <| CX.seq <| CX.block ?_
  refine CX.loop (fun z : (List Int × Option Nat × Nat) × RS × Mm => [(0, .pointer (some ⟨bp, 0, none⟩)), (1, .int .i64 pos), (5, rv z.1.2.1 (z.1.1).length z.1.2.2)]) (fun (z : (List Int × Option Nat × Nat) × RS × Mm) w => (AllI z.1.1 ∧ (z.1.1).length + 2 * s.at_ ≤ 2 * z.2.1.at_ + 0 ∧ (s.at_ + 1) ≤ z.2.1.at_ ∧ (s.deep + 1) ≤ z.2.1.deep ∧ Rn L.length s z.2.1 z.1.1 0 (0) ∧ NdsR 3 z.2.2.rs z.2.2.cells z.2.1.ns) ∧ WA w0 base (PWl bp al L cl z.2.1 z.2.2 (Ri z.1.2.1 z.1.2.2 (z.1.1) :: fr)) w) (fun z : (List Int × Option Nat × Nat) × RS × Mm => L.length - z.2.1.at_) (([], none, 0), (RS.go (RS.dp s (s.deep + 1)) 1), m) ⟨rfl, rfl, (by rfl), trivial⟩ (fun w hw => ⟨⟨AllI.nil, (by show 0 + 2 * s.at_ ≤ 2 * (s.at_ + 1) + 0; omega), Nat.le_refl _, Int.le_refl _, (hR6.wk dc dc).re pm, hn1⟩, ((show WA w0 base (Ri none 0 ([] : List Int) :: PWl bp al L cl (RS.go (RS.dp s (s.deep + 1)) 1) m fr) w from hw.nilRow 3 1).perm pm)⟩) ?_
  rintro ⟨⟨l8_0, g8_0, c8_0⟩, s8, m8⟩
  refine CX.have fun ⟨hla8_0, hll8_0, hlo8, hld8, hR8, hn8⟩ => ?_
  try dsimp only at hla8_0 hll8_0 hlo8 hld8 hR8 hn8 ⊢
  have hle8 : s.at_ < s8.at_ := by omega
  have hlt8 : s8.at_ < L.length := hR8.lt
  have hde8 := hR8.d0
  have hdd8 := hR8.d1
  refine CX.seq <| CX.sr ?_
  obtain ⟨t9, ht9⟩ : ∃ t, L[s8.at_]? = some t := ⟨_, List.getElem?_eq_getElem (show s8.at_ < L.length from hR8.lt)⟩
  have htk9 := (tok_in hL ht9).1
  have htp9 := (tok_in hL ht9).2
  refine LX.mv rfl <| LX.callQ (show FnQ Try.prog 12 #[.pointer (some ⟨bp, 0, none⟩)] _ (.bool (decide (s8.code ≠ 0))) from bad_q (s := s8) (m := m8) (fun w hw => blkL hw (i := 0) rfl)) Pb.en12 rfl rfl rfl rfl rfl <| LX.p (Y.not rfl) rfl <| LX.mv rfl <| LX.su [0, 1, 5, 23] rfl ?_
  apply LX.joinAnd 4 27 23 rfl
  · intro hb2
    refine LX.gT rfl rfl rfl hb2 (Y.move rfl) rfl rfl <| LX.callQT rfl rfl rfl hb2 (is_q (s := s8) (m := m8) ht9 ([125] : List UInt8) (fun w hw => blkL hw (i := 0) rfl) (fun w hw => hL.push hw)) Pb.en32 rfl rfl rfl rfl <| LX.gT rfl rfl rfl hb2 (Y.not rfl) rfl rfl <| LX.p (Y.pickT rfl hb2 rfl) rfl ?_
    exact LX.left ⟨rfl, rfl, rfl, rfl, rfl, trivial⟩
  · intro hb2
    refine LX.gF rfl rfl rfl hb2 rfl rfl <| LX.gF rfl rfl rfl hb2 rfl rfl <| LX.gF rfl rfl rfl hb2 rfl rfl <| LX.p (Y.pickF rfl hb2 rfl) rfl ?_
    exact LX.left ⟨rfl, rfl, rfl, rfl, rfl, trivial⟩
  refine LX.su [0, 1, 5, 27] rfl <| LX.nt ?_
  refine CX.cond rfl (fun hb3 => ?_) (fun hb3 => ?_)
  · try simp at hb3
    refine CX.skip <| PX.thenN <| CX.block <| CX.sr <| LX.mv rfl ?_
    have hk10 : Sk L.length s8 := hs.next hR8 dc
    refine LX.call (ih_test s8 m8 (Ri g8_0 c8_0 l8_0 :: fr) hk10 hn8 (by show L.length - s8.at_ < N; omega)) Pd.en47 rfl rfl rfl rfl rfl ?_
    rintro ⟨r10, s10, m10⟩
    refine LX.have fun ⟨hri10, hr10, hn10⟩ => ?_
    try dsimp only at hri10 hr10 hn10 ⊢
    have hR11 : Rn L.length s s10 (l8_0 ++ [r10]) 1 (0) := hR8.trans hr10
    have hch12 : s8.at_ ≤ s10.at_ := hr10.le
    have hle12 : s.at_ < s10.at_ := by omega
    have hlt12 : s10.at_ < L.length := hR11.lt
    have hde12 : s8.deep ≤ s10.deep := hr10.d0
    have hdd12 : s10.deep ≤ 60 := hR11.d1
    have hav10 : s10.code = 0 → s8.at_ + 1 ≤ s10.at_ := hr10.adv
    refine LX.mv rfl <| LX.su [0, 1, 5, 6] rfl <| LX.nt <| CX.sr ?_
    obtain ⟨t13, ht13⟩ : ∃ t, L[s10.at_]? = some t := ⟨_, List.getElem?_eq_getElem (show s10.at_ < L.length from hR11.lt)⟩
    have htk13 := (tok_in hL ht13).1
    have htp13 := (tok_in hL ht13).2
    refine LX.mv rfl <| LX.call (want_c (fr := (Ri g8_0 c8_0 l8_0 :: fr)) s10 m10 hL hK ht13 ([58] : List UInt8)) Pd.en35 rfl rfl rfl rfl rfl ?_
    rintro ⟨b14, s14⟩
    refine LX.have fun hw14 => ?_
    try dsimp only at hw14 ⊢
    have hn14 : NdsR 3 m10.rs m10.cells s14.ns := by rw [hw14.ns]; exact hn10
    have hR15 : Rn L.length s s14 (l8_0 ++ [r10]) 2 (-2) := hR11.want hw14
    have hch16 : s10.at_ ≤ s14.at_ := hw14.le
    have hle16 : s.at_ < s14.at_ := by omega
    have hlt16 : s14.at_ < L.length := hR15.lt
    have hde16 : s10.deep ≤ s14.deep := Int.le_of_eq hw14.deep.symm
    have hdd16 : s14.deep ≤ 60 := hR15.d1
    refine LX.su [0, 1, 5, 6] rfl <| LX.nt <| CX.sr <| LX.mv rfl ?_
    have hk17 : Sk L.length s14 := hs.next hR15 dc
    refine LX.call (ih_test s14 m10 (Ri g8_0 c8_0 l8_0 :: fr) hk17 hn14 (by show L.length - s14.at_ < N; omega)) Pd.en47 rfl rfl rfl rfl rfl ?_
    rintro ⟨r17, s17, m17⟩
    refine LX.have fun ⟨hri17, hr17, hn17⟩ => ?_
    try dsimp only at hri17 hr17 hn17 ⊢
    have hR18 : Rn L.length s s17 (l8_0 ++ [r10] ++ [r17]) 3 (-2) := hR15.trans hr17
    have hch19 : s14.at_ ≤ s17.at_ := hr17.le
    have hle19 : s.at_ < s17.at_ := by omega
    have hlt19 : s17.at_ < L.length := hR18.lt
    have hde19 : s14.deep ≤ s17.deep := hr17.d0
    have hdd19 : s17.deep ≤ 60 := hR18.d1
    have hav17 : s17.code = 0 → s14.at_ + 1 ≤ s17.at_ := hr17.adv
    refine LX.mv rfl <| LX.su [0, 1, 5, 6, 7] rfl <| LX.nt <| CX.sr <| LX.ms 3 rfl <| LX.buildSlice (e := 3) (size := 1) rfl rfl (fun _ => by kernel_rfl) rfl dc rfl rfl rfl ?_
    intro gt20
    refine LX.wq (Ri (some gt20) 2 ([r10, r17]) :: PWl bp al L cl s17 m17 (Ri g8_0 c8_0 l8_0 :: fr)) rfl ?_
    refine LX.wp (Ri (some gt20) 2 ([r10, r17]) :: Ri g8_0 c8_0 l8_0 :: PWl bp al L cl s17 m17 fr) ?_
    refine LX.appendT 0 (g := g8_0) (k := (l8_0).length) Pe.el29 rfl rfl rfl rfl rfl rfl rfl lo lo rfl rfl rfl ?_
    intro ga21 ca21
    refine LX.wa (Ri ga21 ca21 (l8_0 ++ [r10, r17]) :: PWl bp al L cl s17 m17 fr) <| LX.sub (l' := [(0, _), (1, _), (5, _), (6, _), (7, _), (34, _), (35, _), (36, _), (37, _), (38, rv ga21 ((l8_0 ++ [r10, r17])).length ca21)]) ⟨rfl, rfl, rfl, rfl, rfl, rfl, rfl, rfl, rfl, (by (show some (rv _ _ _) = some (rv _ _ _); simp only [List.length_cons, List.length_append, List.length_nil] <;> rfl)), trivial⟩ <| LX.mv rfl ?_
    refine LX.wp (PWl bp al L cl s17 m17 (Ri ga21 ca21 (l8_0 ++ [r10, r17]) :: fr)) ?_
    refine LX.su [0, 1, 5] rfl <| LX.nt <| CX.seq <| CX.sr ?_
    obtain ⟨t22, ht22⟩ : ∃ t, L[s17.at_]? = some t := ⟨_, List.getElem?_eq_getElem (show s17.at_ < L.length from hR18.lt)⟩
    have htk22 := (tok_in hL ht22).1
    have htp22 := (tok_in hL ht22).2
    refine LX.mv rfl <| LX.callQ (show FnQ Try.prog 12 #[.pointer (some ⟨bp, 0, none⟩)] _ (.bool (decide (s17.code ≠ 0))) from bad_q (s := s17) (m := m17) (fun w hw => blkL hw (i := 0) rfl)) Pb.en12 rfl rfl rfl rfl rfl <| LX.mv rfl <| LX.su [0, 1, 5, 41] rfl ?_
    apply LX.joinOr 4 45 41 rfl
    · intro hb4
      refine LX.gF rfl rfl rfl hb4 rfl rfl <| LX.gF rfl rfl rfl hb4 rfl rfl <| LX.gF rfl rfl rfl hb4 rfl rfl <| LX.p (Y.pickT rfl hb4 rfl) rfl ?_
      exact LX.left ⟨rfl, rfl, rfl, rfl, rfl, trivial⟩
    · intro hb4
      refine LX.gT rfl rfl rfl hb4 (Y.move rfl) rfl rfl <| LX.callQT rfl rfl rfl hb4 (is_q (s := s17) (m := m17) ht22 ([44] : List UInt8) (fun w hw => blkL hw (i := 0) rfl) (fun w hw => hL.push hw)) Pb.en32 rfl rfl rfl rfl <| LX.gT rfl rfl rfl hb4 (Y.not rfl) rfl rfl <| LX.p (Y.pickF rfl hb4 rfl) rfl ?_
      exact LX.left ⟨rfl, rfl, rfl, rfl, rfl, trivial⟩
    refine LX.su [0, 1, 5, 45] rfl <| LX.nt ?_
    refine CX.cond rfl (fun hb5 => ?_) (fun hb5 => ?_)
    · try simp at hb5
      refine CX.exit <| PX.thenE <| PX.blockO rfl <| PX.thenE <| PX.blockE <| PX.thenN <| CX.sr <| LX.mv rfl <| LX.call (want_c (fr := (Ri ga21 ca21 (l8_0 ++ [r10, r17]) :: fr)) s17 m17 hL hK ht22 ([125] : List UInt8)) Pd.en35 rfl rfl rfl rfl rfl ?_
      rintro ⟨b23, s23⟩
      refine LX.have fun hw23 => ?_
      try dsimp only at hw23 ⊢
      have hn23 : NdsR 3 m17.rs m17.cells s23.ns := by rw [hw23.ns]; exact hn17
      have hR24 : Rn L.length s s23 (l8_0 ++ [r10] ++ [r17]) 4 (-4) := hR18.want hw23
      have hch25 : s17.at_ ≤ s23.at_ := hw23.le
      have hle25 : s.at_ < s23.at_ := by omega
      have hlt25 : s23.at_ < L.length := hR24.lt
      have hde25 : s17.deep ≤ s23.deep := Int.le_of_eq hw23.deep.symm
      have hdd25 : s23.deep ≤ 60 := hR24.d1
      refine LX.su [0, 1, 5] rfl <| LX.nt <| CX.sr <| LX.ms 3 rfl <| LX.p (Y.fieldAddr0 Pb.fo42_3 rfl) rfl <| LX.p (Y.ldB 0 Pa.one3 rfl rfl rfl) rfl <| LX.p (Y.sub rfl rfl (by omega)) rfl <| LX.mv rfl <| LX.p (Y.fieldAddr0 Pb.fo42_3 rfl) rfl <| LX.storeB 0 Pb.sz3 rfl rfl rfl rfl rfl rfl rfl rfl <| LX.wq (PWl bp al L cl (RS.dp s23 (s23.deep - 1)) m17 (Ri ga21 ca21 (l8_0 ++ [r10, r17]) :: fr)) rfl ?_
      have hR26 : Rn L.length s (RS.dp s23 (s23.deep - 1)) (l8_0 ++ [r10] ++ [r17]) 4 (-4) := hR24.down (by show s.deep + 1 ≤ s23.deep; omega)
      refine LX.su [0, 1, 5] rfl <| LX.nt <| CX.sr <| LX.ms 3 rfl ?_
      refine LX.wp (Ri ga21 ca21 (l8_0 ++ [r10, r17]) :: PWl bp al L cl (RS.dp s23 (s23.deep - 1)) m17 fr) ?_
      refine LX.call (put_c (fr := fr) (g := ga21) (c := ca21) (ks := (l8_0 ++ [r10, r17])) (op := 9) (pos := pos) (x := ([] : List UInt8)) (RS.dp s23 (s23.deep - 1)) m17 hn23 (fun h0 => by have h1 : ((s23.ns).length : Int) + 2 * s.at_ ≤ s.ns.length + 2 * ((s23.at_ : Nat) : Int) + (-4) := hR26.few h0; have h2 := hs.few (hR26.bad h0); have h3 := hK.len; have h4 : s23.at_ < L.length := hR26.lt; show (s23.ns).length ≤ 1000000; omega) (by (simp only [List.length_cons, List.length_nil, List.length_append]; omega)) ((AllI.app hla8_0 (AllI.cons as_ (AllI.cons as_ AllI.nil)))) (by (unfold inI; omega)) as_) Pd.en16 rfl rfl rfl rfl rfl ?_
      rintro ⟨r27, s27, m27⟩
      refine LX.have fun ⟨hri27, hp27, hn27⟩ => ?_
      try dsimp only at hri27 hp27 hn27 ⊢
      have hR28 : Rn L.length s s27 ([r27]) 4 (-3) := hR26.put (us := ([] : List Int)) (ks := (l8_0 ++ [r10, r17])) hp27 pm
      have hch29 : s23.at_ ≤ s27.at_ := Nat.le_of_eq hp27.eqs.1.symm
      have hle29 : s.at_ < s27.at_ := by omega
      have hlt29 : s27.at_ < L.length := hR28.lt
      have hde29 : (s23.deep - 1) ≤ s27.deep := Int.le_of_eq hp27.eqs.2.1.symm
      have hdd29 : s27.deep ≤ 60 := hR28.d1
      refine LX.mv rfl <| LX.su [4] rfl <| LX.nt <| CX.ret <| PX.ret1 (by simp) Try.results69 rfl ?_
      exact fun w hw => ⟨(r27, s27, m27), rfl, ⟨as_, hR28.wk dc dc, hn27⟩, hw⟩
    try simp at hb5
    refine CX.skip <| PX.thenN <| CX.region ?_
    have hgo30 : s17.at_ + 1 < L.length := by exact hK.fin _ t22 ht22 (by (intro h8; simp_all [isS]; done))
    have hln30 := hK.len
    refine LX.ms 3 rfl <| LX.p (Y.fieldAddr0 Pa.fo42_1 rfl) rfl <| LX.p (Y.ldB 0 Pa.one3 rfl rfl rfl) rfl <| LX.p (Y.addN rfl rfl (by (simp only []; omega))) rfl <| LX.mv rfl <| LX.p (Y.fieldAddr0 Pa.fo42_1 rfl) rfl <| LX.storeB 0 Pb.sz3 rfl rfl rfl rfl rfl rfl rfl rfl <| LX.wq (PWl bp al L cl (RS.go s17 1) m17 (Ri ga21 ca21 (l8_0 ++ [r10, r17]) :: fr)) rfl ?_
    have hR31 : Rn L.length s (RS.go s17 1) (l8_0 ++ [r10] ++ [r17]) 4 (-4) := hR18.go hgo30
    have hle32 : s.at_ < (s17.at_ + 1) := by have h9 : s.at_ ≤ s17.at_ := hR18.le; omega
    have hlt32 : (s17.at_ + 1) < L.length := hgo30
    refine LX.su [0, 1, 5] rfl <| LX.next <| PX.blockN ?_
    exact PX.again (i := ((l8_0, g8_0, c8_0), s8, m8)) (((l8_0 ++ [r10, r17]), ga21, ca21), (RS.go s17 1), m17) (by show L.length - (s17.at_ + 1) < L.length - s8.at_; omega) ⟨rfl, rfl, (by rfl), trivial⟩ (fun w hw => ⟨⟨(AllI.app hla8_0 (AllI.cons as_ (AllI.cons as_ AllI.nil))), (by show List.length _ + 2 * s.at_ ≤ 2 * (s17.at_ + 1) + 0; (try simp only [List.length_cons, List.length_nil, List.length_append]); omega), (by show (s.at_ + 1) ≤ (s17.at_ + 1); omega), (by show (s.deep + 1) ≤ s17.deep; omega), (hR31.wk dc dc).re pm, hn17⟩, (hw.perm pm)⟩)
  try simp at hb3
  refine CX.exit <| PX.thenE <| PX.thenE <| PX.blockE <| PX.thenN <| CX.sr <| LX.mv rfl <| LX.call (want_c (fr := (Ri g8_0 c8_0 l8_0 :: fr)) s8 m8 hL hK ht9 ([125] : List UInt8)) Pd.en35 rfl rfl rfl rfl rfl ?_
  rintro ⟨b33, s33⟩
  refine LX.have fun hw33 => ?_
  try dsimp only at hw33 ⊢
  have hn33 : NdsR 3 m8.rs m8.cells s33.ns := by rw [hw33.ns]; exact hn8
  have hR34 : Rn L.length s s33 (l8_0) 1 (-2) := hR8.want hw33
  have hch35 : s8.at_ ≤ s33.at_ := hw33.le
  have hle35 : s.at_ < s33.at_ := by omega
  have hlt35 : s33.at_ < L.length := hR34.lt
  have hde35 : s8.deep ≤ s33.deep := Int.le_of_eq hw33.deep.symm
  have hdd35 : s33.deep ≤ 60 := hR34.d1
  refine LX.su [0, 1, 5] rfl <| LX.nt <| CX.sr <| LX.ms 3 rfl <| LX.p (Y.fieldAddr0 Pb.fo42_3 rfl) rfl <| LX.p (Y.ldB 0 Pa.one3 rfl rfl rfl) rfl <| LX.p (Y.sub rfl rfl (by omega)) rfl <| LX.mv rfl <| LX.p (Y.fieldAddr0 Pb.fo42_3 rfl) rfl <| LX.storeB 0 Pb.sz3 rfl rfl rfl rfl rfl rfl rfl rfl <| LX.wq (PWl bp al L cl (RS.dp s33 (s33.deep - 1)) m8 (Ri g8_0 c8_0 l8_0 :: fr)) rfl ?_
  have hR36 : Rn L.length s (RS.dp s33 (s33.deep - 1)) (l8_0) 1 (-2) := hR34.down (by show s.deep + 1 ≤ s33.deep; omega)
  refine LX.su [0, 1, 5] rfl <| LX.nt <| CX.sr <| LX.ms 3 rfl ?_
  refine LX.wp (Ri g8_0 c8_0 l8_0 :: PWl bp al L cl (RS.dp s33 (s33.deep - 1)) m8 fr) ?_
  refine LX.call (put_c (fr := fr) (g := g8_0) (c := c8_0) (ks := l8_0) (op := 9) (pos := pos) (x := ([] : List UInt8)) (RS.dp s33 (s33.deep - 1)) m8 hn33 (fun h0 => by have h1 : ((s33.ns).length : Int) + 2 * s.at_ ≤ s.ns.length + 2 * ((s33.at_ : Nat) : Int) + (-2) := hR36.few h0; have h2 := hs.few (hR36.bad h0); have h3 := hK.len; have h4 : s33.at_ < L.length := hR36.lt; show (s33.ns).length ≤ 1000000; omega) (by omega) (hla8_0) (by (unfold inI; omega)) as_) Pd.en16 rfl rfl rfl rfl rfl ?_
  rintro ⟨r37, s37, m37⟩
  refine LX.have fun ⟨hri37, hp37, hn37⟩ => ?_
  try dsimp only at hri37 hp37 hn37 ⊢
  have hR38 : Rn L.length s s37 ([r37]) 1 (-1) := hR36.put (us := ([] : List Int)) (ks := l8_0) hp37 pm
  have hch39 : s33.at_ ≤ s37.at_ := Nat.le_of_eq hp37.eqs.1.symm
  have hle39 : s.at_ < s37.at_ := by omega
  have hlt39 : s37.at_ < L.length := hR38.lt
  have hde39 : (s33.deep - 1) ≤ s37.deep := Int.le_of_eq hp37.eqs.2.1.symm
  have hdd39 : s37.deep ≤ 60 := hR38.d1
  refine LX.mv rfl <| LX.su [4] rfl <| LX.nt <| CX.ret <| PX.ret1 (by simp) Try.results69 rfl ?_
  exact fun w hw => ⟨(r37, s37, m37), rfl, ⟨as_, hR38.wk dc dc, hn37⟩, hw⟩
end Go.Proofs.Yteibddakpedogaa
