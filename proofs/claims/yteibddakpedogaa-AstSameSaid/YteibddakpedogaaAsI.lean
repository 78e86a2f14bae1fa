/-
  Proved here: the document's parser: all expressions; simple statements.
-/
import Derived.Test.YteibddakpedogaaAsH
set_option linter.unusedSimpArgs false
namespace Go.Proofs.Yteibddakpedogaa
open Go.SX Go.RowKit Go.Tr Go.As Go.Ck
namespace Pi
theorem en38 : Enters Try.prog 38 := Enters.of Try.func38 (by kernel_rfl) (by kernel_rfl)
theorem en53 : Enters Try.prog 53 := Enters.of Try.func53 (by kernel_rfl) (by kernel_rfl)
theorem fo31_2 : FieldOff Try.prog 31 2 2 := fun b o w => by kernel_rfl
theorem fo42_4 : FieldOff Try.prog 42 4 4 := fun b o w => by kernel_rfl
theorem fo42_5 : FieldOff Try.prog 42 5 5 := fun b o w => by kernel_rfl
theorem fo42_6 : FieldOff Try.prog 42 6 6 := fun b o w => by kernel_rfl
theorem one4 : One Try.prog 4 := fun w => by kernel_rfl
end Pi
open Go.Pa (Tk)
/-- expressions, with so many tokens left -/
structure Ex (w0 : World) (base bp : Nat) (al : Option Addr) (cl : Nat) (L : List Tk) (N : Nat) : Prop where
  test_ : (∀ (s : RS) (m : Mm) (fr : List It), Sk L.length s → NdsR 3 m.rs m.cells s.ns → L.length - s.at_ ≤ N → PF 47 [.pointer (some ⟨bp, 0, none⟩)] w0 base bp al cl L s m fr)
  or_ : (∀ (s : RS) (m : Mm) (fr : List It), Sk L.length s → NdsR 3 m.rs m.cells s.ns → L.length - s.at_ ≤ N → PF 56 [.pointer (some ⟨bp, 0, none⟩)] w0 base bp al cl L s m fr)
  not_ : (∀ (s : RS) (m : Mm) (fr : List It), Sk L.length s → NdsR 3 m.rs m.cells s.ns → L.length - s.at_ ≤ N → PF 62 [.pointer (some ⟨bp, 0, none⟩)] w0 base bp al cl L s m fr)
  unary_ : (∀ (s : RS) (m : Mm) (fr : List It), Sk L.length s → NdsR 3 m.rs m.cells s.ns → L.length - s.at_ ≤ N → PF 73 [.pointer (some ⟨bp, 0, none⟩)] w0 base bp al cl L s m fr)
  target_ : (∀ (s : RS) (m : Mm) (fr : List It), Sk L.length s → NdsR 3 m.rs m.cells s.ns → L.length - s.at_ ≤ N → PF 57 [.pointer (some ⟨bp, 0, none⟩)] w0 base bp al cl L s m fr)
  targets_ : (∀ (s : RS) (m : Mm) (fr : List It), Sk L.length s → NdsR 3 m.rs m.cells s.ns → L.length - s.at_ ≤ N → PF 34 [.pointer (some ⟨bp, 0, none⟩)] w0 base bp al cl L s m fr)
  primary_ : (∀ (s : RS) (m : Mm) (fr : List It), Sk L.length s → NdsR 3 m.rs m.cells s.ns → L.length - s.at_ ≤ N → PF 60 [.pointer (some ⟨bp, 0, none⟩)] w0 base bp al cl L s m fr)
  tuple_ : (∀ (s : RS) (m : Mm) (fr : List It), Sk L.length s → NdsR 3 m.rs m.cells s.ns → L.length - s.at_ ≤ N → PF 38 [.pointer (some ⟨bp, 0, none⟩)] w0 base bp al cl L s m fr)
theorem ex_all {w0 : World} {base : Nat} {bp : Nat} {al : Option Addr} {cl : Nat} {L : List Go.Pa.Tk} (hL : SlAt 3 tokA (Lies w0 base) al L) (hK : Tok6 L) (N : Nat) : Ex w0 base bp al cl L N := by
  induction N using Nat.strongRecOn with
  | _ N ih =>
    have ht : (∀ (s : RS) (m : Mm) (fr : List It), Sk L.length s → NdsR 3 m.rs m.cells s.ns → L.length - s.at_ < N → PF 47 [.pointer (some ⟨bp, 0, none⟩)] w0 base bp al cl L s m fr) := (fun s m fr a b c => (ih (L.length - s.at_) c).test_ s m fr a b (Nat.le_refl _))
    have ho : (∀ (s : RS) (m : Mm) (fr : List It), Sk L.length s → NdsR 3 m.rs m.cells s.ns → L.length - s.at_ < N → PF 56 [.pointer (some ⟨bp, 0, none⟩)] w0 base bp al cl L s m fr) := (fun s m fr a b c => (ih (L.length - s.at_) c).or_ s m fr a b (Nat.le_refl _))
    have hg : (∀ (s : RS) (m : Mm) (fr : List It), Sk L.length s → NdsR 3 m.rs m.cells s.ns → L.length - s.at_ < N → PF 34 [.pointer (some ⟨bp, 0, none⟩)] w0 base bp al cl L s m fr) := (fun s m fr a b c => (ih (L.length - s.at_) c).targets_ s m fr a b (Nat.le_refl _))
    have h1 := atom_c hL hK ht ho hg
    have h2 := primary_c hL hK h1 ht
    have h3 := unary_c hL hK (fun s m fr a b c => (ih (L.length - s.at_) c).unary_ s m fr a b (Nat.le_refl _)) h2
    have h4 := product_c hL hK h3
    have h5 := sum_c hL hK h4
    have h6 := compare_c hL hK h5
    have h7 := not_c hL hK (fun s m fr a b c => (ih (L.length - s.at_) c).not_ s m fr a b (Nat.le_refl _)) h6
    have h8 := and_c hL hK h7
    have h9 := or_c hL hK h8
    have h10 := test_c hL hK h9 ht
    have h11 := target_c hL hK (fun s m fr a b c => (ih (L.length - s.at_) c).target_ s m fr a b (Nat.le_refl _)) h2
    exact ⟨h10, h9, h7, h3, h11, targets_c hL hK h11, h2, tuple_c hL hK h10⟩
theorem simple_c {w0 : World} {base : Nat} {bp : Nat} {al : Option Addr} {cl : Nat} {L : List Go.Pa.Tk} (hL : SlAt 3 tokA (Lies w0 base) al L) (hK : Tok6 L) {N : Nat} (h_load : ∀ pos, inI pos → (∀ (s : RS) (m : Mm) (fr : List It), Sk L.length s → NdsR 3 m.rs m.cells s.ns → L.length - s.at_ ≤ N → s.at_ + 1 < L.length → PF 53 [.pointer (some ⟨bp, 0, none⟩), .int .i64 pos] w0 base bp al cl L s m fr))  : (∀ (s : RS) (m : Mm) (fr : List It), Sk L.length s → NdsR 3 m.rs m.cells s.ns → L.length - s.at_ ≤ N → PF1 41 [.pointer (some ⟨bp, 0, none⟩)] w0 base bp al cl L s m fr) := by
  intro s m fr hs hn hN
  have hR := Rn.refl hs
  have hle : s.at_ ≤ s.at_ := Nat.le_refl _
  have hd0 := hs.d0
  have hd1 := hs.d1
  have hlt := hs.lt
  have hln0 := hK.len
  have hN0 : 0 < N := by omega
  refine FnC.of_body (fn := Try.f41) [(0, _)] Try.func41 rfl Try.ntmps41 rfl ⟨rfl, trivial⟩ ?_
  refine CX.sr <| LX.mv rfl <| LX.su [0, 2] rfl <| LX.nt <| CX.sr ?_
  obtain ⟨t1, ht1⟩ : ∃ t, L[s.at_]? = some t := ⟨_, List.getElem?_eq_getElem (show s.at_ < L.length from hR.lt)⟩
  have htk1 := (tok_in hL ht1).1
  have htp1 := (tok_in hL ht1).2
  refine LX.mv rfl <| LX.callQ (now_q (s := s) (m := m) ht1 (fun w hw => blkL hw (i := 0) rfl) (fun w hw => hL.push hw)) Pa.en13 rfl rfl rfl rfl rfl <| LX.alloc rfl Pa.zv44 rfl rfl rfl ?_
  intro bt2
  refine LX.storeA 0 Pa.ag44 rfl rfl rfl rfl rfl rfl rfl rfl rfl <| LX.wq (Tb bt2 t1 :: PWl bp al L cl s m fr) rfl ?_
  refine LX.wp (PWl bp al L cl s m (Tb bt2 t1 :: fr)) ?_
  refine LX.su [0, 2, 3] rfl <| LX.nt <| CX.seq <| CX.sr <| LX.p (Y.fieldAddr0 Pa.fo44_0 rfl) rfl ?_
  refine LX.wp (Tb bt2 t1 :: PWl bp al L cl s m fr) ?_
  refine LX.p (Y.ldB 0 Pa.one3 rfl rfl rfl) rfl <| LX.p (Y.eqI rfl rfl) rfl ?_
  refine LX.wp (PWl bp al L cl s m (Tb bt2 t1 :: fr)) ?_
  refine LX.su [0, 2, 3, 13] rfl <| LX.nt ?_
  refine CX.cond rfl (fun hb1 => ?_) (fun hb1 => ?_)
  · try simp at hb1
    refine CX.sr <| LX.p (Y.fieldAddr0 Pa.fo44_1 rfl) rfl ?_
    refine LX.wp (Tb bt2 t1 :: PWl bp al L cl s m fr) ?_
    refine LX.p (Y.ldB 0 Pa.one9 rfl rfl rfl) rfl ?_
    refine LX.wp (PWl bp al L cl s m (Tb bt2 t1 :: fr)) ?_
    refine LX.su [0, 2, 3, 15] rfl <| LX.nt <| CX.block <| CX.sr <| LX.p (Y.eqS rfl rfl) rfl <| LX.mv rfl <| LX.su [0, 2, 3, 15, 16] rfl <| LX.nt ?_
    refine CX.cond rfl (fun hb2 => ?_) (fun hb2 => ?_)
    · try simp at hb2
      refine CX.sr ?_
      have hgo3 : s.at_ + 1 < L.length := by exact hK.fin _ t1 ht1 (by omega)
      have hln3 := hK.len
      refine LX.ms 3 rfl <| LX.p (Y.fieldAddr0 Pa.fo42_1 rfl) rfl <| LX.p (Y.ldB 0 Pa.one3 rfl rfl rfl) rfl <| LX.p (Y.addN rfl rfl (by (simp only []; omega))) rfl <| LX.mv rfl <| LX.p (Y.fieldAddr0 Pa.fo42_1 rfl) rfl <| LX.storeB 0 Pb.sz3 rfl rfl rfl rfl rfl rfl rfl rfl <| LX.wq (PWl bp al L cl (RS.go s 1) m (Tb bt2 t1 :: fr)) rfl ?_
      have hR4 : Rn L.length s (RS.go s 1) ([] : List Int) 1 (-2) := hR.go hgo3
      have hle5 : s.at_ < (s.at_ + 1) := by have h9 : s.at_ ≤ s.at_ := hR.le; omega
      have hlt5 : (s.at_ + 1) < L.length := hgo3
      refine LX.su [0, 2, 3] rfl <| LX.nt <| CX.sr <| LX.mv rfl <| LX.p (Y.fieldAddr0 Pf.fo44_2 rfl) rfl ?_
      refine LX.wp (Tb bt2 t1 :: PWl bp al L cl (RS.go s 1) m fr) ?_
      refine LX.p (Y.ldB 0 Pa.one3 rfl rfl rfl) rfl ?_
      refine LX.wp (PWl bp al L cl (RS.go s 1) m (Tb bt2 t1 :: fr)) ?_
      refine LX.world (W' := WA w0 base (Ri none 0 ([] : List Int) :: PWl bp al L cl (RS.go s 1) m (Tb bt2 t1 :: fr))) (fun w hw => (show WA w0 base (Ri none 0 ([] : List Int) :: PWl bp al L cl (RS.go s 1) m (Tb bt2 t1 :: fr)) w from (show WA w0 base (PWl bp al L cl (RS.go s 1) m (Tb bt2 t1 :: fr)) w from hw).nilRow 3 1)) <| LX.call (put_c (fr := (Tb bt2 t1 :: fr)) (g := none) (c := 0) (ks := ([] : List Int)) (op := 38) (pos := t1.pos) (x := ([] : List UInt8)) (RS.go s 1) m hn (fun h0 => by have h1 : ((s.ns).length : Int) + 2 * s.at_ ≤ s.ns.length + 2 * (((s.at_ + 1) : Nat) : Int) + (-2) := hR4.few h0; have h2 := hs.few (hR4.bad h0); have h3 := hK.len; have h4 : (s.at_ + 1) < L.length := hR4.lt; show (s.ns).length ≤ 1000000; omega) (by (simp only [List.length_cons, List.length_nil, List.length_append]; omega)) (AllI.nil) (by (unfold inI; omega)) as_) Pd.en16 rfl rfl rfl rfl rfl ?_
      rintro ⟨r6, s6, m6⟩
      refine LX.have fun ⟨hri6, hp6, hn6⟩ => ?_
      try dsimp only at hri6 hp6 hn6 ⊢
      have hR7 : Rn L.length s s6 ([r6]) 1 (-1) := hR4.put (us := ([] : List Int)) (ks := ([] : List Int)) hp6 pm
      have hch8 : (s.at_ + 1) ≤ s6.at_ := Nat.le_of_eq hp6.eqs.1.symm
      have hle8 : s.at_ < s6.at_ := by omega
      have hlt8 : s6.at_ < L.length := hR7.lt
      have hde8 : s.deep ≤ s6.deep := Int.le_of_eq hp6.eqs.2.1.symm
      have hdd8 : s6.deep ≤ 60 := hR7.d1
      refine LX.mv rfl <| LX.su [0, 2] rfl <| LX.nt <| CX.ret <| PX.blockR <| PX.thenR <| PX.ret1 (by simp) Try.results41 rfl ?_
      exact fun w hw => ⟨(r6, s6, m6), rfl, ⟨as_, hR7.wk dc dc, hn6⟩, hw.ct⟩
    try simp at hb2
    refine CX.sub (l' := [(0, _), (2, _), (3, _), (15, _)]) ⟨rfl, rfl, rfl, rfl, trivial⟩ ?_
    apply CX.seqSw 30
    ·
      refine CX.sr <| LX.p (Y.eqS rfl rfl) rfl <| LX.mv rfl <| LX.nt ?_
      apply CX.swOr
      · rfl
      · exact ⟨rfl, rfl, rfl, rfl, rfl, trivial⟩
      intro hb3
      try simp at hb3
      refine CX.region <| LX.p (Y.eqS rfl rfl) rfl <| LX.mv rfl <| LX.next ?_
      exact PX.sw ⟨rfl, rfl, rfl, rfl, rfl, trivial⟩
    refine CX.cond rfl (fun hb4 => ?_) (fun hb4 => ?_)
    · try simp at hb4
      refine CX.seq <| CX.sr <| LX.ms 2 rfl <| LX.p (Y.fieldAddr0 Pi.fo42_5 rfl) rfl <| LX.p (Y.ldB 0 Pi.one4 rfl rfl rfl) rfl <| LX.p (Y.not rfl) rfl <| LX.su [0, 2, 3, 37] rfl <| LX.nt ?_
      refine CX.cond rfl (fun hb5 => ?_) (fun hb5 => ?_)
      · try simp at hb5
        refine CX.sr <| LX.mv rfl <| LX.call (wrong_c (fr := (Tb bt2 t1 :: fr)) s m hL ht1) Pb.en37 rfl rfl rfl rfl rfl ?_
        intro s9
        refine LX.have fun hf9 => ?_
        have hb909 : Bad s s9 := FailR.bad hf9 dc
        have hbc9 := hb909.code
        have hn9 : NdsR 3 m.rs m.cells s9.ns := by rw [hb909.ns]; exact hn
        have hR10 : Rn L.length s s9 ([] : List Int) 0 (0) := hR.bad2 hb909
        have hch11 : s.at_ ≤ s9.at_ := Nat.le_of_eq hb909.at_.symm
        have hle11 : s.at_ ≤ s9.at_ := by omega
        have hlt11 : s9.at_ < L.length := hR10.lt
        have hde11 : s.deep ≤ s9.deep := Int.le_of_eq hb909.deep.symm
        have hdd11 : s9.deep ≤ 60 := hR10.d1
        refine LX.mv rfl <| LX.su [0, 2, 3] rfl <| LX.nt <| CX.ret <| PX.thenR <| PX.blockR <| PX.thenR <| PX.ret1 (by simp) Try.results41 rfl ?_
        exact fun w hw => ⟨((-1), s9, m), rfl, ⟨(by (unfold inI; omega)), hR10.no as_, hn9⟩, hw.ct⟩
      try simp at hb5
      refine CX.skip <| PX.thenN <| CX.sr ?_
      have hgo12 : s.at_ + 1 < L.length := by exact hK.fin _ t1 ht1 (by omega)
      have hln12 := hK.len
      refine LX.ms 3 rfl <| LX.p (Y.fieldAddr0 Pa.fo42_1 rfl) rfl <| LX.p (Y.ldB 0 Pa.one3 rfl rfl rfl) rfl <| LX.p (Y.addN rfl rfl (by (simp only []; omega))) rfl <| LX.mv rfl <| LX.p (Y.fieldAddr0 Pa.fo42_1 rfl) rfl <| LX.storeB 0 Pb.sz3 rfl rfl rfl rfl rfl rfl rfl rfl <| LX.wq (PWl bp al L cl (RS.go s 1) m (Tb bt2 t1 :: fr)) rfl ?_
      have hR13 : Rn L.length s (RS.go s 1) ([] : List Int) 1 (-2) := hR.go hgo12
      have hle14 : s.at_ < (s.at_ + 1) := by have h9 : s.at_ ≤ s.at_ := hR.le; omega
      have hlt14 : (s.at_ + 1) < L.length := hgo12
      refine LX.su [0, 2, 3] rfl <| LX.nt <| CX.seq <| CX.sr <| LX.p (Y.fieldAddr0 Pa.fo44_1 rfl) rfl ?_
      refine LX.wp (Tb bt2 t1 :: PWl bp al L cl (RS.go s 1) m fr) ?_
      refine LX.p (Y.ldB 0 Pa.one9 rfl rfl rfl) rfl <| LX.p (Y.eqS rfl rfl) rfl ?_
      refine LX.wp (PWl bp al L cl (RS.go s 1) m (Tb bt2 t1 :: fr)) ?_
      refine LX.su [0, 2, 3, 50] rfl <| LX.nt ?_
      refine CX.cond rfl (fun hb6 => ?_) (fun hb6 => ?_)
      · try simp at hb6
        refine CX.sr <| LX.mv rfl <| LX.p (Y.fieldAddr0 Pf.fo44_2 rfl) rfl ?_
        refine LX.wp (Tb bt2 t1 :: PWl bp al L cl (RS.go s 1) m fr) ?_
        refine LX.p (Y.ldB 0 Pa.one3 rfl rfl rfl) rfl ?_
        refine LX.wp (PWl bp al L cl (RS.go s 1) m (Tb bt2 t1 :: fr)) ?_
        refine LX.world (W' := WA w0 base (Ri none 0 ([] : List Int) :: PWl bp al L cl (RS.go s 1) m (Tb bt2 t1 :: fr))) (fun w hw => (show WA w0 base (Ri none 0 ([] : List Int) :: PWl bp al L cl (RS.go s 1) m (Tb bt2 t1 :: fr)) w from (show WA w0 base (PWl bp al L cl (RS.go s 1) m (Tb bt2 t1 :: fr)) w from hw).nilRow 3 1)) <| LX.call (put_c (fr := (Tb bt2 t1 :: fr)) (g := none) (c := 0) (ks := ([] : List Int)) (op := 39) (pos := t1.pos) (x := ([] : List UInt8)) (RS.go s 1) m hn (fun h0 => by have h1 : ((s.ns).length : Int) + 2 * s.at_ ≤ s.ns.length + 2 * (((s.at_ + 1) : Nat) : Int) + (-2) := hR13.few h0; have h2 := hs.few (hR13.bad h0); have h3 := hK.len; have h4 : (s.at_ + 1) < L.length := hR13.lt; show (s.ns).length ≤ 1000000; omega) (by (simp only [List.length_cons, List.length_nil, List.length_append]; omega)) (AllI.nil) (by (unfold inI; omega)) as_) Pd.en16 rfl rfl rfl rfl rfl ?_
        rintro ⟨r15, s15, m15⟩
        refine LX.have fun ⟨hri15, hp15, hn15⟩ => ?_
        try dsimp only at hri15 hp15 hn15 ⊢
        have hR16 : Rn L.length s s15 ([r15]) 1 (-1) := hR13.put (us := ([] : List Int)) (ks := ([] : List Int)) hp15 pm
        have hch17 : (s.at_ + 1) ≤ s15.at_ := Nat.le_of_eq hp15.eqs.1.symm
        have hle17 : s.at_ < s15.at_ := by omega
        have hlt17 : s15.at_ < L.length := hR16.lt
        have hde17 : s.deep ≤ s15.deep := Int.le_of_eq hp15.eqs.2.1.symm
        have hdd17 : s15.deep ≤ 60 := hR16.d1
        refine LX.mv rfl <| LX.su [0, 2, 3] rfl <| LX.nt <| CX.ret <| PX.thenR <| PX.blockR <| PX.thenR <| PX.ret1 (by simp) Try.results41 rfl ?_
        exact fun w hw => ⟨(r15, s15, m15), rfl, ⟨as_, hR16.wk dc dc, hn15⟩, hw.ct⟩
      try simp at hb6
      refine CX.skip <| PX.thenN <| CX.sr <| LX.mv rfl <| LX.p (Y.fieldAddr0 Pf.fo44_2 rfl) rfl ?_
      refine LX.wp (Tb bt2 t1 :: PWl bp al L cl (RS.go s 1) m fr) ?_
      refine LX.p (Y.ldB 0 Pa.one3 rfl rfl rfl) rfl ?_
      refine LX.wp (PWl bp al L cl (RS.go s 1) m (Tb bt2 t1 :: fr)) ?_
      refine LX.world (W' := WA w0 base (Ri none 0 ([] : List Int) :: PWl bp al L cl (RS.go s 1) m (Tb bt2 t1 :: fr))) (fun w hw => (show WA w0 base (Ri none 0 ([] : List Int) :: PWl bp al L cl (RS.go s 1) m (Tb bt2 t1 :: fr)) w from (show WA w0 base (PWl bp al L cl (RS.go s 1) m (Tb bt2 t1 :: fr)) w from hw).nilRow 3 1)) <| LX.call (put_c (fr := (Tb bt2 t1 :: fr)) (g := none) (c := 0) (ks := ([] : List Int)) (op := 40) (pos := t1.pos) (x := ([] : List UInt8)) (RS.go s 1) m hn (fun h0 => by have h1 : ((s.ns).length : Int) + 2 * s.at_ ≤ s.ns.length + 2 * (((s.at_ + 1) : Nat) : Int) + (-2) := hR13.few h0; have h2 := hs.few (hR13.bad h0); have h3 := hK.len; have h4 : (s.at_ + 1) < L.length := hR13.lt; show (s.ns).length ≤ 1000000; omega) (by (simp only [List.length_cons, List.length_nil, List.length_append]; omega)) (AllI.nil) (by (unfold inI; omega)) as_) Pd.en16 rfl rfl rfl rfl rfl ?_
      rintro ⟨r18, s18, m18⟩
      refine LX.have fun ⟨hri18, hp18, hn18⟩ => ?_
      try dsimp only at hri18 hp18 hn18 ⊢
      have hR19 : Rn L.length s s18 ([r18]) 1 (-1) := hR13.put (us := ([] : List Int)) (ks := ([] : List Int)) hp18 pm
      have hch20 : (s.at_ + 1) ≤ s18.at_ := Nat.le_of_eq hp18.eqs.1.symm
      have hle20 : s.at_ < s18.at_ := by omega
      have hlt20 : s18.at_ < L.length := hR19.lt
      have hde20 : s.deep ≤ s18.deep := Int.le_of_eq hp18.eqs.2.1.symm
      have hdd20 : s18.deep ≤ 60 := hR19.d1
      refine LX.mv rfl <| LX.su [0, 2] rfl <| LX.nt <| CX.ret <| PX.blockR <| PX.thenR <| PX.ret1 (by simp) Try.results41 rfl ?_
      exact fun w hw => ⟨(r18, s18, m18), rfl, ⟨as_, hR19.wk dc dc, hn18⟩, hw.ct⟩
    try simp at hb4
    refine CX.sr <| LX.p (Y.eqS rfl rfl) rfl <| LX.mv rfl <| LX.su [0, 2, 3, 15, 59] rfl <| LX.nt ?_
    refine CX.cond rfl (fun hb7 => ?_) (fun hb7 => ?_)
    · try simp at hb7
      refine CX.seq <| CX.sr <| LX.ms 2 rfl <| LX.p (Y.fieldAddr0 Pi.fo42_4 rfl) rfl <| LX.p (Y.ldB 0 Pi.one4 rfl rfl rfl) rfl <| LX.p (Y.not rfl) rfl <| LX.su [0, 2, 3, 65] rfl <| LX.nt ?_
      refine CX.cond rfl (fun hb8 => ?_) (fun hb8 => ?_)
      · try simp at hb8
        refine CX.sr <| LX.mv rfl <| LX.call (wrong_c (fr := (Tb bt2 t1 :: fr)) s m hL ht1) Pb.en37 rfl rfl rfl rfl rfl ?_
        intro s21
        refine LX.have fun hf21 => ?_
        have hb921 : Bad s s21 := FailR.bad hf21 dc
        have hbc21 := hb921.code
        have hn21 : NdsR 3 m.rs m.cells s21.ns := by rw [hb921.ns]; exact hn
        have hR22 : Rn L.length s s21 ([] : List Int) 0 (0) := hR.bad2 hb921
        have hch23 : s.at_ ≤ s21.at_ := Nat.le_of_eq hb921.at_.symm
        have hle23 : s.at_ ≤ s21.at_ := by omega
        have hlt23 : s21.at_ < L.length := hR22.lt
        have hde23 : s.deep ≤ s21.deep := Int.le_of_eq hb921.deep.symm
        have hdd23 : s21.deep ≤ 60 := hR22.d1
        refine LX.mv rfl <| LX.su [0, 2, 3] rfl <| LX.nt <| CX.ret <| PX.thenR <| PX.blockR <| PX.thenR <| PX.ret1 (by simp) Try.results41 rfl ?_
        exact fun w hw => ⟨((-1), s21, m), rfl, ⟨(by (unfold inI; omega)), hR22.no as_, hn21⟩, hw.ct⟩
      try simp at hb8
      refine CX.skip <| PX.thenN <| CX.sr ?_
      have hgo24 : s.at_ + 1 < L.length := by exact hK.fin _ t1 ht1 (by omega)
      have hln24 := hK.len
      refine LX.ms 3 rfl <| LX.p (Y.fieldAddr0 Pa.fo42_1 rfl) rfl <| LX.p (Y.ldB 0 Pa.one3 rfl rfl rfl) rfl <| LX.p (Y.addN rfl rfl (by (simp only []; omega))) rfl <| LX.mv rfl <| LX.p (Y.fieldAddr0 Pa.fo42_1 rfl) rfl <| LX.storeB 0 Pb.sz3 rfl rfl rfl rfl rfl rfl rfl rfl <| LX.wq (PWl bp al L cl (RS.go s 1) m (Tb bt2 t1 :: fr)) rfl ?_
      have hR25 : Rn L.length s (RS.go s 1) ([] : List Int) 1 (-2) := hR.go hgo24
      have hle26 : s.at_ < (s.at_ + 1) := by have h9 : s.at_ ≤ s.at_ := hR.le; omega
      have hlt26 : (s.at_ + 1) < L.length := hgo24
      refine LX.su [0, 2, 3] rfl <| LX.nt <| CX.seq <| CX.sr ?_
      obtain ⟨t27, ht27⟩ : ∃ t, L[(s.at_ + 1)]? = some t := ⟨_, List.getElem?_eq_getElem (show (s.at_ + 1) < L.length from hR25.lt)⟩
      have htk27 := (tok_in hL ht27).1
      have htp27 := (tok_in hL ht27).2
      refine LX.mv rfl <| LX.call (begins_w (s := (RS.go s 1)) (m := m) ht27 (fun w hw => blkL hw (i := 0) rfl) (fun w hw => hL.push hw)) Pe.en36 rfl rfl rfl rfl rfl ?_
      intro b28
      refine LX.have fun hy28 => ?_
      replace hy28 : b28 = true → t27.kind ≠ 8 := hy28
      refine LX.p (Y.not rfl) rfl <| LX.su [0, 2, 3, 78] rfl <| LX.nt ?_
      refine CX.cond rfl (fun hb9 => ?_) (fun hb9 => ?_)
      · try simp at hb9
        refine CX.sr <| LX.mv rfl <| LX.p (Y.fieldAddr0 Pf.fo44_2 rfl) rfl ?_
        refine LX.wp (Tb bt2 t1 :: PWl bp al L cl (RS.go s 1) m fr) ?_
        refine LX.p (Y.ldB 0 Pa.one3 rfl rfl rfl) rfl ?_
        refine LX.wp (PWl bp al L cl (RS.go s 1) m (Tb bt2 t1 :: fr)) ?_
        refine LX.world (W' := WA w0 base (Ri none 0 ([] : List Int) :: PWl bp al L cl (RS.go s 1) m (Tb bt2 t1 :: fr))) (fun w hw => (show WA w0 base (Ri none 0 ([] : List Int) :: PWl bp al L cl (RS.go s 1) m (Tb bt2 t1 :: fr)) w from (show WA w0 base (PWl bp al L cl (RS.go s 1) m (Tb bt2 t1 :: fr)) w from hw).nilRow 3 1)) <| LX.call (put_c (fr := (Tb bt2 t1 :: fr)) (g := none) (c := 0) (ks := ([] : List Int)) (op := 41) (pos := t1.pos) (x := ([] : List UInt8)) (RS.go s 1) m hn (fun h0 => by have h1 : ((s.ns).length : Int) + 2 * s.at_ ≤ s.ns.length + 2 * (((s.at_ + 1) : Nat) : Int) + (-2) := hR25.few h0; have h2 := hs.few (hR25.bad h0); have h3 := hK.len; have h4 : (s.at_ + 1) < L.length := hR25.lt; show (s.ns).length ≤ 1000000; omega) (by (simp only [List.length_cons, List.length_nil, List.length_append]; omega)) (AllI.nil) (by (unfold inI; omega)) as_) Pd.en16 rfl rfl rfl rfl rfl ?_
        rintro ⟨r29, s29, m29⟩
        refine LX.have fun ⟨hri29, hp29, hn29⟩ => ?_
        try dsimp only at hri29 hp29 hn29 ⊢
        have hR30 : Rn L.length s s29 ([r29]) 1 (-1) := hR25.put (us := ([] : List Int)) (ks := ([] : List Int)) hp29 pm
        have hch31 : (s.at_ + 1) ≤ s29.at_ := Nat.le_of_eq hp29.eqs.1.symm
        have hle31 : s.at_ < s29.at_ := by omega
        have hlt31 : s29.at_ < L.length := hR30.lt
        have hde31 : s.deep ≤ s29.deep := Int.le_of_eq hp29.eqs.2.1.symm
        have hdd31 : s29.deep ≤ 60 := hR30.d1
        refine LX.mv rfl <| LX.su [0, 2, 3] rfl <| LX.nt <| CX.ret <| PX.thenR <| PX.blockR <| PX.thenR <| PX.ret1 (by simp) Try.results41 rfl ?_
        exact fun w hw => ⟨(r29, s29, m29), rfl, ⟨as_, hR30.wk dc dc, hn29⟩, hw.ct⟩
      try simp at hb9
      refine CX.skip <| PX.thenN <| CX.sr <| LX.mv rfl ?_
      have hk32 : Sk L.length (RS.go s 1) := hs.next hR25 dc
      refine LX.call ((ex_all hL hK L.length).tuple_ (RS.go s 1) m (Tb bt2 t1 :: fr) hk32 hn (by show L.length - (s.at_ + 1) ≤ L.length; omega)) Pi.en38 rfl rfl rfl rfl rfl ?_
      rintro ⟨r32, s32, m32⟩
      refine LX.have fun ⟨hri32, hr32, hn32⟩ => ?_
      try dsimp only at hri32 hr32 hn32 ⊢
      have hR33 : Rn L.length s s32 ([r32]) 2 (-2) := hR25.trans hr32
      have hch34 : (s.at_ + 1) ≤ s32.at_ := hr32.le
      have hle34 : s.at_ < s32.at_ := by omega
      have hlt34 : s32.at_ < L.length := hR33.lt
      have hde34 : s.deep ≤ s32.deep := hr32.d0
      have hdd34 : s32.deep ≤ 60 := hR33.d1
      have hav32 : s32.code = 0 → (s.at_ + 1) + 1 ≤ s32.at_ := hr32.adv
      refine LX.mv rfl <| LX.su [0, 2, 3, 4] rfl <| LX.nt <| CX.sr <| LX.mv rfl <| LX.p (Y.fieldAddr0 Pf.fo44_2 rfl) rfl ?_
      refine LX.wp (Tb bt2 t1 :: PWl bp al L cl s32 m32 fr) ?_
      refine LX.p (Y.ldB 0 Pa.one3 rfl rfl rfl) rfl <| LX.mv rfl <| LX.buildSlice (e := 3) (size := 1) rfl rfl (fun _ => by kernel_rfl) rfl dc rfl rfl rfl ?_
      intro gt35
      refine LX.wq (Ri (some gt35) 1 ([r32]) :: Tb bt2 t1 :: PWl bp al L cl s32 m32 fr) rfl ?_
      refine LX.wp (Ri (some gt35) 1 ([r32]) :: PWl bp al L cl s32 m32 (Tb bt2 t1 :: fr)) ?_
      refine LX.call (put_c (fr := (Tb bt2 t1 :: fr)) (g := (some gt35)) (c := 1) (ks := [r32]) (op := 41) (pos := t1.pos) (x := ([] : List UInt8)) s32 m32 hn32 (fun h0 => by have h1 : ((s32.ns).length : Int) + 2 * s.at_ ≤ s.ns.length + 2 * ((s32.at_ : Nat) : Int) + (-2) := hR33.few h0; have h2 := hs.few (hR33.bad h0); have h3 := hK.len; have h4 : s32.at_ < L.length := hR33.lt; show (s32.ns).length ≤ 1000000; omega) (by (simp only [List.length_cons, List.length_nil, List.length_append]; omega)) ((AllI.cons as_ AllI.nil)) (by (unfold inI; omega)) as_) Pd.en16 rfl rfl rfl rfl rfl ?_
      rintro ⟨r36, s36, m36⟩
      refine LX.have fun ⟨hri36, hp36, hn36⟩ => ?_
      try dsimp only at hri36 hp36 hn36 ⊢
      have hR37 : Rn L.length s s36 ([r36]) 2 (-1) := hR33.put (us := ([] : List Int)) (ks := [r32]) hp36 pm
      have hch38 : s32.at_ ≤ s36.at_ := Nat.le_of_eq hp36.eqs.1.symm
      have hle38 : s.at_ < s36.at_ := by omega
      have hlt38 : s36.at_ < L.length := hR37.lt
      have hde38 : s32.deep ≤ s36.deep := Int.le_of_eq hp36.eqs.2.1.symm
      have hdd38 : s36.deep ≤ 60 := hR37.d1
      refine LX.mv rfl <| LX.su [0, 2] rfl <| LX.nt <| CX.ret <| PX.blockR <| PX.thenR <| PX.ret1 (by simp) Try.results41 rfl ?_
      exact fun w hw => ⟨(r36, s36, m36), rfl, ⟨as_, hR37.wk dc dc, hn36⟩, hw.ct⟩
    try simp at hb7
    refine CX.sr <| LX.p (Y.eqS rfl rfl) rfl <| LX.mv rfl <| LX.su [0, 2, 3, 91] rfl <| LX.nt ?_
    refine CX.cond rfl (fun hb10 => ?_) (fun hb10 => ?_)
    · try simp at hb10
      refine CX.seq <| CX.sr <| LX.ms 2 rfl <| LX.p (Y.fieldAddr0 Pi.fo42_6 rfl) rfl <| LX.p (Y.ldB 0 Pi.one4 rfl rfl rfl) rfl <| LX.p (Y.not rfl) rfl <| LX.su [0, 2, 3, 97] rfl <| LX.nt ?_
      refine CX.cond rfl (fun hb11 => ?_) (fun hb11 => ?_)
      · try simp at hb11
        refine CX.sr <| LX.mv rfl <| LX.call (wrong_c (fr := (Tb bt2 t1 :: fr)) s m hL ht1) Pb.en37 rfl rfl rfl rfl rfl ?_
        intro s39
        refine LX.have fun hf39 => ?_
        have hb939 : Bad s s39 := FailR.bad hf39 dc
        have hbc39 := hb939.code
        have hn39 : NdsR 3 m.rs m.cells s39.ns := by rw [hb939.ns]; exact hn
        have hR40 : Rn L.length s s39 ([] : List Int) 0 (0) := hR.bad2 hb939
        have hch41 : s.at_ ≤ s39.at_ := Nat.le_of_eq hb939.at_.symm
        have hle41 : s.at_ ≤ s39.at_ := by omega
        have hlt41 : s39.at_ < L.length := hR40.lt
        have hde41 : s.deep ≤ s39.deep := Int.le_of_eq hb939.deep.symm
        have hdd41 : s39.deep ≤ 60 := hR40.d1
        refine LX.mv rfl <| LX.su [0, 2, 3] rfl <| LX.nt <| CX.ret <| PX.thenR <| PX.blockR <| PX.thenR <| PX.ret1 (by simp) Try.results41 rfl ?_
        exact fun w hw => ⟨((-1), s39, m), rfl, ⟨(by (unfold inI; omega)), hR40.no as_, hn39⟩, hw.ct⟩
      try simp at hb11
      refine CX.skip <| PX.thenN <| CX.sr <| LX.mv rfl <| LX.p (Y.fieldAddr0 Pf.fo44_2 rfl) rfl ?_
      refine LX.wp (Tb bt2 t1 :: PWl bp al L cl s m fr) ?_
      refine LX.p (Y.ldB 0 Pa.one3 rfl rfl rfl) rfl ?_
      refine LX.wp (PWl bp al L cl s m (Tb bt2 t1 :: fr)) ?_
      have hk42 : Sk L.length s := hs.next hR dc
      have hgo42 : s.at_ + 1 < L.length := by exact hK.fin _ t1 ht1 (by omega)
      refine LX.call (h_load t1.pos as_ s m (Tb bt2 t1 :: fr) hk42 hn (by show L.length - s.at_ ≤ N; omega) hgo42) Pi.en53 rfl rfl rfl rfl rfl ?_
      rintro ⟨r42, s42, m42⟩
      refine LX.have fun ⟨hri42, hr42, hn42⟩ => ?_
      try dsimp only at hri42 hr42 hn42 ⊢
      have hR43 : Rn L.length s s42 ([r42]) 1 (0) := hR.trans hr42
      have hch44 : s.at_ ≤ s42.at_ := hr42.le
      have hle44 : s.at_ ≤ s42.at_ := by omega
      have hlt44 : s42.at_ < L.length := hR43.lt
      have hde44 : s.deep ≤ s42.deep := hr42.d0
      have hdd44 : s42.deep ≤ 60 := hR43.d1
      have hav42 : s42.code = 0 → s.at_ + 1 ≤ s42.at_ := hr42.adv
      refine LX.mv rfl <| LX.su [0, 2] rfl <| LX.nt <| CX.ret <| PX.blockR <| PX.thenR <| PX.ret1 (by simp) Try.results41 rfl ?_
      exact fun w hw => ⟨(r42, s42, m42), rfl, ⟨as_, hR43.wk dc dc, hn42⟩, hw.ct⟩
    try simp at hb10
    refine CX.skip <| PX.blockN <| PX.thenN <| CX.seq <| CX.sr <| LX.mv rfl <| LX.call (begins_w (s := s) (m := m) ht1 (fun w hw => blkL hw (i := 0) rfl) (fun w hw => hL.push hw)) Pe.en36 rfl rfl rfl rfl rfl ?_
    intro b45
    refine LX.have fun hy45 => ?_
    replace hy45 : b45 = true → t1.kind ≠ 8 := hy45
    refine LX.p (Y.not rfl) rfl <| LX.su [0, 2, 106] rfl <| LX.nt ?_
    refine CX.cond rfl (fun hb12 => ?_) (fun hb12 => ?_)
    · try simp at hb12
      refine CX.sr <| LX.mv rfl <| LX.call (wrong_c (fr := (Tb bt2 t1 :: fr)) s m hL ht1) Pb.en37 rfl rfl rfl rfl rfl ?_
      intro s46
      refine LX.have fun hf46 => ?_
      have hb946 : Bad s s46 := FailR.bad hf46 dc
      have hbc46 := hb946.code
      have hn46 : NdsR 3 m.rs m.cells s46.ns := by rw [hb946.ns]; exact hn
      have hR47 : Rn L.length s s46 ([] : List Int) 0 (0) := hR.bad2 hb946
      have hch48 : s.at_ ≤ s46.at_ := Nat.le_of_eq hb946.at_.symm
      have hle48 : s.at_ ≤ s46.at_ := by omega
      have hlt48 : s46.at_ < L.length := hR47.lt
      have hde48 : s.deep ≤ s46.deep := Int.le_of_eq hb946.deep.symm
      have hdd48 : s46.deep ≤ 60 := hR47.d1
      refine LX.mv rfl <| LX.su [0, 2] rfl <| LX.nt <| CX.ret <| PX.thenR <| PX.ret1 (by simp) Try.results41 rfl ?_
      exact fun w hw => ⟨((-1), s46, m), rfl, ⟨(by (unfold inI; omega)), hR47.no as_, hn46⟩, hw.ct⟩
    try simp at hb12
    refine CX.skip <| PX.thenN <| CX.sr <| LX.mv rfl ?_
    have hk49 : Sk L.length s := hs.next hR dc
    refine LX.call ((ex_all hL hK L.length).tuple_ s m (Tb bt2 t1 :: fr) hk49 hn (by show L.length - s.at_ ≤ L.length; omega)) Pi.en38 rfl rfl rfl rfl rfl ?_
    rintro ⟨r49, s49, m49⟩
    refine LX.have fun ⟨hri49, hr49, hn49⟩ => ?_
    try dsimp only at hri49 hr49 hn49 ⊢
    have hR50 : Rn L.length s s49 ([r49]) 1 (0) := hR.trans hr49
    have hch51 : s.at_ ≤ s49.at_ := hr49.le
    have hle51 : s.at_ ≤ s49.at_ := by omega
    have hlt51 : s49.at_ < L.length := hR50.lt
    have hde51 : s.deep ≤ s49.deep := hr49.d0
    have hdd51 : s49.deep ≤ 60 := hR50.d1
    have hav49 : s49.code = 0 → s.at_ + 1 ≤ s49.at_ := hr49.adv
    refine LX.mv rfl <| LX.su [0, 2, 5] rfl <| LX.nt <| CX.seq <| CX.sr <| LX.mv rfl <| LX.callQ (show FnQ Try.prog 12 #[.pointer (some ⟨bp, 0, none⟩)] _ (.bool (decide (s49.code ≠ 0))) from bad_q (s := s49) (m := m49) (fun w hw => blkL hw (i := 0) rfl)) Pb.en12 rfl rfl rfl rfl rfl <| LX.su [0, 2, 5, 112] rfl <| LX.nt ?_
    refine CX.cond rfl (fun hb13 => ?_) (fun hb13 => ?_)
    · try simp at hb13
      refine CX.sr <| LX.mv rfl <| LX.su [0, 2, 5] rfl <| LX.nt <| CX.ret <| PX.thenR <| PX.ret1 (by simp) Try.results41 rfl ?_
      exact fun w hw => ⟨((-1), s49, m49), rfl, ⟨(by (unfold inI; omega)), hR50.no as_, hn49⟩, hw.ct⟩
    try simp at hb13
    refine CX.skip <| PX.thenN <| CX.sr ?_
    obtain ⟨t52, ht52⟩ : ∃ t, L[s49.at_]? = some t := ⟨_, List.getElem?_eq_getElem (show s49.at_ < L.length from hR50.lt)⟩
    have htk52 := (tok_in hL ht52).1
    have htp52 := (tok_in hL ht52).2
    refine LX.mv rfl <| LX.callQ (now_q (s := s49) (m := m49) ht52 (fun w hw => blkL hw (i := 0) rfl) (fun w hw => hL.push hw)) Pa.en13 rfl rfl rfl rfl rfl <| LX.p (Y.field (v := .int .i64 t52.pos) rfl (fun _ => by kernel_rfl)) rfl <| LX.mv rfl <| LX.su [0, 2, 5, 6] rfl <| LX.nt <| CX.seq <| CX.block <| CX.sr <| LX.mv rfl <| LX.callQ (is_q (s := s49) (m := m49) ht52 ([61] : List UInt8) (fun w hw => blkL hw (i := 0) rfl) (fun w hw => hL.push hw)) Pb.en32 rfl rfl rfl rfl rfl <| LX.mv rfl <| LX.su [0, 2, 5, 6, 116] rfl <| LX.nt ?_
    refine CX.cond rfl (fun hb14 => ?_) (fun hb14 => ?_)
    · try simp at hb14
      refine CX.seq <| CX.sr <| LX.ms 2 rfl ?_
      obtain ⟨i53, hi53, hil53, hkd53⟩ : ∃ i : Nat, r49 = (i : Int) ∧ i < (s49.ns).length ∧ ∀ (k : Nat) x, (s49.ns)[k]? = some x → ∀ q ∈ x.kids, 0 ≤ q ∧ q < (k : Int)   := root_at (q := s49) hs hR50 as_ (by simp)
      refine LX.call (show FnC Try.prog 54 #[.pointer (some ⟨bp, 0, none⟩), .int .i64 r49] _ _ _ from by rw [hi53]; exact fits_w (s := s49) (m := m49) hkd53 i53 hil53 (fun w hw => blkL hw (i := 0) rfl) (fun w hw => NdsF.lies (NdsR.toF hn49 w0 base) hw (fun it h => by simp [h]) (j := 1) rfl)) Pc.en54 rfl rfl rfl rfl rfl ?_
      intro b53
      refine LX.p (Y.not rfl) rfl <| LX.su [0, 2, 5, 6, 122] rfl <| LX.nt ?_
      refine CX.cond rfl (fun hb15 => ?_) (fun hb15 => ?_)
      · try simp at hb15
        refine CX.sr <| LX.mv rfl <| LX.call (wrong_c (fr := (Tb bt2 t1 :: fr)) s49 m49 hL ht52) Pb.en37 rfl rfl rfl rfl rfl ?_
        intro s54
        refine LX.have fun hf54 => ?_
        have hb954 : Bad s49 s54 := FailR.bad hf54 dc
        have hbc54 := hb954.code
        have hn54 : NdsR 3 m49.rs m49.cells s54.ns := by rw [hb954.ns]; exact hn49
        have hR55 : Rn L.length s s54 ([r49]) 1 (0) := hR50.bad2 hb954
        have hch56 : s49.at_ ≤ s54.at_ := Nat.le_of_eq hb954.at_.symm
        have hle56 : s.at_ ≤ s54.at_ := by omega
        have hlt56 : s54.at_ < L.length := hR55.lt
        have hde56 : s49.deep ≤ s54.deep := Int.le_of_eq hb954.deep.symm
        have hdd56 : s54.deep ≤ 60 := hR55.d1
        refine LX.mv rfl <| LX.su [0, 2, 5, 6] rfl <| LX.nt <| CX.ret <| PX.thenR <| PX.blockR <| PX.thenR <| PX.ret1 (by simp) Try.results41 rfl ?_
        exact fun w hw => ⟨((-1), s54, m49), rfl, ⟨(by (unfold inI; omega)), hR55.no as_, hn54⟩, hw.ct⟩
      try simp at hb15
      refine CX.skip <| PX.thenN <| CX.sr ?_
      have hgo57 : s49.at_ + 1 < L.length := by exact hK.fin _ t52 ht52 (by (intro h8; simp_all [isS]; done))
      have hln57 := hK.len
      refine LX.ms 3 rfl <| LX.p (Y.fieldAddr0 Pa.fo42_1 rfl) rfl <| LX.p (Y.ldB 0 Pa.one3 rfl rfl rfl) rfl <| LX.p (Y.addN rfl rfl (by (simp only []; omega))) rfl <| LX.mv rfl <| LX.p (Y.fieldAddr0 Pa.fo42_1 rfl) rfl <| LX.storeB 0 Pb.sz3 rfl rfl rfl rfl rfl rfl rfl rfl <| LX.wq (PWl bp al L cl (RS.go s49 1) m49 (Tb bt2 t1 :: fr)) rfl ?_
      have hR58 : Rn L.length s (RS.go s49 1) ([r49]) 2 (-2) := hR50.go hgo57
      have hle59 : s.at_ < (s49.at_ + 1) := by have h9 : s.at_ ≤ s49.at_ := hR50.le; omega
      have hlt59 : (s49.at_ + 1) < L.length := hgo57
      refine LX.su [0, 2, 5, 6] rfl <| LX.nt <| CX.sr <| LX.mv rfl ?_
      have hk60 : Sk L.length (RS.go s49 1) := hs.next hR58 dc
      refine LX.call ((ex_all hL hK L.length).tuple_ (RS.go s49 1) m49 (Tb bt2 t1 :: fr) hk60 hn49 (by show L.length - (s49.at_ + 1) ≤ L.length; omega)) Pi.en38 rfl rfl rfl rfl rfl ?_
      rintro ⟨r60, s60, m60⟩
      refine LX.have fun ⟨hri60, hr60, hn60⟩ => ?_
      try dsimp only at hri60 hr60 hn60 ⊢
      have hR61 : Rn L.length s s60 ([r49] ++ [r60]) 3 (-2) := hR58.trans hr60
      have hch62 : (s49.at_ + 1) ≤ s60.at_ := hr60.le
      have hle62 : s.at_ < s60.at_ := by omega
      have hlt62 : s60.at_ < L.length := hR61.lt
      have hde62 : s49.deep ≤ s60.deep := hr60.d0
      have hdd62 : s60.deep ≤ 60 := hR61.d1
      have hav60 : s60.code = 0 → (s49.at_ + 1) + 1 ≤ s60.at_ := hr60.adv
      refine LX.mv rfl <| LX.su [0, 2, 5, 6, 7] rfl <| LX.nt <| CX.sr <| LX.ms 4 rfl <| LX.buildSlice (e := 3) (size := 1) rfl rfl (fun _ => by kernel_rfl) rfl dc rfl rfl rfl ?_
      intro gt63
      refine LX.wq (Ri (some gt63) 2 ([r49, r60]) :: PWl bp al L cl s60 m60 (Tb bt2 t1 :: fr)) rfl <| LX.call (put_c (fr := (Tb bt2 t1 :: fr)) (g := (some gt63)) (c := 2) (ks := [r49, r60]) (op := 36) (pos := t52.pos) (x := ([] : List UInt8)) s60 m60 hn60 (fun h0 => by have h1 : ((s60.ns).length : Int) + 2 * s.at_ ≤ s.ns.length + 2 * ((s60.at_ : Nat) : Int) + (-2) := hR61.few h0; have h2 := hs.few (hR61.bad h0); have h3 := hK.len; have h4 : s60.at_ < L.length := hR61.lt; show (s60.ns).length ≤ 1000000; omega) (by (simp only [List.length_cons, List.length_nil, List.length_append]; omega)) ((AllI.cons as_ (AllI.cons as_ AllI.nil))) (by (unfold inI; omega)) as_) Pd.en16 rfl rfl rfl rfl rfl ?_
      rintro ⟨r64, s64, m64⟩
      refine LX.have fun ⟨hri64, hp64, hn64⟩ => ?_
      try dsimp only at hri64 hp64 hn64 ⊢
      have hR65 : Rn L.length s s64 ([r64]) 3 (-1) := hR61.put (us := ([] : List Int)) (ks := [r49, r60]) hp64 pm
      have hch66 : s60.at_ ≤ s64.at_ := Nat.le_of_eq hp64.eqs.1.symm
      have hle66 : s.at_ < s64.at_ := by omega
      have hlt66 : s64.at_ < L.length := hR65.lt
      have hde66 : s60.deep ≤ s64.deep := Int.le_of_eq hp64.eqs.2.1.symm
      have hdd66 : s64.deep ≤ 60 := hR65.d1
      refine LX.mv rfl <| LX.su [0, 2, 5] rfl <| LX.nt <| CX.ret <| PX.blockR <| PX.thenR <| PX.ret1 (by simp) Try.results41 rfl ?_
      exact fun w hw => ⟨(r64, s64, m64), rfl, ⟨as_, hR65.wk dc dc, hn64⟩, hw.ct⟩
    try simp at hb14
    refine CX.sr <| LX.mv rfl <| LX.callQ (is_q (s := s49) (m := m49) ht52 ([43, 61] : List UInt8) (fun w hw => blkL hw (i := 0) rfl) (fun w hw => hL.push hw)) Pb.en32 rfl rfl rfl rfl rfl <| LX.mv rfl <| LX.su [0, 2, 5, 6, 141] rfl <| LX.nt ?_
    refine CX.cond rfl (fun hb16 => ?_) (fun hb16 => ?_)
    · try simp at hb16
      refine CX.seq <| CX.sr <| LX.ms 2 rfl <| LX.p (Y.fieldAddr0 Pc.fo42_2 rfl) rfl <| LX.p (Y.ldB 0 Pc.one23 rfl rfl rfl) rfl <| LX.mv rfl ?_
      obtain ⟨i67, hi67, hil67, hkd67⟩ : ∃ i : Nat, r49 = (i : Int) ∧ i < (s49.ns).length ∧ ∀ (k : Nat) x, (s49.ns)[k]? = some x → ∀ q ∈ x.kids, 0 ≤ q ∧ q < (k : Int)   := root_at (q := s49) hs hR50 as_ (by (simp; done))
      obtain ⟨y67, hy67⟩ : ∃ y, (s49.ns)[i67]? = some y := ⟨_, List.getElem?_eq_getElem hil67⟩
      have hyc67 := hn49.cell hy67
      have hyp67 : inI y67.pos := hyc67.2.2.2.2
      refine LX.p (Y.idxRZ 1 (i := i67) Pc.un23 Pc.sz31 rfl rfl hi67 rfl hil67) rfl <| LX.p (Y.fieldAddr Pc.fo31_0 rfl) rfl <| LX.p (Y.ldR 1 (v := .int .i64 y67.op) Pa.one3 rfl rfl hyc67.2.1) rfl <| LX.p (Y.neI rfl rfl) rfl <| LX.mv rfl ?_
      refine LX.caseB (s := 153) rfl (fun hb17 => ?_) (fun hb17 => ?_)
      ·
        have hb17p := hb17
        try simp at hb17p
        refine LX.gT rfl rfl rfl hb17 (Y.move rfl) rfl rfl <| LX.gT rfl rfl rfl hb17 (Y.nilCheck rfl) rfl rfl <| LX.gT rfl rfl rfl hb17 (Y.fieldAddr0 Pc.fo42_2 rfl) rfl rfl <| LX.gT rfl rfl rfl hb17 (Y.ldB 0 Pc.one23 rfl rfl rfl) rfl rfl <| LX.gT rfl rfl rfl hb17 (Y.move rfl) rfl rfl ?_
        obtain ⟨i68, hi68, hil68, hkd68⟩ : ∃ i : Nat, r49 = (i : Int) ∧ i < (s49.ns).length ∧ ∀ (k : Nat) x, (s49.ns)[k]? = some x → ∀ q ∈ x.kids, 0 ≤ q ∧ q < (k : Int)   := root_at (q := s49) hs hR50 as_ (by (simp; done))
        obtain ⟨y68, hy68⟩ : ∃ y, (s49.ns)[i68]? = some y := ⟨_, List.getElem?_eq_getElem hil68⟩
        have hyc68 := hn49.cell hy68
        have hyp68 : inI y68.pos := hyc68.2.2.2.2
        refine LX.gT rfl rfl rfl hb17 (Y.idxRZ 1 (i := i68) Pc.un23 Pc.sz31 rfl rfl hi68 rfl hil68) rfl rfl <| LX.gT rfl rfl rfl hb17 (Y.fieldAddr Pc.fo31_0 rfl) rfl rfl <| LX.gT rfl rfl rfl hb17 (Y.ldR 1 (v := .int .i64 y68.op) Pa.one3 rfl rfl hyc68.2.1) rfl rfl <| LX.gT rfl rfl rfl hb17 (Y.neI rfl rfl) rfl rfl <| LX.p (Y.pickT rfl hb17 rfl) rfl <| LX.su [0, 2, 5, 6, 163] rfl <| LX.nt ?_
        refine CX.cond rfl (fun hb18 => ?_) (fun hb18 => ?_)
        · try simp at hb18
          refine CX.sr <| LX.mv rfl <| LX.call (wrong_c (fr := (Tb bt2 t1 :: fr)) s49 m49 hL ht52) Pb.en37 rfl rfl rfl rfl rfl ?_
          intro s69
          refine LX.have fun hf69 => ?_
          have hb969 : Bad s49 s69 := FailR.bad hf69 dc
          have hbc69 := hb969.code
          have hn69 : NdsR 3 m49.rs m49.cells s69.ns := by rw [hb969.ns]; exact hn49
          have hR70 : Rn L.length s s69 ([r49]) 1 (0) := hR50.bad2 hb969
          have hch71 : s49.at_ ≤ s69.at_ := Nat.le_of_eq hb969.at_.symm
          have hle71 : s.at_ ≤ s69.at_ := by omega
          have hlt71 : s69.at_ < L.length := hR70.lt
          have hde71 : s49.deep ≤ s69.deep := Int.le_of_eq hb969.deep.symm
          have hdd71 : s69.deep ≤ 60 := hR70.d1
          refine LX.mv rfl <| LX.su [0, 2, 5, 6] rfl <| LX.nt <| CX.ret <| PX.thenR <| PX.blockR <| PX.thenR <| PX.ret1 (by simp) Try.results41 rfl ?_
          exact fun w hw => ⟨((-1), s69, m49), rfl, ⟨(by (unfold inI; omega)), hR70.no as_, hn69⟩, hw.ct⟩
        try simp at hb18
        refine CX.skip <| PX.thenN <| CX.sr ?_
        have hgo72 : s49.at_ + 1 < L.length := by exact hK.fin _ t52 ht52 (by (intro h8; simp_all [isS]; done))
        have hln72 := hK.len
        refine LX.ms 3 rfl <| LX.p (Y.fieldAddr0 Pa.fo42_1 rfl) rfl <| LX.p (Y.ldB 0 Pa.one3 rfl rfl rfl) rfl <| LX.p (Y.addN rfl rfl (by (simp only []; omega))) rfl <| LX.mv rfl <| LX.p (Y.fieldAddr0 Pa.fo42_1 rfl) rfl <| LX.storeB 0 Pb.sz3 rfl rfl rfl rfl rfl rfl rfl rfl <| LX.wq (PWl bp al L cl (RS.go s49 1) m49 (Tb bt2 t1 :: fr)) rfl ?_
        have hR73 : Rn L.length s (RS.go s49 1) ([r49]) 2 (-2) := hR50.go hgo72
        have hle74 : s.at_ < (s49.at_ + 1) := by have h9 : s.at_ ≤ s49.at_ := hR50.le; omega
        have hlt74 : (s49.at_ + 1) < L.length := hgo72
        refine LX.su [0, 2, 5, 6] rfl <| LX.nt <| CX.sr <| LX.mv rfl ?_
        have hk75 : Sk L.length (RS.go s49 1) := hs.next hR73 dc
        refine LX.call ((ex_all hL hK L.length).tuple_ (RS.go s49 1) m49 (Tb bt2 t1 :: fr) hk75 hn49 (by show L.length - (s49.at_ + 1) ≤ L.length; omega)) Pi.en38 rfl rfl rfl rfl rfl ?_
        rintro ⟨r75, s75, m75⟩
        refine LX.have fun ⟨hri75, hr75, hn75⟩ => ?_
        try dsimp only at hri75 hr75 hn75 ⊢
        have hR76 : Rn L.length s s75 ([r49] ++ [r75]) 3 (-2) := hR73.trans hr75
        have hch77 : (s49.at_ + 1) ≤ s75.at_ := hr75.le
        have hle77 : s.at_ < s75.at_ := by omega
        have hlt77 : s75.at_ < L.length := hR76.lt
        have hde77 : s49.deep ≤ s75.deep := hr75.d0
        have hdd77 : s75.deep ≤ 60 := hR76.d1
        have hav75 : s75.code = 0 → (s49.at_ + 1) + 1 ≤ s75.at_ := hr75.adv
        refine LX.mv rfl <| LX.su [0, 2, 5, 6, 8] rfl <| LX.nt <| CX.sr <| LX.ms 4 rfl <| LX.buildSlice (e := 3) (size := 1) rfl rfl (fun _ => by kernel_rfl) rfl dc rfl rfl rfl ?_
        intro gt78
        refine LX.wq (Ri (some gt78) 2 ([r49, r75]) :: PWl bp al L cl s75 m75 (Tb bt2 t1 :: fr)) rfl <| LX.call (put_c (fr := (Tb bt2 t1 :: fr)) (g := (some gt78)) (c := 2) (ks := [r49, r75]) (op := 37) (pos := t52.pos) (x := ([] : List UInt8)) s75 m75 hn75 (fun h0 => by have h1 : ((s75.ns).length : Int) + 2 * s.at_ ≤ s.ns.length + 2 * ((s75.at_ : Nat) : Int) + (-2) := hR76.few h0; have h2 := hs.few (hR76.bad h0); have h3 := hK.len; have h4 : s75.at_ < L.length := hR76.lt; show (s75.ns).length ≤ 1000000; omega) (by (simp only [List.length_cons, List.length_nil, List.length_append]; omega)) ((AllI.cons as_ (AllI.cons as_ AllI.nil))) (by (unfold inI; omega)) as_) Pd.en16 rfl rfl rfl rfl rfl ?_
        rintro ⟨r79, s79, m79⟩
        refine LX.have fun ⟨hri79, hp79, hn79⟩ => ?_
        try dsimp only at hri79 hp79 hn79 ⊢
        have hR80 : Rn L.length s s79 ([r79]) 3 (-1) := hR76.put (us := ([] : List Int)) (ks := [r49, r75]) hp79 pm
        have hch81 : s75.at_ ≤ s79.at_ := Nat.le_of_eq hp79.eqs.1.symm
        have hle81 : s.at_ < s79.at_ := by omega
        have hlt81 : s79.at_ < L.length := hR80.lt
        have hde81 : s75.deep ≤ s79.deep := Int.le_of_eq hp79.eqs.2.1.symm
        have hdd81 : s79.deep ≤ 60 := hR80.d1
        refine LX.mv rfl <| LX.su [0, 2, 5] rfl <| LX.nt <| CX.ret <| PX.blockR <| PX.thenR <| PX.ret1 (by simp) Try.results41 rfl ?_
        exact fun w hw => ⟨(r79, s79, m79), rfl, ⟨as_, hR80.wk dc dc, hn79⟩, hw.ct⟩
      refine LX.gF rfl rfl rfl hb17 rfl rfl <| LX.gF rfl rfl rfl hb17 rfl rfl <| LX.gF rfl rfl rfl hb17 rfl rfl <| LX.gF rfl rfl rfl hb17 rfl rfl <| LX.gF rfl rfl rfl hb17 rfl rfl <| LX.gF rfl rfl rfl hb17 rfl rfl <| LX.gF rfl rfl rfl hb17 rfl rfl <| LX.gF rfl rfl rfl hb17 rfl rfl <| LX.gF rfl rfl rfl hb17 rfl rfl <| LX.p (Y.pickF rfl hb17 rfl) rfl <| LX.su [0, 2, 5, 6, 163] rfl <| LX.nt ?_
      refine CX.cond rfl (fun hb19 => ?_) (fun hb19 => ?_)
      · try simp at hb19
        done
      try simp at hb19
      refine CX.skip <| PX.thenN <| CX.sr ?_
      have hgo82 : s49.at_ + 1 < L.length := by exact hK.fin _ t52 ht52 (by (intro h8; simp_all [isS]; done))
      have hln82 := hK.len
      refine LX.ms 3 rfl <| LX.p (Y.fieldAddr0 Pa.fo42_1 rfl) rfl <| LX.p (Y.ldB 0 Pa.one3 rfl rfl rfl) rfl <| LX.p (Y.addN rfl rfl (by (simp only []; omega))) rfl <| LX.mv rfl <| LX.p (Y.fieldAddr0 Pa.fo42_1 rfl) rfl <| LX.storeB 0 Pb.sz3 rfl rfl rfl rfl rfl rfl rfl rfl <| LX.wq (PWl bp al L cl (RS.go s49 1) m49 (Tb bt2 t1 :: fr)) rfl ?_
      have hR83 : Rn L.length s (RS.go s49 1) ([r49]) 2 (-2) := hR50.go hgo82
      have hle84 : s.at_ < (s49.at_ + 1) := by have h9 : s.at_ ≤ s49.at_ := hR50.le; omega
      have hlt84 : (s49.at_ + 1) < L.length := hgo82
      refine LX.su [0, 2, 5, 6] rfl <| LX.nt <| CX.sr <| LX.mv rfl ?_
      have hk85 : Sk L.length (RS.go s49 1) := hs.next hR83 dc
      refine LX.call ((ex_all hL hK L.length).tuple_ (RS.go s49 1) m49 (Tb bt2 t1 :: fr) hk85 hn49 (by show L.length - (s49.at_ + 1) ≤ L.length; omega)) Pi.en38 rfl rfl rfl rfl rfl ?_
      rintro ⟨r85, s85, m85⟩
      refine LX.have fun ⟨hri85, hr85, hn85⟩ => ?_
      try dsimp only at hri85 hr85 hn85 ⊢
      have hR86 : Rn L.length s s85 ([r49] ++ [r85]) 3 (-2) := hR83.trans hr85
      have hch87 : (s49.at_ + 1) ≤ s85.at_ := hr85.le
      have hle87 : s.at_ < s85.at_ := by omega
      have hlt87 : s85.at_ < L.length := hR86.lt
      have hde87 : s49.deep ≤ s85.deep := hr85.d0
      have hdd87 : s85.deep ≤ 60 := hR86.d1
      have hav85 : s85.code = 0 → (s49.at_ + 1) + 1 ≤ s85.at_ := hr85.adv
      refine LX.mv rfl <| LX.su [0, 2, 5, 6, 8] rfl <| LX.nt <| CX.sr <| LX.ms 4 rfl <| LX.buildSlice (e := 3) (size := 1) rfl rfl (fun _ => by kernel_rfl) rfl dc rfl rfl rfl ?_
      intro gt88
      refine LX.wq (Ri (some gt88) 2 ([r49, r85]) :: PWl bp al L cl s85 m85 (Tb bt2 t1 :: fr)) rfl <| LX.call (put_c (fr := (Tb bt2 t1 :: fr)) (g := (some gt88)) (c := 2) (ks := [r49, r85]) (op := 37) (pos := t52.pos) (x := ([] : List UInt8)) s85 m85 hn85 (fun h0 => by have h1 : ((s85.ns).length : Int) + 2 * s.at_ ≤ s.ns.length + 2 * ((s85.at_ : Nat) : Int) + (-2) := hR86.few h0; have h2 := hs.few (hR86.bad h0); have h3 := hK.len; have h4 : s85.at_ < L.length := hR86.lt; show (s85.ns).length ≤ 1000000; omega) (by (simp only [List.length_cons, List.length_nil, List.length_append]; omega)) ((AllI.cons as_ (AllI.cons as_ AllI.nil))) (by (unfold inI; omega)) as_) Pd.en16 rfl rfl rfl rfl rfl ?_
      rintro ⟨r89, s89, m89⟩
      refine LX.have fun ⟨hri89, hp89, hn89⟩ => ?_
      try dsimp only at hri89 hp89 hn89 ⊢
      have hR90 : Rn L.length s s89 ([r89]) 3 (-1) := hR86.put (us := ([] : List Int)) (ks := [r49, r85]) hp89 pm
      have hch91 : s85.at_ ≤ s89.at_ := Nat.le_of_eq hp89.eqs.1.symm
      have hle91 : s.at_ < s89.at_ := by omega
      have hlt91 : s89.at_ < L.length := hR90.lt
      have hde91 : s85.deep ≤ s89.deep := Int.le_of_eq hp89.eqs.2.1.symm
      have hdd91 : s89.deep ≤ 60 := hR90.d1
      refine LX.mv rfl <| LX.su [0, 2, 5] rfl <| LX.nt <| CX.ret <| PX.blockR <| PX.thenR <| PX.ret1 (by simp) Try.results41 rfl ?_
      exact fun w hw => ⟨(r89, s89, m89), rfl, ⟨as_, hR90.wk dc dc, hn89⟩, hw.ct⟩
    try simp at hb16
    refine CX.skip <| PX.blockN <| PX.thenN <| CX.sr <| LX.ms 3 rfl <| LX.p (Y.fieldAddr0 Pc.fo42_2 rfl) rfl <| LX.p (Y.ldB 0 Pc.one23 rfl rfl rfl) rfl <| LX.mv rfl ?_
    obtain ⟨i92, hi92, hil92, hkd92⟩ : ∃ i : Nat, r49 = (i : Int) ∧ i < (s49.ns).length ∧ ∀ (k : Nat) x, (s49.ns)[k]? = some x → ∀ q ∈ x.kids, 0 ≤ q ∧ q < (k : Int)   := root_at (q := s49) hs hR50 as_ (by (simp; done))
    obtain ⟨y92, hy92⟩ : ∃ y, (s49.ns)[i92]? = some y := ⟨_, List.getElem?_eq_getElem hil92⟩
    have hyc92 := hn49.cell hy92
    have hyp92 : inI y92.pos := hyc92.2.2.2.2
    refine LX.p (Y.idxRZ 1 (i := i92) Pc.un23 Pc.sz31 rfl rfl hi92 rfl hil92) rfl <| LX.p (Y.fieldAddr Pi.fo31_2 rfl) rfl <| LX.p (Y.ldR 1 (v := .int .i64 y92.pos) Pa.one3 rfl rfl hyc92.2.2.1) rfl <| LX.mv rfl <| LX.buildSlice (e := 3) (size := 1) rfl rfl (fun _ => by kernel_rfl) rfl dc rfl rfl rfl ?_
    intro gt93
    refine LX.wq (Ri (some gt93) 1 ([r49]) :: PWl bp al L cl s49 m49 (Tb bt2 t1 :: fr)) rfl <| LX.call (put_c (fr := (Tb bt2 t1 :: fr)) (g := (some gt93)) (c := 1) (ks := [r49]) (op := 35) (pos := y92.pos) (x := ([] : List UInt8)) s49 m49 hn49 (fun h0 => by have h1 : ((s49.ns).length : Int) + 2 * s.at_ ≤ s.ns.length + 2 * ((s49.at_ : Nat) : Int) + (0) := hR50.few h0; have h2 := hs.few (hR50.bad h0); have h3 := hK.len; have h4 : s49.at_ < L.length := hR50.lt; show (s49.ns).length ≤ 1000000; omega) (by (simp only [List.length_cons, List.length_nil, List.length_append]; omega)) ((AllI.cons as_ AllI.nil)) (by (unfold inI; omega)) as_) Pd.en16 rfl rfl rfl rfl rfl ?_
    rintro ⟨r94, s94, m94⟩
    refine LX.have fun ⟨hri94, hp94, hn94⟩ => ?_
    try dsimp only at hri94 hp94 hn94 ⊢
    have hR95 : Rn L.length s s94 ([r94]) 1 (1) := hR50.put (us := ([] : List Int)) (ks := [r49]) hp94 pm
    have hch96 : s49.at_ ≤ s94.at_ := Nat.le_of_eq hp94.eqs.1.symm
    have hle96 : s.at_ ≤ s94.at_ := by omega
    have hlt96 : s94.at_ < L.length := hR95.lt
    have hde96 : s49.deep ≤ s94.deep := Int.le_of_eq hp94.eqs.2.1.symm
    have hdd96 : s94.deep ≤ 60 := hR95.d1
    refine LX.mv rfl <| LX.su [2] rfl <| LX.nt <| CX.ret <| PX.ret1 (by simp) Try.results41 rfl ?_
    exact fun w hw => ⟨(r94, s94, m94), rfl, ⟨as_, hR95.wk dc dc, hn94⟩, hw.ct⟩
  try simp at hb1
  refine CX.skip <| PX.thenN <| CX.seq <| CX.sr <| LX.mv rfl <| LX.call (begins_w (s := s) (m := m) ht1 (fun w hw => blkL hw (i := 0) rfl) (fun w hw => hL.push hw)) Pe.en36 rfl rfl rfl rfl rfl ?_
  intro b97
  refine LX.have fun hy97 => ?_
  replace hy97 : b97 = true → t1.kind ≠ 8 := hy97
  refine LX.p (Y.not rfl) rfl <| LX.su [0, 2, 106] rfl <| LX.nt ?_
  refine CX.cond rfl (fun hb20 => ?_) (fun hb20 => ?_)
  · try simp at hb20
    refine CX.sr <| LX.mv rfl <| LX.call (wrong_c (fr := (Tb bt2 t1 :: fr)) s m hL ht1) Pb.en37 rfl rfl rfl rfl rfl ?_
    intro s98
    refine LX.have fun hf98 => ?_
    have hb998 : Bad s s98 := FailR.bad hf98 dc
    have hbc98 := hb998.code
    have hn98 : NdsR 3 m.rs m.cells s98.ns := by rw [hb998.ns]; exact hn
    have hR99 : Rn L.length s s98 ([] : List Int) 0 (0) := hR.bad2 hb998
    have hch100 : s.at_ ≤ s98.at_ := Nat.le_of_eq hb998.at_.symm
    have hle100 : s.at_ ≤ s98.at_ := by omega
    have hlt100 : s98.at_ < L.length := hR99.lt
    have hde100 : s.deep ≤ s98.deep := Int.le_of_eq hb998.deep.symm
    have hdd100 : s98.deep ≤ 60 := hR99.d1
    refine LX.mv rfl <| LX.su [0, 2] rfl <| LX.nt <| CX.ret <| PX.thenR <| PX.ret1 (by simp) Try.results41 rfl ?_
    exact fun w hw => ⟨((-1), s98, m), rfl, ⟨(by (unfold inI; omega)), hR99.no as_, hn98⟩, hw.ct⟩
  try simp at hb20
  refine CX.skip <| PX.thenN <| CX.sr <| LX.mv rfl ?_
  have hk101 : Sk L.length s := hs.next hR dc
  refine LX.call ((ex_all hL hK L.length).tuple_ s m (Tb bt2 t1 :: fr) hk101 hn (by show L.length - s.at_ ≤ L.length; omega)) Pi.en38 rfl rfl rfl rfl rfl ?_
  rintro ⟨r101, s101, m101⟩
  refine LX.have fun ⟨hri101, hr101, hn101⟩ => ?_
  try dsimp only at hri101 hr101 hn101 ⊢
  have hR102 : Rn L.length s s101 ([r101]) 1 (0) := hR.trans hr101
  have hch103 : s.at_ ≤ s101.at_ := hr101.le
  have hle103 : s.at_ ≤ s101.at_ := by omega
  have hlt103 : s101.at_ < L.length := hR102.lt
  have hde103 : s.deep ≤ s101.deep := hr101.d0
  have hdd103 : s101.deep ≤ 60 := hR102.d1
  have hav101 : s101.code = 0 → s.at_ + 1 ≤ s101.at_ := hr101.adv
  refine LX.mv rfl <| LX.su [0, 2, 5] rfl <| LX.nt <| CX.seq <| CX.sr <| LX.mv rfl <| LX.callQ (show FnQ Try.prog 12 #[.pointer (some ⟨bp, 0, none⟩)] _ (.bool (decide (s101.code ≠ 0))) from bad_q (s := s101) (m := m101) (fun w hw => blkL hw (i := 0) rfl)) Pb.en12 rfl rfl rfl rfl rfl <| LX.su [0, 2, 5, 112] rfl <| LX.nt ?_
  refine CX.cond rfl (fun hb21 => ?_) (fun hb21 => ?_)
  · try simp at hb21
    refine CX.sr <| LX.mv rfl <| LX.su [0, 2, 5] rfl <| LX.nt <| CX.ret <| PX.thenR <| PX.ret1 (by simp) Try.results41 rfl ?_
    exact fun w hw => ⟨((-1), s101, m101), rfl, ⟨(by (unfold inI; omega)), hR102.no as_, hn101⟩, hw.ct⟩
  try simp at hb21
  refine CX.skip <| PX.thenN <| CX.sr ?_
  obtain ⟨t104, ht104⟩ : ∃ t, L[s101.at_]? = some t := ⟨_, List.getElem?_eq_getElem (show s101.at_ < L.length from hR102.lt)⟩
  have htk104 := (tok_in hL ht104).1
  have htp104 := (tok_in hL ht104).2
  refine LX.mv rfl <| LX.callQ (now_q (s := s101) (m := m101) ht104 (fun w hw => blkL hw (i := 0) rfl) (fun w hw => hL.push hw)) Pa.en13 rfl rfl rfl rfl rfl <| LX.p (Y.field (v := .int .i64 t104.pos) rfl (fun _ => by kernel_rfl)) rfl <| LX.mv rfl <| LX.su [0, 2, 5, 6] rfl <| LX.nt <| CX.seq <| CX.block <| CX.sr <| LX.mv rfl <| LX.callQ (is_q (s := s101) (m := m101) ht104 ([61] : List UInt8) (fun w hw => blkL hw (i := 0) rfl) (fun w hw => hL.push hw)) Pb.en32 rfl rfl rfl rfl rfl <| LX.mv rfl <| LX.su [0, 2, 5, 6, 116] rfl <| LX.nt ?_
  refine CX.cond rfl (fun hb22 => ?_) (fun hb22 => ?_)
  · try simp at hb22
    refine CX.seq <| CX.sr <| LX.ms 2 rfl ?_
    obtain ⟨i105, hi105, hil105, hkd105⟩ : ∃ i : Nat, r101 = (i : Int) ∧ i < (s101.ns).length ∧ ∀ (k : Nat) x, (s101.ns)[k]? = some x → ∀ q ∈ x.kids, 0 ≤ q ∧ q < (k : Int)   := root_at (q := s101) hs hR102 as_ (by simp)
    refine LX.call (show FnC Try.prog 54 #[.pointer (some ⟨bp, 0, none⟩), .int .i64 r101] _ _ _ from by rw [hi105]; exact fits_w (s := s101) (m := m101) hkd105 i105 hil105 (fun w hw => blkL hw (i := 0) rfl) (fun w hw => NdsF.lies (NdsR.toF hn101 w0 base) hw (fun it h => by simp [h]) (j := 1) rfl)) Pc.en54 rfl rfl rfl rfl rfl ?_
    intro b105
    refine LX.p (Y.not rfl) rfl <| LX.su [0, 2, 5, 6, 122] rfl <| LX.nt ?_
    refine CX.cond rfl (fun hb23 => ?_) (fun hb23 => ?_)
    · try simp at hb23
      refine CX.sr <| LX.mv rfl <| LX.call (wrong_c (fr := (Tb bt2 t1 :: fr)) s101 m101 hL ht104) Pb.en37 rfl rfl rfl rfl rfl ?_
      intro s106
      refine LX.have fun hf106 => ?_
      have hb1006 : Bad s101 s106 := FailR.bad hf106 dc
      have hbc106 := hb1006.code
      have hn106 : NdsR 3 m101.rs m101.cells s106.ns := by rw [hb1006.ns]; exact hn101
      have hR107 : Rn L.length s s106 ([r101]) 1 (0) := hR102.bad2 hb1006
      have hch108 : s101.at_ ≤ s106.at_ := Nat.le_of_eq hb1006.at_.symm
      have hle108 : s.at_ ≤ s106.at_ := by omega
      have hlt108 : s106.at_ < L.length := hR107.lt
      have hde108 : s101.deep ≤ s106.deep := Int.le_of_eq hb1006.deep.symm
      have hdd108 : s106.deep ≤ 60 := hR107.d1
      refine LX.mv rfl <| LX.su [0, 2, 5, 6] rfl <| LX.nt <| CX.ret <| PX.thenR <| PX.blockR <| PX.thenR <| PX.ret1 (by simp) Try.results41 rfl ?_
      exact fun w hw => ⟨((-1), s106, m101), rfl, ⟨(by (unfold inI; omega)), hR107.no as_, hn106⟩, hw.ct⟩
    try simp at hb23
    refine CX.skip <| PX.thenN <| CX.sr ?_
    have hgo109 : s101.at_ + 1 < L.length := by exact hK.fin _ t104 ht104 (by (intro h8; simp_all [isS]; done))
    have hln109 := hK.len
    refine LX.ms 3 rfl <| LX.p (Y.fieldAddr0 Pa.fo42_1 rfl) rfl <| LX.p (Y.ldB 0 Pa.one3 rfl rfl rfl) rfl <| LX.p (Y.addN rfl rfl (by (simp only []; omega))) rfl <| LX.mv rfl <| LX.p (Y.fieldAddr0 Pa.fo42_1 rfl) rfl <| LX.storeB 0 Pb.sz3 rfl rfl rfl rfl rfl rfl rfl rfl <| LX.wq (PWl bp al L cl (RS.go s101 1) m101 (Tb bt2 t1 :: fr)) rfl ?_
    have hR110 : Rn L.length s (RS.go s101 1) ([r101]) 2 (-2) := hR102.go hgo109
    have hle111 : s.at_ < (s101.at_ + 1) := by have h9 : s.at_ ≤ s101.at_ := hR102.le; omega
    have hlt111 : (s101.at_ + 1) < L.length := hgo109
    refine LX.su [0, 2, 5, 6] rfl <| LX.nt <| CX.sr <| LX.mv rfl ?_
    have hk112 : Sk L.length (RS.go s101 1) := hs.next hR110 dc
    refine LX.call ((ex_all hL hK L.length).tuple_ (RS.go s101 1) m101 (Tb bt2 t1 :: fr) hk112 hn101 (by show L.length - (s101.at_ + 1) ≤ L.length; omega)) Pi.en38 rfl rfl rfl rfl rfl ?_
    rintro ⟨r112, s112, m112⟩
    refine LX.have fun ⟨hri112, hr112, hn112⟩ => ?_
    try dsimp only at hri112 hr112 hn112 ⊢
    have hR113 : Rn L.length s s112 ([r101] ++ [r112]) 3 (-2) := hR110.trans hr112
    have hch114 : (s101.at_ + 1) ≤ s112.at_ := hr112.le
    have hle114 : s.at_ < s112.at_ := by omega
    have hlt114 : s112.at_ < L.length := hR113.lt
    have hde114 : s101.deep ≤ s112.deep := hr112.d0
    have hdd114 : s112.deep ≤ 60 := hR113.d1
    have hav112 : s112.code = 0 → (s101.at_ + 1) + 1 ≤ s112.at_ := hr112.adv
    refine LX.mv rfl <| LX.su [0, 2, 5, 6, 7] rfl <| LX.nt <| CX.sr <| LX.ms 4 rfl <| LX.buildSlice (e := 3) (size := 1) rfl rfl (fun _ => by kernel_rfl) rfl dc rfl rfl rfl ?_
    intro gt115
    refine LX.wq (Ri (some gt115) 2 ([r101, r112]) :: PWl bp al L cl s112 m112 (Tb bt2 t1 :: fr)) rfl <| LX.call (put_c (fr := (Tb bt2 t1 :: fr)) (g := (some gt115)) (c := 2) (ks := [r101, r112]) (op := 36) (pos := t104.pos) (x := ([] : List UInt8)) s112 m112 hn112 (fun h0 => by have h1 : ((s112.ns).length : Int) + 2 * s.at_ ≤ s.ns.length + 2 * ((s112.at_ : Nat) : Int) + (-2) := hR113.few h0; have h2 := hs.few (hR113.bad h0); have h3 := hK.len; have h4 : s112.at_ < L.length := hR113.lt; show (s112.ns).length ≤ 1000000; omega) (by (simp only [List.length_cons, List.length_nil, List.length_append]; omega)) ((AllI.cons as_ (AllI.cons as_ AllI.nil))) (by (unfold inI; omega)) as_) Pd.en16 rfl rfl rfl rfl rfl ?_
    rintro ⟨r116, s116, m116⟩
    refine LX.have fun ⟨hri116, hp116, hn116⟩ => ?_
    try dsimp only at hri116 hp116 hn116 ⊢
    have hR117 : Rn L.length s s116 ([r116]) 3 (-1) := hR113.put (us := ([] : List Int)) (ks := [r101, r112]) hp116 pm
    have hch118 : s112.at_ ≤ s116.at_ := Nat.le_of_eq hp116.eqs.1.symm
    have hle118 : s.at_ < s116.at_ := by omega
    have hlt118 : s116.at_ < L.length := hR117.lt
    have hde118 : s112.deep ≤ s116.deep := Int.le_of_eq hp116.eqs.2.1.symm
    have hdd118 : s116.deep ≤ 60 := hR117.d1
    refine LX.mv rfl <| LX.su [0, 2, 5] rfl <| LX.nt <| CX.ret <| PX.blockR <| PX.thenR <| PX.ret1 (by simp) Try.results41 rfl ?_
    exact fun w hw => ⟨(r116, s116, m116), rfl, ⟨as_, hR117.wk dc dc, hn116⟩, hw.ct⟩
  try simp at hb22
  refine CX.sr <| LX.mv rfl <| LX.callQ (is_q (s := s101) (m := m101) ht104 ([43, 61] : List UInt8) (fun w hw => blkL hw (i := 0) rfl) (fun w hw => hL.push hw)) Pb.en32 rfl rfl rfl rfl rfl <| LX.mv rfl <| LX.su [0, 2, 5, 6, 141] rfl <| LX.nt ?_
  refine CX.cond rfl (fun hb24 => ?_) (fun hb24 => ?_)
  · try simp at hb24
    refine CX.seq <| CX.sr <| LX.ms 2 rfl <| LX.p (Y.fieldAddr0 Pc.fo42_2 rfl) rfl <| LX.p (Y.ldB 0 Pc.one23 rfl rfl rfl) rfl <| LX.mv rfl ?_
    obtain ⟨i119, hi119, hil119, hkd119⟩ : ∃ i : Nat, r101 = (i : Int) ∧ i < (s101.ns).length ∧ ∀ (k : Nat) x, (s101.ns)[k]? = some x → ∀ q ∈ x.kids, 0 ≤ q ∧ q < (k : Int)   := root_at (q := s101) hs hR102 as_ (by (simp; done))
    obtain ⟨y119, hy119⟩ : ∃ y, (s101.ns)[i119]? = some y := ⟨_, List.getElem?_eq_getElem hil119⟩
    have hyc119 := hn101.cell hy119
    have hyp119 : inI y119.pos := hyc119.2.2.2.2
    refine LX.p (Y.idxRZ 1 (i := i119) Pc.un23 Pc.sz31 rfl rfl hi119 rfl hil119) rfl <| LX.p (Y.fieldAddr Pc.fo31_0 rfl) rfl <| LX.p (Y.ldR 1 (v := .int .i64 y119.op) Pa.one3 rfl rfl hyc119.2.1) rfl <| LX.p (Y.neI rfl rfl) rfl <| LX.mv rfl ?_
    refine LX.caseB (s := 153) rfl (fun hb25 => ?_) (fun hb25 => ?_)
    ·
      have hb25p := hb25
      try simp at hb25p
      refine LX.gT rfl rfl rfl hb25 (Y.move rfl) rfl rfl <| LX.gT rfl rfl rfl hb25 (Y.nilCheck rfl) rfl rfl <| LX.gT rfl rfl rfl hb25 (Y.fieldAddr0 Pc.fo42_2 rfl) rfl rfl <| LX.gT rfl rfl rfl hb25 (Y.ldB 0 Pc.one23 rfl rfl rfl) rfl rfl <| LX.gT rfl rfl rfl hb25 (Y.move rfl) rfl rfl ?_
      obtain ⟨i120, hi120, hil120, hkd120⟩ : ∃ i : Nat, r101 = (i : Int) ∧ i < (s101.ns).length ∧ ∀ (k : Nat) x, (s101.ns)[k]? = some x → ∀ q ∈ x.kids, 0 ≤ q ∧ q < (k : Int)   := root_at (q := s101) hs hR102 as_ (by (simp; done))
      obtain ⟨y120, hy120⟩ : ∃ y, (s101.ns)[i120]? = some y := ⟨_, List.getElem?_eq_getElem hil120⟩
      have hyc120 := hn101.cell hy120
      have hyp120 : inI y120.pos := hyc120.2.2.2.2
      refine LX.gT rfl rfl rfl hb25 (Y.idxRZ 1 (i := i120) Pc.un23 Pc.sz31 rfl rfl hi120 rfl hil120) rfl rfl <| LX.gT rfl rfl rfl hb25 (Y.fieldAddr Pc.fo31_0 rfl) rfl rfl <| LX.gT rfl rfl rfl hb25 (Y.ldR 1 (v := .int .i64 y120.op) Pa.one3 rfl rfl hyc120.2.1) rfl rfl <| LX.gT rfl rfl rfl hb25 (Y.neI rfl rfl) rfl rfl <| LX.p (Y.pickT rfl hb25 rfl) rfl <| LX.su [0, 2, 5, 6, 163] rfl <| LX.nt ?_
      refine CX.cond rfl (fun hb26 => ?_) (fun hb26 => ?_)
      · try simp at hb26
        refine CX.sr <| LX.mv rfl <| LX.call (wrong_c (fr := (Tb bt2 t1 :: fr)) s101 m101 hL ht104) Pb.en37 rfl rfl rfl rfl rfl ?_
        intro s121
        refine LX.have fun hf121 => ?_
        have hb1021 : Bad s101 s121 := FailR.bad hf121 dc
        have hbc121 := hb1021.code
        have hn121 : NdsR 3 m101.rs m101.cells s121.ns := by rw [hb1021.ns]; exact hn101
        have hR122 : Rn L.length s s121 ([r101]) 1 (0) := hR102.bad2 hb1021
        have hch123 : s101.at_ ≤ s121.at_ := Nat.le_of_eq hb1021.at_.symm
        have hle123 : s.at_ ≤ s121.at_ := by omega
        have hlt123 : s121.at_ < L.length := hR122.lt
        have hde123 : s101.deep ≤ s121.deep := Int.le_of_eq hb1021.deep.symm
        have hdd123 : s121.deep ≤ 60 := hR122.d1
        refine LX.mv rfl <| LX.su [0, 2, 5, 6] rfl <| LX.nt <| CX.ret <| PX.thenR <| PX.blockR <| PX.thenR <| PX.ret1 (by simp) Try.results41 rfl ?_
        exact fun w hw => ⟨((-1), s121, m101), rfl, ⟨(by (unfold inI; omega)), hR122.no as_, hn121⟩, hw.ct⟩
      try simp at hb26
      refine CX.skip <| PX.thenN <| CX.sr ?_
      have hgo124 : s101.at_ + 1 < L.length := by exact hK.fin _ t104 ht104 (by (intro h8; simp_all [isS]; done))
      have hln124 := hK.len
      refine LX.ms 3 rfl <| LX.p (Y.fieldAddr0 Pa.fo42_1 rfl) rfl <| LX.p (Y.ldB 0 Pa.one3 rfl rfl rfl) rfl <| LX.p (Y.addN rfl rfl (by (simp only []; omega))) rfl <| LX.mv rfl <| LX.p (Y.fieldAddr0 Pa.fo42_1 rfl) rfl <| LX.storeB 0 Pb.sz3 rfl rfl rfl rfl rfl rfl rfl rfl <| LX.wq (PWl bp al L cl (RS.go s101 1) m101 (Tb bt2 t1 :: fr)) rfl ?_
      have hR125 : Rn L.length s (RS.go s101 1) ([r101]) 2 (-2) := hR102.go hgo124
      have hle126 : s.at_ < (s101.at_ + 1) := by have h9 : s.at_ ≤ s101.at_ := hR102.le; omega
      have hlt126 : (s101.at_ + 1) < L.length := hgo124
      refine LX.su [0, 2, 5, 6] rfl <| LX.nt <| CX.sr <| LX.mv rfl ?_
      have hk127 : Sk L.length (RS.go s101 1) := hs.next hR125 dc
      refine LX.call ((ex_all hL hK L.length).tuple_ (RS.go s101 1) m101 (Tb bt2 t1 :: fr) hk127 hn101 (by show L.length - (s101.at_ + 1) ≤ L.length; omega)) Pi.en38 rfl rfl rfl rfl rfl ?_
      rintro ⟨r127, s127, m127⟩
      refine LX.have fun ⟨hri127, hr127, hn127⟩ => ?_
      try dsimp only at hri127 hr127 hn127 ⊢
      have hR128 : Rn L.length s s127 ([r101] ++ [r127]) 3 (-2) := hR125.trans hr127
      have hch129 : (s101.at_ + 1) ≤ s127.at_ := hr127.le
      have hle129 : s.at_ < s127.at_ := by omega
      have hlt129 : s127.at_ < L.length := hR128.lt
      have hde129 : s101.deep ≤ s127.deep := hr127.d0
      have hdd129 : s127.deep ≤ 60 := hR128.d1
      have hav127 : s127.code = 0 → (s101.at_ + 1) + 1 ≤ s127.at_ := hr127.adv
      refine LX.mv rfl <| LX.su [0, 2, 5, 6, 8] rfl <| LX.nt <| CX.sr <| LX.ms 4 rfl <| LX.buildSlice (e := 3) (size := 1) rfl rfl (fun _ => by kernel_rfl) rfl dc rfl rfl rfl ?_
      intro gt130
      refine LX.wq (Ri (some gt130) 2 ([r101, r127]) :: PWl bp al L cl s127 m127 (Tb bt2 t1 :: fr)) rfl <| LX.call (put_c (fr := (Tb bt2 t1 :: fr)) (g := (some gt130)) (c := 2) (ks := [r101, r127]) (op := 37) (pos := t104.pos) (x := ([] : List UInt8)) s127 m127 hn127 (fun h0 => by have h1 : ((s127.ns).length : Int) + 2 * s.at_ ≤ s.ns.length + 2 * ((s127.at_ : Nat) : Int) + (-2) := hR128.few h0; have h2 := hs.few (hR128.bad h0); have h3 := hK.len; have h4 : s127.at_ < L.length := hR128.lt; show (s127.ns).length ≤ 1000000; omega) (by (simp only [List.length_cons, List.length_nil, List.length_append]; omega)) ((AllI.cons as_ (AllI.cons as_ AllI.nil))) (by (unfold inI; omega)) as_) Pd.en16 rfl rfl rfl rfl rfl ?_
      rintro ⟨r131, s131, m131⟩
      refine LX.have fun ⟨hri131, hp131, hn131⟩ => ?_
      try dsimp only at hri131 hp131 hn131 ⊢
      have hR132 : Rn L.length s s131 ([r131]) 3 (-1) := hR128.put (us := ([] : List Int)) (ks := [r101, r127]) hp131 pm
      have hch133 : s127.at_ ≤ s131.at_ := Nat.le_of_eq hp131.eqs.1.symm
      have hle133 : s.at_ < s131.at_ := by omega
      have hlt133 : s131.at_ < L.length := hR132.lt
      have hde133 : s127.deep ≤ s131.deep := Int.le_of_eq hp131.eqs.2.1.symm
      have hdd133 : s131.deep ≤ 60 := hR132.d1
      refine LX.mv rfl <| LX.su [0, 2, 5] rfl <| LX.nt <| CX.ret <| PX.blockR <| PX.thenR <| PX.ret1 (by simp) Try.results41 rfl ?_
      exact fun w hw => ⟨(r131, s131, m131), rfl, ⟨as_, hR132.wk dc dc, hn131⟩, hw.ct⟩
    refine LX.gF rfl rfl rfl hb25 rfl rfl <| LX.gF rfl rfl rfl hb25 rfl rfl <| LX.gF rfl rfl rfl hb25 rfl rfl <| LX.gF rfl rfl rfl hb25 rfl rfl <| LX.gF rfl rfl rfl hb25 rfl rfl <| LX.gF rfl rfl rfl hb25 rfl rfl <| LX.gF rfl rfl rfl hb25 rfl rfl <| LX.gF rfl rfl rfl hb25 rfl rfl <| LX.gF rfl rfl rfl hb25 rfl rfl <| LX.p (Y.pickF rfl hb25 rfl) rfl <| LX.su [0, 2, 5, 6, 163] rfl <| LX.nt ?_
    refine CX.cond rfl (fun hb27 => ?_) (fun hb27 => ?_)
    · try simp at hb27
      done
    try simp at hb27
    refine CX.skip <| PX.thenN <| CX.sr ?_
    have hgo134 : s101.at_ + 1 < L.length := by exact hK.fin _ t104 ht104 (by (intro h8; simp_all [isS]; done))
    have hln134 := hK.len
    refine LX.ms 3 rfl <| LX.p (Y.fieldAddr0 Pa.fo42_1 rfl) rfl <| LX.p (Y.ldB 0 Pa.one3 rfl rfl rfl) rfl <| LX.p (Y.addN rfl rfl (by (simp only []; omega))) rfl <| LX.mv rfl <| LX.p (Y.fieldAddr0 Pa.fo42_1 rfl) rfl <| LX.storeB 0 Pb.sz3 rfl rfl rfl rfl rfl rfl rfl rfl <| LX.wq (PWl bp al L cl (RS.go s101 1) m101 (Tb bt2 t1 :: fr)) rfl ?_
    have hR135 : Rn L.length s (RS.go s101 1) ([r101]) 2 (-2) := hR102.go hgo134
    have hle136 : s.at_ < (s101.at_ + 1) := by have h9 : s.at_ ≤ s101.at_ := hR102.le; omega
    have hlt136 : (s101.at_ + 1) < L.length := hgo134
    refine LX.su [0, 2, 5, 6] rfl <| LX.nt <| CX.sr <| LX.mv rfl ?_
    have hk137 : Sk L.length (RS.go s101 1) := hs.next hR135 dc
    refine LX.call ((ex_all hL hK L.length).tuple_ (RS.go s101 1) m101 (Tb bt2 t1 :: fr) hk137 hn101 (by show L.length - (s101.at_ + 1) ≤ L.length; omega)) Pi.en38 rfl rfl rfl rfl rfl ?_
    rintro ⟨r137, s137, m137⟩
    refine LX.have fun ⟨hri137, hr137, hn137⟩ => ?_
    try dsimp only at hri137 hr137 hn137 ⊢
    have hR138 : Rn L.length s s137 ([r101] ++ [r137]) 3 (-2) := hR135.trans hr137
    have hch139 : (s101.at_ + 1) ≤ s137.at_ := hr137.le
    have hle139 : s.at_ < s137.at_ := by omega
    have hlt139 : s137.at_ < L.length := hR138.lt
    have hde139 : s101.deep ≤ s137.deep := hr137.d0
    have hdd139 : s137.deep ≤ 60 := hR138.d1
    have hav137 : s137.code = 0 → (s101.at_ + 1) + 1 ≤ s137.at_ := hr137.adv
    refine LX.mv rfl <| LX.su [0, 2, 5, 6, 8] rfl <| LX.nt <| CX.sr <| LX.ms 4 rfl <| LX.buildSlice (e := 3) (size := 1) rfl rfl (fun _ => by kernel_rfl) rfl dc rfl rfl rfl ?_
    intro gt140
    refine LX.wq (Ri (some gt140) 2 ([r101, r137]) :: PWl bp al L cl s137 m137 (Tb bt2 t1 :: fr)) rfl <| LX.call (put_c (fr := (Tb bt2 t1 :: fr)) (g := (some gt140)) (c := 2) (ks := [r101, r137]) (op := 37) (pos := t104.pos) (x := ([] : List UInt8)) s137 m137 hn137 (fun h0 => by have h1 : ((s137.ns).length : Int) + 2 * s.at_ ≤ s.ns.length + 2 * ((s137.at_ : Nat) : Int) + (-2) := hR138.few h0; have h2 := hs.few (hR138.bad h0); have h3 := hK.len; have h4 : s137.at_ < L.length := hR138.lt; show (s137.ns).length ≤ 1000000; omega) (by (simp only [List.length_cons, List.length_nil, List.length_append]; omega)) ((AllI.cons as_ (AllI.cons as_ AllI.nil))) (by (unfold inI; omega)) as_) Pd.en16 rfl rfl rfl rfl rfl ?_
    rintro ⟨r141, s141, m141⟩
    refine LX.have fun ⟨hri141, hp141, hn141⟩ => ?_
    try dsimp only at hri141 hp141 hn141 ⊢
    have hR142 : Rn L.length s s141 ([r141]) 3 (-1) := hR138.put (us := ([] : List Int)) (ks := [r101, r137]) hp141 pm
    have hch143 : s137.at_ ≤ s141.at_ := Nat.le_of_eq hp141.eqs.1.symm
    have hle143 : s.at_ < s141.at_ := by omega
    have hlt143 : s141.at_ < L.length := hR142.lt
    have hde143 : s137.deep ≤ s141.deep := Int.le_of_eq hp141.eqs.2.1.symm
    have hdd143 : s141.deep ≤ 60 := hR142.d1
    refine LX.mv rfl <| LX.su [0, 2, 5] rfl <| LX.nt <| CX.ret <| PX.blockR <| PX.thenR <| PX.ret1 (by simp) Try.results41 rfl ?_
    exact fun w hw => ⟨(r141, s141, m141), rfl, ⟨as_, hR142.wk dc dc, hn141⟩, hw.ct⟩
  try simp at hb24
  refine CX.skip <| PX.blockN <| PX.thenN <| CX.sr <| LX.ms 3 rfl <| LX.p (Y.fieldAddr0 Pc.fo42_2 rfl) rfl <| LX.p (Y.ldB 0 Pc.one23 rfl rfl rfl) rfl <| LX.mv rfl ?_
  obtain ⟨i144, hi144, hil144, hkd144⟩ : ∃ i : Nat, r101 = (i : Int) ∧ i < (s101.ns).length ∧ ∀ (k : Nat) x, (s101.ns)[k]? = some x → ∀ q ∈ x.kids, 0 ≤ q ∧ q < (k : Int)   := root_at (q := s101) hs hR102 as_ (by (simp; done))
  obtain ⟨y144, hy144⟩ : ∃ y, (s101.ns)[i144]? = some y := ⟨_, List.getElem?_eq_getElem hil144⟩
  have hyc144 := hn101.cell hy144
  have hyp144 : inI y144.pos := hyc144.2.2.2.2
  refine LX.p (Y.idxRZ 1 (i := i144) Pc.un23 Pc.sz31 rfl rfl hi144 rfl hil144) rfl <| LX.p (Y.fieldAddr Pi.fo31_2 rfl) rfl <| LX.p (Y.ldR 1 (v := .int .i64 y144.pos) Pa.one3 rfl rfl hyc144.2.2.1) rfl <| LX.mv rfl <| LX.buildSlice (e := 3) (size := 1) rfl rfl (fun _ => by kernel_rfl) rfl dc rfl rfl rfl ?_
  intro gt145
  refine LX.wq (Ri (some gt145) 1 ([r101]) :: PWl bp al L cl s101 m101 (Tb bt2 t1 :: fr)) rfl <| LX.call (put_c (fr := (Tb bt2 t1 :: fr)) (g := (some gt145)) (c := 1) (ks := [r101]) (op := 35) (pos := y144.pos) (x := ([] : List UInt8)) s101 m101 hn101 (fun h0 => by have h1 : ((s101.ns).length : Int) + 2 * s.at_ ≤ s.ns.length + 2 * ((s101.at_ : Nat) : Int) + (0) := hR102.few h0; have h2 := hs.few (hR102.bad h0); have h3 := hK.len; have h4 : s101.at_ < L.length := hR102.lt; show (s101.ns).length ≤ 1000000; omega) (by (simp only [List.length_cons, List.length_nil, List.length_append]; omega)) ((AllI.cons as_ AllI.nil)) (by (unfold inI; omega)) as_) Pd.en16 rfl rfl rfl rfl rfl ?_
  rintro ⟨r146, s146, m146⟩
  refine LX.have fun ⟨hri146, hp146, hn146⟩ => ?_
  try dsimp only at hri146 hp146 hn146 ⊢
  have hR147 : Rn L.length s s146 ([r146]) 1 (1) := hR102.put (us := ([] : List Int)) (ks := [r101]) hp146 pm
  have hch148 : s101.at_ ≤ s146.at_ := Nat.le_of_eq hp146.eqs.1.symm
  have hle148 : s.at_ ≤ s146.at_ := by omega
  have hlt148 : s146.at_ < L.length := hR147.lt
  have hde148 : s101.deep ≤ s146.deep := Int.le_of_eq hp146.eqs.2.1.symm
  have hdd148 : s146.deep ≤ 60 := hR147.d1
  refine LX.mv rfl <| LX.su [2] rfl <| LX.nt <| CX.ret <| PX.ret1 (by simp) Try.results41 rfl ?_
  exact fun w hw => ⟨(r146, s146, m146), rfl, ⟨as_, hR147.wk dc dc, hn146⟩, hw.ct⟩
end Go.Proofs.Yteibddakpedogaa
