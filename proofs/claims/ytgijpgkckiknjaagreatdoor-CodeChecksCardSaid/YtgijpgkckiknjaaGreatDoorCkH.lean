/-
  Proved here: the document's constants.
-/
import Derived.Test.YtgijpgkckiknjaaGreatDoorCkS2
namespace Go.Proofs.YtgijpgkckiknjaaGreatDoor
open Go.SX Go.RowKit Go.Ck Go.Lex
namespace Fh
theorem en119 : Enters Tryz.prog 119 := Enters.of Tryz.func119 (by kernel_rfl) (by kernel_rfl)
end Fh
open Go.Tr (ndA digitsOk)
theorem CkAt.push {w0 w : World} {base : Nat} {its : List It} {X : Cx} {p : Pg} {f : Fc} (h : CkAt (Lies w0 base) X p f) (hw : WA w0 base its w) : CkAt (Lies w w.heap.size) X p f := ⟨h.hF.push hw, h.hC.push hw, h.hG.push hw, h.hN.push hw, h.hM.push hw, h.hD.push hw, h.small⟩
theorem refLeaf_c {w0 : World} {base : Nat} {fr : List It} {x : Nd} {cs : List Value} (hx : ndA (Lies w0 base) cs x) (hxs : x.s.length ≤ 9223372036854775807) : FnC Tryz.prog 55 #[.agg cs.toArray] (WA w0 base fr) (fun _ : Unit => .bool (decide (leafOk x))) (fun _ => WA w0 base fr) := by
  obtain ⟨vk, rfl, hks, hin⟩ := hx
  obtain ⟨ak2, ck2, rfl, ⟨hkn2, hkc2⟩, hka2⟩ := hks.sl
  refine FnC.of_body (fn := Tryz.f55) [(0, _)] Tryz.func55 rfl Tryz.ntmps55 rfl ⟨rfl, trivial⟩ ?_
  refine CX.seq ?_
  refine CX.region ?_
  refine LX.box rfl rfl rfl rfl rfl ?_
  intro bx0
  refine LX.pure (Y.assign rfl) rfl rfl rfl ?_
  refine LX.sub (l' := [(1, _), (2, _)]) ⟨rfl, rfl, trivial⟩ ?_
  refine LX.next ?_
  refine PX.thenN ?_
  refine CX.seq ?_
  refine CX.seq ?_
  refine CX.region ?_
  refine LX.pure (Y.fieldAddr0 Fzc.fo44_1 rfl) rfl rfl rfl ?_
  refine LX.pure (Y.ldB 0 Ft.one3 rfl rfl rfl) rfl rfl rfl ?_
  refine LX.pure (Y.neI rfl rfl) rfl rfl rfl ?_
  refine LX.pure (Y.move rfl) rfl rfl rfl ?_
  refine LX.sub (l' := [(1, _), (2, _), (6, _)]) ⟨rfl, rfl, rfl, trivial⟩ ?_
  apply LX.joinOr 5 11 6 rfl
  · intro hb1
    have hb1p := hb1
    try simp at hb1p
    refine LX.gF rfl rfl rfl hb1 rfl rfl ?_
    refine LX.gF rfl rfl rfl hb1 rfl rfl ?_
    refine LX.gF rfl rfl rfl hb1 rfl rfl ?_
    refine LX.gF rfl rfl rfl hb1 rfl rfl ?_
    refine LX.pure (Y.pickT rfl hb1 rfl) rfl rfl rfl ?_
    exact LX.left ⟨rfl, rfl, rfl, rfl, trivial⟩
  · intro hb1
    have hb1p := hb1
    try simp at hb1p
    refine LX.gT rfl rfl rfl hb1 (Y.fieldAddr0 Fu.fo44_4 rfl) rfl rfl ?_
    refine LX.gT rfl rfl rfl hb1 (Y.ldB 0 Fu.one42 rfl rfl rfl) rfl rfl ?_
    refine LX.gT rfl rfl rfl hb1 (Y.lenSl rfl Ft.un42 rfl) rfl rfl ?_
    refine LX.gT rfl rfl rfl hb1 (Y.neN rfl rfl) rfl rfl ?_
    refine LX.pure (Y.pickF rfl hb1 rfl) rfl rfl rfl ?_
    exact LX.left ⟨rfl, rfl, rfl, rfl, trivial⟩
  refine LX.sub (l' := [(1, _), (2, _), (11, _)]) ⟨rfl, rfl, rfl, trivial⟩ ?_
  refine LX.next ?_
  refine PX.thenN ?_
  refine CX.cond rfl (fun hb2 => ?_) (fun hb2 => ?_)
  · try simp at hb2
    refine CX.seq ?_
    refine CX.region ?_
    refine LX.pure (Y.assign rfl) rfl rfl rfl ?_
    refine LX.sub (l' := [(1, _), (2, _)]) ⟨rfl, rfl, trivial⟩ ?_
    refine LX.next ?_
    refine PX.thenN ?_
    refine CX.ret ?_
    refine PX.thenR ?_
    refine PX.ret1 (by simp) Tryz.results55 rfl ?_
    exact fun w hw => ⟨(), congrArg (fun z => Ending.returned (Value.bool z)) (by exact leaf_no (by rcases hb2 with h | h; exact .inl h; exact .inr (fun e => h (List.eq_nil_of_length_eq_zero e)))), hw.drop (List.sublist_cons_self _ _)⟩
  · try simp at hb2
    have hz : x.n = 0 := by exact hb2.1
    have hke : x.kids = [] := by exact hb2.2
    refine CX.skip ?_
    refine PX.thenN ?_
    refine CX.seq ?_
    refine CX.seq ?_
    refine CX.region ?_
    refine LX.pure (Y.fieldAddr0 Ft.fo44_0 rfl) rfl rfl rfl ?_
    refine LX.pure (Y.ldB 0 Ft.one3 rfl rfl rfl) rfl rfl rfl ?_
    refine LX.sub (l' := [(1, _), (2, _), (13, _)]) ⟨rfl, rfl, rfl, trivial⟩ ?_
    refine LX.next ?_
    refine PX.thenN ?_
    refine CX.block ?_
    refine CX.sub (l' := [(1, _), (2, _), (13, _)]) ⟨rfl, rfl, rfl, trivial⟩ ?_
    apply CX.seqSw 14
    ·
      refine CX.seq ?_
      refine CX.region ?_
      refine LX.pure (Y.eqI rfl rfl) rfl rfl rfl ?_
      refine LX.pure (Y.assign rfl) rfl rfl rfl ?_
      refine LX.next ?_
      refine PX.thenN ?_
      apply CX.swOr
      · rfl
      · exact ⟨rfl, rfl, rfl, rfl, trivial⟩
      intro hb3
      try simp at hb3
      refine CX.seq ?_
      refine CX.region ?_
      refine LX.pure (Y.eqI rfl rfl) rfl rfl rfl ?_
      refine LX.pure (Y.assign rfl) rfl rfl rfl ?_
      refine LX.next ?_
      refine PX.thenN ?_
      apply CX.swOr
      · rfl
      · exact ⟨rfl, rfl, rfl, rfl, trivial⟩
      intro hb4
      try simp at hb4
      refine CX.region ?_
      refine LX.pure (Y.eqI rfl rfl) rfl rfl rfl ?_
      refine LX.pure (Y.assign rfl) rfl rfl rfl ?_
      refine LX.next ?_
      exact PX.sw ⟨rfl, rfl, rfl, rfl, trivial⟩
    refine CX.cond rfl (fun hb5 => ?_) (fun hb5 => ?_)
    · try simp at hb5
      refine CX.seq ?_
      refine CX.region ?_
      refine LX.pure (Y.fieldAddr0 Fza.fo44_3 rfl) rfl rfl rfl ?_
      refine LX.pure (Y.ldB 0 Fy.one9 rfl rfl rfl) rfl rfl rfl ?_
      refine LX.pure (Y.eqS rfl rfl) rfl rfl rfl ?_
      refine LX.pure (Y.assign rfl) rfl rfl rfl ?_
      refine LX.sub (l' := [(1, _), (2, _)]) ⟨rfl, rfl, trivial⟩ ?_
      refine LX.next ?_
      refine PX.thenN ?_
      refine CX.ret ?_
      refine PX.blockR ?_
      refine PX.thenR ?_
      refine PX.ret1 (by simp) Tryz.results55 rfl ?_
      exact fun w hw => ⟨(), congrArg (fun z => Ending.returned (Value.bool z)) (by exact leaf_1 hz hke (by omega)), hw.drop (List.sublist_cons_self _ _)⟩
    · try simp at hb5
      refine CX.seq ?_
      refine CX.region ?_
      refine LX.pure (Y.eqI rfl rfl) rfl rfl rfl ?_
      refine LX.pure (Y.assign rfl) rfl rfl rfl ?_
      refine LX.sub (l' := [(1, _), (2, _), (21, _)]) ⟨rfl, rfl, rfl, trivial⟩ ?_
      refine LX.next ?_
      refine PX.thenN ?_
      refine CX.cond rfl (fun hb6 => ?_) (fun hb6 => ?_)
      · try simp at hb6
        refine CX.seq ?_
        refine CX.region ?_
        refine LX.pure (Y.fieldAddr0 Fza.fo44_3 rfl) rfl rfl rfl ?_
        refine LX.pure (Y.ldB 0 Fy.one9 rfl rfl rfl) rfl rfl rfl ?_
        refine LX.callQ (refDigits_q _ hxs) Fh.en119 rfl rfl rfl rfl rfl ?_
        refine LX.pure (Y.assign rfl) rfl rfl rfl ?_
        refine LX.sub (l' := [(1, _), (2, _)]) ⟨rfl, rfl, trivial⟩ ?_
        refine LX.next ?_
        refine PX.thenN ?_
        refine CX.ret ?_
        refine PX.blockR ?_
        refine PX.thenR ?_
        refine PX.ret1 (by simp) Tryz.results55 rfl ?_
        exact fun w hw => ⟨(), congrArg (fun z => Ending.returned (Value.bool z)) (by exact leaf_4 hz hke (by omega)), hw.drop (List.sublist_cons_self _ _)⟩
      · try simp at hb6
        refine CX.skip ?_
        refine PX.blockN ?_
        refine PX.thenN ?_
        refine CX.seq ?_
        refine CX.region ?_
        refine LX.pure (Y.fieldAddr0 Ft.fo44_0 rfl) rfl rfl rfl ?_
        refine LX.pure (Y.ldB 0 Ft.one3 rfl rfl rfl) rfl rfl rfl ?_
        refine LX.pure (Y.eqI rfl rfl) rfl rfl rfl ?_
        refine LX.pure (Y.assign rfl) rfl rfl rfl ?_
        refine LX.sub (l' := [(2, _)]) ⟨rfl, trivial⟩ ?_
        refine LX.next ?_
        refine PX.thenN ?_
        refine CX.ret ?_
        refine PX.ret1 (by simp) Tryz.results55 rfl ?_
        exact fun w hw => ⟨(), congrArg (fun z => Ending.returned (Value.bool z)) (by exact leaf_5 hz hke (by omega) (by omega)), hw.drop (List.sublist_cons_self _ _)⟩
theorem refLeaf_q {W : World → Prop} [Stab W] {x : Nd} {cs : List Value} (hx : ∀ w, W w → ndA (Lies w w.heap.size) cs x) (hxs : x.s.length ≤ 9223372036854775807) : FnQ Tryz.prog 55 #[.agg cs.toArray] W (.bool (decide (leafOk x))) := FnC.quiet fun w hw => refLeaf_c (hx w hw) hxs
theorem refFits_q {W : World → Prop} [Stab W] {X : Cx} {p : Pg} {f : Fc} (hX : ∀ w, W w → CkAt (Lies w w.heap.size) X p f) (i : Ins) : FnQ Tryz.prog 56 #[.agg (X.pcs p).toArray, .agg (X.fcs f).toArray, insV i] W (.bool (decide (fits p f i))) := FnC.quiet fun w hw => refFits_c (hX w hw) i
end Go.Proofs.YtgijpgkckiknjaaGreatDoor
