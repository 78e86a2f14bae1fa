/-
  Proved here: what is called.
-/
import Derived.Test.YtfbenelagdcdgaaGreatDoorTrB
namespace Go.Proofs.YtfbenelagdcdgaaGreatDoor
open Go.SX Go.RowKit Go.Tr
namespace Fv

end Fv
theorem call_c {w0 : World} {base : Nat} {bq : Nat} {al : Option Addr} {cl : Nat} {uv : Value} {l : List Nd} (i : Nat) (hi : i ≤ l.length) {ak : Option Addr} (ck : Nat) {ks : List Int} (hkn : ks.length ≤ 9223372036854775807) (hr : ∀ k ∈ ks, 0 ≤ k ∧ k < (i : Int))  (hq : Cq w0 base bq al cl uv l ndA) (hk : SlAt 1 intA (Lies w0 base) ak ks) : FnC Tryz.prog 166 #[.pointer (some ⟨bq, 0, none⟩), .slice ak ks.length ck] (WA w0 base []) (fun _ : Unit => .bool (callGo l ks false true)) (fun _ => WA w0 base []) := by
  refine FnC.of_body (fn := Tryz.f166) [(0, _), (1, _)] Tryz.func166 rfl Tryz.ntmps166 rfl ⟨rfl, rfl, trivial⟩ ?_
  refine CX.seq <| CX.region <| LX.pure (Y.assign rfl) rfl rfl rfl <| LX.sub (l' := [(0, _), (1, _), (4, _)]) ⟨rfl, rfl, rfl, trivial⟩ <| LX.next <| PX.thenN <| CX.seq <| CX.region <| LX.pure (Y.assign rfl) rfl rfl rfl <| LX.sub (l' := [(0, _), (1, _), (4, _), (5, _)]) ⟨rfl, rfl, rfl, rfl, trivial⟩ <| LX.next <| PX.thenN <| CX.seq <| CX.seq <| CX.region <| LX.pure (Y.move rfl) rfl rfl rfl <| LX.pure (Y.lenSl rfl Ft.un30 rfl) rfl rfl rfl <| LX.pure (Y.move rfl) rfl rfl rfl <| LX.sub (l' := [(0, _), (4, _), (5, _), (8, _), (9, _), (10, _)]) ⟨rfl, rfl, rfl, rfl, rfl, rfl, trivial⟩ <| LX.next <| PX.thenN <| CX.block <| CX.loop (fun s : Nat × Bool => [(0, .pointer (some ⟨bq, 0, none⟩)), (5, .bool s.2), (8, .slice ak ks.length ck), (9, .int .i64 (ks.length : Int)), (10, .int .i64 (s.1 : Int))]) (fun (s : Nat × Bool) w => (s.1 ≤ ks.length ∧ callGo l (ks.drop s.1) s.2 (decide (s.1 = 0)) = callGo l ks false true) ∧ WA w0 base [] w) (fun s => ks.length - s.1) (0, false) ⟨rfl, rfl, rfl, rfl, rfl, trivial⟩ (fun w hw => ⟨⟨Nat.zero_le _, rfl⟩, hw⟩) ?_
  rintro ⟨j, named⟩
  refine CX.have fun ⟨hj0, hgo⟩ => ?_
  try dsimp only at hj0 hgo ⊢
  refine CX.seq <| CX.region <| LX.pure (Y.ltN rfl rfl) rfl rfl rfl <| LX.sub (l' := [(0, _), (5, _), (8, _), (9, _), (10, _), (11, _)]) ⟨rfl, rfl, rfl, rfl, rfl, rfl, trivial⟩ <| LX.next <| PX.thenN <| CX.seq ?_
  refine CX.cond rfl (fun hb1 => ?_) (fun hb1 => ?_)
  · try simp at hb1
    have hj : j < ks.length := by omega
    obtain ⟨a0, hav0, hL0, hin0⟩ := hk.int_at hj
    have hrj := hr _ (getD_mem hj)
    obtain ⟨k, hkz⟩ : ∃ k : Nat, ks.getD j 0 = (k : Int) := ⟨(ks.getD j 0).toNat, by omega⟩
    have hkl : k < l.length := by omega
    obtain ⟨x, hx⟩ : ∃ x, l[k]? = some x := ⟨_, List.getElem?_eq_getElem hkl⟩
    obtain ⟨a, cs, hav, hcl, hL, hnx⟩ := hq.nodes k x hx
    have hnd : nd l (ks.getD j 0) = x := by rw [hkz]; exact nd_at hx
    refine CX.skip <| PX.thenN <| CX.seq <| CX.block <| CX.seq <| CX.region <| LX.pure (Y.move rfl) rfl rfl rfl <| LX.pure (Y.idxZ Ft.un30 Ft.sz3 rfl rfl hav0 (j := j) rfl hj) rfl rfl rfl <| LX.pure (Y.ldO1 Ft.one3 rfl hL0) rfl rfl rfl <| LX.pure (Y.assign rfl) rfl rfl rfl <| LX.pure (Y.assign rfl) rfl rfl rfl <| LX.sub (l' := [(0, _), (5, _), (6, _), (7, _), (8, _), (9, _), (10, _)]) ⟨rfl, rfl, rfl, rfl, rfl, rfl, rfl, trivial⟩ <| LX.next <| PX.thenN <| CX.seq <| CX.seq <| CX.region <| LX.pure (Y.move rfl) rfl rfl rfl <| LX.pure (Y.move rfl) rfl rfl rfl <| LX.callQ (op_q _ _ (⟨hrj.1, by omega⟩) (fun w hw => hq.push hw)) Fu.en173 rfl rfl rfl rfl rfl <| LX.sub (l' := [(0, _), (5, _), (6, _), (7, _), (8, _), (9, _), (10, _), (17, _)]) ⟨rfl, rfl, rfl, rfl, rfl, rfl, rfl, rfl, trivial⟩ <| LX.next <| PX.thenN ?_
    refine CX.cond rfl (fun hb2 => ?_) (fun hb2 => ?_)
    · try simp at hb2
      have hop : (nd l (ks.getD j 0)).op = 11 := by assumption
      refine CX.seq <| CX.region <| LX.pure (Y.assign rfl) rfl rfl rfl <| LX.sub (l' := [(0, _), (5, _), (6, _), (7, _), (8, _), (9, _), (10, _)]) ⟨rfl, rfl, rfl, rfl, rfl, rfl, rfl, trivial⟩ <| LX.next <| PX.thenN <| CX.seq <| CX.seq <| CX.region <| LX.pure (Y.move rfl) rfl rfl rfl <| LX.pure (Y.eqN rfl rfl) rfl rfl rfl <| LX.sub (l' := [(0, _), (5, _), (7, _), (8, _), (9, _), (10, _), (19, _)]) ⟨rfl, rfl, rfl, rfl, rfl, rfl, rfl, trivial⟩ <| LX.next <| PX.thenN ?_
      refine CX.cond rfl (fun hb3 => ?_) (fun hb3 => ?_)
      · try simp at hb3
        refine CX.seq <| CX.region <| LX.pure (Y.assign rfl) rfl rfl rfl <| LX.sub (l' := [(0, _), (4, _), (5, _), (7, _), (8, _), (9, _), (10, _)]) ⟨rfl, rfl, rfl, rfl, rfl, rfl, rfl, trivial⟩ <| LX.next <| PX.thenN <| CX.ret <| PX.thenR <| PX.thenR <| PX.blockR <| PX.thenR <| PX.thenR <| PX.blockR <| PX.thenR <| PX.ret1 (by simp) Tryz.results166 rfl ?_
        exact fun w hw => ⟨(), by rw [← hgo, drop_getD hj, callGo, if_pos hop, if_pos (by simp; omega)], hw⟩
      try simp at hb3
      refine CX.skip <| PX.thenN <| CX.exit <| PX.thenE <| PX.blockE <| PX.thenN <| CX.region <| LX.pure (Y.addN rfl rfl (by (simp only []; omega))) rfl rfl rfl <| LX.pure (Y.move rfl) rfl rfl rfl <| LX.sub (l' := [(0, _), (5, _), (8, _), (9, _), (10, _)]) ⟨rfl, rfl, rfl, rfl, rfl, trivial⟩ <| LX.next ?_
      exact PX.again (μ := fun s => ks.length - s.1) (i := (j, named)) (j + 1, true) (by show ks.length - (j + 1) < ks.length - j; omega) ⟨rfl, rfl, rfl, rfl, rfl, trivial⟩ (fun w hw => ⟨⟨by show j + 1 ≤ ks.length; omega, by show callGo l (ks.drop (j + 1)) true (decide (j + 1 = 0)) = _; rw [decide_eq_false (by omega), ← hgo, drop_getD hj, callGo, if_pos hop, if_neg (by simp; omega)]⟩, hw⟩)
    try simp at hb2
    have hop : ¬(nd l (ks.getD j 0)).op = 11 := by assumption
    refine CX.skip <| PX.thenN <| CX.seq <| CX.region <| LX.pure (Y.move rfl) rfl rfl rfl <| LX.pure (Y.move rfl) rfl rfl rfl <| LX.sub (l' := [(0, _), (5, _), (7, _), (8, _), (9, _), (10, _), (21, _)]) ⟨rfl, rfl, rfl, rfl, rfl, rfl, rfl, trivial⟩ ?_
    apply LX.joinOr 11 32 21 rfl
    · intro hb4
      have hb4p := hb4
      try simp at hb4p
      refine LX.gF rfl rfl rfl hb4 rfl rfl <| LX.gF rfl rfl rfl hb4 rfl rfl <| LX.gF rfl rfl rfl hb4 rfl rfl <| LX.gF rfl rfl rfl hb4 rfl rfl <| LX.gF rfl rfl rfl hb4 rfl rfl <| LX.gF rfl rfl rfl hb4 rfl rfl <| LX.gF rfl rfl rfl hb4 rfl rfl <| LX.gF rfl rfl rfl hb4 rfl rfl <| LX.gF rfl rfl rfl hb4 rfl rfl <| LX.gF rfl rfl rfl hb4 rfl rfl <| LX.pure (Y.pickT rfl hb4 rfl) rfl rfl rfl ?_
      exact LX.left ⟨rfl, rfl, rfl, rfl, rfl, rfl, rfl, rfl, trivial⟩
    · intro hb4
      have hb4p := hb4
      try simp at hb4p
      refine LX.gT rfl rfl rfl hb4 (Y.move rfl) rfl rfl <| LX.gT rfl rfl rfl hb4 (Y.nilCheck rfl) rfl rfl <| LX.gT rfl rfl rfl hb4 (Y.fieldAddr0 Ft.fo89_0 rfl) rfl rfl <| LX.gT rfl rfl rfl hb4 (Y.ldB0 Ft.one23 rfl hq.blk rfl) rfl rfl <| LX.gT rfl rfl rfl hb4 (Y.move rfl) rfl rfl <| LX.gT rfl rfl rfl hb4 (Y.idxZ Ft.un23 Ft.sz32 rfl rfl hav (j := k) hkz hkl) rfl rfl <| LX.gT rfl rfl rfl hb4 (Y.fieldA Ft.fa32_0 rfl) rfl rfl <| LX.gT rfl rfl rfl hb4 (Y.ldFO (v := .int .i64 x.op) Ft.one3 rfl hL (by obtain ⟨_, rfl, _⟩ := hnx; rfl)) rfl rfl <| LX.callQT rfl rfl rfl hb4 (expr_q _) Ft.en169 rfl rfl rfl rfl <| LX.gT rfl rfl rfl hb4 (Y.not rfl) rfl rfl <| LX.pure (Y.pickF rfl hb4 rfl) rfl rfl rfl ?_
      exact LX.left ⟨rfl, rfl, rfl, rfl, rfl, rfl, rfl, rfl, trivial⟩
    refine LX.sub (l' := [(0, _), (5, _), (8, _), (9, _), (10, _), (32, _)]) ⟨rfl, rfl, rfl, rfl, rfl, rfl, trivial⟩ <| LX.next <| PX.thenN ?_
    refine CX.cond rfl (fun hb5 => ?_) (fun hb5 => ?_)
    · try simp at hb5
      have hne : (named || !exprB (nd l (ks.getD j 0)).op) = true := by rw [hnd]; simpa using hb5
      refine CX.seq <| CX.region <| LX.pure (Y.assign rfl) rfl rfl rfl <| LX.sub (l' := [(0, _), (4, _), (5, _), (8, _), (9, _), (10, _)]) ⟨rfl, rfl, rfl, rfl, rfl, rfl, trivial⟩ <| LX.next <| PX.thenN <| CX.ret <| PX.blockR <| PX.thenR <| PX.thenR <| PX.blockR <| PX.thenR <| PX.ret1 (by simp) Tryz.results166 rfl ?_
      exact fun w hw => ⟨(), by rw [← hgo, drop_getD hj, callGo, if_neg hop, if_pos hne], hw⟩
    try simp at hb5
    have hne : ¬(named || !exprB (nd l (ks.getD j 0)).op) = true := by rw [hnd]; simpa using hb5
    refine CX.skip <| PX.blockN <| PX.thenN <| CX.region <| LX.pure (Y.addN rfl rfl (by (simp only []; omega))) rfl rfl rfl <| LX.pure (Y.move rfl) rfl rfl rfl <| LX.sub (l' := [(0, _), (5, _), (8, _), (9, _), (10, _)]) ⟨rfl, rfl, rfl, rfl, rfl, trivial⟩ <| LX.next ?_
    exact PX.again (μ := fun s => ks.length - s.1) (i := (j, named)) (j + 1, named) (by show ks.length - (j + 1) < ks.length - j; omega) ⟨rfl, rfl, rfl, rfl, rfl, trivial⟩ (fun w hw => ⟨⟨by show j + 1 ≤ ks.length; omega, by show callGo l (ks.drop (j + 1)) named (decide (j + 1 = 0)) = _; rw [decide_eq_false (by omega), ← hgo, drop_getD hj, callGo, if_neg hop, if_neg hne]⟩, hw⟩)
  try simp at hb1
  have hje : j = ks.length := by omega
  refine CX.exit <| PX.thenE <| PX.thenE <| PX.blockE <| PX.thenN <| CX.seq <| CX.region <| LX.pure (Y.assign rfl) rfl rfl rfl <| LX.sub (l' := [(4, _)]) ⟨rfl, trivial⟩ <| LX.next <| PX.thenN <| CX.ret <| PX.ret1 (by simp) Tryz.results166 rfl ?_
  exact fun w hw => ⟨(), by rw [← hgo, drop_end hje]; rfl, hw⟩
theorem call_q {W : World → Prop} [Stab W] {bq : Nat} {al : Option Addr} {cl : Nat} {uv : Value} {l : List Nd} (i : Nat) (hi : i ≤ l.length) {ak : Option Addr} (ck : Nat) {ks : List Int} (hkn : ks.length ≤ 9223372036854775807) (hr : ∀ k ∈ ks, 0 ≤ k ∧ k < (i : Int))  (hq : ∀ w, W w → Cq w w.heap.size bq al cl uv l ndA) (hk : ∀ w, W w → SlAt 1 intA (Lies w w.heap.size) ak ks) : FnQ Tryz.prog 166 #[.pointer (some ⟨bq, 0, none⟩), .slice ak ks.length ck] W (.bool (callGo l ks false true)) := FnC.quiet fun w hw => call_c i hi ck hkn hr (hq w hw) (hk w hw)
end Go.Proofs.YtfbenelagdcdgaaGreatDoor
