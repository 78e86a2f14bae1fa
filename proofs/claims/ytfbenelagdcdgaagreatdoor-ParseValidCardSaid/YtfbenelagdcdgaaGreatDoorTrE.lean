/-
  Proved here: an Int's text.
-/
import Derived.Test.YtfbenelagdcdgaaGreatDoorTrD
namespace Go.Proofs.YtfbenelagdcdgaaGreatDoor
open Go.SX Go.RowKit Go.Tr
namespace Fx
theorem un9 : Tryz.prog.underlying 9 = some .string := by kernel_rfl
end Fx
theorem digits_c {w0 : World} {base : Nat} {fr : List It} (s : List UInt8) (hs : s.length ≤ 9223372036854775807) : FnC Tryz.prog 105 #[str s] (WA w0 base fr) (fun _ : Unit => .bool (decide (digitsOk s))) (fun _ => WA w0 base fr) := by
  refine FnC.of_body (fn := Tryz.f105) [(0, _)] Tryz.func105 rfl Tryz.ntmps105 rfl ⟨rfl, trivial⟩ ?_
  refine CX.seq <| CX.region <| LX.pure (Y.assign rfl) rfl rfl rfl <| LX.sub (l' := [(0, _), (2, _)]) ⟨rfl, rfl, trivial⟩ <| LX.next <| PX.thenN <| CX.seq <| CX.seq <| CX.region <| LX.pure (Y.move rfl) rfl rfl rfl <| LX.pure (Y.lenStr rfl Fx.un9 rfl) rfl rfl rfl <| LX.pure (Y.move rfl) rfl rfl rfl <| LX.sub (l' := [(0, _), (2, _), (5, _), (6, _)]) ⟨rfl, rfl, rfl, rfl, trivial⟩ <| LX.next <| PX.thenN <| CX.block <| CX.loop (τ := Nat) (fun j : Nat => [(0, str s), (5, .int .i64 (s.length : Int)), (6, .int .i64 (j : Int))]) (fun (j : Nat) w => (j ≤ s.length ∧ ∀ i, i < j → 48 ≤ bt s i ∧ bt s i ≤ 57) ∧ WA w0 base fr w) (fun j => s.length - j) 0 ⟨rfl, rfl, rfl, trivial⟩ (fun w hw => ⟨⟨Nat.zero_le _, fun i hi => absurd hi (Nat.not_lt_zero i)⟩, hw⟩) ?_
  intro j
  refine CX.have fun ⟨hj0, hdg⟩ => ?_
  try dsimp only at hj0 hdg ⊢
  refine CX.seq <| CX.region <| LX.pure (Y.ltN rfl rfl) rfl rfl rfl <| LX.sub (l' := [(0, _), (5, _), (6, _), (7, _)]) ⟨rfl, rfl, rfl, rfl, trivial⟩ <| LX.next <| PX.thenN <| CX.seq ?_
  refine CX.cond rfl (fun hb1 => ?_) (fun hb1 => ?_)
  · try simp at hb1
    have hjl : j < s.length := by omega
    refine CX.skip <| PX.thenN <| CX.seq <| CX.block <| CX.seq <| CX.region <| LX.pure (Y.move rfl) rfl rfl rfl <| LX.pure (Y.assign rfl) rfl rfl rfl <| LX.sub (l' := [(0, _), (3, _), (5, _), (6, _)]) ⟨rfl, rfl, rfl, rfl, trivial⟩ <| LX.next <| PX.thenN <| CX.seq <| CX.region <| LX.pure (Y.move rfl) rfl rfl rfl <| LX.pure (Y.move rfl) rfl rfl rfl <| LX.pure (Y.index rfl rfl Fx.un9 (by omega)) rfl rfl rfl <| LX.pure (Y.ltN rfl rfl) rfl rfl rfl <| LX.pure (Y.move rfl) rfl rfl rfl <| LX.sub (l' := [(0, _), (3, _), (5, _), (6, _), (13, _)]) ⟨rfl, rfl, rfl, rfl, rfl, trivial⟩ ?_
    apply LX.joinOr 5 18 13 rfl
    · intro hb2
      have hb2p := hb2
      try simp at hb2p
      refine LX.gF rfl rfl rfl hb2 rfl rfl <| LX.gF rfl rfl rfl hb2 rfl rfl <| LX.gF rfl rfl rfl hb2 rfl rfl <| LX.gF rfl rfl rfl hb2 rfl rfl <| LX.pure (Y.pickT rfl hb2 rfl) rfl rfl rfl ?_
      exact LX.left ⟨rfl, rfl, rfl, rfl, rfl, rfl, trivial⟩
    · intro hb2
      have hb2p := hb2
      try simp at hb2p
      refine LX.gT rfl rfl rfl hb2 (Y.move rfl) rfl rfl <| LX.gT rfl rfl rfl hb2 (Y.move rfl) rfl rfl <| LX.gT rfl rfl rfl hb2 (Y.index rfl rfl Fx.un9 (by omega)) rfl rfl <| LX.gT rfl rfl rfl hb2 (Y.gtN rfl rfl) rfl rfl <| LX.pure (Y.pickF rfl hb2 rfl) rfl rfl rfl ?_
      exact LX.left ⟨rfl, rfl, rfl, rfl, rfl, rfl, trivial⟩
    refine LX.sub (l' := [(0, _), (5, _), (6, _), (18, _)]) ⟨rfl, rfl, rfl, rfl, trivial⟩ <| LX.next <| PX.thenN ?_
    refine CX.cond rfl (fun hb3 => ?_) (fun hb3 => ?_)
    · try simp at hb3
      refine CX.seq <| CX.region <| LX.pure (Y.assign rfl) rfl rfl rfl <| LX.sub (l' := [(0, _), (2, _), (5, _), (6, _)]) ⟨rfl, rfl, rfl, rfl, trivial⟩ <| LX.next <| PX.thenN <| CX.ret <| PX.blockR <| PX.thenR <| PX.thenR <| PX.blockR <| PX.thenR <| PX.ret1 (by simp) Tryz.results105 rfl ?_
      exact fun w hw => ⟨(), by rw [decide_eq_false (digits_no hjl (by omega))], hw⟩
    try simp at hb3
    refine CX.skip <| PX.blockN <| PX.thenN <| CX.region <| LX.pure (Y.addN rfl rfl (by (simp only []; omega))) rfl rfl rfl <| LX.pure (Y.move rfl) rfl rfl rfl <| LX.sub (l' := [(0, _), (5, _), (6, _)]) ⟨rfl, rfl, rfl, trivial⟩ <| LX.next ?_
    exact PX.again (j + 1) (by show s.length - (j + 1) < s.length - j; omega) ⟨rfl, rfl, rfl, trivial⟩ (fun w hw => ⟨⟨by omega, fun i hi => by
      by_cases e : i = j
      · subst e; omega
      · exact hdg i (by omega)⟩, hw⟩)
  try simp at hb1
  have hall : ∀ i, i < s.length → 48 ≤ bt s i ∧ bt s i ≤ 57 := fun i hi => hdg i (by omega)
  refine CX.exit <| PX.thenE <| PX.thenE <| PX.blockE <| PX.thenN <| CX.seq <| CX.region <| LX.pure (Y.move rfl) rfl rfl rfl <| LX.pure (Y.eqS rfl rfl) rfl rfl rfl <| LX.pure (Y.move rfl) rfl rfl rfl <| LX.sub (l' := [(0, _), (22, _)]) ⟨rfl, rfl, trivial⟩ ?_
  apply LX.joinOr 13 35 22 rfl
  · intro hb4
    have hb4p := hb4
    try simp at hb4p
    refine LX.gF rfl rfl rfl hb4 rfl rfl <| LX.gF rfl rfl rfl hb4 rfl rfl <| LX.gF rfl rfl rfl hb4 rfl rfl <| LX.gU rfl rfl rfl rfl rfl <| LX.gU rfl rfl rfl rfl rfl <| LX.gU rfl rfl rfl rfl rfl <| LX.gF rfl rfl rfl hb4 rfl rfl <| LX.gF rfl rfl rfl hb4 rfl rfl <| LX.gU rfl rfl rfl rfl rfl <| LX.gU rfl rfl rfl rfl rfl <| LX.gU rfl rfl rfl rfl rfl <| LX.gF rfl rfl rfl hb4 rfl rfl <| LX.pure (Y.pickT rfl hb4 rfl) rfl rfl rfl ?_
    exact LX.left ⟨rfl, rfl, rfl, trivial⟩
  · intro hb4
    have hb4p := hb4
    try simp at hb4p
    refine LX.gT rfl rfl rfl hb4 (Y.move rfl) rfl rfl <| LX.gT rfl rfl rfl hb4 (Y.neS rfl rfl) rfl rfl <| LX.gT rfl rfl rfl hb4 (Y.move rfl) rfl rfl <| LX.sub (l' := [(0, _), (22, _), (25, _)]) ⟨rfl, rfl, rfl, trivial⟩ ?_
    apply LX.joinAnd 4 29 25 rfl
    · intro hb5
      have hb5p := hb5
      try simp at hb5p
      refine LX.gT rfl rfl rfl hb5 (Y.move rfl) rfl rfl <| LX.gT rfl rfl rfl hb5 (Y.index rfl rfl Fx.un9 (by exact List.length_pos_iff.2 (by assumption))) rfl rfl <| LX.gT rfl rfl rfl hb5 (Y.neN rfl rfl) rfl rfl <| LX.gT rfl rfl rfl hb4 (Y.pickT rfl hb5 rfl) rfl rfl ?_
      exact LX.left ⟨rfl, rfl, rfl, rfl, trivial⟩
    · intro hb5
      have hb5p := hb5
      try simp at hb5p
      refine LX.gF rfl rfl rfl hb5 rfl rfl <| LX.gF rfl rfl rfl hb5 rfl rfl <| LX.gF rfl rfl rfl hb5 rfl rfl <| LX.gT rfl rfl rfl hb4 (Y.pickF rfl hb5 rfl) rfl rfl ?_
      exact LX.left ⟨rfl, rfl, rfl, rfl, trivial⟩
    refine LX.gT rfl rfl rfl hb4 (Y.move rfl) rfl rfl <| LX.sub (l' := [(0, _), (22, _), (30, _)]) ⟨rfl, rfl, rfl, trivial⟩ ?_
    apply LX.joinAnd 4 34 30 rfl
    · intro hb6
      have hb6p := hb6
      try simp at hb6p
      refine LX.gT rfl rfl rfl hb6 (Y.move rfl) rfl rfl <| LX.gT rfl rfl rfl hb6 (Y.lenStr rfl Fx.un9 rfl) rfl rfl <| LX.gT rfl rfl rfl hb6 (Y.leN rfl rfl) rfl rfl <| LX.gT rfl rfl rfl hb4 (Y.pickT rfl hb6 rfl) rfl rfl ?_
      exact LX.left ⟨rfl, rfl, rfl, rfl, trivial⟩
    · intro hb6
      have hb6p := hb6
      try simp at hb6p
      refine LX.gF rfl rfl rfl hb6 rfl rfl <| LX.gF rfl rfl rfl hb6 rfl rfl <| LX.gF rfl rfl rfl hb6 rfl rfl <| LX.gT rfl rfl rfl hb4 (Y.pickF rfl hb6 rfl) rfl rfl ?_
      exact LX.left ⟨rfl, rfl, rfl, rfl, trivial⟩
    refine LX.pure (Y.pickF rfl hb4 rfl) rfl rfl rfl ?_
    exact LX.left ⟨rfl, rfl, rfl, trivial⟩
  refine LX.pure (Y.assign rfl) rfl rfl rfl <| LX.sub (l' := [(2, _)]) ⟨rfl, trivial⟩ <| LX.next <| PX.thenN <| CX.ret <| PX.ret1 (by simp) Tryz.results105 rfl ?_
  exact fun w hw => ⟨(), congrArg (fun z => Ending.returned (Value.bool z)) (digits_b1 hall), hw⟩
theorem digits_q {W : World → Prop} [Stab W] (s : List UInt8) (hs : s.length ≤ 9223372036854775807) : FnQ Tryz.prog 105 #[str s] W (.bool (decide (digitsOk s))) := FnC.quiet fun w _ => digits_c s hs
theorem refDigits_c {w0 : World} {base : Nat} {fr : List It} (s : List UInt8) (hs : s.length ≤ 9223372036854775807) : FnC Tryz.prog 137 #[str s] (WA w0 base fr) (fun _ : Unit => .bool (decide (digitsOk s))) (fun _ => WA w0 base fr) := by
  refine FnC.of_body (fn := Tryz.f137) [(0, _)] Tryz.func137 rfl Tryz.ntmps137 rfl ⟨rfl, trivial⟩ ?_
  refine CX.seq <| CX.region <| LX.pure (Y.assign rfl) rfl rfl rfl <| LX.sub (l' := [(0, _), (2, _)]) ⟨rfl, rfl, trivial⟩ <| LX.next <| PX.thenN <| CX.seq <| CX.seq <| CX.region <| LX.pure (Y.assign rfl) rfl rfl rfl <| LX.sub (l' := [(0, _), (2, _), (3, _)]) ⟨rfl, rfl, rfl, trivial⟩ <| LX.next <| PX.thenN <| CX.block <| CX.loop (τ := Nat) (fun j : Nat => [(0, str s), (3, .int .i64 (j : Int))]) (fun (j : Nat) w => (j ≤ s.length ∧ ∀ i, i < j → 48 ≤ bt s i ∧ bt s i ≤ 57) ∧ WA w0 base fr w) (fun j => s.length - j) 0 ⟨rfl, rfl, trivial⟩ (fun w hw => ⟨⟨Nat.zero_le _, fun i hi => absurd hi (Nat.not_lt_zero i)⟩, hw⟩) ?_
  intro j
  refine CX.have fun ⟨hj0, hdg⟩ => ?_
  try dsimp only at hj0 hdg ⊢
  refine CX.seq <| CX.seq <| CX.region <| LX.pure (Y.move rfl) rfl rfl rfl <| LX.pure (Y.move rfl) rfl rfl rfl <| LX.pure (Y.lenStr rfl Fx.un9 rfl) rfl rfl rfl <| LX.pure (Y.ltN rfl rfl) rfl rfl rfl <| LX.sub (l' := [(0, _), (3, _), (7, _)]) ⟨rfl, rfl, rfl, trivial⟩ <| LX.next <| PX.thenN ?_
  refine CX.cond rfl (fun hb1 => ?_) (fun hb1 => ?_)
  · try simp at hb1
    have hjl : j < s.length := by omega
    refine CX.skip <| PX.thenN <| CX.seq <| CX.block <| CX.seq <| CX.region <| LX.pure (Y.move rfl) rfl rfl rfl <| LX.pure (Y.move rfl) rfl rfl rfl <| LX.pure (Y.index rfl rfl Fx.un9 (by omega)) rfl rfl rfl <| LX.pure (Y.ltN rfl rfl) rfl rfl rfl <| LX.pure (Y.move rfl) rfl rfl rfl <| LX.sub (l' := [(0, _), (3, _), (14, _)]) ⟨rfl, rfl, rfl, trivial⟩ ?_
    apply LX.joinOr 5 19 14 rfl
    · intro hb2
      have hb2p := hb2
      try simp at hb2p
      refine LX.gF rfl rfl rfl hb2 rfl rfl <| LX.gF rfl rfl rfl hb2 rfl rfl <| LX.gF rfl rfl rfl hb2 rfl rfl <| LX.gF rfl rfl rfl hb2 rfl rfl <| LX.pure (Y.pickT rfl hb2 rfl) rfl rfl rfl ?_
      exact LX.left ⟨rfl, rfl, rfl, rfl, trivial⟩
    · intro hb2
      have hb2p := hb2
      try simp at hb2p
      refine LX.gT rfl rfl rfl hb2 (Y.move rfl) rfl rfl <| LX.gT rfl rfl rfl hb2 (Y.move rfl) rfl rfl <| LX.gT rfl rfl rfl hb2 (Y.index rfl rfl Fx.un9 (by omega)) rfl rfl <| LX.gT rfl rfl rfl hb2 (Y.gtN rfl rfl) rfl rfl <| LX.pure (Y.pickF rfl hb2 rfl) rfl rfl rfl ?_
      exact LX.left ⟨rfl, rfl, rfl, rfl, trivial⟩
    refine LX.sub (l' := [(0, _), (3, _), (19, _)]) ⟨rfl, rfl, rfl, trivial⟩ <| LX.next <| PX.thenN ?_
    refine CX.cond rfl (fun hb3 => ?_) (fun hb3 => ?_)
    · try simp at hb3
      refine CX.seq <| CX.region <| LX.pure (Y.assign rfl) rfl rfl rfl <| LX.sub (l' := [(0, _), (2, _), (3, _)]) ⟨rfl, rfl, rfl, trivial⟩ <| LX.next <| PX.thenN <| CX.ret <| PX.blockR <| PX.thenR <| PX.thenR <| PX.blockR <| PX.thenR <| PX.ret1 (by simp) Tryz.results137 rfl ?_
      exact fun w hw => ⟨(), by rw [decide_eq_false (digits_no hjl (by omega))], hw⟩
    try simp at hb3
    refine CX.skip <| PX.blockN <| PX.thenN <| CX.region <| LX.pure (Y.move rfl) rfl rfl rfl <| LX.pure (Y.addN rfl rfl (by (simp only []; omega))) rfl rfl rfl <| LX.pure (Y.assign rfl) rfl rfl rfl <| LX.sub (l' := [(0, _), (3, _)]) ⟨rfl, rfl, trivial⟩ <| LX.next ?_
    exact PX.again (j + 1) (by show s.length - (j + 1) < s.length - j; omega) ⟨rfl, rfl, trivial⟩ (fun w hw => ⟨⟨by omega, fun i hi => by
      by_cases e : i = j
      · subst e; omega
      · exact hdg i (by omega)⟩, hw⟩)
  try simp at hb1
  have hall : ∀ i, i < s.length → 48 ≤ bt s i ∧ bt s i ≤ 57 := fun i hi => hdg i (by omega)
  refine CX.exit <| PX.thenE <| PX.thenE <| PX.blockE <| PX.thenN <| CX.seq <| CX.region <| LX.pure (Y.move rfl) rfl rfl rfl <| LX.pure (Y.neS rfl rfl) rfl rfl rfl <| LX.pure (Y.move rfl) rfl rfl rfl <| LX.sub (l' := [(0, _), (22, _)]) ⟨rfl, rfl, trivial⟩ ?_
  apply LX.joinAnd 4 26 22 rfl
  · intro hb4
    have hb4p := hb4
    try simp at hb4p
    refine LX.gT rfl rfl rfl hb4 (Y.move rfl) rfl rfl <| LX.gT rfl rfl rfl hb4 (Y.lenStr rfl Fx.un9 rfl) rfl rfl <| LX.gT rfl rfl rfl hb4 (Y.leN rfl rfl) rfl rfl <| LX.pure (Y.pickT rfl hb4 rfl) rfl rfl rfl ?_
    exact LX.left ⟨rfl, rfl, rfl, trivial⟩
  · intro hb4
    have hb4p := hb4
    try simp at hb4p
    refine LX.gF rfl rfl rfl hb4 rfl rfl <| LX.gF rfl rfl rfl hb4 rfl rfl <| LX.gF rfl rfl rfl hb4 rfl rfl <| LX.pure (Y.pickF rfl hb4 rfl) rfl rfl rfl ?_
    exact LX.left ⟨rfl, rfl, rfl, trivial⟩
  refine LX.pure (Y.move rfl) rfl rfl rfl <| LX.sub (l' := [(0, _), (27, _)]) ⟨rfl, rfl, trivial⟩ ?_
  apply LX.joinAnd 8 35 27 rfl
  · intro hb5
    have hb5p := hb5
    try simp at hb5p
    refine LX.gT rfl rfl rfl hb5 (Y.move rfl) rfl rfl <| LX.gT rfl rfl rfl hb5 (Y.eqS rfl rfl) rfl rfl <| LX.gT rfl rfl rfl hb5 (Y.move rfl) rfl rfl <| LX.sub (l' := [(0, _), (27, _), (30, _)]) ⟨rfl, rfl, rfl, trivial⟩ ?_
    apply LX.joinOr 4 34 30 rfl
    · intro hb6
      have hb6p := hb6
      try simp at hb6p
      refine LX.gF rfl rfl rfl hb6 rfl rfl <| LX.gF rfl rfl rfl hb6 rfl rfl <| LX.gF rfl rfl rfl hb6 rfl rfl <| LX.gT rfl rfl rfl hb5 (Y.pickT rfl hb6 rfl) rfl rfl ?_
      exact LX.left ⟨rfl, rfl, rfl, rfl, trivial⟩
    · intro hb6
      have hb6p := hb6
      try simp at hb6p
      refine LX.gT rfl rfl rfl hb6 (Y.move rfl) rfl rfl <| LX.gT rfl rfl rfl hb6 (Y.index rfl rfl Fx.un9 (by exact List.length_pos_iff.2 (by simp_all; done))) rfl rfl <| LX.gT rfl rfl rfl hb6 (Y.neN rfl rfl) rfl rfl <| LX.gT rfl rfl rfl hb5 (Y.pickF rfl hb6 rfl) rfl rfl ?_
      exact LX.left ⟨rfl, rfl, rfl, rfl, trivial⟩
    refine LX.pure (Y.pickT rfl hb5 rfl) rfl rfl rfl ?_
    exact LX.left ⟨rfl, rfl, rfl, trivial⟩
  · intro hb5
    have hb5p := hb5
    try simp at hb5p
    refine LX.gF rfl rfl rfl hb5 rfl rfl <| LX.gF rfl rfl rfl hb5 rfl rfl <| LX.gF rfl rfl rfl hb5 rfl rfl <| LX.gU rfl rfl rfl rfl rfl <| LX.gU rfl rfl rfl rfl rfl <| LX.gU rfl rfl rfl rfl rfl <| LX.gF rfl rfl rfl hb5 rfl rfl <| LX.pure (Y.pickF rfl hb5 rfl) rfl rfl rfl ?_
    exact LX.left ⟨rfl, rfl, rfl, trivial⟩
  refine LX.pure (Y.assign rfl) rfl rfl rfl <| LX.sub (l' := [(2, _)]) ⟨rfl, trivial⟩ <| LX.next <| PX.thenN <| CX.ret <| PX.ret1 (by simp) Tryz.results137 rfl ?_
  exact fun w hw => ⟨(), congrArg (fun z => Ending.returned (Value.bool z)) (digits_b2 hall), hw⟩
theorem refDigits_q {W : World → Prop} [Stab W] (s : List UInt8) (hs : s.length ≤ 9223372036854775807) : FnQ Tryz.prog 137 #[str s] W (.bool (decide (digitsOk s))) := FnC.quiet fun w _ => refDigits_c s hs
end Go.Proofs.YtfbenelagdcdgaaGreatDoor
