/-
  Proved here: names; who stands in a list.
-/
import Derived.Test.YtickdimknfeddaaGreatDoorTrA
import Derived.Test.YtickdimknfeddaaGreatDoorNamP
import Derived.Test.YtickdimknfeddaaGreatDoorTrQ
import Derived.Test.YtickdimknfeddaaGreatDoorTrV
import Derived.Test.YtickdimknfeddaaGreatDoorMg
set_option linter.unusedSimpArgs false
namespace Go.Proofs.YtickdimknfeddaaGreatDoor
open Go.SX Go.RowKit Go.Tr Go.Lex
namespace Fy
theorem en108 : Enters Tryz.prog 108 := Enters.of Tryz.func108 (by kernel_rfl) (by kernel_rfl)
theorem en109 : Enters Tryz.prog 109 := Enters.of Tryz.func109 (by kernel_rfl) (by kernel_rfl)
theorem en110 : Enters Tryz.prog 110 := Enters.of Tryz.func110 (by kernel_rfl) (by kernel_rfl)
theorem en111 : Enters Tryz.prog 111 := Enters.of Tryz.func111 (by kernel_rfl) (by kernel_rfl)
theorem en140 : Enters Tryz.prog 140 := Enters.of Tryz.func140 (by kernel_rfl) (by kernel_rfl)
theorem en85 : Enters Tryz.prog 85 := Enters.of Tryz.func85 (by kernel_rfl) (by kernel_rfl)
theorem one4 : One Tryz.prog 4 := fun w => by kernel_rfl
theorem one9 : One Tryz.prog 9 := fun w => by kernel_rfl
theorem sz4 : SizeIs Tryz.prog 4 1 := fun w => by kernel_rfl
theorem sz9 : SizeIs Tryz.prog 9 1 := fun w => by kernel_rfl
theorem un128 : Tryz.prog.underlying 128 = some (.slice 9) := by kernel_rfl
theorem un4 : Tryz.prog.underlying 4 = some .bool := by kernel_rfl
theorem un82 : Tryz.prog.underlying 82 = some (.slice 4) := by kernel_rfl
end Fy
theorem digit_c (W : World → Prop) (c : Nat) : FnC Tryz.prog 109 #[.int .u8 (c : Int)] W (fun _ : Unit => .bool (isDig c)) (fun _ => W) := by
  refine FnC.of_body (fn := Tryz.f109) [(0, _)] Tryz.func109 rfl Tryz.ntmps109 rfl ⟨rfl, trivial⟩ ?_
  refine CX.seq <| CX.region <| LX.pure (Y.assign rfl) rfl rfl rfl <| LX.sub (l' := [(0, _), (2, _)]) ⟨rfl, rfl, trivial⟩ <| LX.next <| PX.thenN <| CX.seq <| CX.region <| LX.pure (Y.move rfl) rfl rfl rfl <| LX.pure (Y.geN rfl rfl) rfl rfl rfl <| LX.pure (Y.move rfl) rfl rfl rfl <| LX.sub (l' := [(0, _), (2, _), (5, _)]) ⟨rfl, rfl, rfl, trivial⟩ ?_
  apply LX.joinAnd 3 8 5 rfl
  · intro hb1
    refine LX.gT rfl rfl rfl hb1 (Y.move rfl) rfl rfl <| LX.gT rfl rfl rfl hb1 (Y.leN rfl rfl) rfl rfl <| LX.pure (Y.pickT rfl hb1 rfl) rfl rfl rfl ?_
    exact LX.left ⟨rfl, rfl, rfl, rfl, trivial⟩
  · intro hb1
    refine LX.gF rfl rfl rfl hb1 rfl rfl <| LX.gF rfl rfl rfl hb1 rfl rfl <| LX.pure (Y.pickF rfl hb1 rfl) rfl rfl rfl ?_
    exact LX.left ⟨rfl, rfl, rfl, rfl, trivial⟩
  refine LX.pure (Y.assign rfl) rfl rfl rfl <| LX.sub (l' := [(2, _)]) ⟨rfl, trivial⟩ <| LX.next <| PX.thenN <| CX.ret <| PX.ret1 (by simp) Tryz.results109 rfl ?_
  exact fun w hw => ⟨(), rfl, hw⟩
theorem digit_q (W : World → Prop) (c : Nat) : FnQ Tryz.prog 109 #[.int .u8 (c : Int)] W (.bool (isDig c)) := fun w _ => ((digit_c (fun w' => w' = w) c) w rfl).mono fun e w' ⟨_, he, hw⟩ => ⟨he, by rw [hw]; exact Below.refl _ _⟩
theorem letter_c (W : World → Prop) (c : Nat) : FnC Tryz.prog 108 #[.int .u8 (c : Int)] W (fun _ : Unit => .bool (isLet c)) (fun _ => W) := by
  refine FnC.of_body (fn := Tryz.f108) [(0, _)] Tryz.func108 rfl Tryz.ntmps108 rfl ⟨rfl, trivial⟩ ?_
  refine CX.seq <| CX.region <| LX.pure (Y.assign rfl) rfl rfl rfl <| LX.sub (l' := [(0, _), (2, _)]) ⟨rfl, rfl, trivial⟩ <| LX.next <| PX.thenN <| CX.seq <| CX.region <| LX.pure (Y.move rfl) rfl rfl rfl <| LX.pure (Y.geN rfl rfl) rfl rfl rfl <| LX.pure (Y.move rfl) rfl rfl rfl <| LX.sub (l' := [(0, _), (2, _), (5, _)]) ⟨rfl, rfl, rfl, trivial⟩ ?_
  apply LX.joinAnd 3 8 5 rfl
  · intro hb1
    refine LX.gT rfl rfl rfl hb1 (Y.move rfl) rfl rfl <| LX.gT rfl rfl rfl hb1 (Y.leN rfl rfl) rfl rfl <| LX.pure (Y.pickT rfl hb1 rfl) rfl rfl rfl ?_
    exact LX.left ⟨rfl, rfl, rfl, rfl, trivial⟩
  · intro hb1
    refine LX.gF rfl rfl rfl hb1 rfl rfl <| LX.gF rfl rfl rfl hb1 rfl rfl <| LX.pure (Y.pickF rfl hb1 rfl) rfl rfl rfl ?_
    exact LX.left ⟨rfl, rfl, rfl, rfl, trivial⟩
  refine LX.pure (Y.move rfl) rfl rfl rfl <| LX.sub (l' := [(0, _), (2, _), (9, _)]) ⟨rfl, rfl, rfl, trivial⟩ ?_
  apply LX.joinOr 7 16 9 rfl
  · intro hb2
    refine LX.gF rfl rfl rfl hb2 rfl rfl <| LX.gF rfl rfl rfl hb2 rfl rfl <| LX.gF rfl rfl rfl hb2 rfl rfl <| LX.gU rfl rfl rfl rfl rfl <| LX.gU rfl rfl rfl rfl rfl <| LX.gF rfl rfl rfl hb2 rfl rfl <| LX.pure (Y.pickT rfl hb2 rfl) rfl rfl rfl ?_
    exact LX.left ⟨rfl, rfl, rfl, rfl, trivial⟩
  · intro hb2
    refine LX.gT rfl rfl rfl hb2 (Y.move rfl) rfl rfl <| LX.gT rfl rfl rfl hb2 (Y.geN rfl rfl) rfl rfl <| LX.gT rfl rfl rfl hb2 (Y.move rfl) rfl rfl <| LX.sub (l' := [(0, _), (2, _), (9, _), (12, _)]) ⟨rfl, rfl, rfl, rfl, trivial⟩ ?_
    apply LX.joinAnd 3 15 12 rfl
    · intro hb3
      refine LX.gT rfl rfl rfl hb3 (Y.move rfl) rfl rfl <| LX.gT rfl rfl rfl hb3 (Y.leN rfl rfl) rfl rfl <| LX.gT rfl rfl rfl hb2 (Y.pickT rfl hb3 rfl) rfl rfl ?_
      exact LX.left ⟨rfl, rfl, rfl, rfl, rfl, trivial⟩
    · intro hb3
      refine LX.gF rfl rfl rfl hb3 rfl rfl <| LX.gF rfl rfl rfl hb3 rfl rfl <| LX.gT rfl rfl rfl hb2 (Y.pickF rfl hb3 rfl) rfl rfl ?_
      exact LX.left ⟨rfl, rfl, rfl, rfl, rfl, trivial⟩
    refine LX.pure (Y.pickF rfl hb2 rfl) rfl rfl rfl ?_
    exact LX.left ⟨rfl, rfl, rfl, rfl, trivial⟩
  refine LX.pure (Y.move rfl) rfl rfl rfl <| LX.sub (l' := [(0, _), (2, _), (17, _)]) ⟨rfl, rfl, rfl, trivial⟩ ?_
  apply LX.joinOr 3 20 17 rfl
  · intro hb4
    refine LX.gF rfl rfl rfl hb4 rfl rfl <| LX.gF rfl rfl rfl hb4 rfl rfl <| LX.pure (Y.pickT rfl hb4 rfl) rfl rfl rfl ?_
    exact LX.left ⟨rfl, rfl, rfl, rfl, trivial⟩
  · intro hb4
    refine LX.gT rfl rfl rfl hb4 (Y.move rfl) rfl rfl <| LX.gT rfl rfl rfl hb4 (Y.eqN rfl rfl) rfl rfl <| LX.pure (Y.pickF rfl hb4 rfl) rfl rfl rfl ?_
    exact LX.left ⟨rfl, rfl, rfl, rfl, trivial⟩
  refine LX.pure (Y.assign rfl) rfl rfl rfl <| LX.sub (l' := [(2, _)]) ⟨rfl, trivial⟩ <| LX.next <| PX.thenN <| CX.ret <| PX.ret1 (by simp) Tryz.results108 rfl ?_
  exact fun w hw => ⟨(), rfl, hw⟩
theorem letter_q (W : World → Prop) (c : Nat) : FnQ Tryz.prog 108 #[.int .u8 (c : Int)] W (.bool (isLet c)) := fun w _ => ((letter_c (fun w' => w' = w) c) w rfl).mono fun e w' ⟨_, he, hw⟩ => ⟨he, by rw [hw]; exact Below.refl _ _⟩
theorem Str_c {w0 : World} {base : Nat} {av : Option Addr} (ck : Nat) {ss : List (List UInt8)} (hl : ss.length ≤ 9223372036854775807) (s : (List UInt8))  (hk : SlAt 1 strA (Lies w0 base) av ss) : FnC Tryz.prog 140 #[.slice av ss.length ck, str s] (WA w0 base []) (fun _ : Unit => .int .i64 (idxI s ss 0)) (fun _ => WA w0 base []) := by
  refine FnC.of_body (fn := Tryz.f140) [(0, _), (1, _)] Tryz.func140 rfl Tryz.ntmps140 rfl ⟨rfl, rfl, trivial⟩ ?_
  refine CX.seq <| CX.region <| LX.pure (Y.assign rfl) rfl rfl rfl <| LX.sub (l' := [(0, _), (1, _), (4, _)]) ⟨rfl, rfl, rfl, trivial⟩ <| LX.next <| PX.thenN <| CX.seq <| CX.seq <| CX.region <| LX.pure (Y.move rfl) rfl rfl rfl <| LX.pure (Y.lenSl rfl Fy.un128 rfl) rfl rfl rfl <| LX.pure (Y.move rfl) rfl rfl rfl <| LX.sub (l' := [(0, _), (1, _), (4, _), (7, _), (8, _)]) ⟨rfl, rfl, rfl, rfl, rfl, trivial⟩ <| LX.next <| PX.thenN <| CX.block <| CX.loop (fun j : Nat => [(0, .slice av ss.length ck), (1, str s), (7, .int .i64 (ss.length : Int)), (8, .int .i64 (j : Int))]) (fun (j : Nat) w => (j ≤ ss.length ∧ idxI s (ss.drop j) j = idxI s ss 0) ∧ WA w0 base [] w) (fun j => ss.length - j) 0 ⟨rfl, rfl, rfl, rfl, trivial⟩ (fun w hw => ⟨⟨Nat.zero_le _, rfl⟩, hw⟩) ?_
  intro j
  refine CX.have fun ⟨hj0, hall⟩ => ?_
  try dsimp only at hj0 hall ⊢
  refine CX.seq <| CX.region <| LX.pure (Y.ltN rfl rfl) rfl rfl rfl <| LX.sub (l' := [(0, _), (1, _), (7, _), (8, _), (9, _)]) ⟨rfl, rfl, rfl, rfl, rfl, trivial⟩ <| LX.next <| PX.thenN <| CX.seq ?_
  refine CX.cond rfl (fun hb1 => ?_) (fun hb1 => ?_)
  · try simp at hb1
    have hj : j < ss.length := by omega
    obtain ⟨a0, cs0, hav0, hL0⟩ := strA_at hk hj
    refine CX.skip <| PX.thenN <| CX.seq <| CX.block <| CX.seq <| CX.region <| LX.pure (Y.move rfl) rfl rfl rfl <| LX.pure (Y.assign rfl) rfl rfl rfl <| LX.sub (l' := [(0, _), (1, _), (5, _), (7, _), (8, _)]) ⟨rfl, rfl, rfl, rfl, rfl, trivial⟩ <| LX.next <| PX.thenN <| CX.seq <| CX.region <| LX.pure (Y.move rfl) rfl rfl rfl <| LX.pure (Y.move rfl) rfl rfl rfl <| LX.pure (Y.move rfl) rfl rfl rfl <| LX.pure (Y.idxZ Fy.un128 Fy.sz9 rfl rfl hav0 (j := j) rfl hj) rfl rfl rfl <| LX.pure (Y.ldO1 Fy.one9 rfl hL0) rfl rfl rfl <| LX.pure (Y.eqS rfl rfl) rfl rfl rfl <| LX.sub (l' := [(0, _), (1, _), (5, _), (7, _), (8, _), (16, _)]) ⟨rfl, rfl, rfl, rfl, rfl, rfl, trivial⟩ <| LX.next <| PX.thenN ?_
    refine CX.cond rfl (fun hb2 => ?_) (fun hb2 => ?_)
    · try simp at hb2
      have heq : s = ss.getD j [] := by assumption
      refine CX.seq <| CX.region <| LX.pure (Y.move rfl) rfl rfl rfl <| LX.pure (Y.assign rfl) rfl rfl rfl <| LX.sub (l' := [(0, _), (1, _), (4, _), (7, _), (8, _)]) ⟨rfl, rfl, rfl, rfl, rfl, trivial⟩ <| LX.next <| PX.thenN <| CX.ret <| PX.blockR <| PX.thenR <| PX.thenR <| PX.blockR <| PX.thenR <| PX.ret1 (by simp) Tryz.results140 rfl ?_
      exact fun w hw => ⟨(), by rw [← hall, idxI_hit hj heq], hw⟩
    try simp at hb2
    have hne : s ≠ ss.getD j [] := by assumption
    refine CX.skip <| PX.blockN <| PX.thenN <| CX.region <| LX.pure (Y.addN rfl rfl (by (simp only []; omega))) rfl rfl rfl <| LX.pure (Y.move rfl) rfl rfl rfl <| LX.sub (l' := [(0, _), (1, _), (7, _), (8, _)]) ⟨rfl, rfl, rfl, rfl, trivial⟩ <| LX.next ?_
    exact PX.again (μ := fun j => ss.length - j) (i := j) (j + 1) (by show ss.length - (j + 1) < ss.length - j; omega) ⟨rfl, rfl, rfl, rfl, trivial⟩ (fun w hw => ⟨⟨by omega, by rw [← hall, idxI_next hj hne]⟩, hw⟩)
  try simp at hb1
  have hje : ss.length ≤ j := by omega
  refine CX.exit <| PX.thenE <| PX.thenE <| PX.blockE <| PX.thenN <| CX.seq <| CX.region <| LX.pure (Y.assign rfl) rfl rfl rfl <| LX.sub (l' := [(4, _)]) ⟨rfl, trivial⟩ <| LX.next <| PX.thenN <| CX.ret <| PX.ret1 (by simp) Tryz.results140 rfl ?_
  exact fun w hw => ⟨(), by rw [← hall, idxI_end hje], hw⟩
theorem Str_q {W : World → Prop} [Stab W] {av : Option Addr} (ck : Nat) {ss : List (List UInt8)} (hl : ss.length ≤ 9223372036854775807) (s : (List UInt8))  (hk : ∀ w, W w → SlAt 1 strA (Lies w w.heap.size) av ss) : FnQ Tryz.prog 140 #[.slice av ss.length ck, str s] W (.int .i64 (idxI s ss 0)) := FnC.quiet fun w hw => Str_c ck hl s (hk w hw)
theorem hasStr_c {w0 : World} {base : Nat} {av : Option Addr} (ck : Nat) {ss : List (List UInt8)} (hl : ss.length ≤ 9223372036854775807) (s : (List UInt8))  (hk : SlAt 1 strA (Lies w0 base) av ss) : FnC Tryz.prog 110 #[.slice av ss.length ck, str s] (WA w0 base []) (fun _ : Unit => .bool (decide (s ∈ ss))) (fun _ => WA w0 base []) := by
  refine FnC.of_body (fn := Tryz.f110) [(0, _), (1, _)] Tryz.func110 rfl Tryz.ntmps110 rfl ⟨rfl, rfl, trivial⟩ ?_
  refine CX.seq <| CX.region <| LX.pure (Y.assign rfl) rfl rfl rfl <| LX.sub (l' := [(0, _), (1, _), (4, _)]) ⟨rfl, rfl, rfl, trivial⟩ <| LX.next <| PX.thenN <| CX.seq <| CX.region <| LX.pure (Y.move rfl) rfl rfl rfl <| LX.pure (Y.move rfl) rfl rfl rfl <| LX.callQ (Str_q ck hl s (fun w hw => hk.push hw)) Fy.en140 rfl rfl rfl rfl rfl <| LX.pure (Y.geI rfl rfl) rfl rfl rfl <| LX.pure (Y.assign rfl) rfl rfl rfl <| LX.sub (l' := [(4, _)]) ⟨rfl, trivial⟩ <| LX.next <| PX.thenN <| CX.ret <| PX.ret1 (by simp) Tryz.results110 rfl ?_
  exact fun w hw => ⟨(), by rw [decide_eq_decide.2 (idxI_ge0 s ss 0)], hw⟩
theorem hasStr_q {W : World → Prop} [Stab W] {av : Option Addr} (ck : Nat) {ss : List (List UInt8)} (hl : ss.length ≤ 9223372036854775807) (s : (List UInt8))  (hk : ∀ w, W w → SlAt 1 strA (Lies w w.heap.size) av ss) : FnQ Tryz.prog 110 #[.slice av ss.length ck, str s] W (.bool (decide (s ∈ ss))) := FnC.quiet fun w hw => hasStr_c ck hl s (hk w hw)
theorem Bol_c {w0 : World} {base : Nat} {av : Option Addr} (ck : Nat) {ss : List Bool} (hl : ss.length ≤ 9223372036854775807) (s : Bool)  (hk : SlAt 1 bolA (Lies w0 base) av ss) : FnC Tryz.prog 85 #[.slice av ss.length ck, .bool s] (WA w0 base []) (fun _ : Unit => .int .i64 (idxB s ss 0)) (fun _ => WA w0 base []) := by
  refine FnC.of_body (fn := Tryz.f85) [(0, _), (1, _)] Tryz.func85 rfl Tryz.ntmps85 rfl ⟨rfl, rfl, trivial⟩ ?_
  refine CX.seq <| CX.region <| LX.pure (Y.assign rfl) rfl rfl rfl <| LX.sub (l' := [(0, _), (1, _), (4, _)]) ⟨rfl, rfl, rfl, trivial⟩ <| LX.next <| PX.thenN <| CX.seq <| CX.seq <| CX.region <| LX.pure (Y.move rfl) rfl rfl rfl <| LX.pure (Y.lenSl rfl Fy.un82 rfl) rfl rfl rfl <| LX.pure (Y.move rfl) rfl rfl rfl <| LX.sub (l' := [(0, _), (1, _), (4, _), (7, _), (8, _)]) ⟨rfl, rfl, rfl, rfl, rfl, trivial⟩ <| LX.next <| PX.thenN <| CX.block <| CX.loop (fun j : Nat => [(0, .slice av ss.length ck), (1, .bool s), (7, .int .i64 (ss.length : Int)), (8, .int .i64 (j : Int))]) (fun (j : Nat) w => (j ≤ ss.length ∧ idxB s (ss.drop j) j = idxB s ss 0) ∧ WA w0 base [] w) (fun j => ss.length - j) 0 ⟨rfl, rfl, rfl, rfl, trivial⟩ (fun w hw => ⟨⟨Nat.zero_le _, rfl⟩, hw⟩) ?_
  intro j
  refine CX.have fun ⟨hj0, hall⟩ => ?_
  try dsimp only at hj0 hall ⊢
  refine CX.seq <| CX.region <| LX.pure (Y.ltN rfl rfl) rfl rfl rfl <| LX.sub (l' := [(0, _), (1, _), (7, _), (8, _), (9, _)]) ⟨rfl, rfl, rfl, rfl, rfl, trivial⟩ <| LX.next <| PX.thenN <| CX.seq ?_
  refine CX.cond rfl (fun hb1 => ?_) (fun hb1 => ?_)
  · try simp at hb1
    have hj : j < ss.length := by omega
    obtain ⟨a0, cs0, hav0, hL0⟩ := bolA_at hk hj
    refine CX.skip <| PX.thenN <| CX.seq <| CX.block <| CX.seq <| CX.region <| LX.pure (Y.move rfl) rfl rfl rfl <| LX.pure (Y.assign rfl) rfl rfl rfl <| LX.sub (l' := [(0, _), (1, _), (5, _), (7, _), (8, _)]) ⟨rfl, rfl, rfl, rfl, rfl, trivial⟩ <| LX.next <| PX.thenN <| CX.seq <| CX.region <| LX.pure (Y.move rfl) rfl rfl rfl <| LX.pure (Y.move rfl) rfl rfl rfl <| LX.pure (Y.move rfl) rfl rfl rfl <| LX.pure (Y.idxZ Fy.un82 Fy.sz4 rfl rfl hav0 (j := j) rfl hj) rfl rfl rfl <| LX.pure (Y.ldO1 Fy.one4 rfl hL0) rfl rfl rfl <| LX.pure (Y.eqB rfl rfl Fy.un4) rfl rfl rfl <| LX.sub (l' := [(0, _), (1, _), (5, _), (7, _), (8, _), (16, _)]) ⟨rfl, rfl, rfl, rfl, rfl, rfl, trivial⟩ <| LX.next <| PX.thenN ?_
    refine CX.cond rfl (fun hb2 => ?_) (fun hb2 => ?_)
    · try simp at hb2
      have heq : s = ss.getD j false := by assumption
      refine CX.seq <| CX.region <| LX.pure (Y.move rfl) rfl rfl rfl <| LX.pure (Y.assign rfl) rfl rfl rfl <| LX.sub (l' := [(0, _), (1, _), (4, _), (7, _), (8, _)]) ⟨rfl, rfl, rfl, rfl, rfl, trivial⟩ <| LX.next <| PX.thenN <| CX.ret <| PX.blockR <| PX.thenR <| PX.thenR <| PX.blockR <| PX.thenR <| PX.ret1 (by simp) Tryz.results85 rfl ?_
      exact fun w hw => ⟨(), by rw [← hall, idxB_hit hj heq], hw⟩
    try simp at hb2
    have hne : s ≠ ss.getD j false := by assumption
    refine CX.skip <| PX.blockN <| PX.thenN <| CX.region <| LX.pure (Y.addN rfl rfl (by (simp only []; omega))) rfl rfl rfl <| LX.pure (Y.move rfl) rfl rfl rfl <| LX.sub (l' := [(0, _), (1, _), (7, _), (8, _)]) ⟨rfl, rfl, rfl, rfl, trivial⟩ <| LX.next ?_
    exact PX.again (μ := fun j => ss.length - j) (i := j) (j + 1) (by show ss.length - (j + 1) < ss.length - j; omega) ⟨rfl, rfl, rfl, rfl, trivial⟩ (fun w hw => ⟨⟨by omega, by rw [← hall, idxB_next hj hne]⟩, hw⟩)
  try simp at hb1
  have hje : ss.length ≤ j := by omega
  refine CX.exit <| PX.thenE <| PX.thenE <| PX.blockE <| PX.thenN <| CX.seq <| CX.region <| LX.pure (Y.assign rfl) rfl rfl rfl <| LX.sub (l' := [(4, _)]) ⟨rfl, trivial⟩ <| LX.next <| PX.thenN <| CX.ret <| PX.ret1 (by simp) Tryz.results85 rfl ?_
  exact fun w hw => ⟨(), by rw [← hall, idxB_end hje], hw⟩
theorem Bol_q {W : World → Prop} [Stab W] {av : Option Addr} (ck : Nat) {ss : List Bool} (hl : ss.length ≤ 9223372036854775807) (s : Bool)  (hk : ∀ w, W w → SlAt 1 bolA (Lies w w.heap.size) av ss) : FnQ Tryz.prog 85 #[.slice av ss.length ck, .bool s] W (.int .i64 (idxB s ss 0)) := FnC.quiet fun w hw => Bol_c ck hl s (hk w hw)
theorem hasBol_c {w0 : World} {base : Nat} {av : Option Addr} (ck : Nat) {ss : List Bool} (hl : ss.length ≤ 9223372036854775807) (s : Bool)  (hk : SlAt 1 bolA (Lies w0 base) av ss) : FnC Tryz.prog 40 #[.slice av ss.length ck, .bool s] (WA w0 base []) (fun _ : Unit => .bool (decide (s ∈ ss))) (fun _ => WA w0 base []) := by
  refine FnC.of_body (fn := Tryz.f40) [(0, _), (1, _)] Tryz.func40 rfl Tryz.ntmps40 rfl ⟨rfl, rfl, trivial⟩ ?_
  refine CX.seq <| CX.region <| LX.pure (Y.assign rfl) rfl rfl rfl <| LX.sub (l' := [(0, _), (1, _), (4, _)]) ⟨rfl, rfl, rfl, trivial⟩ <| LX.next <| PX.thenN <| CX.seq <| CX.region <| LX.pure (Y.move rfl) rfl rfl rfl <| LX.pure (Y.move rfl) rfl rfl rfl <| LX.callQ (Bol_q ck hl s (fun w hw => hk.push hw)) Fy.en85 rfl rfl rfl rfl rfl <| LX.pure (Y.geI rfl rfl) rfl rfl rfl <| LX.pure (Y.assign rfl) rfl rfl rfl <| LX.sub (l' := [(4, _)]) ⟨rfl, trivial⟩ <| LX.next <| PX.thenN <| CX.ret <| PX.ret1 (by simp) Tryz.results40 rfl ?_
  exact fun w hw => ⟨(), by rw [decide_eq_decide.2 (idxB_ge0 s ss 0)], hw⟩
theorem hasBol_q {W : World → Prop} [Stab W] {av : Option Addr} (ck : Nat) {ss : List Bool} (hl : ss.length ≤ 9223372036854775807) (s : Bool)  (hk : ∀ w, W w → SlAt 1 bolA (Lies w w.heap.size) av ss) : FnQ Tryz.prog 40 #[.slice av ss.length ck, .bool s] W (.bool (decide (s ∈ ss))) := FnC.quiet fun w hw => hasBol_c ck hl s (hk w hw)
theorem words_c {w0 : World} {base : Nat} {fr : List It} : FnC Tryz.prog 111 #[] (WA w0 base fr) (fun b : Nat => .slice (some ⟨b, 0, none⟩) 17 17) (fun b => WA w0 base (.row (some b) 17 17 9 1 (wordsList.map str) :: fr)) := by
  refine FnC.of_body (fn := Tryz.f111) [] Tryz.func111 rfl Tryz.ntmps111 rfl trivial ?_
  refine CX.seq <| CX.region <| LX.pure (Y.assign rfl) rfl rfl rfl <| LX.sub (l' := [(0, _)]) ⟨rfl, trivial⟩ <| LX.next <| PX.thenN <| CX.seq <| CX.region <| LX.buildSlice (e := 9) (size := 1) rfl rfl (fun _ => by kernel_rfl) rfl (by decide) rfl rfl rfl ?_
  intro b
  refine LX.pure (Y.assign rfl) rfl rfl rfl <| LX.sub (l' := [(0, _)]) ⟨rfl, trivial⟩ <| LX.next <| PX.thenN <| CX.ret <| PX.ret1 (by simp) Tryz.results111 rfl ?_
  exact fun w hw => ⟨b, rfl, hw⟩
theorem name_c {w0 : World} {base : Nat} {fr : List It} (s : List UInt8) (hs : s.length ≤ 9223372036854775807) : FnC Tryz.prog 82 #[str s] (WA w0 base fr) (fun _ : Unit => .bool (nameB s)) (fun _ => WA w0 base fr) := by
  refine FnC.of_body (fn := Tryz.f82) [(0, _)] Tryz.func82 rfl Tryz.ntmps82 rfl ⟨rfl, trivial⟩ ?_
  refine CX.seq <| CX.region <| LX.pure (Y.assign rfl) rfl rfl rfl <| LX.sub (l' := [(0, _), (2, _)]) ⟨rfl, rfl, trivial⟩ <| LX.next <| PX.thenN <| CX.seq <| CX.seq <| CX.region <| LX.pure (Y.move rfl) rfl rfl rfl <| LX.pure (Y.lenStr rfl Fx.un9 rfl) rfl rfl rfl <| LX.pure (Y.move rfl) rfl rfl rfl <| LX.sub (l' := [(0, _), (2, _), (5, _), (6, _)]) ⟨rfl, rfl, rfl, rfl, trivial⟩ <| LX.next <| PX.thenN <| CX.block <| CX.loop (fun j : Nat => [(0, str s), (5, .int .i64 (s.length : Int)), (6, .int .i64 (j : Int))]) (fun (j : Nat) w => (j ≤ s.length ∧ ∀ i, i < j → okN s i) ∧ WA w0 base fr w) (fun j => s.length - j) 0 ⟨rfl, rfl, rfl, trivial⟩ (fun w hw => ⟨⟨Nat.zero_le _, fun i hi => absurd hi (Nat.not_lt_zero i)⟩, hw⟩) ?_
  intro j
  refine CX.have fun ⟨hj0, hok⟩ => ?_
  try dsimp only at hj0 hok ⊢
  refine CX.seq <| CX.region <| LX.pure (Y.ltN rfl rfl) rfl rfl rfl <| LX.sub (l' := [(0, _), (5, _), (6, _), (7, _)]) ⟨rfl, rfl, rfl, rfl, trivial⟩ <| LX.next <| PX.thenN <| CX.seq ?_
  refine CX.cond rfl (fun hb1 => ?_) (fun hb1 => ?_)
  · try simp at hb1
    have hj : j < s.length := by omega
    refine CX.skip <| PX.thenN <| CX.seq <| CX.block <| CX.seq <| CX.region <| LX.pure (Y.move rfl) rfl rfl rfl <| LX.pure (Y.assign rfl) rfl rfl rfl <| LX.sub (l' := [(0, _), (3, _), (5, _), (6, _)]) ⟨rfl, rfl, rfl, rfl, trivial⟩ <| LX.next <| PX.thenN <| CX.seq <| CX.region <| LX.pure (Y.move rfl) rfl rfl rfl <| LX.pure (Y.move rfl) rfl rfl rfl <| LX.pure (Y.index rfl rfl Fx.un9 (by omega)) rfl rfl rfl <| LX.callQ (letter_q _ _) Fy.en108 rfl rfl rfl rfl rfl <| LX.pure (Y.not rfl) rfl rfl rfl <| LX.pure (Y.move rfl) rfl rfl rfl <| LX.sub (l' := [(0, _), (3, _), (5, _), (6, _), (14, _)]) ⟨rfl, rfl, rfl, rfl, rfl, trivial⟩ ?_
    apply LX.joinAnd 10 24 14 rfl
    · intro hb2
      refine LX.gT rfl rfl rfl hb2 (Y.move rfl) rfl rfl <| LX.gT rfl rfl rfl hb2 (Y.eqN rfl rfl) rfl rfl <| LX.gT rfl rfl rfl hb2 (Y.move rfl) rfl rfl <| LX.sub (l' := [(0, _), (3, _), (5, _), (6, _), (14, _), (17, _)]) ⟨rfl, rfl, rfl, rfl, rfl, rfl, trivial⟩ ?_
      apply LX.joinOr 6 23 17 rfl
      · intro hb3
        refine LX.gF rfl rfl rfl hb3 rfl rfl <| LX.gF rfl rfl rfl hb3 rfl rfl <| LX.gF rfl rfl rfl hb3 rfl rfl <| LX.gF rfl rfl rfl hb3 rfl rfl <| LX.gF rfl rfl rfl hb3 rfl rfl <| LX.gT rfl rfl rfl hb2 (Y.pickT rfl hb3 rfl) rfl rfl ?_
        exact LX.left ⟨rfl, rfl, rfl, rfl, rfl, rfl, rfl, trivial⟩
      · intro hb3
        have hb3p := hb3
        try simp at hb3p
        refine LX.gT rfl rfl rfl hb3 (Y.move rfl) rfl rfl <| LX.gT rfl rfl rfl hb3 (Y.move rfl) rfl rfl <| LX.gT rfl rfl rfl hb3 (Y.index rfl rfl Fx.un9 (by omega)) rfl rfl <| LX.callQT rfl rfl rfl hb3 (digit_q _ _) Fy.en109 rfl rfl rfl rfl <| LX.gT rfl rfl rfl hb3 (Y.not rfl) rfl rfl <| LX.gT rfl rfl rfl hb2 (Y.pickF rfl hb3 rfl) rfl rfl ?_
        exact LX.left ⟨rfl, rfl, rfl, rfl, rfl, rfl, rfl, trivial⟩
      refine LX.pure (Y.pickT rfl hb2 rfl) rfl rfl rfl ?_
      exact LX.left ⟨rfl, rfl, rfl, rfl, rfl, rfl, trivial⟩
    · intro hb2
      refine LX.gF rfl rfl rfl hb2 rfl rfl <| LX.gF rfl rfl rfl hb2 rfl rfl <| LX.gF rfl rfl rfl hb2 rfl rfl <| LX.gU rfl rfl rfl rfl rfl <| LX.gU rfl rfl rfl rfl rfl <| LX.gU rfl rfl rfl rfl rfl <| LX.gU rfl rfl rfl rfl rfl <| LX.gU rfl rfl rfl rfl rfl <| LX.gF rfl rfl rfl hb2 rfl rfl <| LX.pure (Y.pickF rfl hb2 rfl) rfl rfl rfl ?_
      exact LX.left ⟨rfl, rfl, rfl, rfl, rfl, rfl, trivial⟩
    refine LX.sub (l' := [(0, _), (5, _), (6, _), (24, _)]) ⟨rfl, rfl, rfl, rfl, trivial⟩ <| LX.next <| PX.thenN ?_
    refine CX.cond rfl (fun hb4 => ?_) (fun hb4 => ?_)
    · try simp at hb4
      have hnk : ¬ okN s j := by unfold okN; rintro (h | ⟨h0, h⟩) <;> simp_all
      refine CX.seq <| CX.region <| LX.pure (Y.assign rfl) rfl rfl rfl <| LX.sub (l' := [(0, _), (2, _), (5, _), (6, _)]) ⟨rfl, rfl, rfl, rfl, trivial⟩ <| LX.next <| PX.thenN <| CX.ret <| PX.blockR <| PX.thenR <| PX.thenR <| PX.blockR <| PX.thenR <| PX.ret1 (by simp) Tryz.results82 rfl ?_
      exact fun w hw => ⟨(), by unfold nameB; rw [plainB_no hj hnk, Bool.false_and], hw⟩
    try simp at hb4
    have hkk : okN s j := (Bool.eq_false_or_eq_true (isLet (bt s j))).elim (fun hl => .inl hl) (fun hl => .inr ⟨by have := (hb4 hl).1; omega, (hb4 hl).2⟩)
    refine CX.skip <| PX.blockN <| PX.thenN <| CX.region <| LX.pure (Y.addN rfl rfl (by (simp only []; omega))) rfl rfl rfl <| LX.pure (Y.move rfl) rfl rfl rfl <| LX.sub (l' := [(0, _), (5, _), (6, _)]) ⟨rfl, rfl, rfl, trivial⟩ <| LX.next ?_
    exact PX.again (j + 1) (by show s.length - (j + 1) < s.length - j; omega) ⟨rfl, rfl, rfl, trivial⟩ (fun w hw => ⟨⟨by omega, okN_next hok hkk⟩, hw⟩)
  try simp at hb1
  have hje : j = s.length := by omega
  subst hje
  refine CX.exit <| PX.thenE <| PX.thenE <| PX.blockE <| PX.thenN <| CX.seq <| CX.region <| LX.pure (Y.move rfl) rfl rfl rfl <| LX.pure (Y.neS rfl rfl) rfl rfl rfl <| LX.pure (Y.move rfl) rfl rfl rfl <| LX.sub (l' := [(0, _), (28, _)]) ⟨rfl, rfl, trivial⟩ ?_
  apply LX.joinAnd 5 33 28 rfl
  · intro hb5
    have hb5p := hb5
    try simp at hb5p
    refine LX.callT rfl rfl rfl hb5 (words_c) Fy.en111 rfl rfl rfl rfl ?_
    intro bw
    refine LX.gT rfl rfl rfl hb5 (Y.move rfl) rfl rfl <| LX.callQT rfl rfl rfl hb5 (hasStr_q 17 (by decide) s (fun w hw => SlAt.mono (fun a c h => See.lies hw a c (.inr h)) (at_of (row_sl (xs := wordsList) (ds := .row (some bw) 17 17 9 1 (wordsList.map str) :: fr) (g := some bw) (c := 17) (e := 9) (size := 1) (ys := wordsList.map str) (List.mem_cons_self ..) rfl (fun _ => rfl) (fun _ _ h => h) (by decide) words_A)))) Fy.en110 rfl rfl rfl rfl <| LX.gT rfl rfl rfl hb5 (Y.not rfl) rfl rfl <| LX.pure (Y.pickT rfl hb5 rfl) rfl rfl rfl ?_
    exact LX.world (fun w h => h.drop (List.sublist_cons_self _ _)) (LX.leftP ⟨rfl, rfl, rfl, trivial⟩)
  · intro hb5
    refine LX.gF rfl rfl rfl hb5 rfl rfl <| LX.gF rfl rfl rfl hb5 rfl rfl <| LX.gF rfl rfl rfl hb5 rfl rfl <| LX.gF rfl rfl rfl hb5 rfl rfl <| LX.pure (Y.pickF rfl hb5 rfl) rfl rfl rfl ?_
    exact LX.left ⟨rfl, rfl, rfl, trivial⟩
  refine LX.pure (Y.assign rfl) rfl rfl rfl <| LX.sub (l' := [(2, _)]) ⟨rfl, trivial⟩ <| LX.next <| PX.thenN <| CX.ret <| PX.ret1 (by simp) Tryz.results82 rfl ?_
  exact fun w hw => ⟨(), by unfold nameB; rw [plainB_end hok], hw⟩
theorem name_q {W : World → Prop} [Stab W] (s : List UInt8) (hs : s.length ≤ 9223372036854775807) : FnQ Tryz.prog 82 #[str s] W (.bool (nameB s)) := FnC.quiet fun w _ => name_c s hs
end Go.Proofs.YtickdimknfeddaaGreatDoor

namespace Go.Proofs.YtickdimknfeddaaGreatDoor
open Go.SX Go.RowKit Go.Tr Go.Lex
namespace Fz

end Fz
theorem fresh_c {w0 : World} {base : Nat} {fr : List It} {ak : Option Addr} (ck : Nat) {ks : List Int} (hkn : ks.length ≤ 9223372036854775807) (hk : SlAt 1 intA (Lies w0 base) ak ks) {n : Nat} (i : Nat) (hi : i ≤ n) (gb cap : Nat) (u : List Bool) (hu : u.length = n) : FnC Tryz.prog 38 #[.slice ak ks.length ck, .int .i64 (i : Int), rv (some gb) n cap] (WA w0 base (.row (some gb) cap n 4 1 (u.map bv) :: fr)) (fun _ : List Bool => .bool (fresh ks i u).isSome) (fun v w => (∀ v2, fresh ks i u = some v2 → v = v2) ∧ WA w0 base (.row (some gb) cap n 4 1 (v.map bv) :: fr) w) := by
  refine FnC.of_body (fn := Tryz.f38) [(0, _), (1, _), (2, _)] Tryz.func38 rfl Tryz.ntmps38 rfl ⟨rfl, rfl, rfl, trivial⟩ ?_
  refine CX.seq <| CX.region <| LX.pure (Y.assign rfl) rfl rfl rfl <| LX.sub (l' := [(0, _), (1, _), (2, _), (6, _)]) ⟨rfl, rfl, rfl, rfl, trivial⟩ <| LX.next <| PX.thenN <| CX.seq <| CX.seq <| CX.region <| LX.pure (Y.move rfl) rfl rfl rfl <| LX.pure (Y.lenSl rfl Ft.un51 rfl) rfl rfl rfl <| LX.pure (Y.move rfl) rfl rfl rfl <| LX.sub (l' := [(1, _), (2, _), (6, _), (9, _), (10, _), (11, _)]) ⟨rfl, rfl, rfl, rfl, rfl, rfl, trivial⟩ <| LX.next <| PX.thenN <| CX.block <| CX.loop (fun s : Nat × List Bool => [(1, .int .i64 (i : Int)), (2, rv (some gb) n cap), (9, .slice ak ks.length ck), (10, .int .i64 (ks.length : Int)), (11, .int .i64 (s.1 : Int))]) (fun (s : Nat × List Bool) w => (s.1 ≤ ks.length ∧ s.2.length = n ∧ fresh (ks.drop s.1) i s.2 = fresh ks i u) ∧ WA w0 base (.row (some gb) cap n 4 1 (s.2.map bv) :: fr) w) (fun s => ks.length - s.1) (0, u) ⟨rfl, rfl, rfl, rfl, rfl, trivial⟩ (fun w hw => ⟨⟨Nat.zero_le _, hu, rfl⟩, hw⟩) ?_
  rintro ⟨j, v⟩
  refine CX.have fun ⟨hj0, hvl, hfr⟩ => ?_
  try dsimp only at hj0 hvl hfr ⊢
  refine CX.seq <| CX.region <| LX.pure (Y.ltN rfl rfl) rfl rfl rfl <| LX.sub (l' := [(1, _), (2, _), (9, _), (10, _), (11, _), (12, _)]) ⟨rfl, rfl, rfl, rfl, rfl, rfl, trivial⟩ <| LX.next <| PX.thenN <| CX.seq ?_
  refine CX.cond rfl (fun hb1 => ?_) (fun hb1 => ?_)
  · try simp at hb1
    have hj : j < ks.length := by omega
    obtain ⟨a0, hav0, hL0, hin0⟩ := hk.int_at hj
    rw [drop_getD hj, fresh] at hfr
    generalize ks.getD j 0 = kz at hL0 hin0 hfr
    obtain ⟨vb, hvb⟩ : ∃ vb, kz.toNat < n → v[kz.toNat]? = some vb := ⟨v.getD kz.toNat false, fun h => by rw [getD_get (by omega)]; exact List.getElem?_eq_getElem (by omega)⟩
    refine CX.skip <| PX.thenN <| CX.seq <| CX.block <| CX.seq <| CX.region <| LX.pure (Y.idxZ Ft.un51 Ft.sz3 rfl rfl hav0 (j := j) rfl hj) rfl rfl rfl <| LX.pure (Y.ldO1 Ft.one3 rfl hL0) rfl rfl rfl <| LX.pure (Y.assign rfl) rfl rfl rfl <| LX.sub (l' := [(1, _), (2, _), (8, _), (9, _), (10, _), (11, _)]) ⟨rfl, rfl, rfl, rfl, rfl, rfl, trivial⟩ <| LX.next <| PX.thenN <| CX.seq <| CX.seq <| CX.region <| LX.pure (Y.move rfl) rfl rfl rfl <| LX.pure (Y.ltI rfl rfl) rfl rfl rfl <| LX.pure (Y.move rfl) rfl rfl rfl <| LX.sub (l' := [(1, _), (2, _), (8, _), (9, _), (10, _), (11, _), (17, _)]) ⟨rfl, rfl, rfl, rfl, rfl, rfl, rfl, trivial⟩ ?_
    apply LX.joinOr 4 21 17 rfl
    · intro hb2
      refine LX.gF rfl rfl rfl hb2 rfl rfl <| LX.gF rfl rfl rfl hb2 rfl rfl <| LX.gF rfl rfl rfl hb2 rfl rfl <| LX.pure (Y.pickT rfl hb2 rfl) rfl rfl rfl ?_
      exact LX.left ⟨rfl, rfl, rfl, rfl, rfl, rfl, rfl, rfl, trivial⟩
    · intro hb2
      refine LX.gT rfl rfl rfl hb2 (Y.move rfl) rfl rfl <| LX.gT rfl rfl rfl hb2 (Y.move rfl) rfl rfl <| LX.gT rfl rfl rfl hb2 (Y.geI rfl rfl) rfl rfl <| LX.pure (Y.pickF rfl hb2 rfl) rfl rfl rfl ?_
      exact LX.left ⟨rfl, rfl, rfl, rfl, rfl, rfl, rfl, rfl, trivial⟩
    refine LX.pure (Y.move rfl) rfl rfl rfl <| LX.sub (l' := [(1, _), (2, _), (8, _), (9, _), (10, _), (11, _), (22, _)]) ⟨rfl, rfl, rfl, rfl, rfl, rfl, rfl, trivial⟩ ?_
    apply LX.joinOr 5 27 22 rfl
    · intro hb3
      refine LX.gF rfl rfl rfl hb3 rfl rfl <| LX.gF rfl rfl rfl hb3 rfl rfl <| LX.gF rfl rfl rfl hb3 rfl rfl <| LX.gF rfl rfl rfl hb3 rfl rfl <| LX.pure (Y.pickT rfl hb3 rfl) rfl rfl rfl ?_
      exact LX.left ⟨rfl, rfl, rfl, rfl, rfl, rfl, rfl, rfl, trivial⟩
    · intro hb3
      have hb3p := hb3
      try simp at hb3p
      refine LX.gT rfl rfl rfl hb3 (Y.move rfl) rfl rfl <| LX.gT rfl rfl rfl hb3 (Y.move rfl) rfl rfl ?_
      have hkz : kz = (kz.toNat : Int) := by omega
      have hkn2 : kz.toNat < n := by omega
      refine LX.gT rfl rfl rfl hb3 (Y.idxRZ 0 (i := kz.toNat) Fy.un82 Fy.sz4 rfl rfl hkz rfl hkn2) rfl rfl <| LX.gT rfl rfl rfl hb3 (Y.ldR 0 (v := .bool vb) Fy.one4 rfl rfl (bv_at (hvb hkn2))) rfl rfl <| LX.pure (Y.pickF rfl hb3 rfl) rfl rfl rfl ?_
      exact LX.left ⟨rfl, rfl, rfl, rfl, rfl, rfl, rfl, rfl, trivial⟩
    refine LX.sub (l' := [(1, _), (2, _), (8, _), (9, _), (10, _), (11, _), (27, _)]) ⟨rfl, rfl, rfl, rfl, rfl, rfl, rfl, trivial⟩ <| LX.next <| PX.thenN ?_
    refine CX.cond rfl (fun hb4 => ?_) (fun hb4 => ?_)
    · try simp at hb4
      have hno : kz < 0 ∨ (i : Int) ≤ kz ∨ v[kz.toNat]? = some true := by
        by_cases h1 : kz < 0
        · exact .inl h1
        by_cases h2 : (i : Int) ≤ kz
        · exact .inr (.inl h2)
        · exact .inr (.inr (by rw [hvb (by omega)]; simp_all))
      refine CX.seq <| CX.region <| LX.pure (Y.assign rfl) rfl rfl rfl <| LX.sub (l' := [(1, _), (2, _), (6, _), (8, _), (9, _), (10, _), (11, _)]) ⟨rfl, rfl, rfl, rfl, rfl, rfl, rfl, trivial⟩ <| LX.next <| PX.thenN <| CX.ret <| PX.thenR <| PX.blockR <| PX.thenR <| PX.thenR <| PX.blockR <| PX.thenR <| PX.ret1 (by simp) Tryz.results38 rfl ?_
      exact fun w hw => ⟨v, by rw [← hfr, if_pos hno]; rfl, (fun v2 h2 => by rw [← hfr, if_pos hno] at h2; cases h2), hw⟩
    try simp at hb4
    have hkz : kz = (kz.toNat : Int) := by omega
    have hkn2 : kz.toNat < n := by omega
    have hno : ¬(kz < 0 ∨ (i : Int) ≤ kz ∨ v[kz.toNat]? = some true) := by
      rw [hvb hkn2]
      rintro (h | h | h)
      · omega
      · omega
      · injection h with h; rw [h] at hb4; exact absurd hb4.2 (by decide)
    refine CX.skip <| PX.thenN <| CX.region <| LX.pure (Y.move rfl) rfl rfl rfl <| LX.pure (Y.move rfl) rfl rfl rfl <| LX.pure (Y.idxRZ 0 (i := kz.toNat) Fy.un82 Fy.sz4 rfl rfl hkz rfl hkn2) rfl rfl rfl <| LX.storeR 0 Fy.sz4 rfl rfl rfl rfl rfl (by rw [List.length_map]; omega) rfl rfl <| LX.sub (l' := [(1, _), (2, _), (9, _), (10, _), (11, _)]) ⟨rfl, rfl, rfl, rfl, rfl, trivial⟩ <| LX.next <| PX.blockN <| PX.thenN <| CX.region <| LX.pure (Y.addN rfl rfl (by (simp only []; omega))) rfl rfl rfl <| LX.pure (Y.move rfl) rfl rfl rfl <| LX.sub (l' := [(1, _), (2, _), (9, _), (10, _), (11, _)]) ⟨rfl, rfl, rfl, rfl, rfl, trivial⟩ <| LX.next ?_
    exact PX.again (μ := fun s => ks.length - s.1) (i := (j, v)) (j + 1, v.set kz.toNat true) (by show ks.length - (j + 1) < ks.length - j; omega) ⟨rfl, rfl, rfl, rfl, rfl, trivial⟩ (fun w hw => ⟨⟨by show j + 1 ≤ ks.length; omega, by rw [List.length_set]; exact hvl, by rw [← hfr, if_neg hno]⟩, by have h1 := hw; rw [Nat.mul_one] at h1; rw [← bv_set]; exact h1⟩)
  try simp at hb1
  have hje : j = ks.length := by omega
  rw [drop_end hje, fresh] at hfr
  refine CX.exit <| PX.thenE <| PX.thenE <| PX.blockE <| PX.thenN <| CX.seq <| CX.region <| LX.pure (Y.assign rfl) rfl rfl rfl <| LX.sub (l' := [(6, _)]) ⟨rfl, trivial⟩ <| LX.next <| PX.thenN <| CX.ret <| PX.ret1 (by simp) Tryz.results38 rfl ?_
  exact fun w hw => ⟨v, by rw [← hfr]; rfl, fun v2 h2 => by rw [← hfr] at h2; cases h2; rfl, hw⟩
end Go.Proofs.YtickdimknfeddaaGreatDoor

namespace Go.Proofs.YtickdimknfeddaaGreatDoor
open Go.SX Go.RowKit Go.Tr Go.Lex
namespace Fza
theorem en82 : Enters Tryz.prog 82 := Enters.of Tryz.func82 (by kernel_rfl) (by kernel_rfl)
theorem en83 : Enters Tryz.prog 83 := Enters.of Tryz.func83 (by kernel_rfl) (by kernel_rfl)
theorem en84 : Enters Tryz.prog 84 := Enters.of Tryz.func84 (by kernel_rfl) (by kernel_rfl)
theorem fa53_3 : FieldOffA Tryz.prog 53 3 3 := fun a w => by kernel_rfl
theorem fo53_3 : FieldOff Tryz.prog 53 3 3 := fun b o w => by kernel_rfl
theorem el128 : Elem Tryz.prog 128 9 1 16 := Elem.of Fy.un128 (z := .string ⟨#[]⟩) (by kernel_rfl) rfl
end Fza
theorem ndFits_c {w0 : World} {base : Nat} {bq : Nat} {al : Option Addr} {cl : Nat} {uv : Value} {l : List Nd} (i : Nat) (hi : i ≤ l.length) (hA : Ahead l i) (n : Nat) (hni : i ≤ n) {x : Nd} {cs : List Value} (hr : ∀ k ∈ x.kids, 0 ≤ k ∧ k < (i : Int)) (hxs : x.s.length ≤ 9223372036854775807)  (hq : Cq w0 base bq al cl uv l ndA) (hx : ndA (Lies w0 base) cs x) : FnC Tryz.prog 39 #[.pointer (some ⟨bq, 0, none⟩), .agg cs.toArray] (WA w0 base []) (fun _ : Unit => .bool (fitsB l nameB n x)) (fun _ => WA w0 base []) := by
  obtain ⟨vk, rfl, hks, hin⟩ := hx
  obtain ⟨ak, ck, rfl, ⟨hkn, hkc⟩, hka⟩ := hks.sl
  refine FnC.of_body (fn := Tryz.f39) [(0, _), (1, _)] Tryz.func39 rfl Tryz.ntmps39 rfl ⟨rfl, rfl, trivial⟩ ?_
  refine CX.seq <| CX.region <| LX.box rfl rfl rfl rfl rfl ?_
  intro bx0
  refine LX.pure (Y.assign rfl) rfl rfl rfl <| LX.sub (l' := [(0, _), (3, _), (4, _)]) ⟨rfl, rfl, rfl, trivial⟩ <| LX.next <| PX.thenN <| CX.seq <| CX.seq <| CX.region <| LX.pure (Y.fieldAddr0 Ft.fo53_0 rfl) rfl rfl rfl <| LX.pure (Y.ldB 0 Ft.one3 rfl rfl rfl) rfl rfl rfl <| LX.sub (l' := [(0, _), (3, _), (4, _), (6, _)]) ⟨rfl, rfl, rfl, rfl, trivial⟩ <| LX.next <| PX.thenN <| CX.block <| CX.sub (l' := [(0, _), (3, _), (4, _), (6, _)]) ⟨rfl, rfl, rfl, rfl, trivial⟩ ?_
  apply CX.seqSw 7
  ·
    refine CX.seq <| CX.region <| LX.pure (Y.eqI rfl rfl) rfl rfl rfl <| LX.pure (Y.assign rfl) rfl rfl rfl <| LX.next <| PX.thenN ?_
    apply CX.swOr
    · rfl
    · exact ⟨rfl, rfl, rfl, rfl, rfl, trivial⟩
    intro hb1
    try simp at hb1
    refine CX.seq <| CX.region <| LX.pure (Y.eqI rfl rfl) rfl rfl rfl <| LX.pure (Y.assign rfl) rfl rfl rfl <| LX.next <| PX.thenN ?_
    apply CX.swOr
    · rfl
    · exact ⟨rfl, rfl, rfl, rfl, rfl, trivial⟩
    intro hb2
    try simp at hb2
    refine CX.seq <| CX.region <| LX.pure (Y.eqI rfl rfl) rfl rfl rfl <| LX.pure (Y.assign rfl) rfl rfl rfl <| LX.next <| PX.thenN ?_
    apply CX.swOr
    · rfl
    · exact ⟨rfl, rfl, rfl, rfl, rfl, trivial⟩
    intro hb3
    try simp at hb3
    refine CX.seq <| CX.region <| LX.pure (Y.eqI rfl rfl) rfl rfl rfl <| LX.pure (Y.assign rfl) rfl rfl rfl <| LX.next <| PX.thenN ?_
    apply CX.swOr
    · rfl
    · exact ⟨rfl, rfl, rfl, rfl, rfl, trivial⟩
    intro hb4
    try simp at hb4
    refine CX.region <| LX.pure (Y.eqI rfl rfl) rfl rfl rfl <| LX.pure (Y.assign rfl) rfl rfl rfl <| LX.next ?_
    exact PX.sw ⟨rfl, rfl, rfl, rfl, rfl, trivial⟩
  refine CX.cond rfl (fun hb5 => ?_) (fun hb5 => ?_)
  · try simp at hb5
    refine CX.seq <| CX.region <| LX.pure (Y.fieldAddr0 Fza.fo53_3 rfl) rfl rfl rfl <| LX.pure (Y.ldB 0 Fy.one9 rfl rfl rfl) rfl rfl rfl <| LX.callQ (name_q _ hxs) Fza.en82 rfl rfl rfl rfl rfl <| LX.pure (Y.move rfl) rfl rfl rfl <| LX.sub (l' := [(0, _), (3, _), (4, _), (16, _)]) ⟨rfl, rfl, rfl, rfl, trivial⟩ ?_
    apply LX.joinAnd 4 20 16 rfl
    · intro hb6
      refine LX.gT rfl rfl rfl hb6 (Y.move rfl) rfl rfl <| LX.gT rfl rfl rfl hb6 (Y.ldAggB 0 Ft.ag53 rfl rfl rfl rfl) rfl rfl <| LX.callQT rfl rfl rfl hb6 (kids_q i hi hA n hni hr (fun w hw => hq.push hw) (fun w hw => Kept.mono (fun _ _ h => h.push hw) ⟨_, rfl, hks, hin⟩)) Fza.en83 rfl rfl rfl rfl <| LX.pure (Y.pickT rfl hb6 rfl) rfl rfl rfl ?_
      exact LX.left ⟨rfl, rfl, rfl, rfl, rfl, trivial⟩
    · intro hb6
      refine LX.gF rfl rfl rfl hb6 rfl rfl <| LX.gF rfl rfl rfl hb6 rfl rfl <| LX.gF rfl rfl rfl hb6 rfl rfl <| LX.pure (Y.pickF rfl hb6 rfl) rfl rfl rfl ?_
      exact LX.left ⟨rfl, rfl, rfl, rfl, rfl, trivial⟩
    refine LX.pure (Y.assign rfl) rfl rfl rfl <| LX.sub (l' := [(0, _), (3, _), (4, _)]) ⟨rfl, rfl, rfl, trivial⟩ <| LX.next <| PX.thenN <| CX.ret <| PX.blockR <| PX.thenR <| PX.ret1 (by simp) Tryz.results39 rfl ?_
    exact fun w hw => ⟨(), congrArg (fun z => Ending.returned (Value.bool z)) (by
      unfold fitsB
      repeat (rw [if_pos (by omega)])
      try rfl), hw.drop (List.sublist_cons_self _ _)⟩
  try simp at hb5
  refine CX.seq <| CX.region <| LX.pure (Y.eqI rfl rfl) rfl rfl rfl <| LX.pure (Y.assign rfl) rfl rfl rfl <| LX.sub (l' := [(0, _), (3, _), (4, _), (6, _), (21, _)]) ⟨rfl, rfl, rfl, rfl, rfl, trivial⟩ <| LX.next <| PX.thenN ?_
  refine CX.cond rfl (fun hb7 => ?_) (fun hb7 => ?_)
  · try simp at hb7
    refine CX.seq <| CX.region <| LX.pure (Y.fieldAddr0 Fza.fo53_3 rfl) rfl rfl rfl <| LX.pure (Y.ldB 0 Fy.one9 rfl rfl rfl) rfl rfl rfl <| LX.callQ (digits_q _ hxs) Fza.en84 rfl rfl rfl rfl rfl <| LX.pure (Y.move rfl) rfl rfl rfl <| LX.sub (l' := [(0, _), (3, _), (4, _), (26, _)]) ⟨rfl, rfl, rfl, rfl, trivial⟩ ?_
    apply LX.joinAnd 4 30 26 rfl
    · intro hb8
      refine LX.gT rfl rfl rfl hb8 (Y.move rfl) rfl rfl <| LX.gT rfl rfl rfl hb8 (Y.ldAggB 0 Ft.ag53 rfl rfl rfl rfl) rfl rfl <| LX.callQT rfl rfl rfl hb8 (kids_q i hi hA n hni hr (fun w hw => hq.push hw) (fun w hw => Kept.mono (fun _ _ h => h.push hw) ⟨_, rfl, hks, hin⟩)) Fza.en83 rfl rfl rfl rfl <| LX.pure (Y.pickT rfl hb8 rfl) rfl rfl rfl ?_
      exact LX.left ⟨rfl, rfl, rfl, rfl, rfl, trivial⟩
    · intro hb8
      refine LX.gF rfl rfl rfl hb8 rfl rfl <| LX.gF rfl rfl rfl hb8 rfl rfl <| LX.gF rfl rfl rfl hb8 rfl rfl <| LX.pure (Y.pickF rfl hb8 rfl) rfl rfl rfl ?_
      exact LX.left ⟨rfl, rfl, rfl, rfl, rfl, trivial⟩
    refine LX.pure (Y.assign rfl) rfl rfl rfl <| LX.sub (l' := [(0, _), (3, _), (4, _)]) ⟨rfl, rfl, rfl, trivial⟩ <| LX.next <| PX.thenN <| CX.ret <| PX.blockR <| PX.thenR <| PX.ret1 (by simp) Tryz.results39 rfl ?_
    exact fun w hw => ⟨(), congrArg (fun z => Ending.returned (Value.bool z)) (by
      unfold fitsB
      repeat (first | rw [if_pos (by omega)] | rw [if_neg (by omega)])
      try rfl), hw.drop (List.sublist_cons_self _ _)⟩
  try simp at hb7
  refine CX.sub (l' := [(0, _), (3, _), (4, _), (6, _)]) ⟨rfl, rfl, rfl, rfl, trivial⟩ ?_
  apply CX.seqSw 31
  ·
    refine CX.seq <| CX.region <| LX.pure (Y.eqI rfl rfl) rfl rfl rfl <| LX.pure (Y.assign rfl) rfl rfl rfl <| LX.next <| PX.thenN ?_
    apply CX.swOr
    · rfl
    · exact ⟨rfl, rfl, rfl, rfl, rfl, trivial⟩
    intro hb9
    try simp at hb9
    refine CX.region <| LX.pure (Y.eqI rfl rfl) rfl rfl rfl <| LX.pure (Y.assign rfl) rfl rfl rfl <| LX.next ?_
    exact PX.sw ⟨rfl, rfl, rfl, rfl, rfl, trivial⟩
  refine CX.cond rfl (fun hb10 => ?_) (fun hb10 => ?_)
  · try simp at hb10
    refine CX.seq <| CX.region <| LX.pure (Y.move rfl) rfl rfl rfl <| LX.pure (Y.ldAggB 0 Ft.ag53 rfl rfl rfl rfl) rfl rfl rfl <| LX.callQ (kids_q i hi hA n hni hr (fun w hw => hq.push hw) (fun w hw => Kept.mono (fun _ _ h => h.push hw) ⟨_, rfl, hks, hin⟩)) Fza.en83 rfl rfl rfl rfl rfl <| LX.pure (Y.assign rfl) rfl rfl rfl <| LX.sub (l' := [(0, _), (3, _), (4, _)]) ⟨rfl, rfl, rfl, trivial⟩ <| LX.next <| PX.thenN <| CX.ret <| PX.blockR <| PX.thenR <| PX.ret1 (by simp) Tryz.results39 rfl ?_
    exact fun w hw => ⟨(), congrArg (fun z => Ending.returned (Value.bool z)) (by
      unfold fitsB
      repeat (first | rw [if_pos (by omega)] | rw [if_neg (by omega)])
      try rfl), hw.drop (List.sublist_cons_self _ _)⟩
  try simp at hb10
  refine CX.skip <| PX.blockN <| PX.thenN <| CX.seq <| CX.region <| LX.pure (Y.fieldAddr0 Fza.fo53_3 rfl) rfl rfl rfl <| LX.pure (Y.ldB 0 Fy.one9 rfl rfl rfl) rfl rfl rfl <| LX.pure (Y.eqS rfl rfl) rfl rfl rfl <| LX.pure (Y.move rfl) rfl rfl rfl <| LX.sub (l' := [(0, _), (3, _), (4, _), (40, _)]) ⟨rfl, rfl, rfl, rfl, trivial⟩ ?_
  apply LX.joinAnd 4 44 40 rfl
  · intro hb11
    refine LX.gT rfl rfl rfl hb11 (Y.move rfl) rfl rfl <| LX.gT rfl rfl rfl hb11 (Y.ldAggB 0 Ft.ag53 rfl rfl rfl rfl) rfl rfl <| LX.callQT rfl rfl rfl hb11 (kids_q i hi hA n hni hr (fun w hw => hq.push hw) (fun w hw => Kept.mono (fun _ _ h => h.push hw) ⟨_, rfl, hks, hin⟩)) Fza.en83 rfl rfl rfl rfl <| LX.pure (Y.pickT rfl hb11 rfl) rfl rfl rfl ?_
    exact LX.left ⟨rfl, rfl, rfl, rfl, rfl, trivial⟩
  · intro hb11
    refine LX.gF rfl rfl rfl hb11 rfl rfl <| LX.gF rfl rfl rfl hb11 rfl rfl <| LX.gF rfl rfl rfl hb11 rfl rfl <| LX.pure (Y.pickF rfl hb11 rfl) rfl rfl rfl ?_
    exact LX.left ⟨rfl, rfl, rfl, rfl, rfl, trivial⟩
  refine LX.pure (Y.assign rfl) rfl rfl rfl <| LX.sub (l' := [(4, _)]) ⟨rfl, trivial⟩ <| LX.next <| PX.thenN <| CX.ret <| PX.ret1 (by simp) Tryz.results39 rfl ?_
  exact fun w hw => ⟨(), congrArg (fun z => Ending.returned (Value.bool z)) (by
    unfold fitsB
    repeat (rw [if_neg (by omega)])
    try rfl), hw.drop (List.sublist_cons_self _ _)⟩
theorem ndFits_q {W : World → Prop} [Stab W] {bq : Nat} {al : Option Addr} {cl : Nat} {uv : Value} {l : List Nd} (i : Nat) (hi : i ≤ l.length) (hA : Ahead l i) (n : Nat) (hni : i ≤ n) {x : Nd} {cs : List Value} (hr : ∀ k ∈ x.kids, 0 ≤ k ∧ k < (i : Int)) (hxs : x.s.length ≤ 9223372036854775807)  (hq : ∀ w, W w → Cq w w.heap.size bq al cl uv l ndA) (hx : ∀ w, W w → ndA (Lies w w.heap.size) cs x) : FnQ Tryz.prog 39 #[.pointer (some ⟨bq, 0, none⟩), .agg cs.toArray] W (.bool (fitsB l nameB n x)) := FnC.quiet fun w hw => ndFits_c i hi hA n hni hr hxs (hq w hw) (hx w hw)
theorem params_c {w0 : World} {base : Nat} {bq : Nat} {al : Option Addr} {cl : Nat} {uv : Value} {l : List Nd} (i : Nat) (hi : i ≤ l.length) {ak : Option Addr} (ck : Nat) {ks : List Int} (hkn : ks.length ≤ 9223372036854775807) (hr : ∀ k ∈ ks, 0 ≤ k ∧ k < (i : Int)) (hkb : ks.length ≤ 1048576) (hsb : ∀ (k : Nat) (x : Nd), l[k]? = some x → x.s.length ≤ 9223372036854775807)  (hq : Cq w0 base bq al cl uv l ndA) (hk : SlAt 1 intA (Lies w0 base) ak ks) : FnC Tryz.prog 86 #[.pointer (some ⟨bq, 0, none⟩), .slice ak ks.length ck] (WA w0 base []) (fun _ : Unit => .bool (paramsGo l ks [] false)) (fun _ => WA w0 base []) := by
  refine FnC.of_body (fn := Tryz.f86) [(0, _), (1, _)] Tryz.func86 rfl Tryz.ntmps86 rfl ⟨rfl, rfl, trivial⟩ ?_
  refine CX.seq <| CX.region <| LX.pure (Y.assign rfl) rfl rfl rfl <| LX.sub (l' := [(0, _), (1, _), (4, _)]) ⟨rfl, rfl, rfl, trivial⟩ <| LX.next <| PX.thenN <| CX.seq <| CX.region <| LX.pure (Y.assign rfl) rfl rfl rfl <| LX.sub (l' := [(0, _), (1, _), (4, _), (5, _)]) ⟨rfl, rfl, rfl, rfl, trivial⟩ <| LX.next <| PX.thenN <| CX.seq <| CX.region <| LX.pure (Y.assign rfl) rfl rfl rfl <| LX.sub (l' := [(0, _), (1, _), (4, _), (5, _), (6, _)]) ⟨rfl, rfl, rfl, rfl, rfl, trivial⟩ <| LX.next <| PX.thenN <| CX.seq <| CX.seq <| CX.region <| LX.pure (Y.move rfl) rfl rfl rfl <| LX.pure (Y.lenSl rfl Ft.un51 rfl) rfl rfl rfl <| LX.pure (Y.move rfl) rfl rfl rfl <| LX.sub (l' := [(0, _), (4, _), (5, _), (6, _), (10, _), (11, _), (12, _)]) ⟨rfl, rfl, rfl, rfl, rfl, rfl, rfl, trivial⟩ <| LX.next <| PX.thenN <| CX.block <| CX.loop (fun s : Nat × List (List UInt8) × Bool × Option Nat × Nat => [(0, .pointer (some ⟨bq, 0, none⟩)), (5, rv s.2.2.2.1 s.2.1.length s.2.2.2.2), (6, .bool s.2.2.1), (10, .slice ak ks.length ck), (11, .int .i64 (ks.length : Int)), (12, .int .i64 (s.1 : Int))]) (fun (s : Nat × List (List UInt8) × Bool × Option Nat × Nat) w => (s.1 ≤ ks.length ∧ s.2.1.length = s.1 ∧ paramsGo l (ks.drop s.1) s.2.1 s.2.2.1 = paramsGo l ks [] false) ∧ WA w0 base [.row s.2.2.2.1 s.2.2.2.2 s.2.1.length 9 1 (s.2.1.map str)] w) (fun s => ks.length - s.1) (0, [], false, none, 0) ⟨rfl, rfl, rfl, rfl, rfl, rfl, trivial⟩ (fun w hw => ⟨⟨Nat.zero_le _, rfl, rfl⟩, hw.nilRow 9 1⟩) ?_
  rintro ⟨j, ns, given, g, cap⟩
  refine CX.have fun ⟨hj0, hns, hgo⟩ => ?_
  try dsimp only at hj0 hns hgo ⊢
  refine CX.seq <| CX.region <| LX.pure (Y.ltN rfl rfl) rfl rfl rfl <| LX.sub (l' := [(0, _), (5, _), (6, _), (10, _), (11, _), (12, _), (13, _)]) ⟨rfl, rfl, rfl, rfl, rfl, rfl, rfl, trivial⟩ <| LX.next <| PX.thenN <| CX.seq ?_
  refine CX.cond rfl (fun hb1 => ?_) (fun hb1 => ?_)
  · try simp at hb1
    have hj : j < ks.length := by omega
    obtain ⟨a0, hav0, hL0, hin0⟩ := hk.int_at hj
    have hrj := hr _ (getD_mem hj)
    obtain ⟨k, hkz⟩ : ∃ k : Nat, ks.getD j 0 = (k : Int) := ⟨(ks.getD j 0).toNat, by omega⟩
    have hkl : k < l.length := by omega
    obtain ⟨x, hx⟩ : ∃ x, l[k]? = some x := ⟨_, List.getElem?_eq_getElem hkl⟩
    obtain ⟨a, cs, hav, hcl, hL, vk, rfl, hks, hin⟩ := hq.nodes k x hx
    obtain ⟨ak2, ck2, rfl, ⟨hkn2, hkc2⟩, hka2⟩ := hks.sl
    have hnd : nd l (ks.getD j 0) = x := by rw [hkz]; exact nd_at hx
    refine CX.skip <| PX.thenN <| CX.seq <| CX.block <| CX.seq <| CX.region <| LX.pure (Y.idxZ Ft.un51 Ft.sz3 rfl rfl hav0 (j := j) rfl hj) rfl rfl rfl <| LX.pure (Y.ldO1 Ft.one3 rfl hL0) rfl rfl rfl <| LX.pure (Y.assign rfl) rfl rfl rfl <| LX.sub (l' := [(0, _), (5, _), (6, _), (8, _), (10, _), (11, _), (12, _)]) ⟨rfl, rfl, rfl, rfl, rfl, rfl, rfl, trivial⟩ <| LX.next <| PX.thenN <| CX.seq <| CX.region <| LX.pure (Y.move rfl) rfl rfl rfl <| LX.pure (Y.nilCheck rfl) rfl rfl rfl <| LX.pure (Y.fieldAddr0 Ft.fo88_0 rfl) rfl rfl rfl <| LX.pure (Y.ldB0 Ft.one22 rfl hq.blk rfl) rfl rfl rfl <| LX.pure (Y.move rfl) rfl rfl rfl <| LX.pure (Y.idxZ Ft.un22 Ft.sz53 rfl rfl hav (j := k) hkz hkl) rfl rfl rfl <| LX.pure (Y.ldAO (cs := [.int .i64 x.op, .int .i64 x.n, .int .i64 x.pos, str x.s, .slice ak2 x.kids.length ck2]) Ft.ag53 rfl hL rfl) rfl rfl rfl <| LX.alloc rfl Fu.zv53 rfl rfl rfl ?_
    intro bx17
    refine LX.storeA 0 Ft.ag53 rfl rfl rfl rfl rfl rfl rfl rfl rfl <| LX.sub (l' := [(0, _), (5, _), (6, _), (9, _), (10, _), (11, _), (12, _)]) ⟨rfl, rfl, rfl, rfl, rfl, rfl, rfl, trivial⟩ <| LX.next <| PX.thenN <| CX.seq <| CX.seq <| CX.region <| LX.pure (Y.move rfl) rfl rfl rfl <| LX.pure (Y.fieldAddr0 Fza.fo53_3 rfl) rfl rfl rfl <| LX.pure (Y.ldB 0 Fy.one9 rfl rfl rfl) rfl rfl rfl <| LX.callQ (hasStr_q cap (ss := ns) (by omega) x.s (fun w hw => row_at hw (j := 1) rfl rfl (by decide) (fun i z h => map_A h))) Fy.en110 rfl rfl rfl rfl rfl <| LX.pure (Y.move rfl) rfl rfl rfl <| LX.sub (l' := [(0, _), (5, _), (6, _), (9, _), (10, _), (11, _), (12, _), (27, _)]) ⟨rfl, rfl, rfl, rfl, rfl, rfl, rfl, rfl, trivial⟩ ?_
    apply LX.joinOr 8 35 27 rfl
    · intro hb2
      refine LX.gF rfl rfl rfl hb2 rfl rfl <| LX.gF rfl rfl rfl hb2 rfl rfl <| LX.gU rfl rfl rfl rfl rfl <| LX.gU rfl rfl rfl rfl rfl <| LX.gU rfl rfl rfl rfl rfl <| LX.gU rfl rfl rfl rfl rfl <| LX.gF rfl rfl rfl hb2 rfl rfl <| LX.pure (Y.pickT rfl hb2 rfl) rfl rfl rfl ?_
      exact LX.left ⟨rfl, rfl, rfl, rfl, rfl, rfl, rfl, rfl, rfl, trivial⟩
    · intro hb2
      refine LX.gT rfl rfl rfl hb2 (Y.move rfl) rfl rfl <| LX.gT rfl rfl rfl hb2 (Y.move rfl) rfl rfl <| LX.sub (l' := [(0, _), (5, _), (6, _), (9, _), (10, _), (11, _), (12, _), (27, _), (29, _)]) ⟨rfl, rfl, rfl, rfl, rfl, rfl, rfl, rfl, rfl, trivial⟩ ?_
      apply LX.joinAnd 5 34 29 rfl
      · intro hb3
        refine LX.gT rfl rfl rfl hb3 (Y.fieldAddr0 Fu.fo53_4 rfl) rfl rfl <| LX.gT rfl rfl rfl hb3 (Y.ldB 0 Fu.one51 rfl rfl rfl) rfl rfl <| LX.gT rfl rfl rfl hb3 (Y.lenSl rfl Ft.un51 rfl) rfl rfl <| LX.gT rfl rfl rfl hb3 (Y.eqN rfl rfl) rfl rfl <| LX.gT rfl rfl rfl hb2 (Y.pickT rfl hb3 rfl) rfl rfl ?_
        exact LX.left ⟨rfl, rfl, rfl, rfl, rfl, rfl, rfl, rfl, rfl, rfl, trivial⟩
      · intro hb3
        refine LX.gF rfl rfl rfl hb3 rfl rfl <| LX.gF rfl rfl rfl hb3 rfl rfl <| LX.gF rfl rfl rfl hb3 rfl rfl <| LX.gF rfl rfl rfl hb3 rfl rfl <| LX.gT rfl rfl rfl hb2 (Y.pickF rfl hb3 rfl) rfl rfl ?_
        exact LX.left ⟨rfl, rfl, rfl, rfl, rfl, rfl, rfl, rfl, rfl, rfl, trivial⟩
      refine LX.pure (Y.pickF rfl hb2 rfl) rfl rfl rfl ?_
      exact LX.left ⟨rfl, rfl, rfl, rfl, rfl, rfl, rfl, rfl, rfl, trivial⟩
    refine LX.sub (l' := [(0, _), (5, _), (6, _), (9, _), (10, _), (11, _), (12, _), (35, _)]) ⟨rfl, rfl, rfl, rfl, rfl, rfl, rfl, rfl, trivial⟩ <| LX.next <| PX.thenN ?_
    refine CX.cond rfl (fun hb4 => ?_) (fun hb4 => ?_)
    · try simp at hb4
      have hye : (decide (x.s ∈ ns) || (given && decide (x.kids.length = 0))) = true := by simpa using hb4
      refine CX.seq <| CX.region <| LX.pure (Y.assign rfl) rfl rfl rfl <| LX.sub (l' := [(0, _), (4, _), (5, _), (6, _), (9, _), (10, _), (11, _), (12, _)]) ⟨rfl, rfl, rfl, rfl, rfl, rfl, rfl, rfl, trivial⟩ <| LX.next <| PX.thenN <| CX.ret <| PX.thenR <| PX.blockR <| PX.thenR <| PX.thenR <| PX.blockR <| PX.thenR <| PX.ret1 (by simp) Tryz.results86 rfl ?_
      exact fun w hw => ⟨(), by rw [← hgo, drop_getD hj, paramsGo, hnd, if_pos hye], hw.drop (.cons _ (.cons _ (List.Sublist.refl _)))⟩
    try simp at hb4
    have hne : ¬(decide (x.s ∈ ns) || (given && decide (x.kids.length = 0))) = true := by simpa using hb4
    refine CX.skip <| PX.thenN <| CX.seq <| CX.region <| LX.pure (Y.move rfl) rfl rfl rfl <| LX.pure (Y.fieldAddr0 Fza.fo53_3 rfl) rfl rfl rfl <| LX.pure (Y.ldB 0 Fy.one9 rfl rfl rfl) rfl rfl rfl <| LX.buildSlice (e := 9) (size := 1) rfl rfl (fun _ => by kernel_rfl) rfl (by decide) rfl rfl rfl ?_
    intro gt38
    refine LX.appendRows 2 0 Fza.el128 rfl rfl rfl rfl rfl rfl rfl (by omega) (by omega) rfl rfl rfl ?_
    intro g2 cap2
    refine LX.pure (Y.assign rfl) rfl rfl rfl <| LX.sub (l' := [(0, _), (5, _), (6, _), (9, _), (10, _), (11, _), (12, _)]) ⟨rfl, rfl, rfl, rfl, rfl, rfl, rfl, trivial⟩ <| LX.next <| PX.thenN <| CX.region <| LX.pure (Y.move rfl) rfl rfl rfl <| LX.pure (Y.move rfl) rfl rfl rfl <| LX.sub (l' := [(0, _), (5, _), (6, _), (9, _), (10, _), (11, _), (12, _), (42, _)]) ⟨rfl, rfl, rfl, rfl, rfl, rfl, rfl, rfl, trivial⟩ ?_
    apply LX.joinOr 5 47 42 rfl
    · intro hb5
      refine LX.gF rfl rfl rfl hb5 rfl rfl <| LX.gF rfl rfl rfl hb5 rfl rfl <| LX.gF rfl rfl rfl hb5 rfl rfl <| LX.gF rfl rfl rfl hb5 rfl rfl <| LX.pure (Y.pickT rfl hb5 rfl) rfl rfl rfl ?_
      exact LX.left ⟨rfl, rfl, rfl, rfl, rfl, rfl, rfl, rfl, rfl, trivial⟩
    · intro hb5
      refine LX.gT rfl rfl rfl hb5 (Y.fieldAddr0 Fu.fo53_4 rfl) rfl rfl <| LX.gT rfl rfl rfl hb5 (Y.ldB 1 Fu.one51 rfl rfl rfl) rfl rfl <| LX.gT rfl rfl rfl hb5 (Y.lenSl rfl Ft.un51 rfl) rfl rfl <| LX.gT rfl rfl rfl hb5 (Y.gtN rfl rfl) rfl rfl <| LX.pure (Y.pickF rfl hb5 rfl) rfl rfl rfl ?_
      exact LX.left ⟨rfl, rfl, rfl, rfl, rfl, rfl, rfl, rfl, rfl, trivial⟩
    refine LX.pure (Y.assign rfl) rfl rfl rfl <| LX.sub (l' := [(0, _), (5, _), (6, _), (10, _), (11, _), (12, _)]) ⟨rfl, rfl, rfl, rfl, rfl, rfl, trivial⟩ <| LX.next <| PX.blockN <| PX.thenN <| CX.region <| LX.pure (Y.addN rfl rfl (by (simp only []; omega))) rfl rfl rfl <| LX.pure (Y.move rfl) rfl rfl rfl <| LX.sub (l' := [(0, _), (5, _), (6, _), (10, _), (11, _), (12, _)]) ⟨rfl, rfl, rfl, rfl, rfl, rfl, trivial⟩ <| LX.next ?_
    exact PX.again (μ := fun s => ks.length - s.1) (i := (j, ns, given, g, cap)) (j + 1, ns ++ [x.s], given || decide (0 < x.kids.length), g2, cap2) (by show ks.length - (j + 1) < ks.length - j; omega) ⟨rfl, by show _ = some (rv g2 (ns ++ [x.s]).length cap2); rw [List.length_append]; rfl, rfl, rfl, rfl, rfl, trivial⟩ (fun w hw => ⟨⟨by show j + 1 ≤ ks.length; omega, by show (ns ++ [x.s]).length = j + 1; rw [List.length_append, hns]; rfl, by rw [← hgo, drop_getD hj, paramsGo, hnd, if_neg hne]⟩, by have h1 := hw.drop (.cons _ (.cons _ (List.Sublist.refl _))); show WA w0 base [.row g2 cap2 (ns ++ [x.s]).length 9 1 ((ns ++ [x.s]).map str)] w; rw [List.length_append, List.map_append]; exact h1⟩)
  try simp at hb1
  have hje : j = ks.length := by omega
  refine CX.exit <| PX.thenE <| PX.thenE <| PX.blockE <| PX.thenN <| CX.seq <| CX.region <| LX.pure (Y.assign rfl) rfl rfl rfl <| LX.sub (l' := [(4, _)]) ⟨rfl, trivial⟩ <| LX.next <| PX.thenN <| CX.ret <| PX.ret1 (by simp) Tryz.results86 rfl ?_
  exact fun w hw => ⟨(), by rw [← hgo, drop_end hje]; rfl, hw.drop (.cons _ (List.Sublist.refl _))⟩
theorem params_q {W : World → Prop} [Stab W] {bq : Nat} {al : Option Addr} {cl : Nat} {uv : Value} {l : List Nd} (i : Nat) (hi : i ≤ l.length) {ak : Option Addr} (ck : Nat) {ks : List Int} (hkn : ks.length ≤ 9223372036854775807) (hr : ∀ k ∈ ks, 0 ≤ k ∧ k < (i : Int)) (hkb : ks.length ≤ 1048576) (hsb : ∀ (k : Nat) (x : Nd), l[k]? = some x → x.s.length ≤ 9223372036854775807)  (hq : ∀ w, W w → Cq w w.heap.size bq al cl uv l ndA) (hk : ∀ w, W w → SlAt 1 intA (Lies w w.heap.size) ak ks) : FnQ Tryz.prog 86 #[.pointer (some ⟨bq, 0, none⟩), .slice ak ks.length ck] W (.bool (paramsGo l ks [] false)) := FnC.quiet fun w hw => params_c i hi ck hkn hr hkb hsb (hq w hw) (hk w hw)
end Go.Proofs.YtickdimknfeddaaGreatDoor

namespace Go.Proofs.YtickdimknfeddaaGreatDoor
open Go.SX Go.RowKit Go.Tr Go.Lex
namespace Fzb
theorem en41 : Enters Tryz.prog 41 := Enters.of Tryz.func41 (by kernel_rfl) (by kernel_rfl)
theorem en86 : Enters Tryz.prog 86 := Enters.of Tryz.func86 (by kernel_rfl) (by kernel_rfl)
end Fzb
theorem places_s {w0 : World} {base : Nat} {bq : Nat} {al : Option Addr} {cl : Nat} {uv : Value} {l : List Nd} (n i : Nat) (hA : Ahead l i) (hi : i ≤ l.length) (hlb : l.length ≤ 9223372036854775807) (hd : ∀ (k : Nat) (x : Nd), l[k]? = some x → x.op = 45 → 0 < x.kids.length) (hkb : ∀ (k : Nat) (x : Nd), l[k]? = some x → x.kids.length ≤ 1048576) (hsb : ∀ (k : Nat) (x : Nd), l[k]? = some x → x.s.length ≤ 9223372036854775807) (ih : ∀ its (kz : Int) (wh df lp : Bool), 0 ≤ kz → kz < i → kz < n → FnQ Tryz.prog 41 #[.pointer (some ⟨bq, 0, none⟩), .int .i64 kz, .bool wh, .bool df, .bool lp] (WA w0 base its) (.bool (places l n kz wh df lp))) (kz : Int) (wh df lp : Bool) (h0 : 0 ≤ kz ∧ kz < l.length) (hn : kz < i ∧ kz < (n : Int) + 1) (hq : Cq w0 base bq al cl uv l ndA) : FnC Tryz.prog 41 #[.pointer (some ⟨bq, 0, none⟩), .int .i64 kz, .bool wh, .bool df, .bool lp] (WA w0 base []) (fun _ : Unit => .bool (places l (n + 1) kz wh df lp)) (fun _ => WA w0 base []) := by
  obtain ⟨k, rfl⟩ : ∃ k : Nat, kz = (k : Int) := ⟨kz.toNat, by omega⟩
  have hkl : k < l.length := by omega
  obtain ⟨x, hx⟩ : ∃ x, l[k]? = some x := ⟨_, List.getElem?_eq_getElem hkl⟩
  obtain ⟨a, cs, hav, hcl, hL, vk, rfl, hks, hin⟩ := hq.nodes k x hx
  obtain ⟨ak, ck, rfl, ⟨hkn, hkc⟩, hka⟩ := hks.sl
  have hAk := hA k x (by omega) hx
  refine FnC.of_body (fn := Tryz.f41) [(0, _), (1, _), (2, _), (3, _), (4, _)] Tryz.func41 rfl Tryz.ntmps41 rfl ⟨rfl, rfl, rfl, rfl, rfl, trivial⟩ ?_
  refine CX.seq <| CX.region <| LX.pure (Y.assign rfl) rfl rfl rfl <| LX.sub (l' := [(0, _), (1, _), (2, _), (3, _), (4, _), (10, _)]) ⟨rfl, rfl, rfl, rfl, rfl, rfl, trivial⟩ <| LX.next <| PX.thenN <| CX.seq <| CX.region <| LX.pure (Y.move rfl) rfl rfl rfl <| LX.pure (Y.nilCheck rfl) rfl rfl rfl <| LX.pure (Y.fieldAddr0 Ft.fo88_0 rfl) rfl rfl rfl <| LX.pure (Y.ldB0 Ft.one22 rfl hq.blk rfl) rfl rfl rfl <| LX.pure (Y.move rfl) rfl rfl rfl <| LX.pure (Y.idxZ Ft.un22 Ft.sz53 rfl rfl hav (j := k) rfl hkl) rfl rfl rfl <| LX.pure (Y.ldAO (cs := [.int .i64 x.op, .int .i64 x.n, .int .i64 x.pos, str x.s, .slice ak x.kids.length ck]) Ft.ag53 rfl hL rfl) rfl rfl rfl <| LX.alloc rfl Fu.zv53 rfl rfl rfl ?_
  intro bt
  refine LX.storeA 0 Ft.ag53 rfl rfl rfl rfl rfl rfl rfl rfl rfl <| LX.sub (l' := [(0, _), (1, _), (2, _), (3, _), (4, _), (10, _), (11, _)]) ⟨rfl, rfl, rfl, rfl, rfl, rfl, rfl, trivial⟩ <| LX.next <| PX.thenN <| CX.seq <| CX.seq <| CX.region <| LX.pure (Y.fieldAddr0 Ft.fo53_0 rfl) rfl rfl rfl <| LX.pure (Y.ldB 0 Ft.one3 rfl rfl rfl) rfl rfl rfl <| LX.sub (l' := [(0, _), (1, _), (2, _), (3, _), (4, _), (10, _), (11, _), (23, _)]) ⟨rfl, rfl, rfl, rfl, rfl, rfl, rfl, rfl, trivial⟩ <| LX.next <| PX.thenN <| CX.block <| CX.sub (l' := [(0, _), (1, _), (2, _), (3, _), (4, _), (10, _), (11, _), (23, _)]) ⟨rfl, rfl, rfl, rfl, rfl, rfl, rfl, rfl, trivial⟩ ?_
  apply CX.seqSw 24
  ·
    refine CX.seq <| CX.region <| LX.pure (Y.eqI rfl rfl) rfl rfl rfl <| LX.pure (Y.assign rfl) rfl rfl rfl <| LX.next <| PX.thenN ?_
    apply CX.swOr
    · rfl
    · exact ⟨rfl, rfl, rfl, rfl, rfl, rfl, rfl, rfl, rfl, trivial⟩
    intro hb1
    try simp at hb1
    refine CX.region <| LX.pure (Y.eqI rfl rfl) rfl rfl rfl <| LX.pure (Y.assign rfl) rfl rfl rfl <| LX.next ?_
    exact PX.sw ⟨rfl, rfl, rfl, rfl, rfl, rfl, rfl, rfl, rfl, trivial⟩
  refine CX.cond rfl (fun hb2 => ?_) (fun hb2 => ?_)
  · try simp at hb2
    refine CX.seq <| CX.region <| LX.pure (Y.move rfl) rfl rfl rfl <| LX.pure (Y.assign rfl) rfl rfl rfl <| LX.sub (l' := [(10, _)]) ⟨rfl, trivial⟩ <| LX.next <| PX.thenN <| CX.ret <| PX.blockR <| PX.thenR <| PX.ret1 (by simp) Tryz.results41 rfl ?_
    exact fun w hw => ⟨(), congrArg (fun z => Ending.returned (Value.bool z)) (by
      rw [places_1 hx]
      repeat (rw [if_pos (by omega)])
      try rfl), hw.drop (List.sublist_cons_self _ _)⟩
  try simp at hb2
  refine CX.seq <| CX.region <| LX.pure (Y.eqI rfl rfl) rfl rfl rfl <| LX.pure (Y.assign rfl) rfl rfl rfl <| LX.sub (l' := [(0, _), (1, _), (2, _), (3, _), (4, _), (10, _), (11, _), (23, _), (28, _)]) ⟨rfl, rfl, rfl, rfl, rfl, rfl, rfl, rfl, rfl, trivial⟩ <| LX.next <| PX.thenN ?_
  refine CX.cond rfl (fun hb3 => ?_) (fun hb3 => ?_)
  · try simp at hb3
    refine CX.seq <| CX.region <| LX.pure (Y.move rfl) rfl rfl rfl <| LX.pure (Y.assign rfl) rfl rfl rfl <| LX.sub (l' := [(10, _)]) ⟨rfl, trivial⟩ <| LX.next <| PX.thenN <| CX.ret <| PX.blockR <| PX.thenR <| PX.ret1 (by simp) Tryz.results41 rfl ?_
    exact fun w hw => ⟨(), congrArg (fun z => Ending.returned (Value.bool z)) (by
      rw [places_1 hx]
      repeat (first | rw [if_pos (by omega)] | rw [if_neg (by omega)])
      try rfl), hw.drop (List.sublist_cons_self _ _)⟩
  try simp at hb3
  refine CX.seq <| CX.region <| LX.pure (Y.eqI rfl rfl) rfl rfl rfl <| LX.pure (Y.assign rfl) rfl rfl rfl <| LX.sub (l' := [(0, _), (1, _), (2, _), (3, _), (4, _), (10, _), (11, _), (23, _), (31, _)]) ⟨rfl, rfl, rfl, rfl, rfl, rfl, rfl, rfl, rfl, trivial⟩ <| LX.next <| PX.thenN ?_
  refine CX.cond rfl (fun hb4 => ?_) (fun hb4 => ?_)
  · try simp at hb4
    refine CX.seq <| CX.region <| LX.pure (Y.move rfl) rfl rfl rfl <| LX.pure (Y.assign rfl) rfl rfl rfl <| LX.sub (l' := [(10, _)]) ⟨rfl, trivial⟩ <| LX.next <| PX.thenN <| CX.ret <| PX.blockR <| PX.thenR <| PX.ret1 (by simp) Tryz.results41 rfl ?_
    exact fun w hw => ⟨(), congrArg (fun z => Ending.returned (Value.bool z)) (by
      rw [places_1 hx]
      repeat (first | rw [if_pos (by omega)] | rw [if_neg (by omega)])
      try rfl), hw.drop (List.sublist_cons_self _ _)⟩
  try simp at hb4
  refine CX.sub (l' := [(0, _), (1, _), (2, _), (3, _), (4, _), (10, _), (11, _), (23, _)]) ⟨rfl, rfl, rfl, rfl, rfl, rfl, rfl, rfl, trivial⟩ ?_
  apply CX.seqSw 34
  ·
    refine CX.seq <| CX.region <| LX.pure (Y.eqI rfl rfl) rfl rfl rfl <| LX.pure (Y.assign rfl) rfl rfl rfl <| LX.next <| PX.thenN ?_
    apply CX.swOr
    · rfl
    · exact ⟨rfl, rfl, rfl, rfl, rfl, rfl, rfl, rfl, rfl, trivial⟩
    intro hb5
    try simp at hb5
    refine CX.seq <| CX.region <| LX.pure (Y.eqI rfl rfl) rfl rfl rfl <| LX.pure (Y.assign rfl) rfl rfl rfl <| LX.next <| PX.thenN ?_
    apply CX.swOr
    · rfl
    · exact ⟨rfl, rfl, rfl, rfl, rfl, rfl, rfl, rfl, rfl, trivial⟩
    intro hb6
    try simp at hb6
    refine CX.region <| LX.pure (Y.eqI rfl rfl) rfl rfl rfl <| LX.pure (Y.assign rfl) rfl rfl rfl <| LX.next ?_
    exact PX.sw ⟨rfl, rfl, rfl, rfl, rfl, rfl, rfl, rfl, rfl, trivial⟩
  refine CX.cond rfl (fun hb7 => ?_) (fun hb7 => ?_)
  · try simp at hb7
    refine CX.seq <| CX.region <| LX.pure (Y.fieldAddr0 Fu.fo53_4 rfl) rfl rfl rfl <| LX.pure (Y.ldB 0 Fu.one51 rfl rfl rfl) rfl rfl rfl <| LX.pure (Y.lenSl rfl Ft.un51 rfl) rfl rfl rfl <| LX.pure (Y.move rfl) rfl rfl rfl <| LX.sub (l' := [(0, _), (1, _), (2, _), (3, _), (4, _), (10, _), (11, _), (39, _), (40, _), (41, _)]) ⟨rfl, rfl, rfl, rfl, rfl, rfl, rfl, rfl, rfl, rfl, trivial⟩ <| LX.next <| PX.thenN <| CX.block <| CX.loop (fun j : Nat => [(0, .pointer (some ⟨bq, 0, none⟩)), (1, .int .i64 (k : Int)), (2, .bool wh), (3, .bool df), (4, .bool lp), (11, .pointer (some ⟨bt, 0, none⟩)), (39, .slice ak x.kids.length ck), (40, .int .i64 (x.kids.length : Int)), (41, .int .i64 (j : Int))]) (fun (j : Nat) w => (j ≤ x.kids.length ∧ (x.kids.drop j).all (fun q => places l n q (wh && decide ((k : Int) = (l.length : Int) - 1)) df (lp || decide (x.op = 44))) = x.kids.all (fun q => places l n q (wh && decide ((k : Int) = (l.length : Int) - 1)) df (lp || decide (x.op = 44)))) ∧ WA w0 base [blk bt [.int .i64 x.op, .int .i64 x.n, .int .i64 x.pos, str x.s, .slice ak x.kids.length ck] 53] w) (fun j => x.kids.length - j) 0 ⟨rfl, rfl, rfl, rfl, rfl, rfl, rfl, rfl, rfl, trivial⟩ (fun w hw => ⟨⟨Nat.zero_le _, rfl⟩, hw⟩) ?_
    intro j
    refine CX.have fun ⟨hj0, hall⟩ => ?_
    try dsimp only at hj0 hall ⊢
    refine CX.seq <| CX.region <| LX.pure (Y.ltN rfl rfl) rfl rfl rfl <| LX.sub (l' := [(0, _), (1, _), (2, _), (3, _), (4, _), (11, _), (39, _), (40, _), (41, _), (42, _)]) ⟨rfl, rfl, rfl, rfl, rfl, rfl, rfl, rfl, rfl, rfl, trivial⟩ <| LX.next <| PX.thenN <| CX.seq ?_
    refine CX.cond rfl (fun hb8 => ?_) (fun hb8 => ?_)
    · try simp at hb8
      have hj : j < x.kids.length := by omega
      obtain ⟨a0, hav0, hL0, hin0⟩ := hka.int_at hj
      have hrj := hAk _ (getD_mem hj)
      generalize hkj : x.kids.getD j 0 = kj at hL0 hin0 hrj
      refine CX.skip <| PX.thenN <| CX.seq <| CX.block <| CX.seq <| CX.region <| LX.pure (Y.idxZ Ft.un51 Ft.sz3 rfl rfl hav0 (j := j) rfl hj) rfl rfl rfl <| LX.pure (Y.ldO1 Ft.one3 rfl hL0) rfl rfl rfl <| LX.pure (Y.assign rfl) rfl rfl rfl <| LX.sub (l' := [(0, _), (1, _), (2, _), (3, _), (4, _), (11, _), (13, _), (39, _), (40, _), (41, _)]) ⟨rfl, rfl, rfl, rfl, rfl, rfl, rfl, rfl, rfl, rfl, trivial⟩ <| LX.next <| PX.thenN <| CX.seq <| CX.region <| LX.pure (Y.move rfl) rfl rfl rfl <| LX.pure (Y.move rfl) rfl rfl rfl <| LX.sub (l' := [(0, _), (1, _), (2, _), (3, _), (4, _), (11, _), (13, _), (39, _), (40, _), (41, _), (46, _)]) ⟨rfl, rfl, rfl, rfl, rfl, rfl, rfl, rfl, rfl, rfl, rfl, trivial⟩ ?_
      apply LX.joinAnd 9 55 46 rfl
      · intro hb9
        have hb9p := hb9
        try simp at hb9p
        refine LX.gT rfl rfl rfl hb9 (Y.move rfl) rfl rfl <| LX.gT rfl rfl rfl hb9 (Y.move rfl) rfl rfl <| LX.gT rfl rfl rfl hb9 (Y.nilCheck rfl) rfl rfl <| LX.gT rfl rfl rfl hb9 (Y.fieldAddr0 Ft.fo88_0 rfl) rfl rfl <| LX.gT rfl rfl rfl hb9 (Y.ldB0 Ft.one22 rfl hq.blk rfl) rfl rfl <| LX.gT rfl rfl rfl hb9 (Y.lenSl rfl Ft.un22 rfl) rfl rfl <| LX.gT rfl rfl rfl hb9 (Y.sub rfl rfl (by omega)) rfl rfl <| LX.gT rfl rfl rfl hb9 (Y.eqI rfl rfl) rfl rfl <| LX.pure (Y.pickT rfl hb9 rfl) rfl rfl rfl ?_
        exact LX.left ⟨rfl, rfl, rfl, rfl, rfl, rfl, rfl, rfl, rfl, rfl, rfl, rfl, trivial⟩
      · intro hb9
        refine LX.gF rfl rfl rfl hb9 rfl rfl <| LX.gF rfl rfl rfl hb9 rfl rfl <| LX.gF rfl rfl rfl hb9 rfl rfl <| LX.gF rfl rfl rfl hb9 rfl rfl <| LX.gF rfl rfl rfl hb9 rfl rfl <| LX.gF rfl rfl rfl hb9 rfl rfl <| LX.gF rfl rfl rfl hb9 rfl rfl <| LX.gF rfl rfl rfl hb9 rfl rfl <| LX.pure (Y.pickF rfl hb9 rfl) rfl rfl rfl ?_
        exact LX.left ⟨rfl, rfl, rfl, rfl, rfl, rfl, rfl, rfl, rfl, rfl, rfl, rfl, trivial⟩
      refine LX.pure (Y.assign rfl) rfl rfl rfl <| LX.sub (l' := [(0, _), (1, _), (2, _), (3, _), (4, _), (11, _), (13, _), (14, _), (39, _), (40, _), (41, _)]) ⟨rfl, rfl, rfl, rfl, rfl, rfl, rfl, rfl, rfl, rfl, rfl, trivial⟩ <| LX.next <| PX.thenN <| CX.seq <| CX.region <| LX.pure (Y.move rfl) rfl rfl rfl <| LX.pure (Y.move rfl) rfl rfl rfl <| LX.pure (Y.move rfl) rfl rfl rfl <| LX.pure (Y.move rfl) rfl rfl rfl <| LX.pure (Y.move rfl) rfl rfl rfl <| LX.pure (Y.move rfl) rfl rfl rfl <| LX.sub (l' := [(0, _), (1, _), (2, _), (3, _), (4, _), (11, _), (39, _), (40, _), (41, _), (56, _), (57, _), (58, _), (59, _), (61, _)]) ⟨rfl, rfl, rfl, rfl, rfl, rfl, rfl, rfl, rfl, rfl, rfl, rfl, rfl, rfl, trivial⟩ ?_
      apply LX.joinOr 4 65 61 rfl
      · intro hb10
        refine LX.gF rfl rfl rfl hb10 rfl rfl <| LX.gF rfl rfl rfl hb10 rfl rfl <| LX.gF rfl rfl rfl hb10 rfl rfl <| LX.pure (Y.pickT rfl hb10 rfl) rfl rfl rfl ?_
        exact LX.left ⟨rfl, rfl, rfl, rfl, rfl, rfl, rfl, rfl, rfl, rfl, rfl, rfl, rfl, rfl, rfl, trivial⟩
      · intro hb10
        refine LX.gT rfl rfl rfl hb10 (Y.fieldAddr0 Ft.fo53_0 rfl) rfl rfl <| LX.gT rfl rfl rfl hb10 (Y.ldB 0 Ft.one3 rfl rfl rfl) rfl rfl <| LX.gT rfl rfl rfl hb10 (Y.eqI rfl rfl) rfl rfl <| LX.pure (Y.pickF rfl hb10 rfl) rfl rfl rfl ?_
        exact LX.left ⟨rfl, rfl, rfl, rfl, rfl, rfl, rfl, rfl, rfl, rfl, rfl, rfl, rfl, rfl, rfl, trivial⟩
      refine LX.callQ (ih _ _ _ _ _ (by omega) (by omega) (by omega)) Fzb.en41 rfl rfl rfl rfl rfl <| LX.pure (Y.not rfl) rfl rfl rfl <| LX.sub (l' := [(0, _), (1, _), (2, _), (3, _), (4, _), (11, _), (39, _), (40, _), (41, _), (67, _)]) ⟨rfl, rfl, rfl, rfl, rfl, rfl, rfl, rfl, rfl, rfl, trivial⟩ <| LX.next <| PX.thenN ?_
      refine CX.cond rfl (fun hb11 => ?_) (fun hb11 => ?_)
      · try simp at hb11
        have hpl : places l n (x.kids.getD j 0) (wh && decide ((k : Int) = (l.length : Int) - 1)) df (lp || decide (x.op = 44)) = false := by rw [hkj]; exact hb11
        refine CX.seq <| CX.region <| LX.pure (Y.assign rfl) rfl rfl rfl <| LX.sub (l' := [(0, _), (1, _), (2, _), (3, _), (4, _), (10, _), (11, _), (39, _), (40, _), (41, _)]) ⟨rfl, rfl, rfl, rfl, rfl, rfl, rfl, rfl, rfl, rfl, trivial⟩ <| LX.next <| PX.thenN <| CX.ret <| PX.blockR <| PX.thenR <| PX.thenR <| PX.blockR <| PX.blockR <| PX.thenR <| PX.ret1 (by simp) Tryz.results41 rfl ?_
        exact fun w hw => ⟨(), congrArg (fun z => Ending.returned (Value.bool z)) (by
          rw [places_1 hx]
          repeat (first | rw [if_pos (by omega)] | rw [if_neg (by omega)])
          rw [← hall, all_drop hj, hpl]; rfl), hw.drop (List.sublist_cons_self _ _)⟩
      try simp at hb11
      have hpl : places l n (x.kids.getD j 0) (wh && decide ((k : Int) = (l.length : Int) - 1)) df (lp || decide (x.op = 44)) = true := by rw [hkj]; exact hb11
      refine CX.skip <| PX.blockN <| PX.thenN <| CX.region <| LX.pure (Y.addN rfl rfl (by (simp only []; omega))) rfl rfl rfl <| LX.pure (Y.move rfl) rfl rfl rfl <| LX.sub (l' := [(0, _), (1, _), (2, _), (3, _), (4, _), (11, _), (39, _), (40, _), (41, _)]) ⟨rfl, rfl, rfl, rfl, rfl, rfl, rfl, rfl, rfl, trivial⟩ <| LX.next ?_
      exact PX.again (μ := fun j => x.kids.length - j) (i := j) (j + 1) (by show x.kids.length - (j + 1) < x.kids.length - j; omega) ⟨rfl, rfl, rfl, rfl, rfl, rfl, rfl, rfl, rfl, trivial⟩ (fun w hw => ⟨⟨by omega, by rw [← hall, all_drop hj, hpl]; rfl⟩, hw⟩)
    try simp at hb8
    have hje : j = x.kids.length := by omega
    refine CX.exit <| PX.thenE <| PX.thenE <| PX.blockE <| PX.blockN <| PX.thenN <| CX.seq <| CX.region <| LX.pure (Y.assign rfl) rfl rfl rfl <| LX.sub (l' := [(10, _)]) ⟨rfl, trivial⟩ <| LX.next <| PX.thenN <| CX.ret <| PX.ret1 (by simp) Tryz.results41 rfl ?_
    exact fun w hw => ⟨(), congrArg (fun z => Ending.returned (Value.bool z)) (by
      rw [places_1 hx]
      repeat (first | rw [if_pos (by omega)] | rw [if_neg (by omega)])
      rw [← hall, drop_end hje]; rfl), hw.drop (List.sublist_cons_self _ _)⟩
  try simp at hb7
  refine CX.seq <| CX.region <| LX.pure (Y.eqI rfl rfl) rfl rfl rfl <| LX.pure (Y.assign rfl) rfl rfl rfl <| LX.sub (l' := [(0, _), (2, _), (10, _), (11, _), (69, _)]) ⟨rfl, rfl, rfl, rfl, rfl, trivial⟩ <| LX.next <| PX.thenN ?_
  refine CX.cond rfl (fun hb12 => ?_) (fun hb12 => ?_)
  · try simp at hb12
    refine CX.seq <| CX.region <| LX.pure (Y.move rfl) rfl rfl rfl <| LX.pure (Y.move rfl) rfl rfl rfl <| LX.sub (l' := [(0, _), (10, _), (11, _), (72, _)]) ⟨rfl, rfl, rfl, rfl, trivial⟩ ?_
    apply LX.joinAnd 10 82 72 rfl
    · intro hb13
      have hb13p := hb13
      try simp at hb13p
      refine LX.gT rfl rfl rfl hb13 (Y.move rfl) rfl rfl <| LX.gT rfl rfl rfl hb13 (Y.fieldAddr0 Fu.fo53_4 rfl) rfl rfl <| LX.gT rfl rfl rfl hb13 (Y.ldB 0 Fu.one51 rfl rfl rfl) rfl rfl <| LX.gT rfl rfl rfl hb13 (Y.fieldAddr0 Fu.fo53_4 rfl) rfl rfl <| LX.gT rfl rfl rfl hb13 (Y.ldB 0 Fu.one51 rfl rfl rfl) rfl rfl <| LX.gT rfl rfl rfl hb13 (Y.lenSl rfl Ft.un51 rfl) rfl rfl ?_
      have hd0 := hd k x hx (by omega)
      refine LX.gT rfl rfl rfl hb13 (Y.subN rfl rfl (by (simp only []; omega)) (by omega)) rfl rfl <| LX.gT rfl rfl rfl hb13 (Y.cutHiT (b := x.kids.length - 1) (m := (x.kids.take (x.kids.length - 1)).length) Ft.un51 Ft.sz3 rfl rfl (by omega) (by rw [List.length_take]; omega)) rfl rfl <| LX.callQT rfl rfl rfl hb13 (params_q i hi ck (ks := x.kids.take (x.kids.length - 1)) (by rw [List.length_take]; omega) (fun q hq2 => by have := hAk q (List.mem_of_mem_take hq2); omega) (by rw [List.length_take]; have := hkb k x hx; omega) hsb (fun w hw => hq.push hw) (fun w hw => (hka.take (x.kids.length - 1)).push hw)) Fzb.en86 rfl rfl rfl rfl <| LX.pure (Y.pickT rfl hb13 rfl) rfl rfl rfl ?_
      exact LX.left ⟨rfl, rfl, rfl, rfl, rfl, trivial⟩
    · intro hb13
      refine LX.gF rfl rfl rfl hb13 rfl rfl <| LX.gF rfl rfl rfl hb13 rfl rfl <| LX.gF rfl rfl rfl hb13 rfl rfl <| LX.gF rfl rfl rfl hb13 rfl rfl <| LX.gF rfl rfl rfl hb13 rfl rfl <| LX.gF rfl rfl rfl hb13 rfl rfl <| LX.gF rfl rfl rfl hb13 rfl rfl <| LX.gF rfl rfl rfl hb13 rfl rfl <| LX.gF rfl rfl rfl hb13 rfl rfl <| LX.pure (Y.pickF rfl hb13 rfl) rfl rfl rfl ?_
      exact LX.left ⟨rfl, rfl, rfl, rfl, rfl, trivial⟩
    refine LX.pure (Y.move rfl) rfl rfl rfl <| LX.sub (l' := [(0, _), (10, _), (11, _), (83, _)]) ⟨rfl, rfl, rfl, rfl, trivial⟩ ?_
    apply LX.joinAnd 11 94 83 rfl
    · intro hb14
      have hb14p := hb14
      try simp at hb14p
      refine LX.gT rfl rfl rfl hb14 (Y.move rfl) rfl rfl <| LX.gT rfl rfl rfl hb14 (Y.fieldAddr0 Fu.fo53_4 rfl) rfl rfl <| LX.gT rfl rfl rfl hb14 (Y.ldB 0 Fu.one51 rfl rfl rfl) rfl rfl <| LX.gT rfl rfl rfl hb14 (Y.fieldAddr0 Fu.fo53_4 rfl) rfl rfl <| LX.gT rfl rfl rfl hb14 (Y.ldB 0 Fu.one51 rfl rfl rfl) rfl rfl <| LX.gT rfl rfl rfl hb14 (Y.lenSl rfl Ft.un51 rfl) rfl rfl ?_
      have hd0 := hd k x hx (by omega)
      obtain ⟨a0, hav0, hL0, _⟩ := hka.int_at (j := x.kids.length - 1) (by omega)
      have hr0 := hAk _ (getD_mem (j := x.kids.length - 1) (by omega))
      refine LX.gT rfl rfl rfl hb14 (Y.subN rfl rfl (by (simp only []; omega)) (by omega)) rfl rfl <| LX.gT rfl rfl rfl hb14 (Y.idxZ Ft.un51 Ft.sz3 rfl rfl hav0 (j := x.kids.length - 1) rfl (by omega)) rfl rfl <| LX.gT rfl rfl rfl hb14 (Y.ldO1 (v := .int .i64 (x.kids.getD (x.kids.length - 1) 0)) Ft.one3 rfl hL0) rfl rfl <| LX.callQT rfl rfl rfl hb14 (ih _ _ false true false (by omega) (by omega) (by omega)) Fzb.en41 rfl rfl rfl rfl <| LX.pure (Y.pickT rfl hb14 rfl) rfl rfl rfl ?_
      exact LX.left ⟨rfl, rfl, rfl, rfl, rfl, trivial⟩
    · intro hb14
      refine LX.gF rfl rfl rfl hb14 rfl rfl <| LX.gF rfl rfl rfl hb14 rfl rfl <| LX.gF rfl rfl rfl hb14 rfl rfl <| LX.gF rfl rfl rfl hb14 rfl rfl <| LX.gF rfl rfl rfl hb14 rfl rfl <| LX.gF rfl rfl rfl hb14 rfl rfl <| LX.gF rfl rfl rfl hb14 rfl rfl <| LX.gF rfl rfl rfl hb14 rfl rfl <| LX.gF rfl rfl rfl hb14 rfl rfl <| LX.gF rfl rfl rfl hb14 rfl rfl <| LX.pure (Y.pickF rfl hb14 rfl) rfl rfl rfl ?_
      exact LX.left ⟨rfl, rfl, rfl, rfl, rfl, trivial⟩
    refine LX.pure (Y.assign rfl) rfl rfl rfl <| LX.sub (l' := [(10, _)]) ⟨rfl, trivial⟩ <| LX.next <| PX.thenN <| CX.ret <| PX.blockR <| PX.thenR <| PX.ret1 (by simp) Tryz.results41 rfl ?_
    exact fun w hw => ⟨(), congrArg (fun z => Ending.returned (Value.bool z)) (by
      rw [places_1 hx]
      repeat (first | rw [if_pos (by omega)] | rw [if_neg (by omega)])
      try rfl), hw.drop (List.sublist_cons_self _ _)⟩
  try simp at hb12
  refine CX.skip <| PX.blockN <| PX.thenN <| CX.seq <| CX.region <| LX.pure (Y.assign rfl) rfl rfl rfl <| LX.sub (l' := [(10, _)]) ⟨rfl, trivial⟩ <| LX.next <| PX.thenN <| CX.ret <| PX.ret1 (by simp) Tryz.results41 rfl ?_
  exact fun w hw => ⟨(), congrArg (fun z => Ending.returned (Value.bool z)) (by
    rw [places_1 hx]
    repeat (rw [if_neg (by omega)])
    try rfl), hw.drop (List.sublist_cons_self _ _)⟩
theorem places_q {bq : Nat} {al : Option Addr} {cl : Nat} {uv : Value} {l : List Nd} (i : Nat) (hA : Ahead l i) (hi : i ≤ l.length) (hlb : l.length ≤ 9223372036854775807) (hd : ∀ (k : Nat) (x : Nd), l[k]? = some x → x.op = 45 → 0 < x.kids.length) (hkb : ∀ (k : Nat) (x : Nd), l[k]? = some x → x.kids.length ≤ 1048576) (hsb : ∀ (k : Nat) (x : Nd), l[k]? = some x → x.s.length ≤ 9223372036854775807) : ∀ (n : Nat) {W : World → Prop} [Stab W] (kz : Int) (wh df lp : Bool) (_h0 : 0 ≤ kz) (_h1 : kz < i) (_h2 : kz < n) (_hq : ∀ w, W w → Cq w w.heap.size bq al cl uv l ndA), FnQ Tryz.prog 41 #[.pointer (some ⟨bq, 0, none⟩), .int .i64 kz, .bool wh, .bool df, .bool lp] W (.bool (places l n kz wh df lp))
  | 0, _, _, kz, _, _, _, h0, _, h2, _ => absurd h2 (by omega)
  | n + 1, W, _, kz, wh, df, lp, h0, h1, h2, hq => FnC.quiet fun w hw => places_s n i hA hi hlb hd hkb hsb (fun its kj wh2 df2 lp2 hj0 hlt hjn => places_q i hA hi hlb hd hkb hsb n kj wh2 df2 lp2 hj0 hlt hjn (fun w' hw' => (hq w hw).push hw')) kz wh df lp ⟨h0, by omega⟩ ⟨h1, by omega⟩ (hq w hw)
end Go.Proofs.YtickdimknfeddaaGreatDoor

namespace Go.Proofs.YtickdimknfeddaaGreatDoor
open Go.SX Go.RowKit Go.Tr Go.Lex
namespace Fzc
theorem en38 : Enters Tryz.prog 38 := Enters.of Tryz.func38 (by kernel_rfl) (by kernel_rfl)
theorem en39 : Enters Tryz.prog 39 := Enters.of Tryz.func39 (by kernel_rfl) (by kernel_rfl)
theorem en40 : Enters Tryz.prog 40 := Enters.of Tryz.func40 (by kernel_rfl) (by kernel_rfl)
theorem fa53_1 : FieldOffA Tryz.prog 53 1 1 := fun a w => by kernel_rfl
theorem fa88_1 : FieldOffA Tryz.prog 88 1 1 := fun a w => by kernel_rfl
theorem fo53_1 : FieldOff Tryz.prog 53 1 1 := fun b o w => by kernel_rfl
theorem fo88_1 : FieldOff Tryz.prog 88 1 1 := fun b o w => by kernel_rfl
theorem ni91 : NoIface Tryz.prog 91 := fun w v => by kernel_rfl
theorem one28 : One Tryz.prog 28 := fun w => by kernel_rfl
theorem one82 : One Tryz.prog 82 := fun w => by kernel_rfl
theorem el82 : Elem Tryz.prog 82 4 1 1 := Elem.of Fy.un82 (z := .bool false) (by kernel_rfl) rfl
end Fzc
/-- an error with its place, or none  -/
def atE (b : Nat) : Value := .iface 91 (.pointer (some ⟨b, 0, none⟩))
def vE (r : Option Nat) (b : Nat) : Value := match r with | none => .nilIface | some _ => atE b
def iE (r : Option Nat) (b : Nat) (e : Value) : List It := match r with | none => [] | some i => [blk b [.int .i64 (i : Int), e] 93]
theorem build_at {e : Value} (he : e.oneCell' = true) (z : Int) (w : World) : (Instr.build 93 [(0, .int .i64 z), (1, e)].toArray).run Tryz.prog w = .ok (.agg #[.int .i64 z, e]) w := by
  cases e <;> first | (cases he; done) | kernel_rfl
theorem valid_c {w0 : World} {base : Nat} {fr : List It} {al : Option Addr} (cl : Nat) {l : List Nd} (hl : SlAt 5 ndA (Lies w0 base) al l) (hln : l.length ≤ 1048576) (hkb : ∀ (k : Nat) (x : Nd), l[k]? = some x → x.kids.length ≤ 1048576) (hsb : ∀ (k : Nat) (x : Nd), l[k]? = some x → x.s.length ≤ 9223372036854775807) {eS : Value} (hE : EnvV w0 base 0 eS) : FnC Tryz.prog 23 #[.slice al l.length cl] (WA w0 base fr) (fun b : Nat => vE (valid l nameB) b) (fun b => WA w0 base (iE (valid l nameB) b eS ++ fr)) := by
  refine FnC.of_body (fn := Tryz.f23) [(0, _)] Tryz.func23 rfl Tryz.ntmps23 rfl ⟨rfl, trivial⟩ ?_
  refine CX.seq <| CX.region <| LX.pure (Y.assign rfl) rfl rfl rfl <| LX.sub (l' := [(0, _), (2, _)]) ⟨rfl, rfl, trivial⟩ <| LX.next <| PX.thenN <| CX.seq <| CX.seq <| CX.region <| LX.pure (Y.move rfl) rfl rfl rfl <| LX.pure (Y.lenSl rfl Ft.un22 rfl) rfl rfl rfl <| LX.pure (Y.gtN rfl rfl) rfl rfl rfl <| LX.sub (l' := [(0, _), (2, _), (9, _)]) ⟨rfl, rfl, rfl, trivial⟩ <| LX.next <| PX.thenN ?_
  refine CX.cond rfl (fun hb1 => ?_) (fun hb1 => ?_)
  · try simp at hb1
    exfalso; omega
  try simp at hb1
  refine CX.skip <| PX.thenN <| CX.seq <| CX.region <| LX.pure (Y.move rfl) rfl rfl rfl <| LX.pure (Y.move rfl) rfl rfl rfl <| LX.pure (Y.lenSl rfl Ft.un22 rfl) rfl rfl rfl <| LX.makeN (z := .bool false) Fzc.el82 (by kernel_rfl) rfl rfl rfl (by omega) (by omega) rfl rfl rfl ?_
  intro gb
  rw [made_bv]
  refine LX.pure (Y.build (v := .agg #[.slice al l.length cl, rv (some gb) l.length l.length]) rfl (fun _ => by kernel_rfl)) rfl rfl rfl <| LX.box rfl rfl rfl rfl rfl ?_
  intro bc
  refine LX.pure (Y.assign rfl) rfl rfl rfl <| LX.sub (l' := [(0, _), (2, _), (3, _)]) ⟨rfl, rfl, rfl, trivial⟩ <| LX.next <| PX.thenN <| CX.seq <| CX.seq <| CX.region <| LX.pure (Y.move rfl) rfl rfl rfl <| LX.pure (Y.lenSl rfl Ft.un22 rfl) rfl rfl rfl <| LX.pure (Y.move rfl) rfl rfl rfl <| LX.sub (l' := [(0, _), (2, _), (3, _), (17, _), (18, _), (19, _)]) ⟨rfl, rfl, rfl, rfl, rfl, rfl, trivial⟩ <| LX.next <| PX.thenN <| CX.block <| CX.loop (fun s : Nat × List Bool => [(0, .slice al l.length cl), (3, .pointer (some ⟨bc, 0, none⟩)), (17, .slice al l.length cl), (18, .int .i64 (l.length : Int)), (19, .int .i64 (s.1 : Int))]) (fun (s : Nat × List Bool) w => (s.1 ≤ l.length ∧ s.2.length = l.length ∧ Okay l s.1 ∧ scan l nameB (l.drop s.1) s.1 s.2 = scan l nameB l 0 (List.replicate l.length false) ∧ used (l.drop s.1) s.1 s.2 = used l 0 (List.replicate l.length false)) ∧ WA w0 base (blk bc [.slice al l.length cl, rv (some gb) l.length l.length] 88 :: .row (some gb) l.length l.length 4 1 (s.2.map bv) :: fr) w) (fun s => l.length - s.1) (0, (List.replicate l.length false)) ⟨rfl, rfl, rfl, rfl, rfl, trivial⟩ (fun w hw => ⟨⟨Nat.zero_le _, List.length_replicate .., Okay.zero l, rfl, rfl⟩, hw⟩) ?_
  rintro ⟨j, u⟩
  refine CX.have fun ⟨hj0, hul, hok, hsc, hus⟩ => ?_
  try dsimp only at hj0 hul hok hsc hus ⊢
  refine CX.seq <| CX.region <| LX.pure (Y.ltN rfl rfl) rfl rfl rfl <| LX.sub (l' := [(0, _), (3, _), (17, _), (18, _), (19, _), (20, _)]) ⟨rfl, rfl, rfl, rfl, rfl, rfl, trivial⟩ <| LX.next <| PX.thenN <| CX.seq ?_
  refine CX.cond rfl (fun hb2 => ?_) (fun hb2 => ?_)
  · try simp at hb2
    have hj : j < l.length := by omega
    obtain ⟨x, hx⟩ : ∃ x, l[j]? = some x := ⟨_, List.getElem?_eq_getElem hj⟩
    obtain ⟨a, cs, hav, hcl, hL, vk, rfl, hks, hin⟩ := hl j x hx
    obtain ⟨ak2, ck2, rfl, ⟨hkn2, hkc2⟩, hka2⟩ := hks.sl
    refine CX.skip <| PX.thenN <| CX.seq <| CX.block <| CX.seq <| CX.region <| LX.pure (Y.move rfl) rfl rfl rfl <| LX.pure (Y.idxZ Ft.un22 Ft.sz53 rfl rfl hav (j := j) rfl hj) rfl rfl rfl <| LX.pure (Y.ldAO (cs := [.int .i64 x.op, .int .i64 x.n, .int .i64 x.pos, str x.s, .slice ak2 x.kids.length ck2]) Ft.ag53 rfl hL rfl) rfl rfl rfl <| LX.alloc rfl Fu.zv53 rfl rfl rfl ?_
    intro bx
    refine LX.pure (Y.assign rfl) rfl rfl rfl <| LX.storeA 0 Ft.ag53 rfl rfl rfl rfl rfl rfl rfl rfl rfl <| LX.sub (l' := [(0, _), (3, _), (4, _), (5, _), (17, _), (18, _), (19, _)]) ⟨rfl, rfl, rfl, rfl, rfl, rfl, rfl, trivial⟩ <| LX.next <| PX.thenN <| CX.seq <| CX.regionM [(0, .anywhere), (1, .held), (2, .anywhere), (3, .anywhere), (4, .anywhere), (5, .anywhere), (6, .held), (7, .alone), (8, .anywhere), (9, .anywhere), (10, .alone), (11, .alone), (12, .alone), (13, .anywhere), (14, .anywhere), (15, .anywhere), (16, .alone), (17, .alone), (18, .alone), (19, .anywhere)] rfl (by kernel_rfl) <| MX.lift0 (i := 0) rfl (Y.fieldAddr0 Fu.fo53_4 rfl) rfl rfl rfl <| MX.lift1 (i := 1) (pend' := []) rfl (fun w hw => by exact hw) (Y.ldB 0 Fu.one51 rfl rfl rfl) rfl rfl rfl (by kernel_rfl) <| MX.lift0 (i := 2) rfl (Y.move rfl) rfl rfl rfl <| MX.lift0 (i := 3) rfl (Y.move rfl) rfl rfl rfl <| MX.lift0 (i := 4) rfl (Y.nilCheck rfl) rfl rfl rfl <| MX.lift0 (i := 5) rfl (Y.fieldAddr0 Fzc.fo88_1 rfl) rfl rfl rfl <| MX.lift1 (i := 6) (pend' := [1]) rfl (fun w hw => by exact hw) (Y.ldB 1 Fzc.one82 rfl rfl rfl) rfl rfl rfl (by kernel_rfl) <| MX.force (i := 7) rfl <| LX.world (W' := WA w0 base (.row (some gb) l.length l.length 4 1 (u.map bv) :: [blk bx [.int .i64 x.op, .int .i64 x.n, .int .i64 x.pos, str x.s, .slice ak2 x.kids.length ck2] 53, blk bc [.slice al l.length cl, rv (some gb) l.length l.length] 88] ++ fr)) (fun w hw => hw.perm (List.perm_middle (l₁ := [blk bx _ _, _])).symm) <| LX.call (fresh_c ck2 hkn2 hka2 j (n := l.length) (by omega) gb l.length u hul) Fzc.en38 rfl rfl rfl rfl rfl ?_
    intro u2
    refine LX.have fun hfv => ?_
    try dsimp only at hfv ⊢
    refine LX.nextM [] (by kernel_rfl) (fun h => absurd rfl h) <| MX.lift0 (i := 8) rfl (Y.not rfl) rfl rfl rfl <| MX.lift0 (i := 9) rfl (Y.move rfl) rfl rfl rfl ?_
    refine MX.caseB (s := 33) rfl (fun hb3 => ?_) (fun hb3 => ?_)
    ·
      refine MX.force (i := 10) rfl <| LX.gF rfl rfl rfl hb3 rfl rfl <| LX.nextM [] (by kernel_rfl) (fun h => absurd rfl h) <| MX.force (i := 11) rfl <| LX.gF rfl rfl rfl hb3 rfl rfl <| LX.nextM [] (by kernel_rfl) (fun h => absurd rfl h) <| MX.force (i := 12) rfl <| LX.gF rfl rfl rfl hb3 rfl rfl <| LX.nextM [] (by kernel_rfl) (fun h => absurd rfl h) <| MX.lift0 (i := 13) rfl (Y.pickT rfl hb3 rfl) rfl rfl rfl <| MX.lift0 (i := 14) rfl (Y.move rfl) rfl rfl rfl <| MX.gF0 (i := 15) rfl rfl rfl rfl rfl rfl rfl <| MX.force (i := 16) rfl <| LX.gF rfl rfl rfl rfl rfl rfl <| LX.nextM [] (by kernel_rfl) (fun h => absurd rfl h) <| MX.force (i := 17) rfl <| LX.gF rfl rfl rfl rfl rfl rfl <| LX.nextM [] (by kernel_rfl) (fun h => absurd rfl h) <| MX.force (i := 18) rfl <| LX.gF rfl rfl rfl rfl rfl rfl <| LX.nextM [] (by kernel_rfl) (fun h => absurd rfl h) <| MX.lift0 (i := 19) rfl (Y.pickT rfl rfl rfl) rfl rfl rfl <| MX.sub (l' := [(0, _), (3, _), (4, _), (17, _), (18, _), (19, _), (43, _)]) ⟨rfl, rfl, rfl, rfl, rfl, rfl, rfl, trivial⟩ <| MX.done <| PX.thenN ?_
      refine CX.cond rfl (fun hb4 => ?_) (fun hb4 => ?_)
      · try simp at hb4
        refine CX.seq <| CX.region <| LX.pure (Y.move rfl) rfl rfl rfl <| LX.pure (Y.ldO Fzc.one28 rfl hE.at_ hE.lt) rfl rfl rfl <| LX.pure (Y.build (v := .agg #[.int .i64 (j : Int), eS]) rfl (build_at hE.one _)) rfl rfl rfl <| LX.box rfl rfl rfl rfl rfl ?_
        intro bx9
        refine LX.pure (Y.mkI Fzc.ni91 rfl) rfl rfl rfl <| LX.pure (Y.assign rfl) rfl rfl rfl <| LX.sub (l' := [(0, _), (2, _), (3, _), (17, _), (18, _), (19, _)]) ⟨rfl, rfl, rfl, rfl, rfl, rfl, trivial⟩ <| LX.next <| PX.thenN <| CX.ret <| PX.blockR <| PX.thenR <| PX.thenR <| PX.blockR <| PX.thenR <| PX.ret1 (by simp) Tryz.results23 rfl ?_
        have hr : valid l nameB = some j := valid_some (hsc.symm.trans (scan_none hx (by simpa using hb3)))
        exact fun w hw => ⟨bx9, by rw [hr]; rfl, by rw [hr]; exact hw.drop (.cons_cons _ (.cons _ (.cons _ (.cons _ (List.Sublist.refl _)))))⟩
      · exact absurd hb4 (by decide)
    have hb3p := hb3
    try simp at hb3p
    refine MX.force (i := 10) rfl ?_
    have hu3 : fresh x.kids j u = some u2 := by
      obtain ⟨u3, h3⟩ := Option.isSome_iff_exists.1 (show (fresh x.kids j u).isSome = true by simpa using hb3)
      rw [hfv u3 h3]; exact h3
    refine LX.gT rfl rfl rfl hb3 (Y.fieldAddr0 Fzc.fo53_1 rfl) rfl rfl <| LX.nextM [] (by kernel_rfl) (fun h => absurd rfl h) <| MX.force (i := 11) rfl <| LX.gT rfl rfl rfl hb3 (Y.ldB 1 Ft.one3 rfl rfl rfl) rfl rfl <| LX.nextM [] (by kernel_rfl) (fun h => absurd rfl h) <| MX.force (i := 12) rfl <| LX.gT rfl rfl rfl hb3 (Y.neI rfl rfl) rfl rfl <| LX.nextM [] (by kernel_rfl) (fun h => absurd rfl h) <| MX.lift0 (i := 13) rfl (Y.pickF rfl hb3 rfl) rfl rfl rfl <| MX.lift0 (i := 14) rfl (Y.move rfl) rfl rfl rfl ?_
    refine MX.caseB (s := 38) rfl (fun hb5 => ?_) (fun hb5 => ?_)
    ·
      refine MX.gF0 (i := 15) rfl rfl rfl rfl hb5 rfl rfl <| MX.force (i := 16) rfl <| LX.gF rfl rfl rfl hb5 rfl rfl <| LX.nextM [] (by kernel_rfl) (fun h => absurd rfl h) <| MX.force (i := 17) rfl <| LX.gF rfl rfl rfl hb5 rfl rfl <| LX.nextM [] (by kernel_rfl) (fun h => absurd rfl h) <| MX.force (i := 18) rfl <| LX.gF rfl rfl rfl hb5 rfl rfl <| LX.nextM [] (by kernel_rfl) (fun h => absurd rfl h) <| MX.lift0 (i := 19) rfl (Y.pickT rfl hb5 rfl) rfl rfl rfl <| MX.sub (l' := [(0, _), (3, _), (4, _), (17, _), (18, _), (19, _), (43, _)]) ⟨rfl, rfl, rfl, rfl, rfl, rfl, rfl, trivial⟩ <| MX.done <| PX.thenN ?_
      refine CX.cond rfl (fun hb6 => ?_) (fun hb6 => ?_)
      · try simp at hb6
        refine CX.seq <| CX.region <| LX.pure (Y.move rfl) rfl rfl rfl <| LX.pure (Y.ldO Fzc.one28 rfl hE.at_ hE.lt) rfl rfl rfl <| LX.pure (Y.build (v := .agg #[.int .i64 (j : Int), eS]) rfl (build_at hE.one _)) rfl rfl rfl <| LX.box rfl rfl rfl rfl rfl ?_
        intro bx9
        refine LX.pure (Y.mkI Fzc.ni91 rfl) rfl rfl rfl <| LX.pure (Y.assign rfl) rfl rfl rfl <| LX.sub (l' := [(0, _), (2, _), (3, _), (17, _), (18, _), (19, _)]) ⟨rfl, rfl, rfl, rfl, rfl, rfl, trivial⟩ <| LX.next <| PX.thenN <| CX.ret <| PX.blockR <| PX.thenR <| PX.thenR <| PX.blockR <| PX.thenR <| PX.ret1 (by simp) Tryz.results23 rfl ?_
        have hu3 : fresh x.kids j u = some u2 := by
          obtain ⟨u3, h3⟩ := Option.isSome_iff_exists.1 (show (fresh x.kids j u).isSome = true by simpa using hb3)
          rw [hfv u3 h3]; exact h3
        have hr : valid l nameB = some j := valid_some (hsc.symm.trans (scan_bad hx hu3 (.inl (by simpa using hb5))))
        exact fun w hw => ⟨bx9, by rw [hr]; rfl, by rw [hr]; exact hw.drop (.cons_cons _ (.cons _ (.cons _ (.cons _ (List.Sublist.refl _)))))⟩
      · exact absurd hb6 (by decide)
    have hb5p := hb5
    try simp at hb5p
    refine MX.gT0 (i := 15) rfl rfl rfl rfl hb5 (Y.move rfl) rfl rfl <| MX.force (i := 16) rfl <| LX.gT rfl rfl rfl hb5 (Y.ldAggB (vs := [.int .i64 x.op, .int .i64 x.n, .int .i64 x.pos, str x.s, .slice ak2 x.kids.length ck2]) 1 Ft.ag53 rfl rfl rfl rfl) rfl rfl <| LX.nextM [] (by kernel_rfl) (fun h => absurd rfl h) <| MX.force (i := 17) rfl <| LX.callQT rfl rfl rfl hb5 (ndFits_q j (by omega) hok.1 (j + 1) (by omega) (x := x) (cs := [.int .i64 x.op, .int .i64 x.n, .int .i64 x.pos, str x.s, .slice ak2 x.kids.length ck2]) (fresh_in hu3) (hsb j x hx) (fun w hw => ⟨blk_lies hw (i := 2) rfl, hl.push hw⟩) (fun w hw => Kept.mono (fun _ _ h => h.push hw) ⟨_, rfl, hks, hin⟩)) Fzc.en39 rfl rfl rfl rfl <| LX.nextM [] (by kernel_rfl) (fun h => absurd rfl h) <| MX.force (i := 18) rfl <| LX.gT rfl rfl rfl hb5 (Y.not rfl) rfl rfl <| LX.nextM [] (by kernel_rfl) (fun h => absurd rfl h) <| MX.lift0 (i := 19) rfl (Y.pickF rfl hb5 rfl) rfl rfl rfl <| MX.sub (l' := [(0, _), (3, _), (4, _), (17, _), (18, _), (19, _), (43, _)]) ⟨rfl, rfl, rfl, rfl, rfl, rfl, rfl, trivial⟩ <| MX.done <| PX.thenN ?_
    refine CX.cond rfl (fun hb7 => ?_) (fun hb7 => ?_)
    · try simp at hb7
      refine CX.seq <| CX.region <| LX.pure (Y.move rfl) rfl rfl rfl <| LX.pure (Y.ldO Fzc.one28 rfl hE.at_ hE.lt) rfl rfl rfl <| LX.pure (Y.build (v := .agg #[.int .i64 (j : Int), eS]) rfl (build_at hE.one _)) rfl rfl rfl <| LX.box rfl rfl rfl rfl rfl ?_
      intro bx9
      refine LX.pure (Y.mkI Fzc.ni91 rfl) rfl rfl rfl <| LX.pure (Y.assign rfl) rfl rfl rfl <| LX.sub (l' := [(0, _), (2, _), (3, _), (17, _), (18, _), (19, _)]) ⟨rfl, rfl, rfl, rfl, rfl, rfl, trivial⟩ <| LX.next <| PX.thenN <| CX.ret <| PX.blockR <| PX.thenR <| PX.thenR <| PX.blockR <| PX.thenR <| PX.ret1 (by simp) Tryz.results23 rfl ?_
      have hr : valid l nameB = some j := valid_some (hsc.symm.trans (scan_bad hx hu3 (.inr (by simpa using hb7))))
      exact fun w hw => ⟨bx9, by rw [hr]; rfl, by rw [hr]; exact hw.drop (.cons_cons _ (.cons _ (.cons _ (.cons _ (List.Sublist.refl _)))))⟩
    try simp at hb7
    refine CX.skip <| PX.blockN <| PX.thenN <| CX.region <| LX.pure (Y.addN rfl rfl (by (simp only []; omega))) rfl rfl rfl <| LX.pure (Y.move rfl) rfl rfl rfl <| LX.sub (l' := [(0, _), (3, _), (17, _), (18, _), (19, _)]) ⟨rfl, rfl, rfl, rfl, rfl, trivial⟩ <| LX.next ?_
    have hx0 : x.n = 0 := by simpa using hb5p
    have hft : fitsB l nameB (j + 1) x = true := by simpa using hb7
    exact PX.again (μ := fun s => l.length - s.1) (i := (j, u)) (j + 1, u2) (by show l.length - (j + 1) < l.length - j; omega) ⟨rfl, rfl, rfl, rfl, rfl, trivial⟩ (fun w hw => ⟨⟨by show j + 1 ≤ l.length; omega, by show u2.length = l.length; rw [fresh_len _ _ _ _ hu3, hul], hok.next hx hu3 hft, (scan_next hx hu3 hx0 hft).trans hsc, (used_next hx hu3).trans hus⟩, (hw.drop (.cons_cons _ (.cons _ (List.Sublist.refl _)))).perm (.swap _ _ _)⟩)
  try simp at hb2
  have hje : l.length ≤ j := by omega
  have hjl : j = l.length := by omega
  subst hjl
  rw [scan_end hje] at hsc
  rw [used_end hje] at hus
  have hva := valid_none (u := u) hsc.symm hus.symm
  refine CX.exit <| PX.thenE <| PX.thenE <| PX.blockE <| PX.thenN <| CX.seq <| CX.region <| LX.pure (Y.move rfl) rfl rfl rfl <| LX.pure (Y.lenSl rfl Ft.un22 rfl) rfl rfl rfl <| LX.pure (Y.sub rfl rfl (by omega)) rfl rfl rfl <| LX.pure (Y.assign rfl) rfl rfl rfl <| LX.sub (l' := [(0, _), (3, _), (6, _)]) ⟨rfl, rfl, rfl, trivial⟩ <| LX.next <| PX.thenN <| CX.seq <| CX.seq <| CX.region <| LX.pure (Y.move rfl) rfl rfl rfl <| LX.pure (Y.ltI rfl rfl) rfl rfl rfl <| LX.pure (Y.move rfl) rfl rfl rfl <| LX.sub (l' := [(0, _), (3, _), (6, _), (55, _)]) ⟨rfl, rfl, rfl, rfl, trivial⟩ ?_
  apply LX.joinOr 7 62 55 rfl
  · intro hb8
    refine LX.gF rfl rfl rfl hb8 rfl rfl <| LX.gF rfl rfl rfl hb8 rfl rfl <| LX.gF rfl rfl rfl hb8 rfl rfl <| LX.gF rfl rfl rfl hb8 rfl rfl <| LX.gF rfl rfl rfl hb8 rfl rfl <| LX.gF rfl rfl rfl hb8 rfl rfl <| LX.pure (Y.pickT rfl hb8 rfl) rfl rfl rfl ?_
    exact LX.left ⟨rfl, rfl, rfl, rfl, rfl, trivial⟩
  · intro hb8
    have hb8p := hb8
    try simp at hb8p
    refine LX.gT rfl rfl rfl hb8 (Y.move rfl) rfl rfl <| LX.gT rfl rfl rfl hb8 (Y.move rfl) rfl rfl ?_
    obtain ⟨x9, hx9⟩ : ∃ x, l[l.length - 1]? = some x := ⟨_, List.getElem?_eq_getElem (by omega)⟩
    obtain ⟨a9, cs9, hav9, hcl9, hL9, vk9, rfl, hks9, hin9⟩ := hl _ x9 hx9
    have hnd9 : (nd l ((l.length : Int) - 1)).op = x9.op := by rw [show (l.length : Int) - 1 = ((l.length - 1 : Nat) : Int) by omega, nd_at hx9]
    refine LX.gT rfl rfl rfl hb8 (Y.idxZ Ft.un22 Ft.sz53 rfl rfl hav9 (j := l.length - 1) (by omega) (by omega)) rfl rfl <| LX.gT rfl rfl rfl hb8 (Y.fieldA Ft.fa53_0 rfl) rfl rfl <| LX.gT rfl rfl rfl hb8 (Y.ldFO (v := .int .i64 (nd l ((l.length : Int) - 1)).op) Ft.one3 rfl hL9 (by rw [hnd9]; rfl)) rfl rfl <| LX.gT rfl rfl rfl hb8 (Y.neI rfl rfl) rfl rfl <| LX.pure (Y.pickF rfl hb8 rfl) rfl rfl rfl ?_
    exact LX.left ⟨rfl, rfl, rfl, rfl, rfl, trivial⟩
  refine LX.pure (Y.move rfl) rfl rfl rfl <| LX.sub (l' := [(3, _), (6, _), (63, _)]) ⟨rfl, rfl, rfl, trivial⟩ ?_
  apply LX.joinOr 8 71 63 rfl
  · intro hb9
    refine LX.gF rfl rfl rfl hb9 rfl rfl <| LX.gF rfl rfl rfl hb9 rfl rfl <| LX.gF rfl rfl rfl hb9 rfl rfl <| LX.gF rfl rfl rfl hb9 rfl rfl <| LX.gF rfl rfl rfl hb9 rfl rfl <| LX.gF rfl rfl rfl hb9 rfl rfl <| LX.gF rfl rfl rfl hb9 rfl rfl <| LX.pure (Y.pickT rfl hb9 rfl) rfl rfl rfl ?_
    exact LX.left ⟨rfl, rfl, rfl, rfl, trivial⟩
  · intro hb9
    have hb9p := hb9
    try simp at hb9p
    refine LX.gT rfl rfl rfl hb9 (Y.move rfl) rfl rfl <| LX.gT rfl rfl rfl hb9 (Y.nilCheck rfl) rfl rfl <| LX.gT rfl rfl rfl hb9 (Y.fieldAddr0 Fzc.fo88_1 rfl) rfl rfl <| LX.gT rfl rfl rfl hb9 (Y.ldB 0 Fzc.one82 rfl rfl rfl) rfl rfl <| LX.gT rfl rfl rfl hb9 (show Y _ _ _ _ _ (.int .i64 ((l.length - 1 : Nat) : Int)) from by rw [show ((l.length - 1 : Nat) : Int) = (l.length : Int) - 1 by omega]; exact Y.move rfl) rfl rfl <| LX.gT rfl rfl rfl hb9 (Y.cutHiT (a := some ⟨gb, 0, none⟩) (b := l.length - 1) (m := (u.take (l.length - 1)).length) Fy.un82 Fy.sz4 rfl rfl (by omega) (by rw [List.length_take]; omega)) rfl rfl <| LX.callQT rfl rfl rfl hb9 (hasBol_q l.length (ss := u.take (l.length - 1)) (by rw [List.length_take]; omega) false (fun w hw => (row_at hw (j := 1) rfl hul.symm (by decide) (fun i z h => map_A h)).take (l.length - 1))) Fzc.en40 rfl rfl rfl rfl <| LX.pure (Y.pickF rfl hb9 rfl) rfl rfl rfl ?_
    exact LX.left ⟨rfl, rfl, rfl, rfl, trivial⟩
  refine LX.pure (Y.move rfl) rfl rfl rfl <| LX.sub (l' := [(3, _), (6, _), (72, _)]) ⟨rfl, rfl, rfl, trivial⟩ ?_
  apply LX.joinOr 5 77 72 rfl
  · intro hb10
    refine LX.gF rfl rfl rfl hb10 rfl rfl <| LX.gF rfl rfl rfl hb10 rfl rfl <| LX.gF rfl rfl rfl hb10 rfl rfl <| LX.gF rfl rfl rfl hb10 rfl rfl <| LX.pure (Y.pickT rfl hb10 rfl) rfl rfl rfl ?_
    exact LX.left ⟨rfl, rfl, rfl, rfl, trivial⟩
  · intro hb10
    have hb10p := hb10
    try simp at hb10p
    refine LX.gT rfl rfl rfl hb10 (Y.move rfl) rfl rfl <| LX.gT rfl rfl rfl hb10 (Y.move rfl) rfl rfl ?_
    refine LX.callQT rfl rfl rfl hb10 (places_q l.length hok.1 (Nat.le_refl _) (by omega) (fun q y hy => hok.2 q y (List.getElem?_eq_some_iff.1 hy).1 hy) hkb hsb l.length _ true false false (by omega) (by omega) (by omega) (fun w hw => ⟨blk_lies hw (i := 0) rfl, hl.push hw⟩)) Fzb.en41 rfl rfl rfl rfl ?_
    refine LX.gT rfl rfl rfl hb10 (Y.not rfl) rfl rfl <| LX.pure (Y.pickF rfl hb10 rfl) rfl rfl rfl ?_
    exact LX.left ⟨rfl, rfl, rfl, rfl, trivial⟩
  refine LX.sub (l' := [(6, _), (77, _)]) ⟨rfl, rfl, trivial⟩ <| LX.next <| PX.thenN ?_
  refine CX.cond rfl (fun hb11 => ?_) (fun hb11 => ?_)
  · try simp at hb11
    refine CX.seq <| CX.region <| LX.pure (Y.move rfl) rfl rfl rfl <| LX.pure (show Y _ _ _ _ _ (.int .i64 ((l.length - 1 : Nat) : Int)) from by rw [show ((l.length - 1 : Nat) : Int) = if (0 : Int) > (l.length : Int) - 1 then 0 else (l.length : Int) - 1 by split <;> omega]; exact Y.max2 rfl rfl) rfl rfl rfl <| LX.pure (Y.ldO Fzc.one28 rfl hE.at_ hE.lt) rfl rfl rfl <| LX.pure (Y.build (v := .agg #[.int .i64 ((l.length - 1 : Nat) : Int), eS]) rfl (build_at hE.one _)) rfl rfl rfl <| LX.box rfl rfl rfl rfl rfl ?_
    intro bx9
    refine LX.pure (Y.mkI Fzc.ni91 rfl) rfl rfl rfl <| LX.pure (Y.assign rfl) rfl rfl rfl <| LX.sub (l' := [(2, _)]) ⟨rfl, trivial⟩ <| LX.next <| PX.thenN <| CX.ret <| PX.thenR <| PX.ret1 (by simp) Tryz.results23 rfl ?_
    have hr : valid l nameB = some (l.length - 1) := hva.trans (if_pos (by
      by_cases h0 : l.length = 0
      · exact .inl h0
      refine .inr ?_
      have h0b : ¬((l.length : Int) - 1 < 0) := by omega
      by_cases h1 : (nd l ((l.length : Int) - 1)).op = 47
      · refine .inr ?_
        by_cases h2 : false ∈ u.take (l.length - 1)
        · exact .inl h2
        · exact .inr (by simpa [h0b, h1, h2] using hb11)
      · exact .inl h1))
    exact fun w hw => ⟨bx9, by rw [hr]; rfl, by rw [hr]; exact hw.drop (.cons_cons _ (.cons _ (.cons _ (List.Sublist.refl _))))⟩
  try simp at hb11
  refine CX.skip <| PX.thenN <| CX.seq <| CX.region <| LX.pure (Y.assign rfl) rfl rfl rfl <| LX.sub (l' := [(2, _)]) ⟨rfl, trivial⟩ <| LX.next <| PX.thenN <| CX.ret <| PX.ret1 (by simp) Tryz.results23 rfl ?_
  have hr : valid l nameB = none := hva.trans (if_neg (by
    rintro (h | h | h | h)
    · have h9 := hb11.1.1.1
      omega
    · exact h hb11.1.1.2
    · exact hb11.1.2 h
    have h9 := hb11.2
    rw [h] at h9
    exact absurd h9 (by decide)))
  exact fun w hw => ⟨0, by rw [hr]; rfl, by rw [hr]; exact hw.drop (.cons _ (.cons _ (List.Sublist.refl _)))⟩
end Go.Proofs.YtickdimknfeddaaGreatDoor
