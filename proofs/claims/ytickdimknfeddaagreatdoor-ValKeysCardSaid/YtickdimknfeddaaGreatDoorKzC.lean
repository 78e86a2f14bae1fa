/-
  Proved here: the document's names, light.
-/
import Derived.Test.YtickdimknfeddaaGreatDoorKzA
set_option linter.unusedSimpArgs false
namespace Go.Proofs.YtickdimknfeddaaGreatDoor
open Go.SX Go.RowKit Go.Vo Go.Ky Go.Proofs.YtickdimknfeddaaGreatDoor.Env Go.Tr
namespace Kua
theorem en104 : Enters Tryz.prog 104 := Enters.of Tryz.func104 (by kernel_rfl) (by kernel_rfl)
theorem en105 : Enters Tryz.prog 105 := Enters.of Tryz.func105 (by kernel_rfl) (by kernel_rfl)
theorem en106 : Enters Tryz.prog 106 := Enters.of Tryz.func106 (by kernel_rfl) (by kernel_rfl)
theorem en138 : Enters Tryz.prog 138 := Enters.of Tryz.func138 (by kernel_rfl) (by kernel_rfl)
theorem en139 : Enters Tryz.prog 139 := Enters.of Tryz.func139 (by kernel_rfl) (by kernel_rfl)
theorem sz9 : SizeIs Tryz.prog 9 1 := fun w => by kernel_rfl
theorem un128 : Tryz.prog.underlying 128 = some (.slice 9) := by kernel_rfl
end Kua
theorem letter4_c (W : World → Prop) (c : Nat) : FnC Tryz.prog 138 #[.int .u8 (c : Int)] W (fun _ : Unit => .bool (Go.Lex.isLet c)) (fun _ => W) := by
  refine FnC.of_body (fn := Tryz.f138) [(0, _)] Tryz.func138 rfl Tryz.ntmps138 rfl ⟨rfl, trivial⟩ ?_
  refine CX.seq <| CX.region <| LX.pure (Y.assign rfl) rfl rfl rfl <| LX.sub (l' := [(0, _), (2, _)]) ⟨rfl, rfl, trivial⟩ <| LX.next <| PX.thenN <| CX.seq <| CX.region <| LX.pure (Y.move rfl) rfl rfl rfl <| LX.pure (Y.geN rfl rfl) rfl rfl rfl <| LX.pure (Y.move rfl) rfl rfl rfl <| LX.sub (l' := [(0, _), (2, _), (5, _)]) ⟨rfl, rfl, rfl, trivial⟩ ?_
  apply LX.joinAnd 3 8 5 rfl
  · intro hb1
    refine LX.gT rfl rfl rfl hb1 (Y.move rfl) rfl rfl <| LX.gT rfl rfl rfl hb1 (Y.leN rfl rfl) rfl rfl <| LX.pure (Y.pickT rfl hb1 rfl) rfl rfl rfl ?_
    exact LX.left ⟨rfl, rfl, rfl, rfl, trivial⟩
  · intro hb1
    refine LX.gF rfl rfl rfl hb1 rfl rfl <| LX.gF rfl rfl rfl hb1 rfl rfl <| LX.pure (Y.pickF rfl hb1 rfl) rfl rfl rfl ?_
    exact LX.left ⟨rfl, rfl, rfl, rfl, trivial⟩
  refine LX.pure (Y.move rfl) rfl rfl rfl <| LX.sub (l' := [(0, _), (2, _), (9, _)]) ⟨rfl, rfl, rfl, trivial⟩ ?_
  apply LX.joinOr 7 16 9 rfl
  · intro hb2
    refine LX.gF rfl rfl rfl hb2 rfl rfl <| LX.gF rfl rfl rfl hb2 rfl rfl <| LX.gF rfl rfl rfl hb2 rfl rfl <| LX.gU rfl rfl rfl rfl rfl <| LX.gU rfl rfl rfl rfl rfl <| LX.gF rfl rfl rfl hb2 rfl rfl <| LX.pure (Y.pickT rfl hb2 rfl) rfl rfl rfl ?_
    exact LX.left ⟨rfl, rfl, rfl, rfl, trivial⟩
  · intro hb2
    refine LX.gT rfl rfl rfl hb2 (Y.move rfl) rfl rfl <| LX.gT rfl rfl rfl hb2 (Y.geN rfl rfl) rfl rfl <| LX.gT rfl rfl rfl hb2 (Y.move rfl) rfl rfl <| LX.sub (l' := [(0, _), (2, _), (9, _), (12, _)]) ⟨rfl, rfl, rfl, rfl, trivial⟩ ?_
    apply LX.joinAnd 3 15 12 rfl
    · intro hb3
      refine LX.gT rfl rfl rfl hb3 (Y.move rfl) rfl rfl <| LX.gT rfl rfl rfl hb3 (Y.leN rfl rfl) rfl rfl <| LX.gT rfl rfl rfl hb2 (Y.pickT rfl hb3 rfl) rfl rfl ?_
      exact LX.left ⟨rfl, rfl, rfl, rfl, rfl, trivial⟩
    · intro hb3
      refine LX.gF rfl rfl rfl hb3 rfl rfl <| LX.gF rfl rfl rfl hb3 rfl rfl <| LX.gT rfl rfl rfl hb2 (Y.pickF rfl hb3 rfl) rfl rfl ?_
      exact LX.left ⟨rfl, rfl, rfl, rfl, rfl, trivial⟩
    refine LX.pure (Y.pickF rfl hb2 rfl) rfl rfl rfl ?_
    exact LX.left ⟨rfl, rfl, rfl, rfl, trivial⟩
  refine LX.pure (Y.move rfl) rfl rfl rfl <| LX.sub (l' := [(0, _), (2, _), (17, _)]) ⟨rfl, rfl, rfl, trivial⟩ ?_
  apply LX.joinOr 3 20 17 rfl
  · intro hb4
    refine LX.gF rfl rfl rfl hb4 rfl rfl <| LX.gF rfl rfl rfl hb4 rfl rfl <| LX.pure (Y.pickT rfl hb4 rfl) rfl rfl rfl ?_
    exact LX.left ⟨rfl, rfl, rfl, rfl, trivial⟩
  · intro hb4
    refine LX.gT rfl rfl rfl hb4 (Y.move rfl) rfl rfl <| LX.gT rfl rfl rfl hb4 (Y.eqN rfl rfl) rfl rfl <| LX.pure (Y.pickF rfl hb4 rfl) rfl rfl rfl ?_
    exact LX.left ⟨rfl, rfl, rfl, rfl, trivial⟩
  refine LX.pure (Y.assign rfl) rfl rfl rfl <| LX.sub (l' := [(2, _)]) ⟨rfl, trivial⟩ <| LX.next <| PX.thenN <| CX.ret <| PX.ret1 (by simp) Tryz.results138 rfl ?_
  exact fun w hw => ⟨(), rfl, hw⟩
theorem letter4_q (W : World → Prop) (c : Nat) : FnQ Tryz.prog 138 #[.int .u8 (c : Int)] W (.bool (Go.Lex.isLet c)) := fun w _ => ((letter4_c (fun w' => w' = w) c) w rfl).mono fun e w' ⟨_, he, hw⟩ => ⟨he, by rw [hw]; exact Below.refl _ _⟩
theorem digit4_c (W : World → Prop) (c : Nat) : FnC Tryz.prog 139 #[.int .u8 (c : Int)] W (fun _ : Unit => .bool (Go.Lex.isDig c)) (fun _ => W) := by
  refine FnC.of_body (fn := Tryz.f139) [(0, _)] Tryz.func139 rfl Tryz.ntmps139 rfl ⟨rfl, trivial⟩ ?_
  refine CX.seq <| CX.region <| LX.pure (Y.assign rfl) rfl rfl rfl <| LX.sub (l' := [(0, _), (2, _)]) ⟨rfl, rfl, trivial⟩ <| LX.next <| PX.thenN <| CX.seq <| CX.region <| LX.pure (Y.move rfl) rfl rfl rfl <| LX.pure (Y.geN rfl rfl) rfl rfl rfl <| LX.pure (Y.move rfl) rfl rfl rfl <| LX.sub (l' := [(0, _), (2, _), (5, _)]) ⟨rfl, rfl, rfl, trivial⟩ ?_
  apply LX.joinAnd 3 8 5 rfl
  · intro hb1
    refine LX.gT rfl rfl rfl hb1 (Y.move rfl) rfl rfl <| LX.gT rfl rfl rfl hb1 (Y.leN rfl rfl) rfl rfl <| LX.pure (Y.pickT rfl hb1 rfl) rfl rfl rfl ?_
    exact LX.left ⟨rfl, rfl, rfl, rfl, trivial⟩
  · intro hb1
    refine LX.gF rfl rfl rfl hb1 rfl rfl <| LX.gF rfl rfl rfl hb1 rfl rfl <| LX.pure (Y.pickF rfl hb1 rfl) rfl rfl rfl ?_
    exact LX.left ⟨rfl, rfl, rfl, rfl, trivial⟩
  refine LX.pure (Y.assign rfl) rfl rfl rfl <| LX.sub (l' := [(2, _)]) ⟨rfl, trivial⟩ <| LX.next <| PX.thenN <| CX.ret <| PX.ret1 (by simp) Tryz.results139 rfl ?_
  exact fun w hw => ⟨(), rfl, hw⟩
theorem digit4_q (W : World → Prop) (c : Nat) : FnQ Tryz.prog 139 #[.int .u8 (c : Int)] W (.bool (Go.Lex.isDig c)) := fun w _ => ((digit4_c (fun w' => w' = w) c) w rfl).mono fun e w' ⟨_, he, hw⟩ => ⟨he, by rw [hw]; exact Below.refl _ _⟩
theorem plain4_0 {w0 : World} {base : Nat} (s : T) (hs : s.length ≤ 1000000)  : FnC Tryz.prog 104 #[str s] (WA w0 base []) (fun b : Bool => .bool b) (fun _ => WA w0 base []) := by
  refine FnC.of_body (fn := Tryz.f104) [(0, _)] Tryz.func104 rfl Tryz.ntmps104 rfl ⟨rfl, trivial⟩ ?_
  refine CX.seq <| CX.region <| LX.pure (Y.assign rfl) rfl rfl rfl <| LX.sub (l' := [(0, _), (2, _)]) ⟨rfl, rfl, trivial⟩ <| LX.next <| PX.thenN <| CX.seq <| CX.seq <| CX.region <| LX.pure (Y.assign rfl) rfl rfl rfl <| LX.sub (l' := [(0, _), (2, _), (3, _)]) ⟨rfl, rfl, rfl, trivial⟩ <| LX.next <| PX.thenN <| CX.block <| CX.loop (fun j : Nat => [(0, str s), (3, .int .i64 (j : Int))]) (fun (j : Nat) w => j ≤ s.length ∧ WA w0 base [] w) (fun j => s.length - j) 0 ⟨rfl, rfl, trivial⟩ (fun w hw => ⟨Nat.zero_le _, hw⟩) ?_
  intro j
  refine CX.have fun hj0 => ?_
  replace hj0 : j ≤ s.length := hj0
  refine CX.seq <| CX.seq <| CX.region <| LX.pure (Y.move rfl) rfl rfl rfl <| LX.pure (Y.move rfl) rfl rfl rfl <| LX.pure (Y.lenStr rfl Ka.un9 rfl) rfl rfl rfl <| LX.pure (Y.ltN rfl rfl) rfl rfl rfl <| LX.sub (l' := [(0, _), (3, _), (7, _)]) ⟨rfl, rfl, rfl, trivial⟩ <| LX.next <| PX.thenN ?_
  refine CX.cond rfl (fun hb1 => ?_) (fun hb1 => ?_)
  · try simp at hb1
    have hjl : j < s.length := by omega
    refine CX.skip <| PX.thenN <| CX.seq <| CX.block <| CX.seq <| CX.region <| LX.pure (Y.move rfl) rfl rfl rfl <| LX.pure (Y.move rfl) rfl rfl rfl <| LX.pure (Y.index rfl rfl Ka.un9 (by omega)) rfl rfl rfl <| LX.callQ (letter4_q _ _) Kua.en138 rfl rfl rfl rfl rfl <| LX.pure (Y.not rfl) rfl rfl rfl <| LX.pure (Y.move rfl) rfl rfl rfl <| LX.sub (l' := [(0, _), (3, _), (15, _)]) ⟨rfl, rfl, rfl, trivial⟩ ?_
    apply LX.joinAnd 10 25 15 rfl
    · intro hb2
      refine LX.gT rfl rfl rfl hb2 (Y.move rfl) rfl rfl <| LX.gT rfl rfl rfl hb2 (Y.gtN rfl rfl) rfl rfl <| LX.gT rfl rfl rfl hb2 (Y.move rfl) rfl rfl <| LX.sub (l' := [(0, _), (3, _), (15, _), (18, _)]) ⟨rfl, rfl, rfl, rfl, trivial⟩ ?_
      apply LX.joinAnd 5 23 18 rfl
      · intro hb3
        have hb3p := hb3
        try simp at hb3p
        refine LX.gT rfl rfl rfl hb3 (Y.move rfl) rfl rfl <| LX.gT rfl rfl rfl hb3 (Y.move rfl) rfl rfl <| LX.gT rfl rfl rfl hb3 (Y.index rfl rfl Ka.un9 (by omega)) rfl rfl <| LX.callQT rfl rfl rfl hb3 (digit4_q _ _) Kua.en139 rfl rfl rfl rfl <| LX.gT rfl rfl rfl hb2 (Y.pickT rfl hb3 rfl) rfl rfl ?_
        exact LX.left ⟨rfl, rfl, rfl, rfl, rfl, trivial⟩
      · intro hb3
        refine LX.gF rfl rfl rfl hb3 rfl rfl <| LX.gF rfl rfl rfl hb3 rfl rfl <| LX.gF rfl rfl rfl hb3 rfl rfl <| LX.gF rfl rfl rfl hb3 rfl rfl <| LX.gT rfl rfl rfl hb2 (Y.pickF rfl hb3 rfl) rfl rfl ?_
        exact LX.left ⟨rfl, rfl, rfl, rfl, rfl, trivial⟩
      refine LX.gT rfl rfl rfl hb2 (Y.not rfl) rfl rfl <| LX.pure (Y.pickT rfl hb2 rfl) rfl rfl rfl ?_
      exact LX.left ⟨rfl, rfl, rfl, rfl, trivial⟩
    · intro hb2
      refine LX.gF rfl rfl rfl hb2 rfl rfl <| LX.gF rfl rfl rfl hb2 rfl rfl <| LX.gF rfl rfl rfl hb2 rfl rfl <| LX.gU rfl rfl rfl rfl rfl <| LX.gU rfl rfl rfl rfl rfl <| LX.gU rfl rfl rfl rfl rfl <| LX.gU rfl rfl rfl rfl rfl <| LX.gF rfl rfl rfl hb2 rfl rfl <| LX.gF rfl rfl rfl hb2 rfl rfl <| LX.pure (Y.pickF rfl hb2 rfl) rfl rfl rfl ?_
      exact LX.left ⟨rfl, rfl, rfl, rfl, trivial⟩
    refine LX.sub (l' := [(0, _), (3, _), (25, _)]) ⟨rfl, rfl, rfl, trivial⟩ <| LX.next <| PX.thenN ?_
    refine CX.cond rfl (fun hb4 => ?_) (fun hb4 => ?_)
    · try simp at hb4
      refine CX.seq <| CX.region <| LX.pure (Y.assign rfl) rfl rfl rfl <| LX.sub (l' := [(0, _), (2, _), (3, _)]) ⟨rfl, rfl, rfl, trivial⟩ <| LX.next <| PX.thenN <| CX.ret <| PX.blockR <| PX.thenR <| PX.thenR <| PX.blockR <| PX.thenR <| PX.ret1 (by simp) Tryz.results104 rfl ?_
      exact fun w hw => ⟨_, rfl, hw.drop (List.nil_sublist _)⟩
    try simp at hb4
    refine CX.skip <| PX.blockN <| PX.thenN <| CX.region <| LX.pure (Y.move rfl) rfl rfl rfl <| LX.pure (Y.addN rfl rfl (by (simp only []; omega))) rfl rfl rfl <| LX.pure (Y.assign rfl) rfl rfl rfl <| LX.sub (l' := [(0, _), (3, _)]) ⟨rfl, rfl, trivial⟩ <| LX.next ?_
    exact PX.again (μ := (fun j => s.length - j)) (i := j) (j + 1) (by show s.length - (j + 1) < s.length - j; omega) ⟨rfl, rfl, trivial⟩ (fun w hw => ⟨by show j + 1 ≤ s.length; omega, hw⟩)
  try simp at hb1
  refine CX.exit <| PX.thenE <| PX.thenE <| PX.blockE <| PX.thenN <| CX.seq <| CX.region <| LX.pure (Y.move rfl) rfl rfl rfl <| LX.pure (Y.neS rfl rfl) rfl rfl rfl <| LX.pure (Y.assign rfl) rfl rfl rfl <| LX.sub (l' := [(2, _)]) ⟨rfl, trivial⟩ <| LX.next <| PX.thenN <| CX.ret <| PX.ret1 (by simp) Tryz.results104 rfl ?_
  exact fun w hw => ⟨_, rfl, hw.drop (List.nil_sublist _)⟩
theorem plain4_w {W : World → Prop} [Stab W] (s : T) (hs : s.length ≤ 1000000)  : FnC Tryz.prog 104 #[str s] W (fun b : Bool => .bool b) (fun _ => W) := FnC.re fun w hw => plain4_0 s hs 
theorem words4_c {w0 : World} {base : Nat} {fr : List It} : FnC Tryz.prog 106 #[] (WA w0 base fr) (fun b : Nat => .slice (some ⟨b, 0, none⟩) 17 17) (fun b => WA w0 base (.row (some b) 17 17 9 1 (Go.Lex.wordsList.map str) :: fr)) := by
  refine FnC.of_body (fn := Tryz.f106) [] Tryz.func106 rfl Tryz.ntmps106 rfl trivial ?_
  refine CX.seq <| CX.region <| LX.pure (Y.assign rfl) rfl rfl rfl <| LX.sub (l' := [(0, _)]) ⟨rfl, trivial⟩ <| LX.next <| PX.thenN <| CX.seq <| CX.region <| LX.buildSlice (e := 9) (size := 1) rfl rfl (fun _ => by kernel_rfl) rfl (by decide) rfl rfl rfl ?_
  intro b
  refine LX.pure (Y.assign rfl) rfl rfl rfl <| LX.sub (l' := [(0, _)]) ⟨rfl, trivial⟩ <| LX.next <| PX.thenN <| CX.ret <| PX.ret1 (by simp) Tryz.results106 rfl ?_
  exact fun w hw => ⟨b, rfl, hw⟩
theorem among4_0 {w0 : World} {base : Nat} {av : Option Addr} (ck : Nat) {ss : List T} (hl : ss.length ≤ 1000000) (s : T) (hk : SlAt 1 strA (Lies w0 base) av ss) : FnC Tryz.prog 105 #[.slice av ss.length ck, str s] (WA w0 base []) (fun b : Int => .int .i64 b) (fun _ => WA w0 base []) := by
  refine FnC.of_body (fn := Tryz.f105) [(0, _), (1, _)] Tryz.func105 rfl Tryz.ntmps105 rfl ⟨rfl, rfl, trivial⟩ ?_
  refine CX.seq <| CX.region <| LX.pure (Y.assign rfl) rfl rfl rfl <| LX.sub (l' := [(0, _), (1, _), (4, _)]) ⟨rfl, rfl, rfl, trivial⟩ <| LX.next <| PX.thenN <| CX.seq <| CX.seq <| CX.region <| LX.pure (Y.assign rfl) rfl rfl rfl <| LX.sub (l' := [(0, _), (1, _), (4, _), (5, _)]) ⟨rfl, rfl, rfl, rfl, trivial⟩ <| LX.next <| PX.thenN <| CX.block <| CX.loop (fun j : Nat => [(0, .slice av ss.length ck), (1, str s), (5, .int .i64 (j : Int))]) (fun (j : Nat) w => j ≤ ss.length ∧ WA w0 base [] w) (fun j => ss.length - j) 0 ⟨rfl, rfl, rfl, trivial⟩ (fun w hw => ⟨Nat.zero_le _, hw⟩) ?_
  intro j
  refine CX.have fun hj0 => ?_
  replace hj0 : j ≤ ss.length := hj0
  refine CX.seq <| CX.seq <| CX.region <| LX.pure (Y.move rfl) rfl rfl rfl <| LX.pure (Y.move rfl) rfl rfl rfl <| LX.pure (Y.lenSl rfl Kua.un128 rfl) rfl rfl rfl <| LX.pure (Y.ltN rfl rfl) rfl rfl rfl <| LX.sub (l' := [(0, _), (1, _), (5, _), (9, _)]) ⟨rfl, rfl, rfl, rfl, trivial⟩ <| LX.next <| PX.thenN ?_
  refine CX.cond rfl (fun hb1 => ?_) (fun hb1 => ?_)
  · try simp at hb1
    have hj : j < ss.length := by omega
    obtain ⟨a0, _, hav0, hL0⟩ := strA_at hk hj
    refine CX.skip <| PX.thenN <| CX.seq <| CX.block <| CX.seq <| CX.region <| LX.pure (Y.move rfl) rfl rfl rfl <| LX.pure (Y.move rfl) rfl rfl rfl <| LX.pure (Y.idxZ Kua.un128 Kua.sz9 rfl rfl hav0 (j := j) rfl hj) rfl rfl rfl <| LX.pure (Y.ldO1 Kh.one9 rfl hL0) rfl rfl rfl <| LX.pure (Y.move rfl) rfl rfl rfl <| LX.pure (Y.eqS rfl rfl) rfl rfl rfl <| LX.sub (l' := [(0, _), (1, _), (5, _), (17, _)]) ⟨rfl, rfl, rfl, rfl, trivial⟩ <| LX.next <| PX.thenN ?_
    refine CX.cond rfl (fun hb2 => ?_) (fun hb2 => ?_)
    · try simp at hb2
      refine CX.seq <| CX.region <| LX.pure (Y.move rfl) rfl rfl rfl <| LX.pure (Y.assign rfl) rfl rfl rfl <| LX.sub (l' := [(0, _), (1, _), (4, _), (5, _)]) ⟨rfl, rfl, rfl, rfl, trivial⟩ <| LX.next <| PX.thenN <| CX.ret <| PX.blockR <| PX.thenR <| PX.thenR <| PX.blockR <| PX.thenR <| PX.ret1 (by simp) Tryz.results105 rfl ?_
      exact fun w hw => ⟨_, rfl, hw.drop (List.nil_sublist _)⟩
    try simp at hb2
    refine CX.skip <| PX.blockN <| PX.thenN <| CX.region <| LX.pure (Y.move rfl) rfl rfl rfl <| LX.pure (Y.addN rfl rfl (by (simp only []; omega))) rfl rfl rfl <| LX.pure (Y.assign rfl) rfl rfl rfl <| LX.sub (l' := [(0, _), (1, _), (5, _)]) ⟨rfl, rfl, rfl, trivial⟩ <| LX.next ?_
    exact PX.again (μ := (fun j => ss.length - j)) (i := j) (j + 1) (by show ss.length - (j + 1) < ss.length - j; omega) ⟨rfl, rfl, rfl, trivial⟩ (fun w hw => ⟨by show j + 1 ≤ ss.length; omega, hw⟩)
  try simp at hb1
  refine CX.exit <| PX.thenE <| PX.thenE <| PX.blockE <| PX.thenN <| CX.seq <| CX.region <| LX.pure (Y.assign rfl) rfl rfl rfl <| LX.sub (l' := [(4, _)]) ⟨rfl, trivial⟩ <| LX.next <| PX.thenN <| CX.ret <| PX.ret1 (by simp) Tryz.results105 rfl ?_
  exact fun w hw => ⟨_, rfl, hw.drop (List.nil_sublist _)⟩
theorem among4_w {W : World → Prop} [Stab W] {av : Option Addr} (ck : Nat) {ss : List T} (hl : ss.length ≤ 1000000) (s : T) (hk : ∀ w, W w → SlAt 1 strA (Lies w w.heap.size) av ss) : FnC Tryz.prog 105 #[.slice av ss.length ck, str s] W (fun b : Int => .int .i64 b) (fun _ => W) := FnC.re fun w hw => among4_0 ck hl s (hk w hw)
theorem name4_0 {w0 : World} {base : Nat} (s : T) (hs : s.length ≤ 1000000)  : FnC Tryz.prog 76 #[str s] (WA w0 base []) (fun b : Bool => .bool b) (fun _ => WA w0 base []) := by
  refine FnC.of_body (fn := Tryz.f76) [(0, _)] Tryz.func76 rfl Tryz.ntmps76 rfl ⟨rfl, trivial⟩ ?_
  refine CX.seq <| CX.region <| LX.pure (Y.assign rfl) rfl rfl rfl <| LX.sub (l' := [(0, _), (2, _)]) ⟨rfl, rfl, trivial⟩ <| LX.next <| PX.thenN <| CX.seq <| CX.region <| LX.pure (Y.move rfl) rfl rfl rfl <| LX.call (plain4_w s hs) Kua.en104 rfl rfl rfl rfl rfl ?_
  intro b4
  refine LX.pure (Y.move rfl) rfl rfl rfl ?_
  refine LX.caseB (s := 5) rfl (fun hb1 => ?_) (fun hb1 => ?_)
  ·
    have hb1p := hb1
    try simp at hb1p
    refine LX.callT rfl rfl rfl hb1 (words4_c) Kua.en106 rfl rfl rfl rfl ?_
    intro bw
    refine LX.gT rfl rfl rfl hb1 (Y.move rfl) rfl rfl <| LX.callT rfl rfl rfl hb1 (among4_w 17 (ss := Go.Lex.wordsList) (by decide) s (fun w hw => SlAt.mono (fun a c h => See.lies hw a c (.inr h)) (at_of (row_sl (xs := Go.Lex.wordsList) (ds := [.row (some bw) 17 17 9 1 (Go.Lex.wordsList.map str)]) (g := some bw) (c := 17) (e := 9) (size := 1) (ys := Go.Lex.wordsList.map str) (List.mem_cons_self ..) rfl (fun _ => rfl) (fun _ _ h => h) (by decide) words_A)))) Kua.en105 rfl rfl rfl rfl ?_
    intro z4
    refine LX.gT rfl rfl rfl hb1 (Y.ltI rfl rfl) rfl rfl <| LX.pure (Y.pickT rfl hb1 rfl) rfl rfl rfl <| LX.pure (Y.assign rfl) rfl rfl rfl <| LX.sub (l' := [(2, _)]) ⟨rfl, trivial⟩ <| LX.next <| PX.thenN <| CX.ret <| PX.ret1 (by simp) Tryz.results76 rfl ?_
    exact fun w hw => ⟨_, rfl, hw.drop (List.nil_sublist _)⟩
  have hb1p := hb1
  try simp at hb1p
  refine LX.gF rfl rfl rfl hb1 rfl rfl <| LX.gF rfl rfl rfl hb1 rfl rfl <| LX.gF rfl rfl rfl hb1 rfl rfl <| LX.gF rfl rfl rfl hb1 rfl rfl <| LX.pure (Y.pickF rfl hb1 rfl) rfl rfl rfl <| LX.pure (Y.assign rfl) rfl rfl rfl <| LX.sub (l' := [(2, _)]) ⟨rfl, trivial⟩ <| LX.next <| PX.thenN <| CX.ret <| PX.ret1 (by simp) Tryz.results76 rfl ?_
  exact fun w hw => ⟨_, rfl, hw.drop (List.nil_sublist _)⟩
theorem name4_w {W : World → Prop} [Stab W] (s : T) (hs : s.length ≤ 1000000)  : FnC Tryz.prog 76 #[str s] W (fun b : Bool => .bool b) (fun _ => W) := FnC.re fun w hw => name4_0 s hs 
theorem rexpr_c {w0 : World} {base : Nat} {fr : List It} (op : Int) : FnC Tryz.prog 75 #[.int .i64 op] (WA w0 base fr) (fun _ : Unit => .bool (exprB op)) (fun _ => WA w0 base fr) := by
  refine FnC.of_body (fn := Tryz.f75) [(0, _)] Tryz.func75 rfl Tryz.ntmps75 rfl ⟨rfl, trivial⟩ ?_
  refine CX.seq <| CX.region <| LX.pure (Y.assign rfl) rfl rfl rfl <| LX.sub (l' := [(0, _), (2, _)]) ⟨rfl, rfl, trivial⟩ <| LX.next <| PX.thenN <| CX.seq <| CX.region <| LX.pure (Y.move rfl) rfl rfl rfl <| LX.pure (Y.geI rfl rfl) rfl rfl rfl <| LX.pure (Y.move rfl) rfl rfl rfl <| LX.sub (l' := [(0, _), (2, _), (5, _)]) ⟨rfl, rfl, rfl, trivial⟩ ?_
  apply LX.joinAnd 3 8 5 rfl
  · intro hb1
    refine LX.gT rfl rfl rfl hb1 (Y.move rfl) rfl rfl <| LX.gT rfl rfl rfl hb1 (Y.leI rfl rfl) rfl rfl <| LX.pure (Y.pickT rfl hb1 rfl) rfl rfl rfl ?_
    exact LX.left ⟨rfl, rfl, rfl, rfl, trivial⟩
  · intro hb1
    refine LX.gF rfl rfl rfl hb1 rfl rfl <| LX.gF rfl rfl rfl hb1 rfl rfl <| LX.pure (Y.pickF rfl hb1 rfl) rfl rfl rfl ?_
    exact LX.left ⟨rfl, rfl, rfl, rfl, trivial⟩
  refine LX.pure (Y.move rfl) rfl rfl rfl <| LX.sub (l' := [(0, _), (2, _), (9, _)]) ⟨rfl, rfl, rfl, trivial⟩ ?_
  apply LX.joinOr 11 20 9 rfl
  · intro hb2
    refine LX.gF rfl rfl rfl hb2 rfl rfl <| LX.gF rfl rfl rfl hb2 rfl rfl <| LX.gF rfl rfl rfl hb2 rfl rfl <| LX.gU rfl rfl rfl rfl rfl <| LX.gU rfl rfl rfl rfl rfl <| LX.gF rfl rfl rfl hb2 rfl rfl <| LX.gF rfl rfl rfl hb2 rfl rfl <| LX.gU rfl rfl rfl rfl rfl <| LX.gU rfl rfl rfl rfl rfl <| LX.gF rfl rfl rfl hb2 rfl rfl <| LX.pure (Y.pickT rfl hb2 rfl) rfl rfl rfl ?_
    exact LX.left ⟨rfl, rfl, rfl, rfl, trivial⟩
  · intro hb2
    refine LX.gT rfl rfl rfl hb2 (Y.move rfl) rfl rfl <| LX.gT rfl rfl rfl hb2 (Y.geI rfl rfl) rfl rfl <| LX.gT rfl rfl rfl hb2 (Y.move rfl) rfl rfl <| LX.sub (l' := [(0, _), (2, _), (9, _), (12, _)]) ⟨rfl, rfl, rfl, rfl, trivial⟩ ?_
    apply LX.joinAnd 3 15 12 rfl
    · intro hb3
      refine LX.gT rfl rfl rfl hb3 (Y.move rfl) rfl rfl <| LX.gT rfl rfl rfl hb3 (Y.leI rfl rfl) rfl rfl <| LX.gT rfl rfl rfl hb2 (Y.pickT rfl hb3 rfl) rfl rfl ?_
      exact LX.left ⟨rfl, rfl, rfl, rfl, rfl, trivial⟩
    · intro hb3
      refine LX.gF rfl rfl rfl hb3 rfl rfl <| LX.gF rfl rfl rfl hb3 rfl rfl <| LX.gT rfl rfl rfl hb2 (Y.pickF rfl hb3 rfl) rfl rfl ?_
      exact LX.left ⟨rfl, rfl, rfl, rfl, rfl, trivial⟩
    refine LX.gT rfl rfl rfl hb2 (Y.move rfl) rfl rfl <| LX.sub (l' := [(0, _), (2, _), (9, _), (16, _)]) ⟨rfl, rfl, rfl, rfl, trivial⟩ ?_
    apply LX.joinAnd 3 19 16 rfl
    · intro hb4
      refine LX.gT rfl rfl rfl hb4 (Y.move rfl) rfl rfl <| LX.gT rfl rfl rfl hb4 (Y.neI rfl rfl) rfl rfl <| LX.gT rfl rfl rfl hb2 (Y.pickT rfl hb4 rfl) rfl rfl ?_
      exact LX.left ⟨rfl, rfl, rfl, rfl, rfl, trivial⟩
    · intro hb4
      refine LX.gF rfl rfl rfl hb4 rfl rfl <| LX.gF rfl rfl rfl hb4 rfl rfl <| LX.gT rfl rfl rfl hb2 (Y.pickF rfl hb4 rfl) rfl rfl ?_
      exact LX.left ⟨rfl, rfl, rfl, rfl, rfl, trivial⟩
    refine LX.pure (Y.pickF rfl hb2 rfl) rfl rfl rfl ?_
    exact LX.left ⟨rfl, rfl, rfl, rfl, trivial⟩
  refine LX.pure (Y.move rfl) rfl rfl rfl <| LX.sub (l' := [(0, _), (2, _), (21, _)]) ⟨rfl, rfl, rfl, trivial⟩ ?_
  apply LX.joinOr 7 28 21 rfl
  · intro hb5
    refine LX.gF rfl rfl rfl hb5 rfl rfl <| LX.gF rfl rfl rfl hb5 rfl rfl <| LX.gF rfl rfl rfl hb5 rfl rfl <| LX.gU rfl rfl rfl rfl rfl <| LX.gU rfl rfl rfl rfl rfl <| LX.gF rfl rfl rfl hb5 rfl rfl <| LX.pure (Y.pickT rfl hb5 rfl) rfl rfl rfl ?_
    exact LX.left ⟨rfl, rfl, rfl, rfl, trivial⟩
  · intro hb5
    refine LX.gT rfl rfl rfl hb5 (Y.move rfl) rfl rfl <| LX.gT rfl rfl rfl hb5 (Y.geI rfl rfl) rfl rfl <| LX.gT rfl rfl rfl hb5 (Y.move rfl) rfl rfl <| LX.sub (l' := [(0, _), (2, _), (21, _), (24, _)]) ⟨rfl, rfl, rfl, rfl, trivial⟩ ?_
    apply LX.joinAnd 3 27 24 rfl
    · intro hb6
      refine LX.gT rfl rfl rfl hb6 (Y.move rfl) rfl rfl <| LX.gT rfl rfl rfl hb6 (Y.leI rfl rfl) rfl rfl <| LX.gT rfl rfl rfl hb5 (Y.pickT rfl hb6 rfl) rfl rfl ?_
      exact LX.left ⟨rfl, rfl, rfl, rfl, rfl, trivial⟩
    · intro hb6
      refine LX.gF rfl rfl rfl hb6 rfl rfl <| LX.gF rfl rfl rfl hb6 rfl rfl <| LX.gT rfl rfl rfl hb5 (Y.pickF rfl hb6 rfl) rfl rfl ?_
      exact LX.left ⟨rfl, rfl, rfl, rfl, rfl, trivial⟩
    refine LX.pure (Y.pickF rfl hb5 rfl) rfl rfl rfl ?_
    exact LX.left ⟨rfl, rfl, rfl, rfl, trivial⟩
  refine LX.pure (Y.assign rfl) rfl rfl rfl <| LX.sub (l' := [(2, _)]) ⟨rfl, trivial⟩ <| LX.next <| PX.thenN <| CX.ret <| PX.ret1 (by simp) Tryz.results75 rfl ?_
  exact fun w hw => ⟨(), congrArg (fun z => Ending.returned (Value.bool z)) (by unfold exprB; (rw [Bool.eq_iff_iff]; simp only [Bool.and_eq_true, Bool.or_eq_true, Bool.not_eq_true', decide_eq_true_eq, decide_eq_false_iff_not, bne_iff_ne, ne_eq] <;> (try omega))), hw⟩
theorem rexpr_q {W : World → Prop} [Stab W] (op : Int) : FnQ Tryz.prog 75 #[.int .i64 op] W (.bool (exprB op)) := FnC.quiet fun w _ => rexpr_c op
theorem rstmt_c {w0 : World} {base : Nat} {fr : List It} (op : Int) : FnC Tryz.prog 79 #[.int .i64 op] (WA w0 base fr) (fun _ : Unit => .bool (stmtB op)) (fun _ => WA w0 base fr) := by
  refine FnC.of_body (fn := Tryz.f79) [(0, _)] Tryz.func79 rfl Tryz.ntmps79 rfl ⟨rfl, trivial⟩ ?_
  refine CX.seq <| CX.region <| LX.pure (Y.assign rfl) rfl rfl rfl <| LX.sub (l' := [(0, _), (2, _)]) ⟨rfl, rfl, trivial⟩ <| LX.next <| PX.thenN <| CX.seq <| CX.region <| LX.pure (Y.move rfl) rfl rfl rfl <| LX.pure (Y.geI rfl rfl) rfl rfl rfl <| LX.pure (Y.move rfl) rfl rfl rfl <| LX.sub (l' := [(0, _), (2, _), (5, _)]) ⟨rfl, rfl, rfl, trivial⟩ ?_
  apply LX.joinAnd 3 8 5 rfl
  · intro hb1
    refine LX.gT rfl rfl rfl hb1 (Y.move rfl) rfl rfl <| LX.gT rfl rfl rfl hb1 (Y.leI rfl rfl) rfl rfl <| LX.pure (Y.pickT rfl hb1 rfl) rfl rfl rfl ?_
    exact LX.left ⟨rfl, rfl, rfl, rfl, trivial⟩
  · intro hb1
    refine LX.gF rfl rfl rfl hb1 rfl rfl <| LX.gF rfl rfl rfl hb1 rfl rfl <| LX.pure (Y.pickF rfl hb1 rfl) rfl rfl rfl ?_
    exact LX.left ⟨rfl, rfl, rfl, rfl, trivial⟩
  refine LX.pure (Y.assign rfl) rfl rfl rfl <| LX.sub (l' := [(2, _)]) ⟨rfl, trivial⟩ <| LX.next <| PX.thenN <| CX.ret <| PX.ret1 (by simp) Tryz.results79 rfl ?_
  exact fun w hw => ⟨(), congrArg (fun z => Ending.returned (Value.bool z)) (by unfold stmtB; rfl), hw⟩
theorem rstmt_q {W : World → Prop} [Stab W] (op : Int) : FnQ Tryz.prog 79 #[.int .i64 op] W (.bool (stmtB op)) := FnC.quiet fun w _ => rstmt_c op
end Go.Proofs.YtickdimknfeddaaGreatDoor

namespace Go.Proofs.YtickdimknfeddaaGreatDoor
open Go.SX Go.RowKit Go.Vo Go.Ky Go.Proofs.YtickdimknfeddaaGreatDoor.Env Go.Tr
namespace Kub
theorem en78 : Enters Tryz.prog 78 := Enters.of Tryz.func78 (by kernel_rfl) (by kernel_rfl)
end Kub
theorem isT_s {w0 : World} {base : Nat} {al : Option Addr} (cl : Nat) {l : List Nd} (hB : ∀ (k : Nat) x, l[k]? = some x → x.kids.length ≤ 302 ∧ x.s.length ≤ 302) (h3 : l.length ≤ 302) {i : Nat} (hA : ∀ (k : Nat) x, k ≤ i → l[k]? = some x → ∀ q ∈ x.kids, 0 ≤ q ∧ q < (k : Int)) (hi : i < l.length) (hl : SlAt 5 ndA (Lies w0 base) al l) (ih : ∀ k, k < i → ∀ {w0 : World} {base : Nat} (_hl : SlAt 5 ndA (Lies w0 base) al l), FnC Tryz.prog 78 #[.slice al l.length cl, .int .i64 (k : Int)] (WA w0 base []) (fun b : Bool => .bool b) (fun _ => WA w0 base [])) : FnC Tryz.prog 78 #[.slice al l.length cl, .int .i64 (i : Int)] (WA w0 base []) (fun b : Bool => .bool b) (fun _ => WA w0 base []) := by
  obtain ⟨x, hx⟩ : ∃ x, l[i]? = some x := ⟨_, List.getElem?_eq_getElem (by omega)⟩
  obtain ⟨a, ak, ck, hav, hL, hkc, hka⟩ := nd_of hl hx
  have hb302 := hB i x hx
  have hK := hA i x (Nat.le_refl _) hx
  refine FnC.of_body (fn := Tryz.f78) [(0, _), (1, _)] Tryz.func78 rfl Tryz.ntmps78 rfl ⟨rfl, rfl, trivial⟩ ?_
  refine CX.seq <| CX.region <| LX.pure (Y.assign rfl) rfl rfl rfl <| LX.sub (l' := [(0, _), (1, _), (4, _)]) ⟨rfl, rfl, rfl, trivial⟩ <| LX.next <| PX.thenN <| CX.seq <| CX.region <| LX.pure (Y.move rfl) rfl rfl rfl <| LX.pure (Y.move rfl) rfl rfl rfl <| LX.pure (Y.idxZ Kq.un22 Kq.sz53 rfl rfl hav (j := i) rfl (by omega)) rfl rfl rfl <| LX.pure (Y.ldAO (cs := [.int .i64 x.op, .int .i64 x.n, .int .i64 x.pos, str x.s, .slice ak x.kids.length ck]) Kq.ag53 rfl hL rfl) rfl rfl rfl <| LX.alloc rfl Kr_.zv53 rfl rfl rfl ?_
  intro bx5
  refine LX.storeA 0 Kq.ag53 rfl rfl rfl rfl rfl rfl rfl rfl rfl <| LX.sub (l' := [(0, _), (4, _), (5, _)]) ⟨rfl, rfl, rfl, trivial⟩ <| LX.next <| PX.thenN <| CX.seq <| CX.seq <| CX.region <| LX.pure (Y.fieldAddr0 Kq.fo53_0 rfl) rfl rfl rfl <| LX.pure (Y.ldB 0 Kc.one3 rfl rfl rfl) rfl rfl rfl <| LX.pure (Y.eqI rfl rfl) rfl rfl rfl <| LX.sub (l' := [(0, _), (4, _), (5, _), (13, _)]) ⟨rfl, rfl, rfl, rfl, trivial⟩ <| LX.next <| PX.thenN ?_
  refine CX.cond rfl (fun hb1 => ?_) (fun hb1 => ?_)
  · try simp at hb1
    refine CX.seq <| CX.seq <| CX.region <| LX.pure (Y.assign rfl) rfl rfl rfl <| LX.sub (l' := [(0, _), (4, _), (5, _), (6, _)]) ⟨rfl, rfl, rfl, rfl, trivial⟩ <| LX.next <| PX.thenN <| CX.block <| CX.loop (fun j : Nat => [(0, .slice al l.length cl), (5, .pointer (some ⟨bx5, 0, none⟩)), (6, .int .i64 (j : Int))]) (fun (j : Nat) w => j ≤ x.kids.length ∧ WA w0 base [blk bx5 [.int .i64 x.op, .int .i64 x.n, .int .i64 x.pos, str x.s, .slice ak x.kids.length ck] 53] w) (fun j => x.kids.length - j) 0 ⟨rfl, rfl, rfl, trivial⟩ (fun w hw => ⟨Nat.zero_le _, hw⟩) ?_
    intro j
    refine CX.have fun hj0 => ?_
    replace hj0 : j ≤ x.kids.length := hj0
    refine CX.seq <| CX.seq <| CX.region <| LX.pure (Y.move rfl) rfl rfl rfl <| LX.pure (Y.fieldAddr0 Kq.fo53_4 rfl) rfl rfl rfl <| LX.pure (Y.ldB 0 Kq.one51 rfl rfl rfl) rfl rfl rfl <| LX.pure (Y.lenSl rfl Kq.un51 rfl) rfl rfl rfl <| LX.pure (Y.ltN rfl rfl) rfl rfl rfl <| LX.sub (l' := [(0, _), (5, _), (6, _), (18, _)]) ⟨rfl, rfl, rfl, rfl, trivial⟩ <| LX.next <| PX.thenN ?_
    refine CX.cond rfl (fun hb2 => ?_) (fun hb2 => ?_)
    · try simp at hb2
      have hj1 : j < x.kids.length := by omega
      obtain ⟨a1, hav1, hL1, _⟩ := hka.int_at (j := j) (by omega)
      have hr1 := hK _ (getD_mem (j := j) (ks := x.kids) (by omega))
      obtain ⟨k1, hkz1⟩ : ∃ k : Nat, x.kids.getD j 0 = (k : Int) := ⟨(x.kids.getD j 0).toNat, by omega⟩
      refine CX.skip <| PX.thenN <| CX.seq <| CX.block <| CX.seq <| CX.region <| LX.pure (Y.move rfl) rfl rfl rfl <| LX.pure (Y.fieldAddr0 Kq.fo53_4 rfl) rfl rfl rfl <| LX.pure (Y.ldB 0 Kq.one51 rfl rfl rfl) rfl rfl rfl <| LX.pure (Y.move rfl) rfl rfl rfl <| LX.pure (Y.idxZ Kq.un51 Kc.sz3 rfl rfl hav1 (j := j) rfl (by omega)) rfl rfl rfl <| LX.pure (show Y _ _ _ _ _ (.int .i64 (k1 : Int)) from by rw [← hkz1]; exact Y.ldO1 Kc.one3 rfl hL1) rfl rfl rfl <| LX.call (FnC.re fun w hw => ih k1 (by omega) (hl.push hw)) Kub.en78 rfl rfl rfl rfl rfl ?_
      intro b7
      refine LX.pure (Y.not rfl) rfl rfl rfl <| LX.sub (l' := [(0, _), (5, _), (6, _), (28, _)]) ⟨rfl, rfl, rfl, rfl, trivial⟩ <| LX.next <| PX.thenN ?_
      refine CX.cond rfl (fun hb3 => ?_) (fun hb3 => ?_)
      · try simp at hb3
        refine CX.seq <| CX.region <| LX.pure (Y.assign rfl) rfl rfl rfl <| LX.sub (l' := [(0, _), (4, _), (5, _), (6, _)]) ⟨rfl, rfl, rfl, rfl, trivial⟩ <| LX.next <| PX.thenN <| CX.ret <| PX.blockR <| PX.thenR <| PX.thenR <| PX.blockR <| PX.thenR <| PX.thenR <| PX.ret1 (by simp) Tryz.results78 rfl ?_
        exact fun w hw => ⟨_, rfl, hw.drop (List.nil_sublist _)⟩
      try simp at hb3
      refine CX.skip <| PX.blockN <| PX.thenN <| CX.region <| LX.pure (Y.move rfl) rfl rfl rfl <| LX.pure (Y.addN rfl rfl (by (simp only []; omega))) rfl rfl rfl <| LX.pure (Y.assign rfl) rfl rfl rfl <| LX.sub (l' := [(0, _), (5, _), (6, _)]) ⟨rfl, rfl, rfl, trivial⟩ <| LX.next ?_
      exact PX.again (μ := (fun j => x.kids.length - j)) (i := j) (j + 1) (by show x.kids.length - (j + 1) < x.kids.length - j; omega) ⟨rfl, rfl, rfl, trivial⟩ (fun w hw => ⟨by show j + 1 ≤ x.kids.length; omega, hw⟩)
    try simp at hb2
    refine CX.exit <| PX.thenE <| PX.thenE <| PX.blockE <| PX.thenN <| CX.seq <| CX.region <| LX.pure (Y.fieldAddr0 Kq.fo53_4 rfl) rfl rfl rfl <| LX.pure (Y.ldB 0 Kq.one51 rfl rfl rfl) rfl rfl rfl <| LX.pure (Y.lenSl rfl Kq.un51 rfl) rfl rfl rfl <| LX.pure (Y.gtN rfl rfl) rfl rfl rfl <| LX.pure (Y.assign rfl) rfl rfl rfl <| LX.sub (l' := [(4, _), (5, _)]) ⟨rfl, rfl, trivial⟩ <| LX.next <| PX.thenN <| CX.ret <| PX.thenR <| PX.ret1 (by simp) Tryz.results78 rfl ?_
    exact fun w hw => ⟨_, rfl, hw.drop (List.nil_sublist _)⟩
  try simp at hb1
  refine CX.skip <| PX.thenN <| CX.seq <| CX.region <| LX.pure (Y.fieldAddr0 Kq.fo53_0 rfl) rfl rfl rfl <| LX.pure (Y.ldB 0 Kc.one3 rfl rfl rfl) rfl rfl rfl <| LX.pure (Y.eqI rfl rfl) rfl rfl rfl <| LX.pure (Y.move rfl) rfl rfl rfl <| LX.sub (l' := [(4, _), (5, _), (36, _)]) ⟨rfl, rfl, rfl, trivial⟩ ?_
  apply LX.joinOr 4 40 36 rfl
  · intro hb4
    refine LX.gF rfl rfl rfl hb4 rfl rfl <| LX.gF rfl rfl rfl hb4 rfl rfl <| LX.gF rfl rfl rfl hb4 rfl rfl <| LX.pure (Y.pickT rfl hb4 rfl) rfl rfl rfl ?_
    exact LX.left ⟨rfl, rfl, rfl, rfl, trivial⟩
  · intro hb4
    refine LX.gT rfl rfl rfl hb4 (Y.fieldAddr0 Kq.fo53_0 rfl) rfl rfl <| LX.gT rfl rfl rfl hb4 (Y.ldB 0 Kc.one3 rfl rfl rfl) rfl rfl <| LX.gT rfl rfl rfl hb4 (Y.eqI rfl rfl) rfl rfl <| LX.pure (Y.pickF rfl hb4 rfl) rfl rfl rfl ?_
    exact LX.left ⟨rfl, rfl, rfl, rfl, trivial⟩
  refine LX.pure (Y.assign rfl) rfl rfl rfl <| LX.sub (l' := [(4, _)]) ⟨rfl, trivial⟩ <| LX.next <| PX.thenN <| CX.ret <| PX.ret1 (by simp) Tryz.results78 rfl ?_
  exact fun w hw => ⟨_, rfl, hw.drop (List.nil_sublist _)⟩
theorem isT_0 {al : Option Addr} (cl : Nat) {l : List Nd} (hB : ∀ (k : Nat) x, l[k]? = some x → x.kids.length ≤ 302 ∧ x.s.length ≤ 302) (h3 : l.length ≤ 302) (i : Nat) (hA : ∀ (k : Nat) x, k ≤ i → l[k]? = some x → ∀ q ∈ x.kids, 0 ≤ q ∧ q < (k : Int)) (hi : i < l.length) : ∀ {w0 : World} {base : Nat} (_hl : SlAt 5 ndA (Lies w0 base) al l), FnC Tryz.prog 78 #[.slice al l.length cl, .int .i64 (i : Int)] (WA w0 base []) (fun b : Bool => .bool b) (fun _ => WA w0 base []) := by
  induction i using Nat.strongRecOn with
  | _ i ih =>
    intro w0 base hl
    exact isT_s cl hB h3 hA hi hl (fun k hk w0 base hl => ih k hk (fun q x hq => hA q x (by omega)) (by omega) hl)
theorem isT_w {W : World → Prop} [Stab W] {al : Option Addr} (cl : Nat) {l : List Nd} (hB : ∀ (k : Nat) x, l[k]? = some x → x.kids.length ≤ 302 ∧ x.s.length ≤ 302) (h3 : l.length ≤ 302) (i : Nat) (hA : ∀ (k : Nat) x, k ≤ i → l[k]? = some x → ∀ q ∈ x.kids, 0 ≤ q ∧ q < (k : Int)) (hi : i < l.length) (hl : ∀ w, W w → SlAt 5 ndA (Lies w w.heap.size) al l) : FnC Tryz.prog 78 #[.slice al l.length cl, .int .i64 (i : Int)] W (fun b : Bool => .bool b) (fun _ => W) := FnC.re fun w hw => isT_0 cl hB h3 i hA hi (hl w hw)
end Go.Proofs.YtickdimknfeddaaGreatDoor

namespace Go.Proofs.YtickdimknfeddaaGreatDoor
open Go.SX Go.RowKit Go.Vo Go.Ky Go.Proofs.YtickdimknfeddaaGreatDoor.Env Go.Tr
namespace Kuc
theorem en75 : Enters Tryz.prog 75 := Enters.of Tryz.func75 (by kernel_rfl) (by kernel_rfl)
theorem en76 : Enters Tryz.prog 76 := Enters.of Tryz.func76 (by kernel_rfl) (by kernel_rfl)
theorem en77 : Enters Tryz.prog 77 := Enters.of Tryz.func77 (by kernel_rfl) (by kernel_rfl)
theorem en79 : Enters Tryz.prog 79 := Enters.of Tryz.func79 (by kernel_rfl) (by kernel_rfl)
end Kuc
theorem shape_0 {w0 : World} {base : Nat} {al : Option Addr} (cl : Nat) {l : List Nd} (hB : ∀ (k : Nat) x, l[k]? = some x → x.kids.length ≤ 302 ∧ x.s.length ≤ 302) (h3 : l.length ≤ 302) {i : Nat} (hA : ∀ (k : Nat) x, k ≤ i → l[k]? = some x → ∀ q ∈ x.kids, 0 ≤ q ∧ q < (k : Int)) (hi : i < l.length)  (hl : SlAt 5 ndA (Lies w0 base) al l) : FnC Tryz.prog 34 #[.slice al l.length cl, .int .i64 (i : Int)] (WA w0 base []) (fun b : Bool => .bool b) (fun b w => ((b = true → ((l.getD i ⟨0, 0, 0, [], []⟩).op = 45 → 1 ≤ (l.getD i ⟨0, 0, 0, [], []⟩).kids.length) ∧ ((l.getD i ⟨0, 0, 0, [], []⟩).op = 44 → (l.getD i ⟨0, 0, 0, [], []⟩).kids.length = 3))) ∧ WA w0 base [] w) := by
  obtain ⟨x, hx⟩ : ∃ x, l[i]? = some x := ⟨_, List.getElem?_eq_getElem (by omega)⟩
  obtain ⟨a, ak, ck, hav, hL, hkc, hka⟩ := nd_of hl hx
  have hb302 := hB i x hx
  have hK := hA i x (Nat.le_refl _) hx
  rw [show l.getD i ⟨0, 0, 0, [], []⟩ = x by rw [List.getD_eq_getElem?_getD, hx]; rfl]
  refine FnC.of_body (fn := Tryz.f34) [(0, _), (1, _)] Tryz.func34 rfl Tryz.ntmps34 rfl ⟨rfl, rfl, trivial⟩ ?_
  refine CX.seq <| CX.region <| LX.pure (Y.assign rfl) rfl rfl rfl <| LX.sub (l' := [(0, _), (1, _), (4, _)]) ⟨rfl, rfl, rfl, trivial⟩ <| LX.next <| PX.thenN <| CX.seq <| CX.region <| LX.pure (Y.move rfl) rfl rfl rfl <| LX.pure (Y.move rfl) rfl rfl rfl <| LX.pure (Y.idxZ Kq.un22 Kq.sz53 rfl rfl hav (j := i) rfl (by omega)) rfl rfl rfl <| LX.pure (Y.ldAO (cs := [.int .i64 x.op, .int .i64 x.n, .int .i64 x.pos, str x.s, .slice ak x.kids.length ck]) Kq.ag53 rfl hL rfl) rfl rfl rfl <| LX.alloc rfl Kr_.zv53 rfl rfl rfl ?_
  intro bx5
  refine LX.storeA 0 Kq.ag53 rfl rfl rfl rfl rfl rfl rfl rfl rfl <| LX.sub (l' := [(0, _), (4, _), (5, _)]) ⟨rfl, rfl, rfl, trivial⟩ <| LX.next <| PX.thenN <| CX.seq <| CX.region <| LX.pure (Y.fieldAddr0 Kq.fo53_4 rfl) rfl rfl rfl <| LX.pure (Y.ldB 0 Kq.one51 rfl rfl rfl) rfl rfl rfl <| LX.pure (Y.lenSl rfl Kq.un51 rfl) rfl rfl rfl <| LX.pure (Y.assign rfl) rfl rfl rfl <| LX.sub (l' := [(0, _), (4, _), (5, _), (6, _)]) ⟨rfl, rfl, rfl, rfl, trivial⟩ <| LX.next <| PX.thenN <| CX.seq <| CX.region <| LX.pure (Y.assign rfl) rfl rfl rfl <| LX.sub (l' := [(0, _), (4, _), (5, _), (6, _), (7, _)]) ⟨rfl, rfl, rfl, rfl, rfl, trivial⟩ <| LX.next <| PX.thenN <| CX.seq <| CX.seq <| CX.region <| LX.pure (Y.assign rfl) rfl rfl rfl <| LX.sub (l' := [(0, _), (4, _), (5, _), (6, _), (7, _), (8, _)]) ⟨rfl, rfl, rfl, rfl, rfl, rfl, trivial⟩ <| LX.next <| PX.thenN <| CX.block <| CX.loop (fun s : Nat × Bool => [(0, .slice al l.length cl), (5, .pointer (some ⟨bx5, 0, none⟩)), (6, .int .i64 (x.kids.length : Int)), (7, .bool s.2), (8, .int .i64 (s.1 : Int))]) (fun (s : Nat × Bool) w => s.1 ≤ x.kids.length ∧ WA w0 base [blk bx5 [.int .i64 x.op, .int .i64 x.n, .int .i64 x.pos, str x.s, .slice ak x.kids.length ck] 53] w) (fun s => x.kids.length - s.1) (0, true) ⟨rfl, rfl, rfl, rfl, rfl, trivial⟩ (fun w hw => ⟨Nat.zero_le _, hw⟩) ?_
  rintro ⟨j, al1⟩
  refine CX.have fun hj0 => ?_
  replace hj0 : j ≤ x.kids.length := hj0
  try dsimp only
  refine CX.seq <| CX.seq <| CX.region <| LX.pure (Y.move rfl) rfl rfl rfl <| LX.pure (Y.move rfl) rfl rfl rfl <| LX.pure (Y.ltN rfl rfl) rfl rfl rfl <| LX.sub (l' := [(0, _), (5, _), (6, _), (7, _), (8, _), (30, _)]) ⟨rfl, rfl, rfl, rfl, rfl, rfl, trivial⟩ <| LX.next <| PX.thenN ?_
  refine CX.cond rfl (fun hb1 => ?_) (fun hb1 => ?_)
  · try simp at hb1
    refine CX.skip <| PX.thenN <| CX.seq <| CX.block <| CX.region <| LX.pure (Y.move rfl) rfl rfl rfl <| LX.pure (Y.move rfl) rfl rfl rfl ?_
    refine LX.caseB (s := 34) rfl (fun hb2 => ?_) (fun hb2 => ?_)
    ·
      have hb2p := hb2
      try simp at hb2p
      refine LX.gT rfl rfl rfl hb2 (Y.move rfl) rfl rfl <| LX.gT rfl rfl rfl hb2 (Y.fieldAddr0 Kq.fo53_4 rfl) rfl rfl <| LX.gT rfl rfl rfl hb2 (Y.ldB 0 Kq.one51 rfl rfl rfl) rfl rfl <| LX.gT rfl rfl rfl hb2 (Y.move rfl) rfl rfl ?_
      obtain ⟨a1, hav1, hL1, _⟩ := hka.int_at (j := j) (by omega)
      have hr1 := hK _ (getD_mem (j := j) (ks := x.kids) (by omega))
      obtain ⟨k1, hkz1⟩ : ∃ k : Nat, x.kids.getD j 0 = (k : Int) := ⟨(x.kids.getD j 0).toNat, by omega⟩
      obtain ⟨y1, hy1⟩ : ∃ y, l[k1]? = some y := ⟨_, List.getElem?_eq_getElem (by omega)⟩
      obtain ⟨b1, bk1, bc1, hbv1, hbL1, hbc1, hba1⟩ := nd_of hl hy1
      refine LX.gT rfl rfl rfl hb2 (Y.idxZ Kq.un51 Kc.sz3 rfl rfl hav1 (j := j) rfl (by omega)) rfl rfl <| LX.gT rfl rfl rfl hb2 (show Y _ _ _ _ _ (.int .i64 (k1 : Int)) from by rw [← hkz1]; exact Y.ldO1 Kc.one3 rfl hL1) rfl rfl <| LX.gT rfl rfl rfl hb2 (Y.idxZ Kq.un22 Kq.sz53 rfl rfl hbv1 (j := k1) rfl (by omega)) rfl rfl <| LX.gT rfl rfl rfl hb2 (Y.fieldA Kq.fa53_0 rfl) rfl rfl <| LX.gT rfl rfl rfl hb2 (Y.ldFO (v := .int .i64 y1.op) Kc.one3 rfl hbL1 rfl) rfl rfl <| LX.callQT rfl rfl rfl hb2 (rexpr_q _) Kuc.en75 rfl rfl rfl rfl <| LX.pure (Y.pickT rfl hb2 rfl) rfl rfl rfl <| LX.pure (Y.assign rfl) rfl rfl rfl <| LX.sub (l' := [(0, _), (5, _), (6, _), (7, _), (8, _)]) ⟨rfl, rfl, rfl, rfl, rfl, trivial⟩ <| LX.next <| PX.blockN <| PX.thenN <| CX.region <| LX.pure (Y.move rfl) rfl rfl rfl <| LX.pure (Y.addN rfl rfl (by (simp only []; omega))) rfl rfl rfl <| LX.pure (Y.assign rfl) rfl rfl rfl <| LX.sub (l' := [(0, _), (5, _), (6, _), (7, _), (8, _)]) ⟨rfl, rfl, rfl, rfl, rfl, trivial⟩ <| LX.next ?_
      exact PX.again (μ := fun s => x.kids.length - s.1) (i := (j, al1)) (j + 1, _) (by show x.kids.length - (j + 1) < x.kids.length - j; omega) ⟨rfl, rfl, rfl, rfl, rfl, trivial⟩ (fun w hw => ⟨by show j + 1 ≤ x.kids.length; omega, hw⟩)
    have hb2p := hb2
    try simp at hb2p
    refine LX.gF rfl rfl rfl hb2 rfl rfl <| LX.gF rfl rfl rfl hb2 rfl rfl <| LX.gF rfl rfl rfl hb2 rfl rfl <| LX.gF rfl rfl rfl hb2 rfl rfl <| LX.gF rfl rfl rfl hb2 rfl rfl <| LX.gF rfl rfl rfl hb2 rfl rfl <| LX.gF rfl rfl rfl hb2 rfl rfl <| LX.gF rfl rfl rfl hb2 rfl rfl <| LX.gF rfl rfl rfl hb2 rfl rfl <| LX.gF rfl rfl rfl hb2 rfl rfl <| LX.pure (Y.pickF rfl hb2 rfl) rfl rfl rfl <| LX.pure (Y.assign rfl) rfl rfl rfl <| LX.sub (l' := [(0, _), (5, _), (6, _), (7, _), (8, _)]) ⟨rfl, rfl, rfl, rfl, rfl, trivial⟩ <| LX.next <| PX.blockN <| PX.thenN <| CX.region <| LX.pure (Y.move rfl) rfl rfl rfl <| LX.pure (Y.addN rfl rfl (by (simp only []; omega))) rfl rfl rfl <| LX.pure (Y.assign rfl) rfl rfl rfl <| LX.sub (l' := [(0, _), (5, _), (6, _), (7, _), (8, _)]) ⟨rfl, rfl, rfl, rfl, rfl, trivial⟩ <| LX.next ?_
    exact PX.again (μ := fun s => x.kids.length - s.1) (i := (j, al1)) (j + 1, _) (by show x.kids.length - (j + 1) < x.kids.length - j; omega) ⟨rfl, rfl, rfl, rfl, rfl, trivial⟩ (fun w hw => ⟨by show j + 1 ≤ x.kids.length; omega, hw⟩)
  try simp at hb1
  refine CX.exit <| PX.thenE <| PX.thenE <| PX.blockE <| PX.thenN <| CX.seq <| CX.region <| LX.pure (Y.fieldAddr0 Kr_.fo53_3 rfl) rfl rfl rfl <| LX.pure (Y.ldB 0 Kh.one9 rfl rfl rfl) rfl rfl rfl <| LX.call (name4_w x.s (by omega)) Kuc.en76 rfl rfl rfl rfl rfl ?_
  intro bn
  refine LX.pure (Y.assign rfl) rfl rfl rfl <| LX.sub (l' := [(0, _), (5, _), (6, _), (7, _), (9, _)]) ⟨rfl, rfl, rfl, rfl, rfl, trivial⟩ <| LX.next <| PX.thenN <| CX.seq <| CX.region <| LX.pure (Y.fieldAddr0 Kr_.fo53_3 rfl) rfl rfl rfl <| LX.pure (Y.ldB 0 Kh.one9 rfl rfl rfl) rfl rfl rfl <| LX.pure (Y.eqS rfl rfl) rfl rfl rfl <| LX.pure (Y.assign rfl) rfl rfl rfl <| LX.sub (l' := [(0, _), (5, _), (6, _), (7, _), (9, _), (10, _)]) ⟨rfl, rfl, rfl, rfl, rfl, rfl, trivial⟩ <| LX.next <| PX.thenN <| CX.seq <| CX.seq <| CX.region <| LX.pure (Y.fieldAddr0 Kq.fo53_0 rfl) rfl rfl rfl <| LX.pure (Y.ldB 0 Kc.one3 rfl rfl rfl) rfl rfl rfl <| LX.sub (l' := [(0, _), (5, _), (6, _), (7, _), (9, _), (10, _), (53, _)]) ⟨rfl, rfl, rfl, rfl, rfl, rfl, rfl, trivial⟩ <| LX.next <| PX.thenN <| CX.block <| CX.sub (l' := [(0, _), (5, _), (6, _), (7, _), (9, _), (10, _), (53, _)]) ⟨rfl, rfl, rfl, rfl, rfl, rfl, rfl, trivial⟩ ?_
  apply CX.seqSw 54
  ·
    refine CX.seq <| CX.region <| LX.pure (Y.eqI rfl rfl) rfl rfl rfl <| LX.pure (Y.assign rfl) rfl rfl rfl <| LX.next <| PX.thenN ?_
    apply CX.swOr
    · rfl
    · exact ⟨rfl, rfl, rfl, rfl, rfl, rfl, rfl, rfl, trivial⟩
    intro hb3
    try simp at hb3
    refine CX.seq <| CX.region <| LX.pure (Y.eqI rfl rfl) rfl rfl rfl <| LX.pure (Y.assign rfl) rfl rfl rfl <| LX.next <| PX.thenN ?_
    apply CX.swOr
    · rfl
    · exact ⟨rfl, rfl, rfl, rfl, rfl, rfl, rfl, rfl, trivial⟩
    intro hb4
    try simp at hb4
    refine CX.seq <| CX.region <| LX.pure (Y.eqI rfl rfl) rfl rfl rfl <| LX.pure (Y.assign rfl) rfl rfl rfl <| LX.next <| PX.thenN ?_
    apply CX.swOr
    · rfl
    · exact ⟨rfl, rfl, rfl, rfl, rfl, rfl, rfl, rfl, trivial⟩
    intro hb5
    try simp at hb5
    refine CX.seq <| CX.region <| LX.pure (Y.eqI rfl rfl) rfl rfl rfl <| LX.pure (Y.assign rfl) rfl rfl rfl <| LX.next <| PX.thenN ?_
    apply CX.swOr
    · rfl
    · exact ⟨rfl, rfl, rfl, rfl, rfl, rfl, rfl, rfl, trivial⟩
    intro hb6
    try simp at hb6
    refine CX.seq <| CX.region <| LX.pure (Y.eqI rfl rfl) rfl rfl rfl <| LX.pure (Y.assign rfl) rfl rfl rfl <| LX.next <| PX.thenN ?_
    apply CX.swOr
    · rfl
    · exact ⟨rfl, rfl, rfl, rfl, rfl, rfl, rfl, rfl, trivial⟩
    intro hb7
    try simp at hb7
    refine CX.seq <| CX.region <| LX.pure (Y.eqI rfl rfl) rfl rfl rfl <| LX.pure (Y.assign rfl) rfl rfl rfl <| LX.next <| PX.thenN ?_
    apply CX.swOr
    · rfl
    · exact ⟨rfl, rfl, rfl, rfl, rfl, rfl, rfl, rfl, trivial⟩
    intro hb8
    try simp at hb8
    refine CX.region <| LX.pure (Y.eqI rfl rfl) rfl rfl rfl <| LX.pure (Y.assign rfl) rfl rfl rfl <| LX.next ?_
    exact PX.sw ⟨rfl, rfl, rfl, rfl, rfl, rfl, rfl, rfl, trivial⟩
  refine CX.cond rfl (fun hb9 => ?_) (fun hb9 => ?_)
  · try simp at hb9
    refine CX.seq <| CX.region <| LX.pure (Y.move rfl) rfl rfl rfl <| LX.pure (Y.move rfl) rfl rfl rfl <| LX.sub (l' := [(5, _), (6, _), (7, _), (10, _), (63, _)]) ⟨rfl, rfl, rfl, rfl, rfl, trivial⟩ ?_
    apply LX.joinAnd 3 66 63 rfl
    · intro hb10
      refine LX.gT rfl rfl rfl hb10 (Y.move rfl) rfl rfl <| LX.gT rfl rfl rfl hb10 (Y.eqN rfl rfl) rfl rfl <| LX.pure (Y.pickT rfl hb10 rfl) rfl rfl rfl ?_
      exact LX.left ⟨rfl, rfl, rfl, rfl, rfl, rfl, trivial⟩
    · intro hb10
      refine LX.gF rfl rfl rfl hb10 rfl rfl <| LX.gF rfl rfl rfl hb10 rfl rfl <| LX.pure (Y.pickF rfl hb10 rfl) rfl rfl rfl ?_
      exact LX.left ⟨rfl, rfl, rfl, rfl, rfl, rfl, trivial⟩
    refine LX.pure (Y.assign rfl) rfl rfl rfl <| LX.sub (l' := [(4, _), (5, _), (6, _), (7, _), (10, _)]) ⟨rfl, rfl, rfl, rfl, rfl, trivial⟩ <| LX.next <| PX.thenN <| CX.ret <| PX.blockR <| PX.thenR <| PX.ret1 (by simp) Tryz.results34 rfl ?_
    exact fun w hw => ⟨_, rfl, (fun h9 => ⟨fun h8 => by omega, fun h8 => by omega⟩), hw.drop (List.nil_sublist _)⟩
  try simp at hb9
  refine CX.seq <| CX.region <| LX.pure (Y.eqI rfl rfl) rfl rfl rfl <| LX.pure (Y.assign rfl) rfl rfl rfl <| LX.sub (l' := [(0, _), (5, _), (6, _), (7, _), (9, _), (10, _), (53, _), (67, _)]) ⟨rfl, rfl, rfl, rfl, rfl, rfl, rfl, rfl, trivial⟩ <| LX.next <| PX.thenN ?_
  refine CX.cond rfl (fun hb11 => ?_) (fun hb11 => ?_)
  · try simp at hb11
    refine CX.seq <| CX.region <| LX.pure (Y.fieldAddr0 Kr_.fo53_3 rfl) rfl rfl rfl <| LX.pure (Y.ldB 0 Kh.one9 rfl rfl rfl) rfl rfl rfl <| LX.callQ (refDigits_q x.s (by omega)) Kuc.en77 rfl rfl rfl rfl rfl <| LX.pure (Y.move rfl) rfl rfl rfl <| LX.sub (l' := [(5, _), (6, _), (7, _), (10, _), (72, _)]) ⟨rfl, rfl, rfl, rfl, rfl, trivial⟩ ?_
    apply LX.joinAnd 3 75 72 rfl
    · intro hb12
      refine LX.gT rfl rfl rfl hb12 (Y.move rfl) rfl rfl <| LX.gT rfl rfl rfl hb12 (Y.eqN rfl rfl) rfl rfl <| LX.pure (Y.pickT rfl hb12 rfl) rfl rfl rfl ?_
      exact LX.left ⟨rfl, rfl, rfl, rfl, rfl, rfl, trivial⟩
    · intro hb12
      refine LX.gF rfl rfl rfl hb12 rfl rfl <| LX.gF rfl rfl rfl hb12 rfl rfl <| LX.pure (Y.pickF rfl hb12 rfl) rfl rfl rfl ?_
      exact LX.left ⟨rfl, rfl, rfl, rfl, rfl, rfl, trivial⟩
    refine LX.pure (Y.assign rfl) rfl rfl rfl <| LX.sub (l' := [(4, _), (5, _), (6, _), (7, _), (10, _)]) ⟨rfl, rfl, rfl, rfl, rfl, trivial⟩ <| LX.next <| PX.thenN <| CX.ret <| PX.blockR <| PX.thenR <| PX.ret1 (by simp) Tryz.results34 rfl ?_
    exact fun w hw => ⟨_, rfl, (fun h9 => ⟨fun h8 => by omega, fun h8 => by omega⟩), hw.drop (List.nil_sublist _)⟩
  try simp at hb11
  refine CX.seq <| CX.region <| LX.pure (Y.eqI rfl rfl) rfl rfl rfl <| LX.pure (Y.assign rfl) rfl rfl rfl <| LX.sub (l' := [(0, _), (5, _), (6, _), (7, _), (9, _), (10, _), (53, _), (76, _)]) ⟨rfl, rfl, rfl, rfl, rfl, rfl, rfl, rfl, trivial⟩ <| LX.next <| PX.thenN ?_
  refine CX.cond rfl (fun hb13 => ?_) (fun hb13 => ?_)
  · try simp at hb13
    refine CX.seq <| CX.region <| LX.pure (Y.move rfl) rfl rfl rfl <| LX.pure (Y.eqN rfl rfl) rfl rfl rfl <| LX.pure (Y.assign rfl) rfl rfl rfl <| LX.sub (l' := [(4, _), (5, _), (6, _), (7, _), (10, _)]) ⟨rfl, rfl, rfl, rfl, rfl, trivial⟩ <| LX.next <| PX.thenN <| CX.ret <| PX.blockR <| PX.thenR <| PX.ret1 (by simp) Tryz.results34 rfl ?_
    exact fun w hw => ⟨_, rfl, (fun h9 => ⟨fun h8 => by omega, fun h8 => by omega⟩), hw.drop (List.nil_sublist _)⟩
  try simp at hb13
  refine CX.seq <| CX.region <| LX.pure (Y.eqI rfl rfl) rfl rfl rfl <| LX.pure (Y.assign rfl) rfl rfl rfl <| LX.sub (l' := [(0, _), (5, _), (6, _), (7, _), (9, _), (10, _), (53, _), (80, _)]) ⟨rfl, rfl, rfl, rfl, rfl, rfl, rfl, rfl, trivial⟩ <| LX.next <| PX.thenN ?_
  refine CX.cond rfl (fun hb14 => ?_) (fun hb14 => ?_)
  · try simp at hb14
    refine CX.seq <| CX.region <| LX.pure (Y.move rfl) rfl rfl rfl <| LX.pure (Y.move rfl) rfl rfl rfl <| LX.sub (l' := [(5, _), (6, _), (7, _), (10, _), (83, _)]) ⟨rfl, rfl, rfl, rfl, rfl, trivial⟩ ?_
    apply LX.joinAnd 3 86 83 rfl
    · intro hb15
      refine LX.gT rfl rfl rfl hb15 (Y.move rfl) rfl rfl <| LX.gT rfl rfl rfl hb15 (Y.eqN rfl rfl) rfl rfl <| LX.pure (Y.pickT rfl hb15 rfl) rfl rfl rfl ?_
      exact LX.left ⟨rfl, rfl, rfl, rfl, rfl, rfl, trivial⟩
    · intro hb15
      refine LX.gF rfl rfl rfl hb15 rfl rfl <| LX.gF rfl rfl rfl hb15 rfl rfl <| LX.pure (Y.pickF rfl hb15 rfl) rfl rfl rfl ?_
      exact LX.left ⟨rfl, rfl, rfl, rfl, rfl, rfl, trivial⟩
    refine LX.pure (Y.assign rfl) rfl rfl rfl <| LX.sub (l' := [(4, _), (5, _), (6, _), (7, _), (10, _)]) ⟨rfl, rfl, rfl, rfl, rfl, trivial⟩ <| LX.next <| PX.thenN <| CX.ret <| PX.blockR <| PX.thenR <| PX.ret1 (by simp) Tryz.results34 rfl ?_
    exact fun w hw => ⟨_, rfl, (fun h9 => ⟨fun h8 => by omega, fun h8 => by omega⟩), hw.drop (List.nil_sublist _)⟩
  try simp at hb14
  refine CX.sub (l' := [(0, _), (5, _), (6, _), (7, _), (9, _), (10, _), (53, _)]) ⟨rfl, rfl, rfl, rfl, rfl, rfl, rfl, trivial⟩ ?_
  apply CX.seqSw 87
  ·
    refine CX.seq <| CX.region <| LX.pure (Y.eqI rfl rfl) rfl rfl rfl <| LX.pure (Y.assign rfl) rfl rfl rfl <| LX.next <| PX.thenN ?_
    apply CX.swOr
    · rfl
    · exact ⟨rfl, rfl, rfl, rfl, rfl, rfl, rfl, rfl, trivial⟩
    intro hb16
    try simp at hb16
    refine CX.region <| LX.pure (Y.eqI rfl rfl) rfl rfl rfl <| LX.pure (Y.assign rfl) rfl rfl rfl <| LX.next ?_
    exact PX.sw ⟨rfl, rfl, rfl, rfl, rfl, rfl, rfl, rfl, trivial⟩
  refine CX.cond rfl (fun hb17 => ?_) (fun hb17 => ?_)
  · try simp at hb17
    refine CX.seq <| CX.region <| LX.pure (Y.move rfl) rfl rfl rfl <| LX.pure (Y.move rfl) rfl rfl rfl <| LX.sub (l' := [(5, _), (6, _), (7, _), (10, _), (91, _)]) ⟨rfl, rfl, rfl, rfl, rfl, trivial⟩ ?_
    apply LX.joinAnd 2 93 91 rfl
    · intro hb18
      refine LX.gT rfl rfl rfl hb18 (Y.move rfl) rfl rfl <| LX.pure (Y.pickT rfl hb18 rfl) rfl rfl rfl ?_
      exact LX.left ⟨rfl, rfl, rfl, rfl, rfl, rfl, trivial⟩
    · intro hb18
      refine LX.gF rfl rfl rfl hb18 rfl rfl <| LX.pure (Y.pickF rfl hb18 rfl) rfl rfl rfl ?_
      exact LX.left ⟨rfl, rfl, rfl, rfl, rfl, rfl, trivial⟩
    refine LX.pure (Y.assign rfl) rfl rfl rfl <| LX.sub (l' := [(4, _), (5, _), (6, _), (7, _), (10, _)]) ⟨rfl, rfl, rfl, rfl, rfl, trivial⟩ <| LX.next <| PX.thenN <| CX.ret <| PX.blockR <| PX.thenR <| PX.ret1 (by simp) Tryz.results34 rfl ?_
    exact fun w hw => ⟨_, rfl, (fun h9 => ⟨fun h8 => by omega, fun h8 => by omega⟩), hw.drop (List.nil_sublist _)⟩
  try simp at hb17
  refine CX.seq <| CX.region <| LX.pure (Y.eqI rfl rfl) rfl rfl rfl <| LX.pure (Y.assign rfl) rfl rfl rfl <| LX.sub (l' := [(0, _), (5, _), (6, _), (7, _), (9, _), (10, _), (53, _), (94, _)]) ⟨rfl, rfl, rfl, rfl, rfl, rfl, rfl, rfl, trivial⟩ <| LX.next <| PX.thenN ?_
  refine CX.cond rfl (fun hb19 => ?_) (fun hb19 => ?_)
  · try simp at hb19
    refine CX.seq <| CX.region <| LX.pure (Y.move rfl) rfl rfl rfl <| LX.pure (Y.move rfl) rfl rfl rfl <| LX.sub (l' := [(5, _), (6, _), (7, _), (10, _), (97, _)]) ⟨rfl, rfl, rfl, rfl, rfl, trivial⟩ ?_
    apply LX.joinAnd 2 99 97 rfl
    · intro hb20
      refine LX.gT rfl rfl rfl hb20 (Y.move rfl) rfl rfl <| LX.pure (Y.pickT rfl hb20 rfl) rfl rfl rfl ?_
      exact LX.left ⟨rfl, rfl, rfl, rfl, rfl, rfl, trivial⟩
    · intro hb20
      refine LX.gF rfl rfl rfl hb20 rfl rfl <| LX.pure (Y.pickF rfl hb20 rfl) rfl rfl rfl ?_
      exact LX.left ⟨rfl, rfl, rfl, rfl, rfl, rfl, trivial⟩
    refine LX.pure (Y.move rfl) rfl rfl rfl <| LX.sub (l' := [(5, _), (6, _), (7, _), (10, _), (100, _)]) ⟨rfl, rfl, rfl, rfl, rfl, trivial⟩ ?_
    apply LX.joinAnd 4 104 100 rfl
    · intro hb21
      have hb21p := hb21
      try simp at hb21p
      refine LX.gT rfl rfl rfl hb21 (Y.move rfl) rfl rfl <| LX.gT rfl rfl rfl hb21 (Y.remN rfl rfl (by (simp only []; omega))) rfl rfl <| LX.gT rfl rfl rfl hb21 (Y.eqN rfl rfl) rfl rfl <| LX.pure (Y.pickT rfl hb21 rfl) rfl rfl rfl ?_
      exact LX.left ⟨rfl, rfl, rfl, rfl, rfl, rfl, trivial⟩
    · intro hb21
      refine LX.gF rfl rfl rfl hb21 rfl rfl <| LX.gF rfl rfl rfl hb21 rfl rfl <| LX.gF rfl rfl rfl hb21 rfl rfl <| LX.pure (Y.pickF rfl hb21 rfl) rfl rfl rfl ?_
      exact LX.left ⟨rfl, rfl, rfl, rfl, rfl, rfl, trivial⟩
    refine LX.pure (Y.assign rfl) rfl rfl rfl <| LX.sub (l' := [(4, _), (5, _), (6, _), (7, _), (10, _)]) ⟨rfl, rfl, rfl, rfl, rfl, trivial⟩ <| LX.next <| PX.thenN <| CX.ret <| PX.blockR <| PX.thenR <| PX.ret1 (by simp) Tryz.results34 rfl ?_
    exact fun w hw => ⟨_, rfl, (fun h9 => ⟨fun h8 => by omega, fun h8 => by omega⟩), hw.drop (List.nil_sublist _)⟩
  try simp at hb19
  refine CX.seq <| CX.region <| LX.pure (Y.eqI rfl rfl) rfl rfl rfl <| LX.pure (Y.assign rfl) rfl rfl rfl <| LX.sub (l' := [(0, _), (5, _), (6, _), (7, _), (9, _), (10, _), (53, _), (105, _)]) ⟨rfl, rfl, rfl, rfl, rfl, rfl, rfl, rfl, trivial⟩ <| LX.next <| PX.thenN ?_
  refine CX.cond rfl (fun hb22 => ?_) (fun hb22 => ?_)
  · try simp at hb22
    refine CX.seq <| CX.region <| LX.pure (Y.assign rfl) rfl rfl rfl <| LX.sub (l' := [(0, _), (5, _), (6, _), (7, _), (10, _), (11, _)]) ⟨rfl, rfl, rfl, rfl, rfl, rfl, trivial⟩ <| LX.next <| PX.thenN <| CX.seq <| CX.seq <| CX.region <| LX.pure (Y.assign rfl) rfl rfl rfl <| LX.sub (l' := [(0, _), (5, _), (6, _), (7, _), (10, _), (11, _), (12, _)]) ⟨rfl, rfl, rfl, rfl, rfl, rfl, rfl, trivial⟩ <| LX.next <| PX.thenN <| CX.block <| CX.loop (fun s : Nat × Bool => [(0, .slice al l.length cl), (5, .pointer (some ⟨bx5, 0, none⟩)), (6, .int .i64 (x.kids.length : Int)), (10, .bool (decide (x.s = []))), (11, .bool s.2), (12, .int .i64 (s.1 : Int))]) (fun (s : Nat × Bool) w => s.1 ≤ x.kids.length ∧ WA w0 base [blk bx5 [.int .i64 x.op, .int .i64 x.n, .int .i64 x.pos, str x.s, .slice ak x.kids.length ck] 53] w) (fun s => x.kids.length - s.1) (0, false) ⟨rfl, rfl, rfl, rfl, rfl, rfl, trivial⟩ (fun w hw => ⟨Nat.zero_le _, hw⟩) ?_
    rintro ⟨j, ar2⟩
    refine CX.have fun hj0 => ?_
    replace hj0 : j ≤ x.kids.length := hj0
    try dsimp only
    refine CX.seq <| CX.seq <| CX.region <| LX.pure (Y.move rfl) rfl rfl rfl <| LX.pure (Y.move rfl) rfl rfl rfl <| LX.pure (Y.ltN rfl rfl) rfl rfl rfl <| LX.sub (l' := [(0, _), (5, _), (6, _), (10, _), (11, _), (12, _), (109, _)]) ⟨rfl, rfl, rfl, rfl, rfl, rfl, rfl, trivial⟩ <| LX.next <| PX.thenN ?_
    refine CX.cond rfl (fun hb23 => ?_) (fun hb23 => ?_)
    · try simp at hb23
      refine CX.skip <| PX.thenN <| CX.seq <| CX.block <| CX.seq <| CX.region <| LX.pure (Y.move rfl) rfl rfl rfl <| LX.pure (Y.fieldAddr0 Kq.fo53_4 rfl) rfl rfl rfl <| LX.pure (Y.ldB 0 Kq.one51 rfl rfl rfl) rfl rfl rfl <| LX.pure (Y.move rfl) rfl rfl rfl ?_
      obtain ⟨a2, hav2, hL2, _⟩ := hka.int_at (j := j) (by omega)
      have hr2 := hK _ (getD_mem (j := j) (ks := x.kids) (by omega))
      obtain ⟨k2, hkz2⟩ : ∃ k : Nat, x.kids.getD j 0 = (k : Int) := ⟨(x.kids.getD j 0).toNat, by omega⟩
      obtain ⟨y2, hy2⟩ : ∃ y, l[k2]? = some y := ⟨_, List.getElem?_eq_getElem (by omega)⟩
      obtain ⟨b2, bk2, bc2, hbv2, hbL2, hbc2, hba2⟩ := nd_of hl hy2
      refine LX.pure (Y.idxZ Kq.un51 Kc.sz3 rfl rfl hav2 (j := j) rfl (by omega)) rfl rfl rfl <| LX.pure (show Y _ _ _ _ _ (.int .i64 (k2 : Int)) from by rw [← hkz2]; exact Y.ldO1 Kc.one3 rfl hL2) rfl rfl rfl <| LX.pure (Y.idxZ Kq.un22 Kq.sz53 rfl rfl hbv2 (j := k2) rfl (by omega)) rfl rfl rfl <| LX.pure (Y.fieldA Kq.fa53_0 rfl) rfl rfl rfl <| LX.pure (Y.ldFO (v := .int .i64 y2.op) Kc.one3 rfl hbL2 rfl) rfl rfl rfl <| LX.pure (Y.assign rfl) rfl rfl rfl <| LX.sub (l' := [(0, _), (5, _), (6, _), (10, _), (11, _), (12, _), (13, _)]) ⟨rfl, rfl, rfl, rfl, rfl, rfl, rfl, trivial⟩ <| LX.next <| PX.thenN <| CX.seq <| CX.region <| LX.pure (Y.move rfl) rfl rfl rfl <| LX.pure (Y.eqI rfl rfl) rfl rfl rfl <| LX.pure (Y.move rfl) rfl rfl rfl <| LX.sub (l' := [(0, _), (5, _), (6, _), (10, _), (11, _), (12, _), (13, _), (123, _)]) ⟨rfl, rfl, rfl, rfl, rfl, rfl, rfl, rfl, trivial⟩ ?_
      apply LX.joinAnd 3 126 123 rfl
      · intro hb24
        refine LX.gT rfl rfl rfl hb24 (Y.move rfl) rfl rfl <| LX.gT rfl rfl rfl hb24 (Y.gtN rfl rfl) rfl rfl <| LX.pure (Y.pickT rfl hb24 rfl) rfl rfl rfl ?_
        exact LX.left ⟨rfl, rfl, rfl, rfl, rfl, rfl, rfl, rfl, rfl, trivial⟩
      · intro hb24
        refine LX.gF rfl rfl rfl hb24 rfl rfl <| LX.gF rfl rfl rfl hb24 rfl rfl <| LX.pure (Y.pickF rfl hb24 rfl) rfl rfl rfl ?_
        exact LX.left ⟨rfl, rfl, rfl, rfl, rfl, rfl, rfl, rfl, rfl, trivial⟩
      refine LX.sub (l' := [(0, _), (5, _), (6, _), (10, _), (11, _), (12, _), (13, _), (126, _)]) ⟨rfl, rfl, rfl, rfl, rfl, rfl, rfl, rfl, trivial⟩ <| LX.next <| PX.thenN ?_
      refine CX.cond rfl (fun hb25 => ?_) (fun hb25 => ?_)
      · try simp at hb25
        refine CX.region <| LX.pure (Y.assign rfl) rfl rfl rfl <| LX.sub (l' := [(0, _), (5, _), (6, _), (10, _), (11, _), (12, _)]) ⟨rfl, rfl, rfl, rfl, rfl, rfl, trivial⟩ <| LX.next <| PX.blockN <| PX.thenN <| CX.region <| LX.pure (Y.move rfl) rfl rfl rfl <| LX.pure (Y.addN rfl rfl (by (simp only []; omega))) rfl rfl rfl <| LX.pure (Y.assign rfl) rfl rfl rfl <| LX.sub (l' := [(0, _), (5, _), (6, _), (10, _), (11, _), (12, _)]) ⟨rfl, rfl, rfl, rfl, rfl, rfl, trivial⟩ <| LX.next ?_
        exact PX.again (μ := fun s => x.kids.length - s.1) (i := (j, ar2)) (j + 1, _) (by show x.kids.length - (j + 1) < x.kids.length - j; omega) ⟨rfl, rfl, rfl, rfl, rfl, rfl, trivial⟩ (fun w hw => ⟨by show j + 1 ≤ x.kids.length; omega, hw⟩)
      try simp at hb25
      refine CX.seq <| CX.region <| LX.pure (Y.move rfl) rfl rfl rfl <| LX.callQ (rexpr_q _) Kuc.en75 rfl rfl rfl rfl rfl <| LX.pure (Y.not rfl) rfl rfl rfl <| LX.pure (Y.move rfl) rfl rfl rfl <| LX.sub (l' := [(0, _), (5, _), (6, _), (10, _), (11, _), (12, _), (130, _)]) ⟨rfl, rfl, rfl, rfl, rfl, rfl, rfl, trivial⟩ ?_
      apply LX.joinOr 2 132 130 rfl
      · intro hb26
        refine LX.gF rfl rfl rfl hb26 rfl rfl <| LX.pure (Y.pickT rfl hb26 rfl) rfl rfl rfl ?_
        exact LX.left ⟨rfl, rfl, rfl, rfl, rfl, rfl, rfl, rfl, trivial⟩
      · intro hb26
        refine LX.gT rfl rfl rfl hb26 (Y.move rfl) rfl rfl <| LX.pure (Y.pickF rfl hb26 rfl) rfl rfl rfl ?_
        exact LX.left ⟨rfl, rfl, rfl, rfl, rfl, rfl, rfl, rfl, trivial⟩
      refine LX.sub (l' := [(0, _), (5, _), (6, _), (10, _), (11, _), (12, _), (132, _)]) ⟨rfl, rfl, rfl, rfl, rfl, rfl, rfl, trivial⟩ <| LX.next <| PX.thenN ?_
      refine CX.cond rfl (fun hb27 => ?_) (fun hb27 => ?_)
      · try simp at hb27
        refine CX.seq <| CX.region <| LX.pure (Y.assign rfl) rfl rfl rfl <| LX.sub (l' := [(0, _), (4, _), (5, _), (6, _), (10, _), (11, _), (12, _)]) ⟨rfl, rfl, rfl, rfl, rfl, rfl, rfl, trivial⟩ <| LX.next <| PX.thenN <| CX.ret <| PX.blockR <| PX.thenR <| PX.thenR <| PX.blockR <| PX.thenR <| PX.blockR <| PX.thenR <| PX.ret1 (by simp) Tryz.results34 rfl ?_
        exact fun w hw => ⟨_, rfl, (fun h9 => ⟨fun h8 => by omega, fun h8 => by omega⟩), hw.drop (List.nil_sublist _)⟩
      try simp at hb27
      refine CX.skip <| PX.blockN <| PX.thenN <| CX.region <| LX.pure (Y.move rfl) rfl rfl rfl <| LX.pure (Y.addN rfl rfl (by (simp only []; omega))) rfl rfl rfl <| LX.pure (Y.assign rfl) rfl rfl rfl <| LX.sub (l' := [(0, _), (5, _), (6, _), (10, _), (11, _), (12, _)]) ⟨rfl, rfl, rfl, rfl, rfl, rfl, trivial⟩ <| LX.next ?_
      exact PX.again (μ := fun s => x.kids.length - s.1) (i := (j, ar2)) (j + 1, _) (by show x.kids.length - (j + 1) < x.kids.length - j; omega) ⟨rfl, rfl, rfl, rfl, rfl, rfl, trivial⟩ (fun w hw => ⟨by show j + 1 ≤ x.kids.length; omega, hw⟩)
    try simp at hb23
    refine CX.exit <| PX.thenE <| PX.thenE <| PX.blockE <| PX.thenN <| CX.seq <| CX.region <| LX.pure (Y.move rfl) rfl rfl rfl <| LX.pure (Y.move rfl) rfl rfl rfl <| LX.sub (l' := [(5, _), (6, _), (10, _), (134, _)]) ⟨rfl, rfl, rfl, rfl, trivial⟩ ?_
    apply LX.joinAnd 3 137 134 rfl
    · intro hb28
      refine LX.gT rfl rfl rfl hb28 (Y.move rfl) rfl rfl <| LX.gT rfl rfl rfl hb28 (Y.geN rfl rfl) rfl rfl <| LX.pure (Y.pickT rfl hb28 rfl) rfl rfl rfl ?_
      exact LX.left ⟨rfl, rfl, rfl, rfl, rfl, trivial⟩
    · intro hb28
      refine LX.gF rfl rfl rfl hb28 rfl rfl <| LX.gF rfl rfl rfl hb28 rfl rfl <| LX.pure (Y.pickF rfl hb28 rfl) rfl rfl rfl ?_
      exact LX.left ⟨rfl, rfl, rfl, rfl, rfl, trivial⟩
    refine LX.pure (Y.assign rfl) rfl rfl rfl <| LX.sub (l' := [(4, _), (5, _), (6, _), (10, _)]) ⟨rfl, rfl, rfl, rfl, trivial⟩ <| LX.next <| PX.thenN <| CX.ret <| PX.blockR <| PX.thenR <| PX.ret1 (by simp) Tryz.results34 rfl ?_
    exact fun w hw => ⟨_, rfl, (fun h9 => ⟨fun h8 => by omega, fun h8 => by omega⟩), hw.drop (List.nil_sublist _)⟩
  try simp at hb22
  refine CX.sub (l' := [(0, _), (5, _), (6, _), (7, _), (9, _), (10, _), (53, _)]) ⟨rfl, rfl, rfl, rfl, rfl, rfl, rfl, trivial⟩ ?_
  apply CX.seqSw 138
  ·
    refine CX.seq <| CX.region <| LX.pure (Y.eqI rfl rfl) rfl rfl rfl <| LX.pure (Y.assign rfl) rfl rfl rfl <| LX.next <| PX.thenN ?_
    apply CX.swOr
    · rfl
    · exact ⟨rfl, rfl, rfl, rfl, rfl, rfl, rfl, rfl, trivial⟩
    intro hb29
    try simp at hb29
    refine CX.region <| LX.pure (Y.eqI rfl rfl) rfl rfl rfl <| LX.pure (Y.assign rfl) rfl rfl rfl <| LX.next ?_
    exact PX.sw ⟨rfl, rfl, rfl, rfl, rfl, rfl, rfl, rfl, trivial⟩
  refine CX.cond rfl (fun hb30 => ?_) (fun hb30 => ?_)
  · try simp at hb30
    refine CX.seq <| CX.region <| LX.pure (Y.move rfl) rfl rfl rfl <| LX.pure (Y.move rfl) rfl rfl rfl <| LX.sub (l' := [(5, _), (6, _), (7, _), (10, _), (142, _)]) ⟨rfl, rfl, rfl, rfl, rfl, trivial⟩ ?_
    apply LX.joinAnd 3 145 142 rfl
    · intro hb31
      refine LX.gT rfl rfl rfl hb31 (Y.move rfl) rfl rfl <| LX.gT rfl rfl rfl hb31 (Y.eqN rfl rfl) rfl rfl <| LX.pure (Y.pickT rfl hb31 rfl) rfl rfl rfl ?_
      exact LX.left ⟨rfl, rfl, rfl, rfl, rfl, rfl, trivial⟩
    · intro hb31
      refine LX.gF rfl rfl rfl hb31 rfl rfl <| LX.gF rfl rfl rfl hb31 rfl rfl <| LX.pure (Y.pickF rfl hb31 rfl) rfl rfl rfl ?_
      exact LX.left ⟨rfl, rfl, rfl, rfl, rfl, rfl, trivial⟩
    refine LX.pure (Y.move rfl) rfl rfl rfl <| LX.sub (l' := [(5, _), (6, _), (7, _), (10, _), (146, _)]) ⟨rfl, rfl, rfl, rfl, rfl, trivial⟩ ?_
    apply LX.joinAnd 2 148 146 rfl
    · intro hb32
      refine LX.gT rfl rfl rfl hb32 (Y.move rfl) rfl rfl <| LX.pure (Y.pickT rfl hb32 rfl) rfl rfl rfl ?_
      exact LX.left ⟨rfl, rfl, rfl, rfl, rfl, rfl, trivial⟩
    · intro hb32
      refine LX.gF rfl rfl rfl hb32 rfl rfl <| LX.pure (Y.pickF rfl hb32 rfl) rfl rfl rfl ?_
      exact LX.left ⟨rfl, rfl, rfl, rfl, rfl, rfl, trivial⟩
    refine LX.pure (Y.assign rfl) rfl rfl rfl <| LX.sub (l' := [(4, _), (5, _), (6, _), (7, _), (10, _)]) ⟨rfl, rfl, rfl, rfl, rfl, trivial⟩ <| LX.next <| PX.thenN <| CX.ret <| PX.blockR <| PX.thenR <| PX.ret1 (by simp) Tryz.results34 rfl ?_
    exact fun w hw => ⟨_, rfl, (fun h9 => ⟨fun h8 => by omega, fun h8 => by omega⟩), hw.drop (List.nil_sublist _)⟩
  try simp at hb30
  refine CX.seq <| CX.region <| LX.pure (Y.eqI rfl rfl) rfl rfl rfl <| LX.pure (Y.assign rfl) rfl rfl rfl <| LX.sub (l' := [(0, _), (5, _), (6, _), (7, _), (9, _), (10, _), (53, _), (149, _)]) ⟨rfl, rfl, rfl, rfl, rfl, rfl, rfl, rfl, trivial⟩ <| LX.next <| PX.thenN ?_
  refine CX.cond rfl (fun hb33 => ?_) (fun hb33 => ?_)
  · try simp at hb33
    refine CX.seq <| CX.region <| LX.pure (Y.move rfl) rfl rfl rfl <| LX.pure (Y.move rfl) rfl rfl rfl <| LX.sub (l' := [(5, _), (6, _), (7, _), (10, _), (152, _)]) ⟨rfl, rfl, rfl, rfl, rfl, trivial⟩ ?_
    apply LX.joinAnd 3 155 152 rfl
    · intro hb34
      refine LX.gT rfl rfl rfl hb34 (Y.move rfl) rfl rfl <| LX.gT rfl rfl rfl hb34 (Y.eqN rfl rfl) rfl rfl <| LX.pure (Y.pickT rfl hb34 rfl) rfl rfl rfl ?_
      exact LX.left ⟨rfl, rfl, rfl, rfl, rfl, rfl, trivial⟩
    · intro hb34
      refine LX.gF rfl rfl rfl hb34 rfl rfl <| LX.gF rfl rfl rfl hb34 rfl rfl <| LX.pure (Y.pickF rfl hb34 rfl) rfl rfl rfl ?_
      exact LX.left ⟨rfl, rfl, rfl, rfl, rfl, rfl, trivial⟩
    refine LX.pure (Y.move rfl) rfl rfl rfl <| LX.sub (l' := [(5, _), (6, _), (7, _), (10, _), (156, _)]) ⟨rfl, rfl, rfl, rfl, rfl, trivial⟩ ?_
    apply LX.joinAnd 2 158 156 rfl
    · intro hb35
      refine LX.gT rfl rfl rfl hb35 (Y.move rfl) rfl rfl <| LX.pure (Y.pickT rfl hb35 rfl) rfl rfl rfl ?_
      exact LX.left ⟨rfl, rfl, rfl, rfl, rfl, rfl, trivial⟩
    · intro hb35
      refine LX.gF rfl rfl rfl hb35 rfl rfl <| LX.pure (Y.pickF rfl hb35 rfl) rfl rfl rfl ?_
      exact LX.left ⟨rfl, rfl, rfl, rfl, rfl, rfl, trivial⟩
    refine LX.pure (Y.assign rfl) rfl rfl rfl <| LX.sub (l' := [(4, _), (5, _), (6, _), (7, _), (10, _)]) ⟨rfl, rfl, rfl, rfl, rfl, trivial⟩ <| LX.next <| PX.thenN <| CX.ret <| PX.blockR <| PX.thenR <| PX.ret1 (by simp) Tryz.results34 rfl ?_
    exact fun w hw => ⟨_, rfl, (fun h9 => ⟨fun h8 => by omega, fun h8 => by omega⟩), hw.drop (List.nil_sublist _)⟩
  try simp at hb33
  refine CX.seq <| CX.region <| LX.pure (Y.eqI rfl rfl) rfl rfl rfl <| LX.pure (Y.assign rfl) rfl rfl rfl <| LX.sub (l' := [(0, _), (5, _), (6, _), (7, _), (9, _), (10, _), (53, _), (159, _)]) ⟨rfl, rfl, rfl, rfl, rfl, rfl, rfl, rfl, trivial⟩ <| LX.next <| PX.thenN ?_
  refine CX.cond rfl (fun hb36 => ?_) (fun hb36 => ?_)
  · try simp at hb36
    refine CX.seq <| CX.seq <| CX.region <| LX.pure (Y.move rfl) rfl rfl rfl <| LX.pure (Y.neN rfl rfl) rfl rfl rfl <| LX.pure (Y.move rfl) rfl rfl rfl <| LX.sub (l' := [(0, _), (5, _), (6, _), (7, _), (10, _), (163, _)]) ⟨rfl, rfl, rfl, rfl, rfl, rfl, trivial⟩ ?_
    apply LX.joinOr 3 166 163 rfl
    · intro hb37
      refine LX.gF rfl rfl rfl hb37 rfl rfl <| LX.gF rfl rfl rfl hb37 rfl rfl <| LX.pure (Y.pickT rfl hb37 rfl) rfl rfl rfl ?_
      exact LX.left ⟨rfl, rfl, rfl, rfl, rfl, rfl, rfl, trivial⟩
    · intro hb37
      refine LX.gT rfl rfl rfl hb37 (Y.move rfl) rfl rfl <| LX.gT rfl rfl rfl hb37 (Y.not rfl) rfl rfl <| LX.pure (Y.pickF rfl hb37 rfl) rfl rfl rfl ?_
      exact LX.left ⟨rfl, rfl, rfl, rfl, rfl, rfl, rfl, trivial⟩
    refine LX.pure (Y.move rfl) rfl rfl rfl ?_
    refine LX.caseB (s := 167) rfl (fun hb38 => ?_) (fun hb38 => ?_)
    ·
      refine LX.gF rfl rfl rfl hb38 rfl rfl <| LX.gF rfl rfl rfl hb38 rfl rfl <| LX.gF rfl rfl rfl hb38 rfl rfl <| LX.gF rfl rfl rfl hb38 rfl rfl <| LX.gF rfl rfl rfl hb38 rfl rfl <| LX.gF rfl rfl rfl hb38 rfl rfl <| LX.gF rfl rfl rfl hb38 rfl rfl <| LX.gF rfl rfl rfl hb38 rfl rfl <| LX.gF rfl rfl rfl hb38 rfl rfl <| LX.gF rfl rfl rfl hb38 rfl rfl <| LX.pure (Y.pickT rfl hb38 rfl) rfl rfl rfl <| LX.sub (l' := [(0, _), (5, _), (6, _), (7, _), (10, _), (178, _)]) ⟨rfl, rfl, rfl, rfl, rfl, rfl, trivial⟩ <| LX.next <| PX.thenN ?_
      refine CX.cond rfl (fun hb39 => ?_) (fun hb39 => ?_)
      · try simp at hb39
        refine CX.seq <| CX.region <| LX.pure (Y.assign rfl) rfl rfl rfl <| LX.sub (l' := [(0, _), (4, _), (5, _), (6, _), (7, _), (10, _)]) ⟨rfl, rfl, rfl, rfl, rfl, rfl, trivial⟩ <| LX.next <| PX.thenN <| CX.ret <| PX.thenR <| PX.blockR <| PX.thenR <| PX.ret1 (by simp) Tryz.results34 rfl ?_
        exact fun w hw => ⟨_, rfl, (fun h9 => ⟨fun h8 => by omega, fun h8 => by omega⟩), hw.drop (List.nil_sublist _)⟩
      try simp at hb39
      done
    have hb38p := hb38
    try simp at hb38p
    refine LX.gT rfl rfl rfl hb38 (Y.move rfl) rfl rfl <| LX.gT rfl rfl rfl hb38 (Y.fieldAddr0 Kq.fo53_4 rfl) rfl rfl <| LX.gT rfl rfl rfl hb38 (Y.ldB 0 Kq.one51 rfl rfl rfl) rfl rfl ?_
    obtain ⟨a3, hav3, hL3, _⟩ := hka.int_at (j := 0) (by omega)
    have hr3 := hK _ (getD_mem (j := 0) (ks := x.kids) (by omega))
    obtain ⟨k3, hkz3⟩ : ∃ k : Nat, x.kids.getD 0 0 = (k : Int) := ⟨(x.kids.getD 0 0).toNat, by omega⟩
    obtain ⟨y3, hy3⟩ : ∃ y, l[k3]? = some y := ⟨_, List.getElem?_eq_getElem (by omega)⟩
    obtain ⟨b3, bk3, bc3, hbv3, hbL3, hbc3, hba3⟩ := nd_of hl hy3
    refine LX.gT rfl rfl rfl hb38 (Y.idxZ Kq.un51 Kc.sz3 rfl rfl hav3 (j := 0) rfl (by omega)) rfl rfl <| LX.gT rfl rfl rfl hb38 (show Y _ _ _ _ _ (.int .i64 (k3 : Int)) from by rw [← hkz3]; exact Y.ldO1 Kc.one3 rfl hL3) rfl rfl <| LX.gT rfl rfl rfl hb38 (Y.idxZ Kq.un22 Kq.sz53 rfl rfl hbv3 (j := k3) rfl (by omega)) rfl rfl <| LX.gT rfl rfl rfl hb38 (Y.fieldA Kq.fa53_0 rfl) rfl rfl <| LX.gT rfl rfl rfl hb38 (Y.ldFO (v := .int .i64 y3.op) Kc.one3 rfl hbL3 rfl) rfl rfl <| LX.callQT rfl rfl rfl hb38 (rexpr_q _) Kuc.en75 rfl rfl rfl rfl <| LX.gT rfl rfl rfl hb38 (Y.not rfl) rfl rfl <| LX.pure (Y.pickF rfl hb38 rfl) rfl rfl rfl <| LX.sub (l' := [(0, _), (5, _), (6, _), (7, _), (10, _), (178, _)]) ⟨rfl, rfl, rfl, rfl, rfl, rfl, trivial⟩ <| LX.next <| PX.thenN ?_
    refine CX.cond rfl (fun hb40 => ?_) (fun hb40 => ?_)
    · try simp at hb40
      refine CX.seq <| CX.region <| LX.pure (Y.assign rfl) rfl rfl rfl <| LX.sub (l' := [(0, _), (4, _), (5, _), (6, _), (7, _), (10, _)]) ⟨rfl, rfl, rfl, rfl, rfl, rfl, trivial⟩ <| LX.next <| PX.thenN <| CX.ret <| PX.thenR <| PX.blockR <| PX.thenR <| PX.ret1 (by simp) Tryz.results34 rfl ?_
      exact fun w hw => ⟨_, rfl, (fun h9 => ⟨fun h8 => by omega, fun h8 => by omega⟩), hw.drop (List.nil_sublist _)⟩
    try simp at hb40
    refine CX.skip <| PX.thenN <| CX.seq <| CX.seq <| CX.region <| LX.pure (Y.assign rfl) rfl rfl rfl <| LX.sub (l' := [(0, _), (5, _), (6, _), (7, _), (10, _), (14, _)]) ⟨rfl, rfl, rfl, rfl, rfl, rfl, trivial⟩ <| LX.next <| PX.thenN <| CX.block <| CX.loop (fun j : Nat => [(0, .slice al l.length cl), (5, .pointer (some ⟨bx5, 0, none⟩)), (6, .int .i64 (x.kids.length : Int)), (14, .int .i64 (j : Int))]) (fun (j : Nat) w => j ≤ x.kids.length + 1 ∧ WA w0 base [blk bx5 [.int .i64 x.op, .int .i64 x.n, .int .i64 x.pos, str x.s, .slice ak x.kids.length ck] 53] w) (fun j => x.kids.length + 1 - j) 1 ⟨rfl, rfl, rfl, rfl, trivial⟩ (fun w hw => ⟨by show 1 ≤ x.kids.length + 1; omega, hw⟩) ?_
    intro j
    refine CX.have fun hj0 => ?_
    replace hj0 : j ≤ x.kids.length + 1 := hj0
    refine CX.seq <| CX.seq <| CX.region <| LX.pure (Y.move rfl) rfl rfl rfl <| LX.pure (Y.ltN rfl rfl) rfl rfl rfl <| LX.sub (l' := [(0, _), (5, _), (6, _), (14, _), (180, _)]) ⟨rfl, rfl, rfl, rfl, rfl, trivial⟩ <| LX.next <| PX.thenN ?_
    refine CX.cond rfl (fun hb41 => ?_) (fun hb41 => ?_)
    · try simp at hb41
      refine CX.skip <| PX.thenN <| CX.seq <| CX.block <| CX.seq <| CX.region <| LX.pure (Y.move rfl) rfl rfl rfl <| LX.pure (Y.fieldAddr0 Kq.fo53_4 rfl) rfl rfl rfl <| LX.pure (Y.ldB 0 Kq.one51 rfl rfl rfl) rfl rfl rfl <| LX.pure (Y.move rfl) rfl rfl rfl ?_
      obtain ⟨a4, hav4, hL4, _⟩ := hka.int_at (j := j) (by omega)
      have hr4 := hK _ (getD_mem (j := j) (ks := x.kids) (by omega))
      obtain ⟨k4, hkz4⟩ : ∃ k : Nat, x.kids.getD j 0 = (k : Int) := ⟨(x.kids.getD j 0).toNat, by omega⟩
      obtain ⟨y4, hy4⟩ : ∃ y, l[k4]? = some y := ⟨_, List.getElem?_eq_getElem (by omega)⟩
      obtain ⟨b4, bk4, bc4, hbv4, hbL4, hbc4, hba4⟩ := nd_of hl hy4
      refine LX.pure (Y.idxZ Kq.un51 Kc.sz3 rfl rfl hav4 (j := j) rfl (by omega)) rfl rfl rfl <| LX.pure (show Y _ _ _ _ _ (.int .i64 (k4 : Int)) from by rw [← hkz4]; exact Y.ldO1 Kc.one3 rfl hL4) rfl rfl rfl <| LX.pure (Y.idxZ Kq.un22 Kq.sz53 rfl rfl hbv4 (j := k4) rfl (by omega)) rfl rfl rfl <| LX.pure (Y.fieldA Kq.fa53_0 rfl) rfl rfl rfl <| LX.pure (Y.ldFO (v := .int .i64 y4.op) Kc.one3 rfl hbL4 rfl) rfl rfl rfl <| LX.pure (Y.assign rfl) rfl rfl rfl <| LX.sub (l' := [(0, _), (5, _), (6, _), (14, _), (15, _)]) ⟨rfl, rfl, rfl, rfl, rfl, trivial⟩ <| LX.next <| PX.thenN <| CX.seq <| CX.region <| LX.pure (Y.move rfl) rfl rfl rfl <| LX.callQ (rexpr_q _) Kuc.en75 rfl rfl rfl rfl rfl <| LX.pure (Y.not rfl) rfl rfl rfl <| LX.pure (Y.move rfl) rfl rfl rfl <| LX.sub (l' := [(0, _), (5, _), (6, _), (14, _), (15, _), (195, _)]) ⟨rfl, rfl, rfl, rfl, rfl, rfl, trivial⟩ ?_
      apply LX.joinAnd 3 198 195 rfl
      · intro hb42
        refine LX.gT rfl rfl rfl hb42 (Y.move rfl) rfl rfl <| LX.gT rfl rfl rfl hb42 (Y.neI rfl rfl) rfl rfl <| LX.pure (Y.pickT rfl hb42 rfl) rfl rfl rfl ?_
        exact LX.left ⟨rfl, rfl, rfl, rfl, rfl, rfl, rfl, trivial⟩
      · intro hb42
        refine LX.gF rfl rfl rfl hb42 rfl rfl <| LX.gF rfl rfl rfl hb42 rfl rfl <| LX.pure (Y.pickF rfl hb42 rfl) rfl rfl rfl ?_
        exact LX.left ⟨rfl, rfl, rfl, rfl, rfl, rfl, rfl, trivial⟩
      refine LX.sub (l' := [(0, _), (5, _), (6, _), (14, _), (198, _)]) ⟨rfl, rfl, rfl, rfl, rfl, trivial⟩ <| LX.next <| PX.thenN ?_
      refine CX.cond rfl (fun hb43 => ?_) (fun hb43 => ?_)
      · try simp at hb43
        refine CX.seq <| CX.region <| LX.pure (Y.assign rfl) rfl rfl rfl <| LX.sub (l' := [(0, _), (4, _), (5, _), (6, _), (14, _)]) ⟨rfl, rfl, rfl, rfl, rfl, trivial⟩ <| LX.next <| PX.thenN <| CX.ret <| PX.blockR <| PX.thenR <| PX.thenR <| PX.blockR <| PX.thenR <| PX.blockR <| PX.thenR <| PX.ret1 (by simp) Tryz.results34 rfl ?_
        exact fun w hw => ⟨_, rfl, (fun h9 => ⟨fun h8 => by omega, fun h8 => by omega⟩), hw.drop (List.nil_sublist _)⟩
      try simp at hb43
      refine CX.skip <| PX.blockN <| PX.thenN <| CX.region <| LX.pure (Y.move rfl) rfl rfl rfl <| LX.pure (Y.addN rfl rfl (by (simp only []; omega))) rfl rfl rfl <| LX.pure (Y.assign rfl) rfl rfl rfl <| LX.sub (l' := [(0, _), (5, _), (6, _), (14, _)]) ⟨rfl, rfl, rfl, rfl, trivial⟩ <| LX.next ?_
      exact PX.again (μ := fun j => x.kids.length + 1 - j) (i := j) (j + 1) (by show x.kids.length + 1 - (j + 1) < x.kids.length + 1 - j; omega) ⟨rfl, rfl, rfl, rfl, trivial⟩ (fun w hw => ⟨by show j + 1 ≤ x.kids.length + 1; omega, hw⟩)
    try simp at hb41
    refine CX.exit <| PX.thenE <| PX.thenE <| PX.blockE <| PX.thenN <| CX.seq <| CX.region <| LX.pure (Y.assign rfl) rfl rfl rfl <| LX.sub (l' := [(4, _), (5, _), (6, _)]) ⟨rfl, rfl, rfl, trivial⟩ <| LX.next <| PX.thenN <| CX.ret <| PX.blockR <| PX.thenR <| PX.ret1 (by simp) Tryz.results34 rfl ?_
    exact fun w hw => ⟨_, rfl, (fun h9 => ⟨fun h8 => by omega, fun h8 => by omega⟩), hw.drop (List.nil_sublist _)⟩
  try simp at hb36
  refine CX.sub (l' := [(0, _), (5, _), (6, _), (7, _), (9, _), (10, _), (53, _)]) ⟨rfl, rfl, rfl, rfl, rfl, rfl, rfl, trivial⟩ ?_
  apply CX.seqSw 199
  ·
    refine CX.seq <| CX.region <| LX.pure (Y.eqI rfl rfl) rfl rfl rfl <| LX.pure (Y.assign rfl) rfl rfl rfl <| LX.next <| PX.thenN ?_
    apply CX.swOr
    · rfl
    · exact ⟨rfl, rfl, rfl, rfl, rfl, rfl, rfl, rfl, trivial⟩
    intro hb44
    try simp at hb44
    refine CX.seq <| CX.region <| LX.pure (Y.eqI rfl rfl) rfl rfl rfl <| LX.pure (Y.assign rfl) rfl rfl rfl <| LX.next <| PX.thenN ?_
    apply CX.swOr
    · rfl
    · exact ⟨rfl, rfl, rfl, rfl, rfl, rfl, rfl, rfl, trivial⟩
    intro hb45
    try simp at hb45
    refine CX.region <| LX.pure (Y.eqI rfl rfl) rfl rfl rfl <| LX.pure (Y.assign rfl) rfl rfl rfl <| LX.next ?_
    exact PX.sw ⟨rfl, rfl, rfl, rfl, rfl, rfl, rfl, rfl, trivial⟩
  refine CX.cond rfl (fun hb46 => ?_) (fun hb46 => ?_)
  · try simp at hb46
    refine CX.seq <| CX.region <| LX.pure (Y.move rfl) rfl rfl rfl <| LX.pure (Y.move rfl) rfl rfl rfl <| LX.sub (l' := [(5, _), (6, _), (7, _), (10, _), (204, _)]) ⟨rfl, rfl, rfl, rfl, rfl, trivial⟩ ?_
    apply LX.joinAnd 3 207 204 rfl
    · intro hb47
      refine LX.gT rfl rfl rfl hb47 (Y.move rfl) rfl rfl <| LX.gT rfl rfl rfl hb47 (Y.eqN rfl rfl) rfl rfl <| LX.pure (Y.pickT rfl hb47 rfl) rfl rfl rfl ?_
      exact LX.left ⟨rfl, rfl, rfl, rfl, rfl, rfl, trivial⟩
    · intro hb47
      refine LX.gF rfl rfl rfl hb47 rfl rfl <| LX.gF rfl rfl rfl hb47 rfl rfl <| LX.pure (Y.pickF rfl hb47 rfl) rfl rfl rfl ?_
      exact LX.left ⟨rfl, rfl, rfl, rfl, rfl, rfl, trivial⟩
    refine LX.pure (Y.move rfl) rfl rfl rfl <| LX.sub (l' := [(5, _), (6, _), (7, _), (10, _), (208, _)]) ⟨rfl, rfl, rfl, rfl, rfl, trivial⟩ ?_
    apply LX.joinAnd 2 210 208 rfl
    · intro hb48
      refine LX.gT rfl rfl rfl hb48 (Y.move rfl) rfl rfl <| LX.pure (Y.pickT rfl hb48 rfl) rfl rfl rfl ?_
      exact LX.left ⟨rfl, rfl, rfl, rfl, rfl, rfl, trivial⟩
    · intro hb48
      refine LX.gF rfl rfl rfl hb48 rfl rfl <| LX.pure (Y.pickF rfl hb48 rfl) rfl rfl rfl ?_
      exact LX.left ⟨rfl, rfl, rfl, rfl, rfl, rfl, trivial⟩
    refine LX.pure (Y.assign rfl) rfl rfl rfl <| LX.sub (l' := [(4, _), (5, _), (6, _), (7, _), (10, _)]) ⟨rfl, rfl, rfl, rfl, rfl, trivial⟩ <| LX.next <| PX.thenN <| CX.ret <| PX.blockR <| PX.thenR <| PX.ret1 (by simp) Tryz.results34 rfl ?_
    exact fun w hw => ⟨_, rfl, (fun h9 => ⟨fun h8 => by omega, fun h8 => by omega⟩), hw.drop (List.nil_sublist _)⟩
  try simp at hb46
  refine CX.seq <| CX.region <| LX.pure (Y.eqI rfl rfl) rfl rfl rfl <| LX.pure (Y.assign rfl) rfl rfl rfl <| LX.sub (l' := [(0, _), (5, _), (6, _), (7, _), (9, _), (10, _), (53, _), (211, _)]) ⟨rfl, rfl, rfl, rfl, rfl, rfl, rfl, rfl, trivial⟩ <| LX.next <| PX.thenN ?_
  refine CX.cond rfl (fun hb49 => ?_) (fun hb49 => ?_)
  · try simp at hb49
    refine CX.seq <| CX.region <| LX.pure (Y.move rfl) rfl rfl rfl <| LX.pure (Y.move rfl) rfl rfl rfl <| LX.sub (l' := [(5, _), (6, _), (7, _), (10, _), (214, _)]) ⟨rfl, rfl, rfl, rfl, rfl, trivial⟩ ?_
    apply LX.joinAnd 3 217 214 rfl
    · intro hb50
      refine LX.gT rfl rfl rfl hb50 (Y.move rfl) rfl rfl <| LX.gT rfl rfl rfl hb50 (Y.eqN rfl rfl) rfl rfl <| LX.pure (Y.pickT rfl hb50 rfl) rfl rfl rfl ?_
      exact LX.left ⟨rfl, rfl, rfl, rfl, rfl, rfl, trivial⟩
    · intro hb50
      refine LX.gF rfl rfl rfl hb50 rfl rfl <| LX.gF rfl rfl rfl hb50 rfl rfl <| LX.pure (Y.pickF rfl hb50 rfl) rfl rfl rfl ?_
      exact LX.left ⟨rfl, rfl, rfl, rfl, rfl, rfl, trivial⟩
    refine LX.pure (Y.move rfl) rfl rfl rfl <| LX.sub (l' := [(5, _), (6, _), (7, _), (10, _), (218, _)]) ⟨rfl, rfl, rfl, rfl, rfl, trivial⟩ ?_
    apply LX.joinAnd 2 220 218 rfl
    · intro hb51
      refine LX.gT rfl rfl rfl hb51 (Y.move rfl) rfl rfl <| LX.pure (Y.pickT rfl hb51 rfl) rfl rfl rfl ?_
      exact LX.left ⟨rfl, rfl, rfl, rfl, rfl, rfl, trivial⟩
    · intro hb51
      refine LX.gF rfl rfl rfl hb51 rfl rfl <| LX.pure (Y.pickF rfl hb51 rfl) rfl rfl rfl ?_
      exact LX.left ⟨rfl, rfl, rfl, rfl, rfl, rfl, trivial⟩
    refine LX.pure (Y.assign rfl) rfl rfl rfl <| LX.sub (l' := [(4, _), (5, _), (6, _), (7, _), (10, _)]) ⟨rfl, rfl, rfl, rfl, rfl, trivial⟩ <| LX.next <| PX.thenN <| CX.ret <| PX.blockR <| PX.thenR <| PX.ret1 (by simp) Tryz.results34 rfl ?_
    exact fun w hw => ⟨_, rfl, (fun h9 => ⟨fun h8 => by omega, fun h8 => by omega⟩), hw.drop (List.nil_sublist _)⟩
  try simp at hb49
  refine CX.seq <| CX.region <| LX.pure (Y.eqI rfl rfl) rfl rfl rfl <| LX.pure (Y.assign rfl) rfl rfl rfl <| LX.sub (l' := [(0, _), (5, _), (6, _), (7, _), (9, _), (10, _), (53, _), (221, _)]) ⟨rfl, rfl, rfl, rfl, rfl, rfl, rfl, rfl, trivial⟩ <| LX.next <| PX.thenN ?_
  refine CX.cond rfl (fun hb52 => ?_) (fun hb52 => ?_)
  · try simp at hb52
    refine CX.seq <| CX.region <| LX.pure (Y.move rfl) rfl rfl rfl <| LX.pure (Y.move rfl) rfl rfl rfl <| LX.sub (l' := [(0, _), (5, _), (6, _), (7, _), (10, _), (224, _)]) ⟨rfl, rfl, rfl, rfl, rfl, rfl, trivial⟩ ?_
    apply LX.joinAnd 7 231 224 rfl
    · intro hb53
      refine LX.gT rfl rfl rfl hb53 (Y.move rfl) rfl rfl <| LX.gT rfl rfl rfl hb53 (Y.eqN rfl rfl) rfl rfl <| LX.gT rfl rfl rfl hb53 (Y.move rfl) rfl rfl <| LX.sub (l' := [(0, _), (5, _), (6, _), (7, _), (10, _), (224, _), (227, _)]) ⟨rfl, rfl, rfl, rfl, rfl, rfl, rfl, trivial⟩ ?_
      apply LX.joinOr 3 230 227 rfl
      · intro hb54
        refine LX.gF rfl rfl rfl hb54 rfl rfl <| LX.gF rfl rfl rfl hb54 rfl rfl <| LX.gT rfl rfl rfl hb53 (Y.pickT rfl hb54 rfl) rfl rfl ?_
        exact LX.left ⟨rfl, rfl, rfl, rfl, rfl, rfl, rfl, rfl, trivial⟩
      · intro hb54
        refine LX.gT rfl rfl rfl hb54 (Y.move rfl) rfl rfl <| LX.gT rfl rfl rfl hb54 (Y.eqN rfl rfl) rfl rfl <| LX.gT rfl rfl rfl hb53 (Y.pickF rfl hb54 rfl) rfl rfl ?_
        exact LX.left ⟨rfl, rfl, rfl, rfl, rfl, rfl, rfl, rfl, trivial⟩
      refine LX.pure (Y.pickT rfl hb53 rfl) rfl rfl rfl ?_
      exact LX.left ⟨rfl, rfl, rfl, rfl, rfl, rfl, rfl, trivial⟩
    · intro hb53
      refine LX.gF rfl rfl rfl hb53 rfl rfl <| LX.gF rfl rfl rfl hb53 rfl rfl <| LX.gF rfl rfl rfl hb53 rfl rfl <| LX.gU rfl rfl rfl rfl rfl <| LX.gU rfl rfl rfl rfl rfl <| LX.gF rfl rfl rfl hb53 rfl rfl <| LX.pure (Y.pickF rfl hb53 rfl) rfl rfl rfl ?_
      exact LX.left ⟨rfl, rfl, rfl, rfl, rfl, rfl, rfl, trivial⟩
    refine LX.pure (Y.move rfl) rfl rfl rfl <| LX.sub (l' := [(0, _), (5, _), (6, _), (7, _), (10, _), (232, _)]) ⟨rfl, rfl, rfl, rfl, rfl, rfl, trivial⟩ ?_
    apply LX.joinAnd 2 234 232 rfl
    · intro hb55
      refine LX.gT rfl rfl rfl hb55 (Y.move rfl) rfl rfl <| LX.pure (Y.pickT rfl hb55 rfl) rfl rfl rfl ?_
      exact LX.left ⟨rfl, rfl, rfl, rfl, rfl, rfl, rfl, trivial⟩
    · intro hb55
      refine LX.gF rfl rfl rfl hb55 rfl rfl <| LX.pure (Y.pickF rfl hb55 rfl) rfl rfl rfl ?_
      exact LX.left ⟨rfl, rfl, rfl, rfl, rfl, rfl, rfl, trivial⟩
    refine LX.pure (Y.move rfl) rfl rfl rfl ?_
    refine LX.caseB (s := 235) rfl (fun hb56 => ?_) (fun hb56 => ?_)
    ·
      have hb56p := hb56
      try simp at hb56p
      refine LX.gT rfl rfl rfl hb56 (Y.move rfl) rfl rfl <| LX.gT rfl rfl rfl hb56 (Y.fieldAddr0 Kq.fo53_4 rfl) rfl rfl <| LX.gT rfl rfl rfl hb56 (Y.ldB 0 Kq.one51 rfl rfl rfl) rfl rfl ?_
      obtain ⟨a5, hav5, hL5, _⟩ := hka.int_at (j := 1) (by omega)
      have hr5 := hK _ (getD_mem (j := 1) (ks := x.kids) (by omega))
      obtain ⟨k5, hkz5⟩ : ∃ k : Nat, x.kids.getD 1 0 = (k : Int) := ⟨(x.kids.getD 1 0).toNat, by omega⟩
      refine LX.gT rfl rfl rfl hb56 (Y.idxZ Kq.un51 Kc.sz3 rfl rfl hav5 (j := 1) rfl (by omega)) rfl rfl <| LX.gT rfl rfl rfl hb56 (show Y _ _ _ _ _ (.int .i64 (k5 : Int)) from by rw [← hkz5]; exact Y.ldO1 Kc.one3 rfl hL5) rfl rfl <| LX.callT rfl rfl rfl hb56 (isT_w cl hB h3 _ (fun q x hq => hA q x (by omega)) (by omega) (fun w hw => hl.push hw)) Kub.en78 rfl rfl rfl rfl ?_
      intro bt9
      refine LX.pure (Y.pickT rfl hb56 rfl) rfl rfl rfl <| LX.pure (Y.assign rfl) rfl rfl rfl <| LX.sub (l' := [(4, _), (5, _), (6, _), (7, _), (10, _)]) ⟨rfl, rfl, rfl, rfl, rfl, trivial⟩ <| LX.next <| PX.thenN <| CX.ret <| PX.blockR <| PX.thenR <| PX.ret1 (by simp) Tryz.results34 rfl ?_
      exact fun w hw => ⟨_, rfl, (fun h9 => ⟨fun h8 => by omega, fun h8 => by omega⟩), hw.drop (List.nil_sublist _)⟩
    have hb56p := hb56
    try simp at hb56p
    refine LX.gF rfl rfl rfl hb56 rfl rfl <| LX.gF rfl rfl rfl hb56 rfl rfl <| LX.gF rfl rfl rfl hb56 rfl rfl <| LX.gF rfl rfl rfl hb56 rfl rfl <| LX.gF rfl rfl rfl hb56 rfl rfl <| LX.gF rfl rfl rfl hb56 rfl rfl <| LX.pure (Y.pickF rfl hb56 rfl) rfl rfl rfl <| LX.pure (Y.assign rfl) rfl rfl rfl <| LX.sub (l' := [(4, _), (5, _), (6, _), (7, _), (10, _)]) ⟨rfl, rfl, rfl, rfl, rfl, trivial⟩ <| LX.next <| PX.thenN <| CX.ret <| PX.blockR <| PX.thenR <| PX.ret1 (by simp) Tryz.results34 rfl ?_
    exact fun w hw => ⟨_, rfl, (fun h9 => ⟨fun h8 => by omega, fun h8 => by omega⟩), hw.drop (List.nil_sublist _)⟩
  try simp at hb52
  refine CX.seq <| CX.region <| LX.pure (Y.eqI rfl rfl) rfl rfl rfl <| LX.pure (Y.assign rfl) rfl rfl rfl <| LX.sub (l' := [(0, _), (5, _), (6, _), (7, _), (9, _), (10, _), (53, _), (243, _)]) ⟨rfl, rfl, rfl, rfl, rfl, rfl, rfl, rfl, trivial⟩ <| LX.next <| PX.thenN ?_
  refine CX.cond rfl (fun hb57 => ?_) (fun hb57 => ?_)
  · try simp at hb57
    refine CX.seq <| CX.region <| LX.pure (Y.move rfl) rfl rfl rfl <| LX.pure (Y.move rfl) rfl rfl rfl <| LX.sub (l' := [(0, _), (5, _), (6, _), (7, _), (10, _), (246, _)]) ⟨rfl, rfl, rfl, rfl, rfl, rfl, trivial⟩ ?_
    apply LX.joinAnd 3 249 246 rfl
    · intro hb58
      refine LX.gT rfl rfl rfl hb58 (Y.move rfl) rfl rfl <| LX.gT rfl rfl rfl hb58 (Y.eqN rfl rfl) rfl rfl <| LX.pure (Y.pickT rfl hb58 rfl) rfl rfl rfl ?_
      exact LX.left ⟨rfl, rfl, rfl, rfl, rfl, rfl, rfl, trivial⟩
    · intro hb58
      refine LX.gF rfl rfl rfl hb58 rfl rfl <| LX.gF rfl rfl rfl hb58 rfl rfl <| LX.pure (Y.pickF rfl hb58 rfl) rfl rfl rfl ?_
      exact LX.left ⟨rfl, rfl, rfl, rfl, rfl, rfl, rfl, trivial⟩
    refine LX.pure (Y.move rfl) rfl rfl rfl <| LX.sub (l' := [(0, _), (5, _), (6, _), (7, _), (10, _), (250, _)]) ⟨rfl, rfl, rfl, rfl, rfl, rfl, trivial⟩ ?_
    apply LX.joinAnd 2 252 250 rfl
    · intro hb59
      refine LX.gT rfl rfl rfl hb59 (Y.move rfl) rfl rfl <| LX.pure (Y.pickT rfl hb59 rfl) rfl rfl rfl ?_
      exact LX.left ⟨rfl, rfl, rfl, rfl, rfl, rfl, rfl, trivial⟩
    · intro hb59
      refine LX.gF rfl rfl rfl hb59 rfl rfl <| LX.pure (Y.pickF rfl hb59 rfl) rfl rfl rfl ?_
      exact LX.left ⟨rfl, rfl, rfl, rfl, rfl, rfl, rfl, trivial⟩
    refine LX.pure (Y.move rfl) rfl rfl rfl ?_
    refine LX.caseB (s := 253) rfl (fun hb60 => ?_) (fun hb60 => ?_)
    ·
      have hb60p := hb60
      try simp at hb60p
      refine LX.gT rfl rfl rfl hb60 (Y.move rfl) rfl rfl <| LX.gT rfl rfl rfl hb60 (Y.fieldAddr0 Kq.fo53_4 rfl) rfl rfl <| LX.gT rfl rfl rfl hb60 (Y.ldB 0 Kq.one51 rfl rfl rfl) rfl rfl ?_
      obtain ⟨a6, hav6, hL6, _⟩ := hka.int_at (j := 0) (by omega)
      have hr6 := hK _ (getD_mem (j := 0) (ks := x.kids) (by omega))
      obtain ⟨k6, hkz6⟩ : ∃ k : Nat, x.kids.getD 0 0 = (k : Int) := ⟨(x.kids.getD 0 0).toNat, by omega⟩
      refine LX.gT rfl rfl rfl hb60 (Y.idxZ Kq.un51 Kc.sz3 rfl rfl hav6 (j := 0) rfl (by omega)) rfl rfl <| LX.gT rfl rfl rfl hb60 (show Y _ _ _ _ _ (.int .i64 (k6 : Int)) from by rw [← hkz6]; exact Y.ldO1 Kc.one3 rfl hL6) rfl rfl <| LX.callT rfl rfl rfl hb60 (isT_w cl hB h3 _ (fun q x hq => hA q x (by omega)) (by omega) (fun w hw => hl.push hw)) Kub.en78 rfl rfl rfl rfl ?_
      intro bt9
      refine LX.pure (Y.pickT rfl hb60 rfl) rfl rfl rfl <| LX.pure (Y.assign rfl) rfl rfl rfl <| LX.sub (l' := [(4, _), (5, _), (6, _), (7, _), (10, _)]) ⟨rfl, rfl, rfl, rfl, rfl, trivial⟩ <| LX.next <| PX.thenN <| CX.ret <| PX.blockR <| PX.thenR <| PX.ret1 (by simp) Tryz.results34 rfl ?_
      exact fun w hw => ⟨_, rfl, (fun h9 => ⟨fun h8 => by omega, fun h8 => by omega⟩), hw.drop (List.nil_sublist _)⟩
    have hb60p := hb60
    try simp at hb60p
    refine LX.gF rfl rfl rfl hb60 rfl rfl <| LX.gF rfl rfl rfl hb60 rfl rfl <| LX.gF rfl rfl rfl hb60 rfl rfl <| LX.gF rfl rfl rfl hb60 rfl rfl <| LX.gF rfl rfl rfl hb60 rfl rfl <| LX.gF rfl rfl rfl hb60 rfl rfl <| LX.pure (Y.pickF rfl hb60 rfl) rfl rfl rfl <| LX.pure (Y.assign rfl) rfl rfl rfl <| LX.sub (l' := [(4, _), (5, _), (6, _), (7, _), (10, _)]) ⟨rfl, rfl, rfl, rfl, rfl, trivial⟩ <| LX.next <| PX.thenN <| CX.ret <| PX.blockR <| PX.thenR <| PX.ret1 (by simp) Tryz.results34 rfl ?_
    exact fun w hw => ⟨_, rfl, (fun h9 => ⟨fun h8 => by omega, fun h8 => by omega⟩), hw.drop (List.nil_sublist _)⟩
  try simp at hb57
  refine CX.seq <| CX.region <| LX.pure (Y.eqI rfl rfl) rfl rfl rfl <| LX.pure (Y.assign rfl) rfl rfl rfl <| LX.sub (l' := [(0, _), (5, _), (6, _), (7, _), (9, _), (10, _), (53, _), (261, _)]) ⟨rfl, rfl, rfl, rfl, rfl, rfl, rfl, rfl, trivial⟩ <| LX.next <| PX.thenN ?_
  refine CX.cond rfl (fun hb61 => ?_) (fun hb61 => ?_)
  · try simp at hb61
    refine CX.seq <| CX.region <| LX.pure (Y.move rfl) rfl rfl rfl <| LX.pure (Y.move rfl) rfl rfl rfl <| LX.sub (l' := [(0, _), (5, _), (6, _), (7, _), (10, _), (264, _)]) ⟨rfl, rfl, rfl, rfl, rfl, rfl, trivial⟩ ?_
    apply LX.joinAnd 3 267 264 rfl
    · intro hb62
      refine LX.gT rfl rfl rfl hb62 (Y.move rfl) rfl rfl <| LX.gT rfl rfl rfl hb62 (Y.eqN rfl rfl) rfl rfl <| LX.pure (Y.pickT rfl hb62 rfl) rfl rfl rfl ?_
      exact LX.left ⟨rfl, rfl, rfl, rfl, rfl, rfl, rfl, trivial⟩
    · intro hb62
      refine LX.gF rfl rfl rfl hb62 rfl rfl <| LX.gF rfl rfl rfl hb62 rfl rfl <| LX.pure (Y.pickF rfl hb62 rfl) rfl rfl rfl ?_
      exact LX.left ⟨rfl, rfl, rfl, rfl, rfl, rfl, rfl, trivial⟩
    refine LX.pure (Y.move rfl) rfl rfl rfl <| LX.sub (l' := [(0, _), (5, _), (6, _), (7, _), (10, _), (268, _)]) ⟨rfl, rfl, rfl, rfl, rfl, rfl, trivial⟩ ?_
    apply LX.joinAnd 2 270 268 rfl
    · intro hb63
      refine LX.gT rfl rfl rfl hb63 (Y.move rfl) rfl rfl <| LX.pure (Y.pickT rfl hb63 rfl) rfl rfl rfl ?_
      exact LX.left ⟨rfl, rfl, rfl, rfl, rfl, rfl, rfl, trivial⟩
    · intro hb63
      refine LX.gF rfl rfl rfl hb63 rfl rfl <| LX.pure (Y.pickF rfl hb63 rfl) rfl rfl rfl ?_
      exact LX.left ⟨rfl, rfl, rfl, rfl, rfl, rfl, rfl, trivial⟩
    refine LX.pure (Y.move rfl) rfl rfl rfl ?_
    refine LX.caseB (s := 271) rfl (fun hb64 => ?_) (fun hb64 => ?_)
    ·
      have hb64p := hb64
      try simp at hb64p
      refine LX.gT rfl rfl rfl hb64 (Y.move rfl) rfl rfl <| LX.gT rfl rfl rfl hb64 (Y.fieldAddr0 Kq.fo53_4 rfl) rfl rfl <| LX.gT rfl rfl rfl hb64 (Y.ldB 0 Kq.one51 rfl rfl rfl) rfl rfl ?_
      obtain ⟨a7, hav7, hL7, _⟩ := hka.int_at (j := 0) (by omega)
      have hr7 := hK _ (getD_mem (j := 0) (ks := x.kids) (by omega))
      obtain ⟨k7, hkz7⟩ : ∃ k : Nat, x.kids.getD 0 0 = (k : Int) := ⟨(x.kids.getD 0 0).toNat, by omega⟩
      obtain ⟨y7, hy7⟩ : ∃ y, l[k7]? = some y := ⟨_, List.getElem?_eq_getElem (by omega)⟩
      obtain ⟨b7, bk7, bc7, hbv7, hbL7, hbc7, hba7⟩ := nd_of hl hy7
      refine LX.gT rfl rfl rfl hb64 (Y.idxZ Kq.un51 Kc.sz3 rfl rfl hav7 (j := 0) rfl (by omega)) rfl rfl <| LX.gT rfl rfl rfl hb64 (show Y _ _ _ _ _ (.int .i64 (k7 : Int)) from by rw [← hkz7]; exact Y.ldO1 Kc.one3 rfl hL7) rfl rfl <| LX.gT rfl rfl rfl hb64 (Y.idxZ Kq.un22 Kq.sz53 rfl rfl hbv7 (j := k7) rfl (by omega)) rfl rfl <| LX.gT rfl rfl rfl hb64 (Y.fieldA Kq.fa53_0 rfl) rfl rfl <| LX.gT rfl rfl rfl hb64 (Y.ldFO (v := .int .i64 y7.op) Kc.one3 rfl hbL7 rfl) rfl rfl <| LX.gT rfl rfl rfl hb64 (Y.eqI rfl rfl) rfl rfl <| LX.gT rfl rfl rfl hb64 (Y.move rfl) rfl rfl ?_
      refine LX.caseB (s := 281) rfl (fun hb65 => ?_) (fun hb65 => ?_)
      ·
        have hb65p := hb65
        try simp at hb65p
        refine LX.gF rfl rfl rfl hb65 rfl rfl <| LX.gF rfl rfl rfl hb65 rfl rfl <| LX.gF rfl rfl rfl hb65 rfl rfl <| LX.gF rfl rfl rfl hb65 rfl rfl <| LX.gF rfl rfl rfl hb65 rfl rfl <| LX.gF rfl rfl rfl hb65 rfl rfl <| LX.gF rfl rfl rfl hb65 rfl rfl <| LX.gF rfl rfl rfl hb65 rfl rfl <| LX.gF rfl rfl rfl hb65 rfl rfl <| LX.gT rfl rfl rfl hb64 (Y.pickT rfl hb65 rfl) rfl rfl <| LX.pure (Y.pickT rfl hb64 rfl) rfl rfl rfl <| LX.pure (Y.assign rfl) rfl rfl rfl <| LX.sub (l' := [(4, _), (5, _), (6, _), (7, _), (10, _)]) ⟨rfl, rfl, rfl, rfl, rfl, trivial⟩ <| LX.next <| PX.thenN <| CX.ret <| PX.blockR <| PX.thenR <| PX.ret1 (by simp) Tryz.results34 rfl ?_
        exact fun w hw => ⟨_, rfl, (fun h9 => ⟨fun h8 => by omega, fun h8 => by omega⟩), hw.drop (List.nil_sublist _)⟩
      have hb65p := hb65
      try simp at hb65p
      refine LX.gT rfl rfl rfl hb65 (Y.move rfl) rfl rfl <| LX.gT rfl rfl rfl hb65 (Y.fieldAddr0 Kq.fo53_4 rfl) rfl rfl <| LX.gT rfl rfl rfl hb65 (Y.ldB 0 Kq.one51 rfl rfl rfl) rfl rfl <| LX.gT rfl rfl rfl hb65 (Y.idxZ Kq.un51 Kc.sz3 rfl rfl hav7 (j := 0) rfl (by omega)) rfl rfl <| LX.gT rfl rfl rfl hb65 (show Y _ _ _ _ _ (.int .i64 (k7 : Int)) from by rw [← hkz7]; exact Y.ldO1 Kc.one3 rfl hL7) rfl rfl <| LX.gT rfl rfl rfl hb65 (Y.idxZ Kq.un22 Kq.sz53 rfl rfl hbv7 (j := k7) rfl (by omega)) rfl rfl <| LX.gT rfl rfl rfl hb65 (Y.fieldA Kq.fa53_0 rfl) rfl rfl <| LX.gT rfl rfl rfl hb65 (Y.ldFO (v := .int .i64 y7.op) Kc.one3 rfl hbL7 rfl) rfl rfl <| LX.gT rfl rfl rfl hb65 (Y.eqI rfl rfl) rfl rfl <| LX.gT rfl rfl rfl hb64 (Y.pickF rfl hb65 rfl) rfl rfl <| LX.pure (Y.pickT rfl hb64 rfl) rfl rfl rfl <| LX.pure (Y.assign rfl) rfl rfl rfl <| LX.sub (l' := [(4, _), (5, _), (6, _), (7, _), (10, _)]) ⟨rfl, rfl, rfl, rfl, rfl, trivial⟩ <| LX.next <| PX.thenN <| CX.ret <| PX.blockR <| PX.thenR <| PX.ret1 (by simp) Tryz.results34 rfl ?_
      exact fun w hw => ⟨_, rfl, (fun h9 => ⟨fun h8 => by omega, fun h8 => by omega⟩), hw.drop (List.nil_sublist _)⟩
    have hb64p := hb64
    try simp at hb64p
    refine LX.gF rfl rfl rfl hb64 rfl rfl <| LX.gF rfl rfl rfl hb64 rfl rfl <| LX.gF rfl rfl rfl hb64 rfl rfl <| LX.gF rfl rfl rfl hb64 rfl rfl <| LX.gF rfl rfl rfl hb64 rfl rfl <| LX.gF rfl rfl rfl hb64 rfl rfl <| LX.gF rfl rfl rfl hb64 rfl rfl <| LX.gF rfl rfl rfl hb64 rfl rfl <| LX.gF rfl rfl rfl hb64 rfl rfl <| LX.gF rfl rfl rfl hb64 rfl rfl <| LX.gU rfl rfl rfl rfl rfl <| LX.gU rfl rfl rfl rfl rfl <| LX.gU rfl rfl rfl rfl rfl <| LX.gU rfl rfl rfl rfl rfl <| LX.gU rfl rfl rfl rfl rfl <| LX.gU rfl rfl rfl rfl rfl <| LX.gU rfl rfl rfl rfl rfl <| LX.gU rfl rfl rfl rfl rfl <| LX.gU rfl rfl rfl rfl rfl <| LX.gF rfl rfl rfl hb64 rfl rfl <| LX.pure (Y.pickF rfl hb64 rfl) rfl rfl rfl <| LX.pure (Y.assign rfl) rfl rfl rfl <| LX.sub (l' := [(4, _), (5, _), (6, _), (7, _), (10, _)]) ⟨rfl, rfl, rfl, rfl, rfl, trivial⟩ <| LX.next <| PX.thenN <| CX.ret <| PX.blockR <| PX.thenR <| PX.ret1 (by simp) Tryz.results34 rfl ?_
    exact fun w hw => ⟨_, rfl, (fun h9 => ⟨fun h8 => by omega, fun h8 => by omega⟩), hw.drop (List.nil_sublist _)⟩
  try simp at hb61
  refine CX.seq <| CX.region <| LX.pure (Y.eqI rfl rfl) rfl rfl rfl <| LX.pure (Y.assign rfl) rfl rfl rfl <| LX.sub (l' := [(0, _), (5, _), (6, _), (7, _), (9, _), (10, _), (53, _), (293, _)]) ⟨rfl, rfl, rfl, rfl, rfl, rfl, rfl, rfl, trivial⟩ <| LX.next <| PX.thenN ?_
  refine CX.cond rfl (fun hb66 => ?_) (fun hb66 => ?_)
  · try simp at hb66
    refine CX.seq <| CX.region <| LX.pure (Y.move rfl) rfl rfl rfl <| LX.pure (Y.move rfl) rfl rfl rfl <| LX.sub (l' := [(5, _), (6, _), (7, _), (10, _), (296, _)]) ⟨rfl, rfl, rfl, rfl, rfl, trivial⟩ ?_
    apply LX.joinAnd 3 299 296 rfl
    · intro hb67
      refine LX.gT rfl rfl rfl hb67 (Y.move rfl) rfl rfl <| LX.gT rfl rfl rfl hb67 (Y.leN rfl rfl) rfl rfl <| LX.pure (Y.pickT rfl hb67 rfl) rfl rfl rfl ?_
      exact LX.left ⟨rfl, rfl, rfl, rfl, rfl, rfl, trivial⟩
    · intro hb67
      refine LX.gF rfl rfl rfl hb67 rfl rfl <| LX.gF rfl rfl rfl hb67 rfl rfl <| LX.pure (Y.pickF rfl hb67 rfl) rfl rfl rfl ?_
      exact LX.left ⟨rfl, rfl, rfl, rfl, rfl, rfl, trivial⟩
    refine LX.pure (Y.move rfl) rfl rfl rfl <| LX.sub (l' := [(5, _), (6, _), (7, _), (10, _), (300, _)]) ⟨rfl, rfl, rfl, rfl, rfl, trivial⟩ ?_
    apply LX.joinAnd 2 302 300 rfl
    · intro hb68
      refine LX.gT rfl rfl rfl hb68 (Y.move rfl) rfl rfl <| LX.pure (Y.pickT rfl hb68 rfl) rfl rfl rfl ?_
      exact LX.left ⟨rfl, rfl, rfl, rfl, rfl, rfl, trivial⟩
    · intro hb68
      refine LX.gF rfl rfl rfl hb68 rfl rfl <| LX.pure (Y.pickF rfl hb68 rfl) rfl rfl rfl ?_
      exact LX.left ⟨rfl, rfl, rfl, rfl, rfl, rfl, trivial⟩
    refine LX.pure (Y.assign rfl) rfl rfl rfl <| LX.sub (l' := [(4, _), (5, _), (6, _), (7, _), (10, _)]) ⟨rfl, rfl, rfl, rfl, rfl, trivial⟩ <| LX.next <| PX.thenN <| CX.ret <| PX.blockR <| PX.thenR <| PX.ret1 (by simp) Tryz.results34 rfl ?_
    exact fun w hw => ⟨_, rfl, (fun h9 => ⟨fun h8 => by omega, fun h8 => by omega⟩), hw.drop (List.nil_sublist _)⟩
  try simp at hb66
  refine CX.seq <| CX.region <| LX.pure (Y.eqI rfl rfl) rfl rfl rfl <| LX.pure (Y.assign rfl) rfl rfl rfl <| LX.sub (l' := [(0, _), (5, _), (6, _), (7, _), (9, _), (10, _), (53, _), (303, _)]) ⟨rfl, rfl, rfl, rfl, rfl, rfl, rfl, rfl, trivial⟩ <| LX.next <| PX.thenN ?_
  refine CX.cond rfl (fun hb69 => ?_) (fun hb69 => ?_)
  · try simp at hb69
    refine CX.seq <| CX.seq <| CX.region <| LX.pure (Y.assign rfl) rfl rfl rfl <| LX.sub (l' := [(0, _), (5, _), (6, _), (7, _), (10, _), (16, _)]) ⟨rfl, rfl, rfl, rfl, rfl, rfl, trivial⟩ <| LX.next <| PX.thenN <| CX.block <| CX.loop (fun j : Nat => [(0, .slice al l.length cl), (5, .pointer (some ⟨bx5, 0, none⟩)), (6, .int .i64 (x.kids.length : Int)), (16, .int .i64 (j : Int))]) (fun (j : Nat) w => j ≤ x.kids.length + 1 ∧ WA w0 base [blk bx5 [.int .i64 x.op, .int .i64 x.n, .int .i64 x.pos, str x.s, .slice ak x.kids.length ck] 53] w) (fun j => x.kids.length + 1 - j) 0 ⟨rfl, rfl, rfl, rfl, trivial⟩ (fun w hw => ⟨by show 0 ≤ x.kids.length + 1; omega, hw⟩) ?_
    intro j
    refine CX.have fun hj0 => ?_
    replace hj0 : j ≤ x.kids.length + 1 := hj0
    refine CX.seq <| CX.seq <| CX.region <| LX.pure (Y.move rfl) rfl rfl rfl <| LX.pure (Y.move rfl) rfl rfl rfl <| LX.pure (Y.ltN rfl rfl) rfl rfl rfl <| LX.sub (l' := [(0, _), (5, _), (6, _), (16, _), (307, _)]) ⟨rfl, rfl, rfl, rfl, rfl, trivial⟩ <| LX.next <| PX.thenN ?_
    refine CX.cond rfl (fun hb70 => ?_) (fun hb70 => ?_)
    · try simp at hb70
      refine CX.skip <| PX.thenN <| CX.seq <| CX.block <| CX.seq <| CX.region <| LX.pure (Y.move rfl) rfl rfl rfl <| LX.pure (Y.fieldAddr0 Kq.fo53_4 rfl) rfl rfl rfl <| LX.pure (Y.ldB 0 Kq.one51 rfl rfl rfl) rfl rfl rfl <| LX.pure (Y.move rfl) rfl rfl rfl ?_
      obtain ⟨a8, hav8, hL8, _⟩ := hka.int_at (j := j) (by omega)
      have hr8 := hK _ (getD_mem (j := j) (ks := x.kids) (by omega))
      obtain ⟨k8, hkz8⟩ : ∃ k : Nat, x.kids.getD j 0 = (k : Int) := ⟨(x.kids.getD j 0).toNat, by omega⟩
      obtain ⟨y8, hy8⟩ : ∃ y, l[k8]? = some y := ⟨_, List.getElem?_eq_getElem (by omega)⟩
      obtain ⟨b8, bk8, bc8, hbv8, hbL8, hbc8, hba8⟩ := nd_of hl hy8
      refine LX.pure (Y.idxZ Kq.un51 Kc.sz3 rfl rfl hav8 (j := j) rfl (by omega)) rfl rfl rfl <| LX.pure (show Y _ _ _ _ _ (.int .i64 (k8 : Int)) from by rw [← hkz8]; exact Y.ldO1 Kc.one3 rfl hL8) rfl rfl rfl <| LX.pure (Y.idxZ Kq.un22 Kq.sz53 rfl rfl hbv8 (j := k8) rfl (by omega)) rfl rfl rfl <| LX.pure (Y.ldAO (cs := [.int .i64 y8.op, .int .i64 y8.n, .int .i64 y8.pos, str y8.s, .slice bk8 y8.kids.length bc8]) Kq.ag53 rfl hbL8 rfl) rfl rfl rfl <| LX.alloc rfl Kr_.zv53 rfl rfl rfl ?_
      intro bx17
      refine LX.storeA 0 Kq.ag53 rfl rfl rfl rfl rfl rfl rfl rfl rfl <| LX.sub (l' := [(0, _), (5, _), (6, _), (16, _), (17, _)]) ⟨rfl, rfl, rfl, rfl, rfl, trivial⟩ <| LX.next <| PX.thenN <| CX.seq <| CX.region <| LX.pure (Y.fieldAddr0 Kq.fo53_0 rfl) rfl rfl rfl <| LX.pure (Y.ldB 0 Kc.one3 rfl rfl rfl) rfl rfl rfl <| LX.pure (Y.neI rfl rfl) rfl rfl rfl <| LX.pure (Y.move rfl) rfl rfl rfl <| LX.sub (l' := [(0, _), (5, _), (6, _), (16, _), (17, _), (321, _)]) ⟨rfl, rfl, rfl, rfl, rfl, rfl, trivial⟩ ?_
      apply LX.joinOr 5 326 321 rfl
      · intro hb71
        refine LX.gF rfl rfl rfl hb71 rfl rfl <| LX.gF rfl rfl rfl hb71 rfl rfl <| LX.gF rfl rfl rfl hb71 rfl rfl <| LX.gF rfl rfl rfl hb71 rfl rfl <| LX.pure (Y.pickT rfl hb71 rfl) rfl rfl rfl ?_
        exact LX.left ⟨rfl, rfl, rfl, rfl, rfl, rfl, rfl, trivial⟩
      · intro hb71
        refine LX.gT rfl rfl rfl hb71 (Y.fieldAddr0 Kq.fo53_4 rfl) rfl rfl <| LX.gT rfl rfl rfl hb71 (Y.ldB 0 Kq.one51 rfl rfl rfl) rfl rfl <| LX.gT rfl rfl rfl hb71 (Y.lenSl rfl Kq.un51 rfl) rfl rfl <| LX.gT rfl rfl rfl hb71 (Y.neN rfl rfl) rfl rfl <| LX.pure (Y.pickF rfl hb71 rfl) rfl rfl rfl ?_
        exact LX.left ⟨rfl, rfl, rfl, rfl, rfl, rfl, rfl, trivial⟩
      refine LX.pure (Y.move rfl) rfl rfl rfl ?_
      refine LX.caseB (s := 327) rfl (fun hb72 => ?_) (fun hb72 => ?_)
      ·
        refine LX.gF rfl rfl rfl hb72 rfl rfl <| LX.gF rfl rfl rfl hb72 rfl rfl <| LX.gF rfl rfl rfl hb72 rfl rfl <| LX.gF rfl rfl rfl hb72 rfl rfl <| LX.gF rfl rfl rfl hb72 rfl rfl <| LX.gF rfl rfl rfl hb72 rfl rfl <| LX.gF rfl rfl rfl hb72 rfl rfl <| LX.gF rfl rfl rfl hb72 rfl rfl <| LX.gF rfl rfl rfl hb72 rfl rfl <| LX.pure (Y.pickT rfl hb72 rfl) rfl rfl rfl <| LX.sub (l' := [(0, _), (5, _), (6, _), (16, _), (337, _)]) ⟨rfl, rfl, rfl, rfl, rfl, trivial⟩ <| LX.next <| PX.thenN ?_
        refine CX.cond rfl (fun hb73 => ?_) (fun hb73 => ?_)
        · try simp at hb73
          refine CX.seq <| CX.region <| LX.pure (Y.assign rfl) rfl rfl rfl <| LX.sub (l' := [(0, _), (4, _), (5, _), (6, _), (16, _)]) ⟨rfl, rfl, rfl, rfl, rfl, trivial⟩ <| LX.next <| PX.thenN <| CX.ret <| PX.blockR <| PX.thenR <| PX.thenR <| PX.blockR <| PX.thenR <| PX.blockR <| PX.thenR <| PX.ret1 (by simp) Tryz.results34 rfl ?_
          exact fun w hw => ⟨_, rfl, (fun h9 => ⟨fun h8 => by omega, fun h8 => by omega⟩), hw.drop (List.nil_sublist _)⟩
        try simp at hb73
        done
      have hb72p := hb72
      try simp at hb72p
      refine LX.gT rfl rfl rfl hb72 (Y.move rfl) rfl rfl <| LX.gT rfl rfl rfl hb72 (Y.fieldAddr0 Kq.fo53_4 rfl) rfl rfl <| LX.gT rfl rfl rfl hb72 (Y.ldB 0 Kq.one51 rfl rfl rfl) rfl rfl ?_
      obtain ⟨a9, hav9, hL9, _⟩ := hba8.int_at (j := 0) (by omega)
      have hr9 := (hA k8 y8 (by omega) hy8) _ (getD_mem (j := 0) (ks := y8.kids) (by omega))
      obtain ⟨k9, hkz9⟩ : ∃ k : Nat, y8.kids.getD 0 0 = (k : Int) := ⟨(y8.kids.getD 0 0).toNat, by omega⟩
      obtain ⟨y9, hy9⟩ : ∃ y, l[k9]? = some y := ⟨_, List.getElem?_eq_getElem (by omega)⟩
      obtain ⟨b9, bk9, bc9, hbv9, hbL9, hbc9, hba9⟩ := nd_of hl hy9
      refine LX.gT rfl rfl rfl hb72 (Y.idxZ Kq.un51 Kc.sz3 rfl rfl hav9 (j := 0) rfl (by omega)) rfl rfl <| LX.gT rfl rfl rfl hb72 (show Y _ _ _ _ _ (.int .i64 (k9 : Int)) from by rw [← hkz9]; exact Y.ldO1 Kc.one3 rfl hL9) rfl rfl <| LX.gT rfl rfl rfl hb72 (Y.idxZ Kq.un22 Kq.sz53 rfl rfl hbv9 (j := k9) rfl (by omega)) rfl rfl <| LX.gT rfl rfl rfl hb72 (Y.fieldA Kq.fa53_0 rfl) rfl rfl <| LX.gT rfl rfl rfl hb72 (Y.ldFO (v := .int .i64 y9.op) Kc.one3 rfl hbL9 rfl) rfl rfl <| LX.gT rfl rfl rfl hb72 (Y.neI rfl rfl) rfl rfl <| LX.pure (Y.pickF rfl hb72 rfl) rfl rfl rfl <| LX.sub (l' := [(0, _), (5, _), (6, _), (16, _), (337, _)]) ⟨rfl, rfl, rfl, rfl, rfl, trivial⟩ <| LX.next <| PX.thenN ?_
      refine CX.cond rfl (fun hb74 => ?_) (fun hb74 => ?_)
      · try simp at hb74
        refine CX.seq <| CX.region <| LX.pure (Y.assign rfl) rfl rfl rfl <| LX.sub (l' := [(0, _), (4, _), (5, _), (6, _), (16, _)]) ⟨rfl, rfl, rfl, rfl, rfl, trivial⟩ <| LX.next <| PX.thenN <| CX.ret <| PX.blockR <| PX.thenR <| PX.thenR <| PX.blockR <| PX.thenR <| PX.blockR <| PX.thenR <| PX.ret1 (by simp) Tryz.results34 rfl ?_
        exact fun w hw => ⟨_, rfl, (fun h9 => ⟨fun h8 => by omega, fun h8 => by omega⟩), hw.drop (List.nil_sublist _)⟩
      try simp at hb74
      refine CX.skip <| PX.blockN <| PX.thenN <| CX.region <| LX.pure (Y.move rfl) rfl rfl rfl <| LX.pure (Y.addN rfl rfl (by (simp only []; omega))) rfl rfl rfl <| LX.pure (Y.assign rfl) rfl rfl rfl <| LX.sub (l' := [(0, _), (5, _), (6, _), (16, _)]) ⟨rfl, rfl, rfl, rfl, trivial⟩ <| LX.next ?_
      exact PX.again (μ := fun j => x.kids.length + 1 - j) (i := j) (j + 1) (by show x.kids.length + 1 - (j + 1) < x.kids.length + 1 - j; omega) ⟨rfl, rfl, rfl, rfl, trivial⟩ (fun w hw => ⟨by show j + 1 ≤ x.kids.length + 1; omega, hw.drop (List.sublist_cons_self _ _)⟩)
    try simp at hb70
    refine CX.exit <| PX.thenE <| PX.thenE <| PX.blockE <| PX.thenN <| CX.seq <| CX.region <| LX.pure (Y.move rfl) rfl rfl rfl <| LX.pure (Y.geN rfl rfl) rfl rfl rfl <| LX.pure (Y.assign rfl) rfl rfl rfl <| LX.sub (l' := [(4, _), (5, _), (6, _)]) ⟨rfl, rfl, rfl, trivial⟩ <| LX.next <| PX.thenN <| CX.ret <| PX.blockR <| PX.thenR <| PX.ret1 (by simp) Tryz.results34 rfl ?_
    exact fun w hw => ⟨_, rfl, (fun h9 => ⟨fun h8 => by omega, fun h8 => by omega⟩), hw.drop (List.nil_sublist _)⟩
  try simp at hb69
  refine CX.seq <| CX.region <| LX.pure (Y.eqI rfl rfl) rfl rfl rfl <| LX.pure (Y.assign rfl) rfl rfl rfl <| LX.sub (l' := [(0, _), (5, _), (6, _), (7, _), (9, _), (10, _), (53, _), (340, _)]) ⟨rfl, rfl, rfl, rfl, rfl, rfl, rfl, rfl, trivial⟩ <| LX.next <| PX.thenN ?_
  refine CX.cond rfl (fun hb75 => ?_) (fun hb75 => ?_)
  · try simp at hb75
    refine CX.seq <| CX.seq <| CX.region <| LX.pure (Y.assign rfl) rfl rfl rfl <| LX.sub (l' := [(0, _), (5, _), (6, _), (7, _), (10, _), (18, _)]) ⟨rfl, rfl, rfl, rfl, rfl, rfl, trivial⟩ <| LX.next <| PX.thenN <| CX.block <| CX.loop (fun j : Nat => [(0, .slice al l.length cl), (5, .pointer (some ⟨bx5, 0, none⟩)), (6, .int .i64 (x.kids.length : Int)), (10, .bool (decide (x.s = []))), (18, .int .i64 (j : Int))]) (fun (j : Nat) w => j ≤ x.kids.length + 1 ∧ WA w0 base [blk bx5 [.int .i64 x.op, .int .i64 x.n, .int .i64 x.pos, str x.s, .slice ak x.kids.length ck] 53] w) (fun j => x.kids.length + 1 - j) 1 ⟨rfl, rfl, rfl, rfl, rfl, trivial⟩ (fun w hw => ⟨by show 1 ≤ x.kids.length + 1; omega, hw⟩) ?_
    intro j
    refine CX.have fun hj0 => ?_
    replace hj0 : j ≤ x.kids.length + 1 := hj0
    refine CX.seq <| CX.seq <| CX.region <| LX.pure (Y.move rfl) rfl rfl rfl <| LX.pure (Y.move rfl) rfl rfl rfl <| LX.pure (Y.ltN rfl rfl) rfl rfl rfl <| LX.sub (l' := [(0, _), (5, _), (6, _), (10, _), (18, _), (344, _)]) ⟨rfl, rfl, rfl, rfl, rfl, rfl, trivial⟩ <| LX.next <| PX.thenN ?_
    refine CX.cond rfl (fun hb76 => ?_) (fun hb76 => ?_)
    · try simp at hb76
      refine CX.skip <| PX.thenN <| CX.seq <| CX.block <| CX.seq <| CX.region <| LX.pure (Y.move rfl) rfl rfl rfl <| LX.pure (Y.fieldAddr0 Kq.fo53_4 rfl) rfl rfl rfl <| LX.pure (Y.ldB 0 Kq.one51 rfl rfl rfl) rfl rfl rfl <| LX.pure (Y.move rfl) rfl rfl rfl ?_
      obtain ⟨a10, hav10, hL10, _⟩ := hka.int_at (j := j) (by omega)
      have hr10 := hK _ (getD_mem (j := j) (ks := x.kids) (by omega))
      obtain ⟨k10, hkz10⟩ : ∃ k : Nat, x.kids.getD j 0 = (k : Int) := ⟨(x.kids.getD j 0).toNat, by omega⟩
      obtain ⟨y10, hy10⟩ : ∃ y, l[k10]? = some y := ⟨_, List.getElem?_eq_getElem (by omega)⟩
      obtain ⟨b10, bk10, bc10, hbv10, hbL10, hbc10, hba10⟩ := nd_of hl hy10
      refine LX.pure (Y.idxZ Kq.un51 Kc.sz3 rfl rfl hav10 (j := j) rfl (by omega)) rfl rfl rfl <| LX.pure (show Y _ _ _ _ _ (.int .i64 (k10 : Int)) from by rw [← hkz10]; exact Y.ldO1 Kc.one3 rfl hL10) rfl rfl rfl <| LX.pure (Y.idxZ Kq.un22 Kq.sz53 rfl rfl hbv10 (j := k10) rfl (by omega)) rfl rfl rfl <| LX.pure (Y.fieldA Kq.fa53_0 rfl) rfl rfl rfl <| LX.pure (Y.ldFO (v := .int .i64 y10.op) Kc.one3 rfl hbL10 rfl) rfl rfl rfl <| LX.pure (Y.neI rfl rfl) rfl rfl rfl <| LX.sub (l' := [(0, _), (5, _), (6, _), (10, _), (18, _), (356, _)]) ⟨rfl, rfl, rfl, rfl, rfl, rfl, trivial⟩ <| LX.next <| PX.thenN ?_
      refine CX.cond rfl (fun hb77 => ?_) (fun hb77 => ?_)
      · try simp at hb77
        refine CX.seq <| CX.region <| LX.pure (Y.assign rfl) rfl rfl rfl <| LX.sub (l' := [(0, _), (4, _), (5, _), (6, _), (10, _), (18, _)]) ⟨rfl, rfl, rfl, rfl, rfl, rfl, trivial⟩ <| LX.next <| PX.thenN <| CX.ret <| PX.blockR <| PX.thenR <| PX.thenR <| PX.blockR <| PX.thenR <| PX.blockR <| PX.thenR <| PX.ret1 (by simp) Tryz.results34 rfl ?_
        exact fun w hw => ⟨_, rfl, (fun h9 => ⟨fun h8 => by omega, fun h8 => by omega⟩), hw.drop (List.nil_sublist _)⟩
      try simp at hb77
      refine CX.skip <| PX.blockN <| PX.thenN <| CX.region <| LX.pure (Y.move rfl) rfl rfl rfl <| LX.pure (Y.addN rfl rfl (by (simp only []; omega))) rfl rfl rfl <| LX.pure (Y.assign rfl) rfl rfl rfl <| LX.sub (l' := [(0, _), (5, _), (6, _), (10, _), (18, _)]) ⟨rfl, rfl, rfl, rfl, rfl, trivial⟩ <| LX.next ?_
      exact PX.again (μ := fun j => x.kids.length + 1 - j) (i := j) (j + 1) (by show x.kids.length + 1 - (j + 1) < x.kids.length + 1 - j; omega) ⟨rfl, rfl, rfl, rfl, rfl, trivial⟩ (fun w hw => ⟨by show j + 1 ≤ x.kids.length + 1; omega, hw⟩)
    try simp at hb76
    refine CX.exit <| PX.thenE <| PX.thenE <| PX.blockE <| PX.thenN <| CX.seq <| CX.region <| LX.pure (Y.move rfl) rfl rfl rfl <| LX.pure (Y.move rfl) rfl rfl rfl <| LX.sub (l' := [(0, _), (5, _), (6, _), (10, _), (358, _)]) ⟨rfl, rfl, rfl, rfl, rfl, trivial⟩ ?_
    apply LX.joinAnd 7 365 358 rfl
    · intro hb78
      refine LX.gT rfl rfl rfl hb78 (Y.move rfl) rfl rfl <| LX.gT rfl rfl rfl hb78 (Y.eqN rfl rfl) rfl rfl <| LX.gT rfl rfl rfl hb78 (Y.move rfl) rfl rfl <| LX.sub (l' := [(0, _), (5, _), (6, _), (10, _), (358, _), (361, _)]) ⟨rfl, rfl, rfl, rfl, rfl, rfl, trivial⟩ ?_
      apply LX.joinOr 3 364 361 rfl
      · intro hb79
        refine LX.gF rfl rfl rfl hb79 rfl rfl <| LX.gF rfl rfl rfl hb79 rfl rfl <| LX.gT rfl rfl rfl hb78 (Y.pickT rfl hb79 rfl) rfl rfl ?_
        exact LX.left ⟨rfl, rfl, rfl, rfl, rfl, rfl, rfl, trivial⟩
      · intro hb79
        refine LX.gT rfl rfl rfl hb79 (Y.move rfl) rfl rfl <| LX.gT rfl rfl rfl hb79 (Y.eqN rfl rfl) rfl rfl <| LX.gT rfl rfl rfl hb78 (Y.pickF rfl hb79 rfl) rfl rfl ?_
        exact LX.left ⟨rfl, rfl, rfl, rfl, rfl, rfl, rfl, trivial⟩
      refine LX.pure (Y.pickT rfl hb78 rfl) rfl rfl rfl ?_
      exact LX.left ⟨rfl, rfl, rfl, rfl, rfl, rfl, trivial⟩
    · intro hb78
      refine LX.gF rfl rfl rfl hb78 rfl rfl <| LX.gF rfl rfl rfl hb78 rfl rfl <| LX.gF rfl rfl rfl hb78 rfl rfl <| LX.gU rfl rfl rfl rfl rfl <| LX.gU rfl rfl rfl rfl rfl <| LX.gF rfl rfl rfl hb78 rfl rfl <| LX.pure (Y.pickF rfl hb78 rfl) rfl rfl rfl ?_
      exact LX.left ⟨rfl, rfl, rfl, rfl, rfl, rfl, trivial⟩
    refine LX.pure (Y.move rfl) rfl rfl rfl ?_
    refine LX.caseB (s := 366) rfl (fun hb80 => ?_) (fun hb80 => ?_)
    ·
      have hb80p := hb80
      try simp at hb80p
      refine LX.gT rfl rfl rfl hb80 (Y.move rfl) rfl rfl <| LX.gT rfl rfl rfl hb80 (Y.fieldAddr0 Kq.fo53_4 rfl) rfl rfl <| LX.gT rfl rfl rfl hb80 (Y.ldB 0 Kq.one51 rfl rfl rfl) rfl rfl ?_
      obtain ⟨a11, hav11, hL11, _⟩ := hka.int_at (j := 0) (by omega)
      have hr11 := hK _ (getD_mem (j := 0) (ks := x.kids) (by omega))
      obtain ⟨k11, hkz11⟩ : ∃ k : Nat, x.kids.getD 0 0 = (k : Int) := ⟨(x.kids.getD 0 0).toNat, by omega⟩
      obtain ⟨y11, hy11⟩ : ∃ y, l[k11]? = some y := ⟨_, List.getElem?_eq_getElem (by omega)⟩
      obtain ⟨b11, bk11, bc11, hbv11, hbL11, hbc11, hba11⟩ := nd_of hl hy11
      refine LX.gT rfl rfl rfl hb80 (Y.idxZ Kq.un51 Kc.sz3 rfl rfl hav11 (j := 0) rfl (by omega)) rfl rfl <| LX.gT rfl rfl rfl hb80 (show Y _ _ _ _ _ (.int .i64 (k11 : Int)) from by rw [← hkz11]; exact Y.ldO1 Kc.one3 rfl hL11) rfl rfl <| LX.gT rfl rfl rfl hb80 (Y.idxZ Kq.un22 Kq.sz53 rfl rfl hbv11 (j := k11) rfl (by omega)) rfl rfl <| LX.gT rfl rfl rfl hb80 (Y.fieldA Kq.fa53_0 rfl) rfl rfl <| LX.gT rfl rfl rfl hb80 (Y.ldFO (v := .int .i64 y11.op) Kc.one3 rfl hbL11 rfl) rfl rfl <| LX.callQT rfl rfl rfl hb80 (rexpr_q _) Kuc.en75 rfl rfl rfl rfl <| LX.pure (Y.pickT rfl hb80 rfl) rfl rfl rfl <| LX.pure (Y.assign rfl) rfl rfl rfl <| LX.sub (l' := [(4, _), (5, _), (6, _), (10, _)]) ⟨rfl, rfl, rfl, rfl, trivial⟩ <| LX.next <| PX.thenN <| CX.ret <| PX.blockR <| PX.thenR <| PX.ret1 (by simp) Tryz.results34 rfl ?_
      exact fun w hw => ⟨_, rfl, (fun h9 => ⟨fun h8 => by omega, fun h8 => by omega⟩), hw.drop (List.nil_sublist _)⟩
    have hb80p := hb80
    try simp at hb80p
    refine LX.gF rfl rfl rfl hb80 rfl rfl <| LX.gF rfl rfl rfl hb80 rfl rfl <| LX.gF rfl rfl rfl hb80 rfl rfl <| LX.gF rfl rfl rfl hb80 rfl rfl <| LX.gF rfl rfl rfl hb80 rfl rfl <| LX.gF rfl rfl rfl hb80 rfl rfl <| LX.gF rfl rfl rfl hb80 rfl rfl <| LX.gF rfl rfl rfl hb80 rfl rfl <| LX.gF rfl rfl rfl hb80 rfl rfl <| LX.pure (Y.pickF rfl hb80 rfl) rfl rfl rfl <| LX.pure (Y.assign rfl) rfl rfl rfl <| LX.sub (l' := [(4, _), (5, _), (6, _), (10, _)]) ⟨rfl, rfl, rfl, rfl, trivial⟩ <| LX.next <| PX.thenN <| CX.ret <| PX.blockR <| PX.thenR <| PX.ret1 (by simp) Tryz.results34 rfl ?_
    exact fun w hw => ⟨_, rfl, (fun h9 => ⟨fun h8 => by omega, fun h8 => by omega⟩), hw.drop (List.nil_sublist _)⟩
  try simp at hb75
  refine CX.seq <| CX.region <| LX.pure (Y.eqI rfl rfl) rfl rfl rfl <| LX.pure (Y.assign rfl) rfl rfl rfl <| LX.sub (l' := [(0, _), (5, _), (6, _), (7, _), (9, _), (10, _), (53, _), (377, _)]) ⟨rfl, rfl, rfl, rfl, rfl, rfl, rfl, rfl, trivial⟩ <| LX.next <| PX.thenN ?_
  refine CX.cond rfl (fun hb81 => ?_) (fun hb81 => ?_)
  · try simp at hb81
    refine CX.seq <| CX.region <| LX.pure (Y.move rfl) rfl rfl rfl <| LX.pure (Y.move rfl) rfl rfl rfl <| LX.sub (l' := [(0, _), (5, _), (6, _), (7, _), (10, _), (380, _)]) ⟨rfl, rfl, rfl, rfl, rfl, rfl, trivial⟩ ?_
    apply LX.joinAnd 3 383 380 rfl
    · intro hb82
      refine LX.gT rfl rfl rfl hb82 (Y.move rfl) rfl rfl <| LX.gT rfl rfl rfl hb82 (Y.eqN rfl rfl) rfl rfl <| LX.pure (Y.pickT rfl hb82 rfl) rfl rfl rfl ?_
      exact LX.left ⟨rfl, rfl, rfl, rfl, rfl, rfl, rfl, trivial⟩
    · intro hb82
      refine LX.gF rfl rfl rfl hb82 rfl rfl <| LX.gF rfl rfl rfl hb82 rfl rfl <| LX.pure (Y.pickF rfl hb82 rfl) rfl rfl rfl ?_
      exact LX.left ⟨rfl, rfl, rfl, rfl, rfl, rfl, rfl, trivial⟩
    refine LX.pure (Y.move rfl) rfl rfl rfl ?_
    refine LX.caseB (s := 384) rfl (fun hb83 => ?_) (fun hb83 => ?_)
    ·
      have hb83p := hb83
      try simp at hb83p
      refine LX.gT rfl rfl rfl hb83 (Y.move rfl) rfl rfl <| LX.gT rfl rfl rfl hb83 (Y.fieldAddr0 Kq.fo53_4 rfl) rfl rfl <| LX.gT rfl rfl rfl hb83 (Y.ldB 0 Kq.one51 rfl rfl rfl) rfl rfl ?_
      obtain ⟨a12, hav12, hL12, _⟩ := hka.int_at (j := 0) (by omega)
      have hr12 := hK _ (getD_mem (j := 0) (ks := x.kids) (by omega))
      obtain ⟨k12, hkz12⟩ : ∃ k : Nat, x.kids.getD 0 0 = (k : Int) := ⟨(x.kids.getD 0 0).toNat, by omega⟩
      obtain ⟨y12, hy12⟩ : ∃ y, l[k12]? = some y := ⟨_, List.getElem?_eq_getElem (by omega)⟩
      obtain ⟨b12, bk12, bc12, hbv12, hbL12, hbc12, hba12⟩ := nd_of hl hy12
      refine LX.gT rfl rfl rfl hb83 (Y.idxZ Kq.un51 Kc.sz3 rfl rfl hav12 (j := 0) rfl (by omega)) rfl rfl <| LX.gT rfl rfl rfl hb83 (show Y _ _ _ _ _ (.int .i64 (k12 : Int)) from by rw [← hkz12]; exact Y.ldO1 Kc.one3 rfl hL12) rfl rfl <| LX.gT rfl rfl rfl hb83 (Y.idxZ Kq.un22 Kq.sz53 rfl rfl hbv12 (j := k12) rfl (by omega)) rfl rfl <| LX.gT rfl rfl rfl hb83 (Y.fieldA Kq.fa53_0 rfl) rfl rfl <| LX.gT rfl rfl rfl hb83 (Y.ldFO (v := .int .i64 y12.op) Kc.one3 rfl hbL12 rfl) rfl rfl <| LX.callQT rfl rfl rfl hb83 (rexpr_q _) Kuc.en75 rfl rfl rfl rfl <| LX.pure (Y.pickT rfl hb83 rfl) rfl rfl rfl <| LX.pure (Y.move rfl) rfl rfl rfl ?_
      refine LX.caseB (s := 395) rfl (fun hb84 => ?_) (fun hb84 => ?_)
      ·
        have hb84p := hb84
        try simp at hb84p
        refine LX.gT rfl rfl rfl hb84 (Y.move rfl) rfl rfl <| LX.gT rfl rfl rfl hb84 (Y.fieldAddr0 Kq.fo53_4 rfl) rfl rfl <| LX.gT rfl rfl rfl hb84 (Y.ldB 0 Kq.one51 rfl rfl rfl) rfl rfl <| LX.gT rfl rfl rfl hb84 (Y.idxZ Kq.un51 Kc.sz3 rfl rfl hav12 (j := 0) rfl (by omega)) rfl rfl <| LX.gT rfl rfl rfl hb84 (show Y _ _ _ _ _ (.int .i64 (k12 : Int)) from by rw [← hkz12]; exact Y.ldO1 Kc.one3 rfl hL12) rfl rfl <| LX.callT rfl rfl rfl hb84 (isT_w cl hB h3 _ (fun q x hq => hA q x (by omega)) (by omega) (fun w hw => hl.push hw)) Kub.en78 rfl rfl rfl rfl ?_
        intro bt9
        refine LX.pure (Y.pickT rfl hb84 rfl) rfl rfl rfl <| LX.pure (Y.move rfl) rfl rfl rfl ?_
        refine LX.caseB (s := 403) rfl (fun hb85 => ?_) (fun hb85 => ?_)
        ·
          have hb85p := hb85
          try simp at hb85p
          refine LX.gT rfl rfl rfl hb85 (Y.move rfl) rfl rfl <| LX.gT rfl rfl rfl hb85 (Y.fieldAddr0 Kq.fo53_4 rfl) rfl rfl <| LX.gT rfl rfl rfl hb85 (Y.ldB 0 Kq.one51 rfl rfl rfl) rfl rfl ?_
          obtain ⟨a13, hav13, hL13, _⟩ := hka.int_at (j := 1) (by omega)
          have hr13 := hK _ (getD_mem (j := 1) (ks := x.kids) (by omega))
          obtain ⟨k13, hkz13⟩ : ∃ k : Nat, x.kids.getD 1 0 = (k : Int) := ⟨(x.kids.getD 1 0).toNat, by omega⟩
          obtain ⟨y13, hy13⟩ : ∃ y, l[k13]? = some y := ⟨_, List.getElem?_eq_getElem (by omega)⟩
          obtain ⟨b13, bk13, bc13, hbv13, hbL13, hbc13, hba13⟩ := nd_of hl hy13
          refine LX.gT rfl rfl rfl hb85 (Y.idxZ Kq.un51 Kc.sz3 rfl rfl hav13 (j := 1) rfl (by omega)) rfl rfl <| LX.gT rfl rfl rfl hb85 (show Y _ _ _ _ _ (.int .i64 (k13 : Int)) from by rw [← hkz13]; exact Y.ldO1 Kc.one3 rfl hL13) rfl rfl <| LX.gT rfl rfl rfl hb85 (Y.idxZ Kq.un22 Kq.sz53 rfl rfl hbv13 (j := k13) rfl (by omega)) rfl rfl <| LX.gT rfl rfl rfl hb85 (Y.fieldA Kq.fa53_0 rfl) rfl rfl <| LX.gT rfl rfl rfl hb85 (Y.ldFO (v := .int .i64 y13.op) Kc.one3 rfl hbL13 rfl) rfl rfl <| LX.callQT rfl rfl rfl hb85 (rexpr_q _) Kuc.en75 rfl rfl rfl rfl <| LX.pure (Y.pickT rfl hb85 rfl) rfl rfl rfl <| LX.pure (Y.move rfl) rfl rfl rfl ?_
          refine LX.caseB (s := 414) rfl (fun hb86 => ?_) (fun hb86 => ?_)
          ·
            have hb86p := hb86
            try simp at hb86p
            refine LX.gT rfl rfl rfl hb86 (Y.move rfl) rfl rfl <| LX.gT rfl rfl rfl hb86 (Y.fieldAddr0 Kq.fo53_4 rfl) rfl rfl <| LX.gT rfl rfl rfl hb86 (Y.ldB 0 Kq.one51 rfl rfl rfl) rfl rfl ?_
            obtain ⟨a14, hav14, hL14, _⟩ := hka.int_at (j := 2) (by omega)
            have hr14 := hK _ (getD_mem (j := 2) (ks := x.kids) (by omega))
            obtain ⟨k14, hkz14⟩ : ∃ k : Nat, x.kids.getD 2 0 = (k : Int) := ⟨(x.kids.getD 2 0).toNat, by omega⟩
            obtain ⟨y14, hy14⟩ : ∃ y, l[k14]? = some y := ⟨_, List.getElem?_eq_getElem (by omega)⟩
            obtain ⟨b14, bk14, bc14, hbv14, hbL14, hbc14, hba14⟩ := nd_of hl hy14
            refine LX.gT rfl rfl rfl hb86 (Y.idxZ Kq.un51 Kc.sz3 rfl rfl hav14 (j := 2) rfl (by omega)) rfl rfl <| LX.gT rfl rfl rfl hb86 (show Y _ _ _ _ _ (.int .i64 (k14 : Int)) from by rw [← hkz14]; exact Y.ldO1 Kc.one3 rfl hL14) rfl rfl <| LX.gT rfl rfl rfl hb86 (Y.idxZ Kq.un22 Kq.sz53 rfl rfl hbv14 (j := k14) rfl (by omega)) rfl rfl <| LX.gT rfl rfl rfl hb86 (Y.fieldA Kq.fa53_0 rfl) rfl rfl <| LX.gT rfl rfl rfl hb86 (Y.ldFO (v := .int .i64 y14.op) Kc.one3 rfl hbL14 rfl) rfl rfl <| LX.gT rfl rfl rfl hb86 (Y.eqI rfl rfl) rfl rfl <| LX.pure (Y.pickT rfl hb86 rfl) rfl rfl rfl <| LX.pure (Y.assign rfl) rfl rfl rfl <| LX.sub (l' := [(4, _), (5, _), (6, _), (7, _), (10, _)]) ⟨rfl, rfl, rfl, rfl, rfl, trivial⟩ <| LX.next <| PX.thenN <| CX.ret <| PX.blockR <| PX.thenR <| PX.ret1 (by simp) Tryz.results34 rfl ?_
            exact fun w hw => ⟨_, rfl, (fun h9 => ⟨fun h8 => by omega, fun h8 => by omega⟩), hw.drop (List.nil_sublist _)⟩
          have hb86p := hb86
          try simp at hb86p
          refine LX.gF rfl rfl rfl hb86 rfl rfl <| LX.gF rfl rfl rfl hb86 rfl rfl <| LX.gF rfl rfl rfl hb86 rfl rfl <| LX.gF rfl rfl rfl hb86 rfl rfl <| LX.gF rfl rfl rfl hb86 rfl rfl <| LX.gF rfl rfl rfl hb86 rfl rfl <| LX.gF rfl rfl rfl hb86 rfl rfl <| LX.gF rfl rfl rfl hb86 rfl rfl <| LX.gF rfl rfl rfl hb86 rfl rfl <| LX.pure (Y.pickF rfl hb86 rfl) rfl rfl rfl <| LX.pure (Y.assign rfl) rfl rfl rfl <| LX.sub (l' := [(4, _), (5, _), (6, _), (7, _), (10, _)]) ⟨rfl, rfl, rfl, rfl, rfl, trivial⟩ <| LX.next <| PX.thenN <| CX.ret <| PX.blockR <| PX.thenR <| PX.ret1 (by simp) Tryz.results34 rfl ?_
          exact fun w hw => ⟨_, rfl, (fun h9 => ⟨fun h8 => by omega, fun h8 => by omega⟩), hw.drop (List.nil_sublist _)⟩
        have hb85p := hb85
        try simp at hb85p
        refine LX.gF rfl rfl rfl hb85 rfl rfl <| LX.gF rfl rfl rfl hb85 rfl rfl <| LX.gF rfl rfl rfl hb85 rfl rfl <| LX.gF rfl rfl rfl hb85 rfl rfl <| LX.gF rfl rfl rfl hb85 rfl rfl <| LX.gF rfl rfl rfl hb85 rfl rfl <| LX.gF rfl rfl rfl hb85 rfl rfl <| LX.gF rfl rfl rfl hb85 rfl rfl <| LX.gF rfl rfl rfl hb85 rfl rfl <| LX.pure (Y.pickF rfl hb85 rfl) rfl rfl rfl <| LX.pure (Y.move rfl) rfl rfl rfl ?_
        refine LX.caseB (s := 414) rfl (fun hb87 => ?_) (fun hb87 => ?_)
        ·
          (exfalso; simp_all; done)
        have hb87p := hb87
        try simp at hb87p
        refine LX.gF rfl rfl rfl hb87 rfl rfl <| LX.gF rfl rfl rfl hb87 rfl rfl <| LX.gF rfl rfl rfl hb87 rfl rfl <| LX.gF rfl rfl rfl hb87 rfl rfl <| LX.gF rfl rfl rfl hb87 rfl rfl <| LX.gF rfl rfl rfl hb87 rfl rfl <| LX.gF rfl rfl rfl hb87 rfl rfl <| LX.gF rfl rfl rfl hb87 rfl rfl <| LX.gF rfl rfl rfl hb87 rfl rfl <| LX.pure (Y.pickF rfl hb87 rfl) rfl rfl rfl <| LX.pure (Y.assign rfl) rfl rfl rfl <| LX.sub (l' := [(4, _), (5, _), (6, _), (7, _), (10, _)]) ⟨rfl, rfl, rfl, rfl, rfl, trivial⟩ <| LX.next <| PX.thenN <| CX.ret <| PX.blockR <| PX.thenR <| PX.ret1 (by simp) Tryz.results34 rfl ?_
        exact fun w hw => ⟨_, rfl, (fun h9 => ⟨fun h8 => by omega, fun h8 => by omega⟩), hw.drop (List.nil_sublist _)⟩
      have hb84p := hb84
      try simp at hb84p
      refine LX.gF rfl rfl rfl hb84 rfl rfl <| LX.gF rfl rfl rfl hb84 rfl rfl <| LX.gF rfl rfl rfl hb84 rfl rfl <| LX.gF rfl rfl rfl hb84 rfl rfl <| LX.gF rfl rfl rfl hb84 rfl rfl <| LX.gF rfl rfl rfl hb84 rfl rfl <| LX.pure (Y.pickF rfl hb84 rfl) rfl rfl rfl <| LX.pure (Y.move rfl) rfl rfl rfl ?_
      refine LX.caseB (s := 403) rfl (fun hb88 => ?_) (fun hb88 => ?_)
      ·
        (exfalso; simp_all; done)
      have hb88p := hb88
      try simp at hb88p
      refine LX.gF rfl rfl rfl hb88 rfl rfl <| LX.gF rfl rfl rfl hb88 rfl rfl <| LX.gF rfl rfl rfl hb88 rfl rfl <| LX.gF rfl rfl rfl hb88 rfl rfl <| LX.gF rfl rfl rfl hb88 rfl rfl <| LX.gF rfl rfl rfl hb88 rfl rfl <| LX.gF rfl rfl rfl hb88 rfl rfl <| LX.gF rfl rfl rfl hb88 rfl rfl <| LX.gF rfl rfl rfl hb88 rfl rfl <| LX.pure (Y.pickF rfl hb88 rfl) rfl rfl rfl <| LX.pure (Y.move rfl) rfl rfl rfl ?_
      refine LX.caseB (s := 414) rfl (fun hb89 => ?_) (fun hb89 => ?_)
      ·
        (exfalso; simp_all; done)
      have hb89p := hb89
      try simp at hb89p
      refine LX.gF rfl rfl rfl hb89 rfl rfl <| LX.gF rfl rfl rfl hb89 rfl rfl <| LX.gF rfl rfl rfl hb89 rfl rfl <| LX.gF rfl rfl rfl hb89 rfl rfl <| LX.gF rfl rfl rfl hb89 rfl rfl <| LX.gF rfl rfl rfl hb89 rfl rfl <| LX.gF rfl rfl rfl hb89 rfl rfl <| LX.gF rfl rfl rfl hb89 rfl rfl <| LX.gF rfl rfl rfl hb89 rfl rfl <| LX.pure (Y.pickF rfl hb89 rfl) rfl rfl rfl <| LX.pure (Y.assign rfl) rfl rfl rfl <| LX.sub (l' := [(4, _), (5, _), (6, _), (7, _), (10, _)]) ⟨rfl, rfl, rfl, rfl, rfl, trivial⟩ <| LX.next <| PX.thenN <| CX.ret <| PX.blockR <| PX.thenR <| PX.ret1 (by simp) Tryz.results34 rfl ?_
      exact fun w hw => ⟨_, rfl, (fun h9 => ⟨fun h8 => by omega, fun h8 => by omega⟩), hw.drop (List.nil_sublist _)⟩
    have hb83p := hb83
    try simp at hb83p
    refine LX.gF rfl rfl rfl hb83 rfl rfl <| LX.gF rfl rfl rfl hb83 rfl rfl <| LX.gF rfl rfl rfl hb83 rfl rfl <| LX.gF rfl rfl rfl hb83 rfl rfl <| LX.gF rfl rfl rfl hb83 rfl rfl <| LX.gF rfl rfl rfl hb83 rfl rfl <| LX.gF rfl rfl rfl hb83 rfl rfl <| LX.gF rfl rfl rfl hb83 rfl rfl <| LX.gF rfl rfl rfl hb83 rfl rfl <| LX.pure (Y.pickF rfl hb83 rfl) rfl rfl rfl <| LX.pure (Y.move rfl) rfl rfl rfl ?_
    refine LX.caseB (s := 395) rfl (fun hb90 => ?_) (fun hb90 => ?_)
    ·
      (exfalso; simp_all; done)
    have hb90p := hb90
    try simp at hb90p
    refine LX.gF rfl rfl rfl hb90 rfl rfl <| LX.gF rfl rfl rfl hb90 rfl rfl <| LX.gF rfl rfl rfl hb90 rfl rfl <| LX.gF rfl rfl rfl hb90 rfl rfl <| LX.gF rfl rfl rfl hb90 rfl rfl <| LX.gF rfl rfl rfl hb90 rfl rfl <| LX.pure (Y.pickF rfl hb90 rfl) rfl rfl rfl <| LX.pure (Y.move rfl) rfl rfl rfl ?_
    refine LX.caseB (s := 403) rfl (fun hb91 => ?_) (fun hb91 => ?_)
    ·
      (exfalso; simp_all; done)
    have hb91p := hb91
    try simp at hb91p
    refine LX.gF rfl rfl rfl hb91 rfl rfl <| LX.gF rfl rfl rfl hb91 rfl rfl <| LX.gF rfl rfl rfl hb91 rfl rfl <| LX.gF rfl rfl rfl hb91 rfl rfl <| LX.gF rfl rfl rfl hb91 rfl rfl <| LX.gF rfl rfl rfl hb91 rfl rfl <| LX.gF rfl rfl rfl hb91 rfl rfl <| LX.gF rfl rfl rfl hb91 rfl rfl <| LX.gF rfl rfl rfl hb91 rfl rfl <| LX.pure (Y.pickF rfl hb91 rfl) rfl rfl rfl <| LX.pure (Y.move rfl) rfl rfl rfl ?_
    refine LX.caseB (s := 414) rfl (fun hb92 => ?_) (fun hb92 => ?_)
    ·
      (exfalso; simp_all; done)
    have hb92p := hb92
    try simp at hb92p
    refine LX.gF rfl rfl rfl hb92 rfl rfl <| LX.gF rfl rfl rfl hb92 rfl rfl <| LX.gF rfl rfl rfl hb92 rfl rfl <| LX.gF rfl rfl rfl hb92 rfl rfl <| LX.gF rfl rfl rfl hb92 rfl rfl <| LX.gF rfl rfl rfl hb92 rfl rfl <| LX.gF rfl rfl rfl hb92 rfl rfl <| LX.gF rfl rfl rfl hb92 rfl rfl <| LX.gF rfl rfl rfl hb92 rfl rfl <| LX.pure (Y.pickF rfl hb92 rfl) rfl rfl rfl <| LX.pure (Y.assign rfl) rfl rfl rfl <| LX.sub (l' := [(4, _), (5, _), (6, _), (7, _), (10, _)]) ⟨rfl, rfl, rfl, rfl, rfl, trivial⟩ <| LX.next <| PX.thenN <| CX.ret <| PX.blockR <| PX.thenR <| PX.ret1 (by simp) Tryz.results34 rfl ?_
    exact fun w hw => ⟨_, rfl, (fun h9 => ⟨fun h8 => by omega, fun h8 => by (simp_all; done)⟩), hw.drop (List.nil_sublist _)⟩
  try simp at hb81
  refine CX.seq <| CX.region <| LX.pure (Y.eqI rfl rfl) rfl rfl rfl <| LX.pure (Y.assign rfl) rfl rfl rfl <| LX.sub (l' := [(0, _), (5, _), (6, _), (7, _), (9, _), (10, _), (53, _), (425, _)]) ⟨rfl, rfl, rfl, rfl, rfl, rfl, rfl, rfl, trivial⟩ <| LX.next <| PX.thenN ?_
  refine CX.cond rfl (fun hb93 => ?_) (fun hb93 => ?_)
  · try simp at hb93
    refine CX.seq <| CX.seq <| CX.region <| LX.pure (Y.assign rfl) rfl rfl rfl <| LX.sub (l' := [(0, _), (5, _), (6, _), (7, _), (9, _), (10, _), (19, _)]) ⟨rfl, rfl, rfl, rfl, rfl, rfl, rfl, trivial⟩ <| LX.next <| PX.thenN <| CX.block <| CX.loop (fun j : Nat => [(0, .slice al l.length cl), (5, .pointer (some ⟨bx5, 0, none⟩)), (6, .int .i64 (x.kids.length : Int)), (9, .bool bn), (19, .int .i64 (j : Int))]) (fun (j : Nat) w => j ≤ x.kids.length + 1 ∧ WA w0 base [blk bx5 [.int .i64 x.op, .int .i64 x.n, .int .i64 x.pos, str x.s, .slice ak x.kids.length ck] 53] w) (fun j => x.kids.length + 1 - j) 0 ⟨rfl, rfl, rfl, rfl, rfl, trivial⟩ (fun w hw => ⟨by show 0 ≤ x.kids.length + 1; omega, hw⟩) ?_
    intro j
    refine CX.have fun hj0 => ?_
    replace hj0 : j ≤ x.kids.length + 1 := hj0
    refine CX.seq <| CX.seq <| CX.region <| LX.pure (Y.move rfl) rfl rfl rfl <| LX.pure (Y.addN rfl rfl (by (simp only []; omega))) rfl rfl rfl <| LX.pure (Y.move rfl) rfl rfl rfl <| LX.pure (Y.ltN rfl rfl) rfl rfl rfl <| LX.sub (l' := [(0, _), (5, _), (6, _), (9, _), (19, _), (430, _)]) ⟨rfl, rfl, rfl, rfl, rfl, rfl, trivial⟩ <| LX.next <| PX.thenN ?_
    refine CX.cond rfl (fun hb94 => ?_) (fun hb94 => ?_)
    · try simp at hb94
      refine CX.skip <| PX.thenN <| CX.seq <| CX.block <| CX.seq <| CX.region <| LX.pure (Y.move rfl) rfl rfl rfl <| LX.pure (Y.fieldAddr0 Kq.fo53_4 rfl) rfl rfl rfl <| LX.pure (Y.ldB 0 Kq.one51 rfl rfl rfl) rfl rfl rfl <| LX.pure (Y.move rfl) rfl rfl rfl ?_
      obtain ⟨a15, hav15, hL15, _⟩ := hka.int_at (j := j) (by omega)
      have hr15 := hK _ (getD_mem (j := j) (ks := x.kids) (by omega))
      obtain ⟨k15, hkz15⟩ : ∃ k : Nat, x.kids.getD j 0 = (k : Int) := ⟨(x.kids.getD j 0).toNat, by omega⟩
      obtain ⟨y15, hy15⟩ : ∃ y, l[k15]? = some y := ⟨_, List.getElem?_eq_getElem (by omega)⟩
      obtain ⟨b15, bk15, bc15, hbv15, hbL15, hbc15, hba15⟩ := nd_of hl hy15
      refine LX.pure (Y.idxZ Kq.un51 Kc.sz3 rfl rfl hav15 (j := j) rfl (by omega)) rfl rfl rfl <| LX.pure (show Y _ _ _ _ _ (.int .i64 (k15 : Int)) from by rw [← hkz15]; exact Y.ldO1 Kc.one3 rfl hL15) rfl rfl rfl <| LX.pure (Y.idxZ Kq.un22 Kq.sz53 rfl rfl hbv15 (j := k15) rfl (by omega)) rfl rfl rfl <| LX.pure (Y.fieldA Kq.fa53_0 rfl) rfl rfl rfl <| LX.pure (Y.ldFO (v := .int .i64 y15.op) Kc.one3 rfl hbL15 rfl) rfl rfl rfl <| LX.pure (Y.neI rfl rfl) rfl rfl rfl <| LX.sub (l' := [(0, _), (5, _), (6, _), (9, _), (19, _), (442, _)]) ⟨rfl, rfl, rfl, rfl, rfl, rfl, trivial⟩ <| LX.next <| PX.thenN ?_
      refine CX.cond rfl (fun hb95 => ?_) (fun hb95 => ?_)
      · try simp at hb95
        refine CX.seq <| CX.region <| LX.pure (Y.assign rfl) rfl rfl rfl <| LX.sub (l' := [(0, _), (4, _), (5, _), (6, _), (9, _), (19, _)]) ⟨rfl, rfl, rfl, rfl, rfl, rfl, trivial⟩ <| LX.next <| PX.thenN <| CX.ret <| PX.blockR <| PX.thenR <| PX.thenR <| PX.blockR <| PX.thenR <| PX.blockR <| PX.thenR <| PX.ret1 (by simp) Tryz.results34 rfl ?_
        exact fun w hw => ⟨_, rfl, (fun h9 => ⟨fun h8 => by omega, fun h8 => by omega⟩), hw.drop (List.nil_sublist _)⟩
      try simp at hb95
      refine CX.skip <| PX.blockN <| PX.thenN <| CX.region <| LX.pure (Y.move rfl) rfl rfl rfl <| LX.pure (Y.addN rfl rfl (by (simp only []; omega))) rfl rfl rfl <| LX.pure (Y.assign rfl) rfl rfl rfl <| LX.sub (l' := [(0, _), (5, _), (6, _), (9, _), (19, _)]) ⟨rfl, rfl, rfl, rfl, rfl, trivial⟩ <| LX.next ?_
      exact PX.again (μ := fun j => x.kids.length + 1 - j) (i := j) (j + 1) (by show x.kids.length + 1 - (j + 1) < x.kids.length + 1 - j; omega) ⟨rfl, rfl, rfl, rfl, rfl, trivial⟩ (fun w hw => ⟨by show j + 1 ≤ x.kids.length + 1; omega, hw⟩)
    try simp at hb94
    refine CX.exit <| PX.thenE <| PX.thenE <| PX.blockE <| PX.thenN <| CX.seq <| CX.region <| LX.pure (Y.move rfl) rfl rfl rfl <| LX.pure (Y.move rfl) rfl rfl rfl <| LX.sub (l' := [(0, _), (5, _), (6, _), (444, _)]) ⟨rfl, rfl, rfl, rfl, trivial⟩ ?_
    apply LX.joinAnd 3 447 444 rfl
    · intro hb96
      refine LX.gT rfl rfl rfl hb96 (Y.move rfl) rfl rfl <| LX.gT rfl rfl rfl hb96 (Y.geN rfl rfl) rfl rfl <| LX.pure (Y.pickT rfl hb96 rfl) rfl rfl rfl ?_
      exact LX.left ⟨rfl, rfl, rfl, rfl, rfl, trivial⟩
    · intro hb96
      refine LX.gF rfl rfl rfl hb96 rfl rfl <| LX.gF rfl rfl rfl hb96 rfl rfl <| LX.pure (Y.pickF rfl hb96 rfl) rfl rfl rfl ?_
      exact LX.left ⟨rfl, rfl, rfl, rfl, rfl, trivial⟩
    refine LX.pure (Y.move rfl) rfl rfl rfl ?_
    refine LX.caseB (s := 448) rfl (fun hb97 => ?_) (fun hb97 => ?_)
    ·
      have hb97p := hb97
      try simp at hb97p
      refine LX.gT rfl rfl rfl hb97 (Y.move rfl) rfl rfl <| LX.gT rfl rfl rfl hb97 (Y.fieldAddr0 Kq.fo53_4 rfl) rfl rfl <| LX.gT rfl rfl rfl hb97 (Y.ldB 0 Kq.one51 rfl rfl rfl) rfl rfl <| LX.gT rfl rfl rfl hb97 (Y.move rfl) rfl rfl <| LX.gT rfl rfl rfl hb97 (Y.subN rfl rfl (by (simp only []; omega)) (by omega)) rfl rfl ?_
      obtain ⟨a16, hav16, hL16, _⟩ := hka.int_at (j := (x.kids.length - 1)) (by omega)
      have hr16 := hK _ (getD_mem (j := (x.kids.length - 1)) (ks := x.kids) (by omega))
      obtain ⟨k16, hkz16⟩ : ∃ k : Nat, x.kids.getD (x.kids.length - 1) 0 = (k : Int) := ⟨(x.kids.getD (x.kids.length - 1) 0).toNat, by omega⟩
      obtain ⟨y16, hy16⟩ : ∃ y, l[k16]? = some y := ⟨_, List.getElem?_eq_getElem (by omega)⟩
      obtain ⟨b16, bk16, bc16, hbv16, hbL16, hbc16, hba16⟩ := nd_of hl hy16
      refine LX.gT rfl rfl rfl hb97 (Y.idxZ Kq.un51 Kc.sz3 rfl rfl hav16 (j := x.kids.length - 1) rfl (by omega)) rfl rfl <| LX.gT rfl rfl rfl hb97 (show Y _ _ _ _ _ (.int .i64 (k16 : Int)) from by rw [← hkz16]; exact Y.ldO1 Kc.one3 rfl hL16) rfl rfl <| LX.gT rfl rfl rfl hb97 (Y.idxZ Kq.un22 Kq.sz53 rfl rfl hbv16 (j := k16) rfl (by omega)) rfl rfl <| LX.gT rfl rfl rfl hb97 (Y.fieldA Kq.fa53_0 rfl) rfl rfl <| LX.gT rfl rfl rfl hb97 (Y.ldFO (v := .int .i64 y16.op) Kc.one3 rfl hbL16 rfl) rfl rfl <| LX.gT rfl rfl rfl hb97 (Y.eqI rfl rfl) rfl rfl <| LX.pure (Y.pickT rfl hb97 rfl) rfl rfl rfl <| LX.pure (Y.assign rfl) rfl rfl rfl <| LX.sub (l' := [(4, _), (5, _), (6, _)]) ⟨rfl, rfl, rfl, trivial⟩ <| LX.next <| PX.thenN <| CX.ret <| PX.blockR <| PX.thenR <| PX.ret1 (by simp) Tryz.results34 rfl ?_
      exact fun w hw => ⟨_, rfl, (fun h9 => ⟨fun h8 => by omega, fun h8 => by omega⟩), hw.drop (List.nil_sublist _)⟩
    have hb97p := hb97
    try simp at hb97p
    refine LX.gF rfl rfl rfl hb97 rfl rfl <| LX.gF rfl rfl rfl hb97 rfl rfl <| LX.gF rfl rfl rfl hb97 rfl rfl <| LX.gF rfl rfl rfl hb97 rfl rfl <| LX.gF rfl rfl rfl hb97 rfl rfl <| LX.gF rfl rfl rfl hb97 rfl rfl <| LX.gF rfl rfl rfl hb97 rfl rfl <| LX.gF rfl rfl rfl hb97 rfl rfl <| LX.gF rfl rfl rfl hb97 rfl rfl <| LX.gF rfl rfl rfl hb97 rfl rfl <| LX.gF rfl rfl rfl hb97 rfl rfl <| LX.pure (Y.pickF rfl hb97 rfl) rfl rfl rfl <| LX.pure (Y.assign rfl) rfl rfl rfl <| LX.sub (l' := [(4, _), (5, _), (6, _)]) ⟨rfl, rfl, rfl, trivial⟩ <| LX.next <| PX.thenN <| CX.ret <| PX.blockR <| PX.thenR <| PX.ret1 (by simp) Tryz.results34 rfl ?_
    exact fun w hw => ⟨_, rfl, (fun h9 => ⟨fun h8 => by (simp_all; done), fun h8 => by omega⟩), hw.drop (List.nil_sublist _)⟩
  try simp at hb93
  refine CX.seq <| CX.region <| LX.pure (Y.eqI rfl rfl) rfl rfl rfl <| LX.pure (Y.assign rfl) rfl rfl rfl <| LX.sub (l' := [(0, _), (5, _), (6, _), (7, _), (9, _), (10, _), (53, _), (461, _)]) ⟨rfl, rfl, rfl, rfl, rfl, rfl, rfl, rfl, trivial⟩ <| LX.next <| PX.thenN ?_
  refine CX.cond rfl (fun hb98 => ?_) (fun hb98 => ?_)
  · try simp at hb98
    refine CX.seq <| CX.region <| LX.pure (Y.move rfl) rfl rfl rfl <| LX.pure (Y.move rfl) rfl rfl rfl <| LX.sub (l' := [(5, _), (6, _), (7, _), (10, _), (464, _)]) ⟨rfl, rfl, rfl, rfl, rfl, trivial⟩ ?_
    apply LX.joinAnd 3 467 464 rfl
    · intro hb99
      refine LX.gT rfl rfl rfl hb99 (Y.move rfl) rfl rfl <| LX.gT rfl rfl rfl hb99 (Y.leN rfl rfl) rfl rfl <| LX.pure (Y.pickT rfl hb99 rfl) rfl rfl rfl ?_
      exact LX.left ⟨rfl, rfl, rfl, rfl, rfl, rfl, trivial⟩
    · intro hb99
      refine LX.gF rfl rfl rfl hb99 rfl rfl <| LX.gF rfl rfl rfl hb99 rfl rfl <| LX.pure (Y.pickF rfl hb99 rfl) rfl rfl rfl ?_
      exact LX.left ⟨rfl, rfl, rfl, rfl, rfl, rfl, trivial⟩
    refine LX.pure (Y.move rfl) rfl rfl rfl <| LX.sub (l' := [(5, _), (6, _), (7, _), (10, _), (468, _)]) ⟨rfl, rfl, rfl, rfl, rfl, trivial⟩ ?_
    apply LX.joinAnd 2 470 468 rfl
    · intro hb100
      refine LX.gT rfl rfl rfl hb100 (Y.move rfl) rfl rfl <| LX.pure (Y.pickT rfl hb100 rfl) rfl rfl rfl ?_
      exact LX.left ⟨rfl, rfl, rfl, rfl, rfl, rfl, trivial⟩
    · intro hb100
      refine LX.gF rfl rfl rfl hb100 rfl rfl <| LX.pure (Y.pickF rfl hb100 rfl) rfl rfl rfl ?_
      exact LX.left ⟨rfl, rfl, rfl, rfl, rfl, rfl, trivial⟩
    refine LX.pure (Y.assign rfl) rfl rfl rfl <| LX.sub (l' := [(4, _), (5, _), (6, _), (7, _), (10, _)]) ⟨rfl, rfl, rfl, rfl, rfl, trivial⟩ <| LX.next <| PX.thenN <| CX.ret <| PX.blockR <| PX.thenR <| PX.ret1 (by simp) Tryz.results34 rfl ?_
    exact fun w hw => ⟨_, rfl, (fun h9 => ⟨fun h8 => by omega, fun h8 => by omega⟩), hw.drop (List.nil_sublist _)⟩
  try simp at hb98
  refine CX.seq <| CX.region <| LX.pure (Y.eqI rfl rfl) rfl rfl rfl <| LX.pure (Y.assign rfl) rfl rfl rfl <| LX.sub (l' := [(0, _), (5, _), (6, _), (7, _), (10, _), (471, _)]) ⟨rfl, rfl, rfl, rfl, rfl, rfl, trivial⟩ <| LX.next <| PX.thenN ?_
  refine CX.cond rfl (fun hb101 => ?_) (fun hb101 => ?_)
  · try simp at hb101
    refine CX.seq <| CX.seq <| CX.region <| LX.pure (Y.assign rfl) rfl rfl rfl <| LX.sub (l' := [(0, _), (5, _), (6, _), (7, _), (10, _), (20, _)]) ⟨rfl, rfl, rfl, rfl, rfl, rfl, trivial⟩ <| LX.next <| PX.thenN <| CX.block <| CX.loop (fun j : Nat => [(0, .slice al l.length cl), (5, .pointer (some ⟨bx5, 0, none⟩)), (6, .int .i64 (x.kids.length : Int)), (10, .bool (decide (x.s = []))), (20, .int .i64 (j : Int))]) (fun (j : Nat) w => j ≤ x.kids.length + 1 ∧ WA w0 base [blk bx5 [.int .i64 x.op, .int .i64 x.n, .int .i64 x.pos, str x.s, .slice ak x.kids.length ck] 53] w) (fun j => x.kids.length + 1 - j) 0 ⟨rfl, rfl, rfl, rfl, rfl, trivial⟩ (fun w hw => ⟨by show 0 ≤ x.kids.length + 1; omega, hw⟩) ?_
    intro j
    refine CX.have fun hj0 => ?_
    replace hj0 : j ≤ x.kids.length + 1 := hj0
    refine CX.seq <| CX.seq <| CX.region <| LX.pure (Y.move rfl) rfl rfl rfl <| LX.pure (Y.move rfl) rfl rfl rfl <| LX.pure (Y.ltN rfl rfl) rfl rfl rfl <| LX.sub (l' := [(0, _), (5, _), (6, _), (10, _), (20, _), (475, _)]) ⟨rfl, rfl, rfl, rfl, rfl, rfl, trivial⟩ <| LX.next <| PX.thenN ?_
    refine CX.cond rfl (fun hb102 => ?_) (fun hb102 => ?_)
    · try simp at hb102
      refine CX.skip <| PX.thenN <| CX.seq <| CX.block <| CX.seq <| CX.region <| LX.pure (Y.move rfl) rfl rfl rfl <| LX.pure (Y.fieldAddr0 Kq.fo53_4 rfl) rfl rfl rfl <| LX.pure (Y.ldB 0 Kq.one51 rfl rfl rfl) rfl rfl rfl <| LX.pure (Y.move rfl) rfl rfl rfl ?_
      obtain ⟨a17, hav17, hL17, _⟩ := hka.int_at (j := j) (by omega)
      have hr17 := hK _ (getD_mem (j := j) (ks := x.kids) (by omega))
      obtain ⟨k17, hkz17⟩ : ∃ k : Nat, x.kids.getD j 0 = (k : Int) := ⟨(x.kids.getD j 0).toNat, by omega⟩
      obtain ⟨y17, hy17⟩ : ∃ y, l[k17]? = some y := ⟨_, List.getElem?_eq_getElem (by omega)⟩
      obtain ⟨b17, bk17, bc17, hbv17, hbL17, hbc17, hba17⟩ := nd_of hl hy17
      refine LX.pure (Y.idxZ Kq.un51 Kc.sz3 rfl rfl hav17 (j := j) rfl (by omega)) rfl rfl rfl <| LX.pure (show Y _ _ _ _ _ (.int .i64 (k17 : Int)) from by rw [← hkz17]; exact Y.ldO1 Kc.one3 rfl hL17) rfl rfl rfl <| LX.pure (Y.idxZ Kq.un22 Kq.sz53 rfl rfl hbv17 (j := k17) rfl (by omega)) rfl rfl rfl <| LX.pure (Y.fieldA Kq.fa53_0 rfl) rfl rfl rfl <| LX.pure (Y.ldFO (v := .int .i64 y17.op) Kc.one3 rfl hbL17 rfl) rfl rfl rfl <| LX.callQ (rstmt_q _) Kuc.en79 rfl rfl rfl rfl rfl <| LX.pure (Y.not rfl) rfl rfl rfl <| LX.sub (l' := [(0, _), (5, _), (6, _), (10, _), (20, _), (488, _)]) ⟨rfl, rfl, rfl, rfl, rfl, rfl, trivial⟩ <| LX.next <| PX.thenN ?_
      refine CX.cond rfl (fun hb103 => ?_) (fun hb103 => ?_)
      · try simp at hb103
        refine CX.seq <| CX.region <| LX.pure (Y.assign rfl) rfl rfl rfl <| LX.sub (l' := [(0, _), (4, _), (5, _), (6, _), (10, _), (20, _)]) ⟨rfl, rfl, rfl, rfl, rfl, rfl, trivial⟩ <| LX.next <| PX.thenN <| CX.ret <| PX.blockR <| PX.thenR <| PX.thenR <| PX.blockR <| PX.thenR <| PX.blockR <| PX.thenR <| PX.ret1 (by simp) Tryz.results34 rfl ?_
        exact fun w hw => ⟨_, rfl, (fun h9 => ⟨fun h8 => by omega, fun h8 => by omega⟩), hw.drop (List.nil_sublist _)⟩
      try simp at hb103
      refine CX.skip <| PX.blockN <| PX.thenN <| CX.region <| LX.pure (Y.move rfl) rfl rfl rfl <| LX.pure (Y.addN rfl rfl (by (simp only []; omega))) rfl rfl rfl <| LX.pure (Y.assign rfl) rfl rfl rfl <| LX.sub (l' := [(0, _), (5, _), (6, _), (10, _), (20, _)]) ⟨rfl, rfl, rfl, rfl, rfl, trivial⟩ <| LX.next ?_
      exact PX.again (μ := fun j => x.kids.length + 1 - j) (i := j) (j + 1) (by show x.kids.length + 1 - (j + 1) < x.kids.length + 1 - j; omega) ⟨rfl, rfl, rfl, rfl, rfl, trivial⟩ (fun w hw => ⟨by show j + 1 ≤ x.kids.length + 1; omega, hw⟩)
    try simp at hb102
    refine CX.exit <| PX.thenE <| PX.thenE <| PX.blockE <| PX.thenN <| CX.seq <| CX.region <| LX.pure (Y.move rfl) rfl rfl rfl <| LX.pure (Y.move rfl) rfl rfl rfl <| LX.sub (l' := [(5, _), (6, _), (10, _), (490, _)]) ⟨rfl, rfl, rfl, rfl, trivial⟩ ?_
    apply LX.joinAnd 3 493 490 rfl
    · intro hb104
      refine LX.gT rfl rfl rfl hb104 (Y.move rfl) rfl rfl <| LX.gT rfl rfl rfl hb104 (Y.geN rfl rfl) rfl rfl <| LX.pure (Y.pickT rfl hb104 rfl) rfl rfl rfl ?_
      exact LX.left ⟨rfl, rfl, rfl, rfl, rfl, trivial⟩
    · intro hb104
      refine LX.gF rfl rfl rfl hb104 rfl rfl <| LX.gF rfl rfl rfl hb104 rfl rfl <| LX.pure (Y.pickF rfl hb104 rfl) rfl rfl rfl ?_
      exact LX.left ⟨rfl, rfl, rfl, rfl, rfl, trivial⟩
    refine LX.pure (Y.assign rfl) rfl rfl rfl <| LX.sub (l' := [(4, _), (5, _), (6, _), (10, _)]) ⟨rfl, rfl, rfl, rfl, trivial⟩ <| LX.next <| PX.thenN <| CX.ret <| PX.blockR <| PX.thenR <| PX.ret1 (by simp) Tryz.results34 rfl ?_
    exact fun w hw => ⟨_, rfl, (fun h9 => ⟨fun h8 => by omega, fun h8 => by omega⟩), hw.drop (List.nil_sublist _)⟩
  try simp at hb101
  refine CX.skip <| PX.blockN <| PX.thenN <| CX.seq <| CX.seq <| CX.region <| LX.pure (Y.fieldAddr0 Kq.fo53_0 rfl) rfl rfl rfl <| LX.pure (Y.ldB 0 Kc.one3 rfl rfl rfl) rfl rfl rfl <| LX.pure (Y.geI rfl rfl) rfl rfl rfl <| LX.pure (Y.move rfl) rfl rfl rfl <| LX.sub (l' := [(5, _), (6, _), (7, _), (10, _), (497, _)]) ⟨rfl, rfl, rfl, rfl, rfl, trivial⟩ ?_
  apply LX.joinAnd 4 501 497 rfl
  · intro hb105
    refine LX.gT rfl rfl rfl hb105 (Y.fieldAddr0 Kq.fo53_0 rfl) rfl rfl <| LX.gT rfl rfl rfl hb105 (Y.ldB 0 Kc.one3 rfl rfl rfl) rfl rfl <| LX.gT rfl rfl rfl hb105 (Y.leI rfl rfl) rfl rfl <| LX.pure (Y.pickT rfl hb105 rfl) rfl rfl rfl ?_
    exact LX.left ⟨rfl, rfl, rfl, rfl, rfl, rfl, trivial⟩
  · intro hb105
    refine LX.gF rfl rfl rfl hb105 rfl rfl <| LX.gF rfl rfl rfl hb105 rfl rfl <| LX.gF rfl rfl rfl hb105 rfl rfl <| LX.pure (Y.pickF rfl hb105 rfl) rfl rfl rfl ?_
    exact LX.left ⟨rfl, rfl, rfl, rfl, rfl, rfl, trivial⟩
  refine LX.sub (l' := [(6, _), (7, _), (10, _), (501, _)]) ⟨rfl, rfl, rfl, rfl, trivial⟩ <| LX.next <| PX.thenN ?_
  refine CX.cond rfl (fun hb106 => ?_) (fun hb106 => ?_)
  · try simp at hb106
    refine CX.seq <| CX.region <| LX.pure (Y.move rfl) rfl rfl rfl <| LX.pure (Y.move rfl) rfl rfl rfl <| LX.sub (l' := [(6, _), (7, _), (503, _)]) ⟨rfl, rfl, rfl, trivial⟩ ?_
    apply LX.joinAnd 3 506 503 rfl
    · intro hb107
      refine LX.gT rfl rfl rfl hb107 (Y.move rfl) rfl rfl <| LX.gT rfl rfl rfl hb107 (Y.eqN rfl rfl) rfl rfl <| LX.pure (Y.pickT rfl hb107 rfl) rfl rfl rfl ?_
      exact LX.left ⟨rfl, rfl, rfl, rfl, trivial⟩
    · intro hb107
      refine LX.gF rfl rfl rfl hb107 rfl rfl <| LX.gF rfl rfl rfl hb107 rfl rfl <| LX.pure (Y.pickF rfl hb107 rfl) rfl rfl rfl ?_
      exact LX.left ⟨rfl, rfl, rfl, rfl, trivial⟩
    refine LX.pure (Y.move rfl) rfl rfl rfl <| LX.sub (l' := [(7, _), (507, _)]) ⟨rfl, rfl, trivial⟩ ?_
    apply LX.joinAnd 2 509 507 rfl
    · intro hb108
      refine LX.gT rfl rfl rfl hb108 (Y.move rfl) rfl rfl <| LX.pure (Y.pickT rfl hb108 rfl) rfl rfl rfl ?_
      exact LX.left ⟨rfl, rfl, rfl, trivial⟩
    · intro hb108
      refine LX.gF rfl rfl rfl hb108 rfl rfl <| LX.pure (Y.pickF rfl hb108 rfl) rfl rfl rfl ?_
      exact LX.left ⟨rfl, rfl, rfl, trivial⟩
    refine LX.pure (Y.assign rfl) rfl rfl rfl <| LX.sub (l' := [(4, _)]) ⟨rfl, trivial⟩ <| LX.next <| PX.thenN <| CX.ret <| PX.thenR <| PX.ret1 (by simp) Tryz.results34 rfl ?_
    exact fun w hw => ⟨_, rfl, (fun h9 => ⟨fun h8 => by omega, fun h8 => by omega⟩), hw.drop (List.nil_sublist _)⟩
  try simp at hb106
  refine CX.skip <| PX.thenN <| CX.seq <| CX.region <| LX.pure (Y.assign rfl) rfl rfl rfl <| LX.sub (l' := [(4, _)]) ⟨rfl, trivial⟩ <| LX.next <| PX.thenN <| CX.ret <| PX.ret1 (by simp) Tryz.results34 rfl ?_
  exact fun w hw => ⟨_, rfl, (fun h9 => ⟨fun h8 => by omega, fun h8 => by omega⟩), hw.drop (List.nil_sublist _)⟩
theorem shape_w {W : World → Prop} [Stab W] {al : Option Addr} (cl : Nat) {l : List Nd} (hB : ∀ (k : Nat) x, l[k]? = some x → x.kids.length ≤ 302 ∧ x.s.length ≤ 302) (h3 : l.length ≤ 302) {i : Nat} (hA : ∀ (k : Nat) x, k ≤ i → l[k]? = some x → ∀ q ∈ x.kids, 0 ≤ q ∧ q < (k : Int)) (hi : i < l.length)  (hl : ∀ w, W w → SlAt 5 ndA (Lies w w.heap.size) al l) : FnC Tryz.prog 34 #[.slice al l.length cl, .int .i64 (i : Int)] W (fun b : Bool => .bool b) (fun b w => ((b = true → ((l.getD i ⟨0, 0, 0, [], []⟩).op = 45 → 1 ≤ (l.getD i ⟨0, 0, 0, [], []⟩).kids.length) ∧ ((l.getD i ⟨0, 0, 0, [], []⟩).op = 44 → (l.getD i ⟨0, 0, 0, [], []⟩).kids.length = 3))) ∧ W w) := FnC.reO fun w hw => shape_0 cl hB h3 hA hi (hl w hw)
end Go.Proofs.YtickdimknfeddaaGreatDoor
