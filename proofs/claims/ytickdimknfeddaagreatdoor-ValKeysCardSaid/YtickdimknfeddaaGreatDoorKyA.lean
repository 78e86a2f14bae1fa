/-
  Proved here: numbers held against each other, and as texts.
-/
import Derived.Test.YtickdimknfeddaaGreatDoorKyT
import Derived.Test.YtickdimknfeddaaGreatDoorProg
set_option linter.unusedSimpArgs false
namespace Go.Proofs.YtickdimknfeddaaGreatDoor
open Go.SX Go.RowKit Go.Vo Go.Ky
namespace Ka
theorem en94 : Enters Tryz.prog 94 := Enters.of Tryz.func94 (by kernel_rfl) (by kernel_rfl)
theorem en96 : Enters Tryz.prog 96 := Enters.of Tryz.func96 (by kernel_rfl) (by kernel_rfl)
theorem en97 : Enters Tryz.prog 97 := Enters.of Tryz.func97 (by kernel_rfl) (by kernel_rfl)
theorem fo43_0 : FieldOff Tryz.prog 43 0 0 := fun b o w => by kernel_rfl
theorem fo43_1 : FieldOff Tryz.prog 43 1 1 := fun b o w => by kernel_rfl
theorem one4 : One Tryz.prog 4 := fun w => by kernel_rfl
theorem one41 : One Tryz.prog 41 := fun w => by kernel_rfl
theorem one5 : One Tryz.prog 5 := fun w => by kernel_rfl
theorem one76 : One Tryz.prog 76 := fun w => by kernel_rfl
theorem sz5 : SizeIs Tryz.prog 5 1 := fun w => by kernel_rfl
theorem sz76 : SizeIs Tryz.prog 76 1 := fun w => by kernel_rfl
theorem un3 : Tryz.prog.underlying 3 = some (.int .i64) := by kernel_rfl
theorem un4 : Tryz.prog.underlying 4 = some .bool := by kernel_rfl
theorem un41 : Tryz.prog.underlying 41 = some (.slice 76) := by kernel_rfl
theorem un5 : Tryz.prog.underlying 5 = some (.int .u8) := by kernel_rfl
theorem un57 : Tryz.prog.underlying 57 = some (.slice 5) := by kernel_rfl
theorem un76 : Tryz.prog.underlying 76 = some (.int .u32) := by kernel_rfl
theorem un9 : Tryz.prog.underlying 9 = some .string := by kernel_rfl
theorem el57 : Elem Tryz.prog 57 5 1 1 := Elem.of un57 (z := .int .u8 0) (by kernel_rfl) rfl
end Ka
theorem sign_c {w0 : World} {base : Nat} {fr : List It} (z : Int) : FnC Tryz.prog 96 #[.int .i64 z] (WA w0 base fr) (fun _ : Unit => .int .i64 (sg z)) (fun _ => WA w0 base fr) := by
  refine FnC.of_body (fn := Tryz.f96) [(0, _)] Tryz.func96 rfl Tryz.ntmps96 rfl ⟨rfl, trivial⟩ ?_
  refine CX.seq <| CX.region <| LX.pure (Y.assign rfl) rfl rfl rfl <| LX.sub (l' := [(0, _), (2, _)]) ⟨rfl, rfl, trivial⟩ <| LX.next <| PX.thenN <| CX.seq <| CX.block <| CX.seq <| CX.region <| LX.pure (Y.move rfl) rfl rfl rfl <| LX.pure (Y.ltI rfl rfl) rfl rfl rfl <| LX.pure (Y.assign rfl) rfl rfl rfl <| LX.sub (l' := [(0, _), (2, _), (3, _)]) ⟨rfl, rfl, rfl, trivial⟩ <| LX.next <| PX.thenN ?_
  refine CX.cond rfl (fun hb1 => ?_) (fun hb1 => ?_)
  · try simp at hb1
    refine CX.seq <| CX.region <| LX.pure (Y.assign rfl) rfl rfl rfl <| LX.sub (l' := [(2, _)]) ⟨rfl, trivial⟩ <| LX.next <| PX.thenN <| CX.ret <| PX.blockR <| PX.thenR <| PX.ret1 (by simp) Tryz.results96 rfl ?_
    exact fun w hw => ⟨(), by rw [sg_neg (by omega)], hw⟩
  try simp at hb1
  refine CX.seq <| CX.region <| LX.pure (Y.move rfl) rfl rfl rfl <| LX.pure (Y.gtI rfl rfl) rfl rfl rfl <| LX.pure (Y.assign rfl) rfl rfl rfl <| LX.sub (l' := [(2, _), (6, _)]) ⟨rfl, rfl, trivial⟩ <| LX.next <| PX.thenN ?_
  refine CX.cond rfl (fun hb2 => ?_) (fun hb2 => ?_)
  · try simp at hb2
    refine CX.seq <| CX.region <| LX.pure (Y.assign rfl) rfl rfl rfl <| LX.sub (l' := [(2, _)]) ⟨rfl, trivial⟩ <| LX.next <| PX.thenN <| CX.ret <| PX.blockR <| PX.thenR <| PX.ret1 (by simp) Tryz.results96 rfl ?_
    exact fun w hw => ⟨(), by rw [sg_pos (by omega)], hw⟩
  try simp at hb2
  refine CX.skip <| PX.blockN <| PX.thenN <| CX.seq <| CX.region <| LX.pure (Y.assign rfl) rfl rfl rfl <| LX.sub (l' := [(2, _)]) ⟨rfl, trivial⟩ <| LX.next <| PX.thenN <| CX.ret <| PX.ret1 (by simp) Tryz.results96 rfl ?_
  exact fun w hw => ⟨(), by unfold sg; rw [if_neg (by omega), if_neg (by omega)], hw⟩
theorem cmp_c {w0 : World} {base : Nat} {fr : List It} {av1 av2 : Option Addr} (c1 c2 : Nat) {xs ys : List Nat} (h1 : SlAt 1 digA (Lies w0 base) av1 xs) (h2 : SlAt 1 digA (Lies w0 base) av2 ys) (l1 : xs.length ≤ 80) (l2 : ys.length ≤ 80) (d1 : ∀ d ∈ xs, d < Go.Vo.B) (d2 : ∀ d ∈ ys, d < Go.Vo.B) :
    FnC Tryz.prog 97 #[.slice av1 xs.length c1, .slice av2 ys.length c2] (WA w0 base fr) (fun _ : Unit => .int .i64 (cmpD xs ys)) (fun _ => WA w0 base fr) := by
  refine FnC.of_body (fn := Tryz.f97) [(0, _), (1, _)] Tryz.func97 rfl Tryz.ntmps97 rfl ⟨rfl, rfl, trivial⟩ ?_
  refine CX.seq <| CX.region <| LX.pure (Y.assign rfl) rfl rfl rfl <| LX.sub (l' := [(0, _), (1, _), (4, _)]) ⟨rfl, rfl, rfl, trivial⟩ <| LX.next <| PX.thenN <| CX.seq <| CX.seq <| CX.region <| LX.pure (Y.move rfl) rfl rfl rfl <| LX.pure (Y.lenSl rfl Ka.un41 rfl) rfl rfl rfl <| LX.pure (Y.move rfl) rfl rfl rfl <| LX.pure (Y.lenSl rfl Ka.un41 rfl) rfl rfl rfl <| LX.pure (Y.neN rfl rfl) rfl rfl rfl <| LX.sub (l' := [(0, _), (1, _), (4, _), (10, _)]) ⟨rfl, rfl, rfl, rfl, trivial⟩ <| LX.next <| PX.thenN ?_
  refine CX.cond rfl (fun hb1 => ?_) (fun hb1 => ?_)
  · try simp at hb1
    refine CX.seq <| CX.region <| LX.pure (Y.move rfl) rfl rfl rfl <| LX.pure (Y.lenSl rfl Ka.un41 rfl) rfl rfl rfl <| LX.pure (Y.move rfl) rfl rfl rfl <| LX.pure (Y.lenSl rfl Ka.un41 rfl) rfl rfl rfl <| LX.pure (Y.sub rfl rfl (by omega)) rfl rfl rfl <| LX.pure (Y.assign rfl) rfl rfl rfl <| LX.sub (l' := [(0, _), (1, _), (4, _)]) ⟨rfl, rfl, rfl, trivial⟩ <| LX.next <| PX.thenN <| CX.ret <| PX.thenR <| PX.ret1 (by simp) Tryz.results97 rfl ?_
    exact fun w hw => ⟨(), by unfold cmpD; rw [if_neg (by simpa using hb1)], hw⟩
  try simp at hb1
  refine CX.skip <| PX.thenN <| CX.seq <| CX.seq <| CX.region <| LX.pure (Y.move rfl) rfl rfl rfl <| LX.pure (Y.lenSl rfl Ka.un41 rfl) rfl rfl rfl <| LX.pure (Y.sub rfl rfl (by omega)) rfl rfl rfl <| LX.pure (Y.assign rfl) rfl rfl rfl <| LX.sub (l' := [(0, _), (1, _), (4, _), (5, _)]) ⟨rfl, rfl, rfl, rfl, trivial⟩ <| LX.next <| PX.thenN <| CX.block <| CX.loop (fun k : Nat => [(0, .slice av1 xs.length c1), (1, .slice av2 ys.length c2), (5, .int .i64 ((k : Int) - 1))]) (fun (k : Nat) w => (k ≤ xs.length ∧ cmpTo xs ys k = cmpTo xs ys xs.length) ∧ WA w0 base fr w) (fun k => k) xs.length ⟨rfl, rfl, rfl, trivial⟩ (fun w hw => ⟨⟨Nat.le_refl _, rfl⟩, hw⟩) ?_
  intro k
  refine CX.have fun ⟨hk0, hkc⟩ => ?_
  try dsimp only at hk0 hkc ⊢
  refine CX.seq <| CX.seq <| CX.region <| LX.pure (Y.move rfl) rfl rfl rfl <| LX.pure (Y.geI rfl rfl) rfl rfl rfl <| LX.sub (l' := [(0, _), (1, _), (5, _), (20, _)]) ⟨rfl, rfl, rfl, rfl, trivial⟩ <| LX.next <| PX.thenN ?_
  refine CX.cond rfl (fun hb2 => ?_) (fun hb2 => ?_)
  · try simp at hb2
    obtain ⟨j, rfl⟩ : ∃ j, k = j + 1 := ⟨k - 1, by omega⟩
    have ej : (((j + 1 : Nat) : Int) - 1) = (j : Int) := by omega
    obtain ⟨a1, ha1, hL1⟩ := dig_at h1 (i := j) (by omega)
    obtain ⟨a2, ha2, hL2⟩ := dig_at h2 (i := j) (by omega)
    have hx9 : xs.getD j 0 < 1000000000 := getD_lt d1 j
    have hy9 : ys.getD j 0 < 1000000000 := getD_lt d2 j
    refine CX.skip <| PX.thenN <| CX.seq <| CX.block <| CX.seq <| CX.regionQ rfl (by kernel_rfl) <| LX.pure (Y.move rfl) rfl rfl rfl <| LX.pure (Y.move (v := .int .i64 (j : Int)) (congrArg (fun z => some (Value.int .i64 z)) ej)) rfl rfl rfl <| LX.pure (Y.idxZ Ka.un41 Ka.sz76 rfl rfl ha1 (j := j) rfl (by omega)) rfl rfl rfl <| LX.pure (Y.ldO1 Ka.one76 rfl hL1) rfl rfl rfl <| LX.pure (Y.move rfl) rfl rfl rfl <| LX.pure (Y.move (v := .int .i64 (j : Int)) (congrArg (fun z => some (Value.int .i64 z)) ej)) rfl rfl rfl <| LX.pure (Y.idxZ Ka.un41 Ka.sz76 rfl rfl ha2 (j := j) rfl (by omega)) rfl rfl rfl <| LX.pure (Y.ldO1 Ka.one76 rfl hL2) rfl rfl rfl <| LX.pure (Y.neN rfl rfl) rfl rfl rfl <| LX.sub (l' := [(0, _), (1, _), (5, _), (31, _)]) ⟨rfl, rfl, rfl, rfl, trivial⟩ <| LX.nextQ <| PX.thenN ?_
    refine CX.cond rfl (fun hb3 => ?_) (fun hb3 => ?_)
    · try simp at hb3
      refine CX.seq <| CX.regionQ rfl (by kernel_rfl) <| LX.pure (Y.move rfl) rfl rfl rfl <| LX.pure (Y.move (v := .int .i64 (j : Int)) (congrArg (fun z => some (Value.int .i64 z)) ej)) rfl rfl rfl <| LX.pure (Y.idxZ Ka.un41 Ka.sz76 rfl rfl ha1 (j := j) rfl (by omega)) rfl rfl rfl <| LX.pure (Y.ldO1 Ka.one76 rfl hL1) rfl rfl rfl <| LX.pure (Y.convN rfl Ka.un76 Ka.un3 (IntWalk.i64_in _ (by omega))) rfl rfl rfl <| LX.pure (Y.move rfl) rfl rfl rfl <| LX.pure (Y.move (v := .int .i64 (j : Int)) (congrArg (fun z => some (Value.int .i64 z)) ej)) rfl rfl rfl <| LX.pure (Y.idxZ Ka.un41 Ka.sz76 rfl rfl ha2 (j := j) rfl (by omega)) rfl rfl rfl <| LX.pure (Y.ldO1 Ka.one76 rfl hL2) rfl rfl rfl <| LX.pure (Y.convN rfl Ka.un76 Ka.un3 (IntWalk.i64_in _ (by omega))) rfl rfl rfl <| LX.pure (Y.sub rfl rfl (by omega)) rfl rfl rfl <| LX.pure (Y.assign rfl) rfl rfl rfl <| LX.sub (l' := [(0, _), (1, _), (4, _), (5, _)]) ⟨rfl, rfl, rfl, rfl, trivial⟩ <| LX.nextQ <| PX.thenN <| CX.ret <| PX.blockR <| PX.thenR <| PX.thenR <| PX.blockR <| PX.thenR <| PX.ret1 (by simp) Tryz.results97 rfl ?_
      exact fun w hw => ⟨(), by unfold cmpD; rw [if_pos (by omega), ← hkc, cmpTo, if_neg (by simpa using hb3)], hw⟩
    try simp at hb3
    refine CX.skip <| PX.blockN <| PX.thenN <| CX.region <| LX.pure (Y.move rfl) rfl rfl rfl <| LX.pure (Y.sub rfl rfl (by omega)) rfl rfl rfl <| LX.pure (Y.assign rfl) rfl rfl rfl <| LX.sub (l' := [(0, _), (1, _), (5, _)]) ⟨rfl, rfl, rfl, trivial⟩ <| LX.next ?_
    exact PX.again (μ := fun k => k) (i := j + 1) j (by omega) ⟨rfl, rfl, by show some (Value.int .i64 _) = some (Value.int .i64 _); congr 2; omega, trivial⟩ (fun w hw => ⟨⟨by omega, by rw [← hkc, cmpTo, if_pos (by simpa using hb3)]⟩, hw⟩)
  try simp at hb2
  have hke : k = 0 := by omega
  subst hke
  refine CX.exit <| PX.thenE <| PX.thenE <| PX.blockE <| PX.thenN <| CX.seq <| CX.region <| LX.pure (Y.assign rfl) rfl rfl rfl <| LX.sub (l' := [(4, _)]) ⟨rfl, trivial⟩ <| LX.next <| PX.thenN <| CX.ret <| PX.ret1 (by simp) Tryz.results97 rfl ?_
  exact fun w hw => ⟨(), by unfold cmpD; rw [if_pos (by omega), ← hkc]; rfl, hw⟩
theorem Cmp_0 {w0 : World} {base : Nat} {fr : List It} {av1 av2 : Option Addr} (c1 c2 : Nat) (p q : Bool) {x y : Nat} (h1 : SlAt 1 digA (Lies w0 base) av1 (digs x)) (h2 : SlAt 1 digA (Lies w0 base) av2 (digs y)) (s1 : (digs x).length ≤ 80) (s2 : (digs y).length ≤ 80) :
    FnC Tryz.prog 55 #[.agg #[.bool p, .slice av1 (digs x).length c1], .agg #[.bool q, .slice av2 (digs y).length c2]] (WA w0 base fr) (fun _ : Unit => .int .i64 (if p ≠ q then (if p then -1 else 1) else if p then sg (cmpD (digs y) (digs x)) else sg (cmpD (digs x) (digs y)))) (fun _ => WA w0 base fr) := by
  refine FnC.of_body (fn := Tryz.f55) [(0, _), (1, _)] Tryz.func55 rfl Tryz.ntmps55 rfl ⟨rfl, rfl, trivial⟩ ?_
  refine CX.seq <| CX.region <| LX.box rfl rfl rfl rfl rfl ?_
  intro bx0
  refine LX.box rfl rfl rfl rfl rfl ?_
  intro bx1
  refine LX.pure (Y.assign rfl) rfl rfl rfl <| LX.sub (l' := [(2, _), (3, _), (4, _)]) ⟨rfl, rfl, rfl, trivial⟩ <| LX.next <| PX.thenN <| CX.seq <| CX.block <| CX.seq <| CX.region <| LX.pure (Y.fieldAddr0 Ka.fo43_0 rfl) rfl rfl rfl <| LX.pure (Y.ldB 1 Ka.one4 rfl rfl rfl) rfl rfl rfl <| LX.pure (Y.fieldAddr0 Ka.fo43_0 rfl) rfl rfl rfl <| LX.pure (Y.ldB 0 Ka.one4 rfl rfl rfl) rfl rfl rfl <| LX.pure (Y.neB rfl rfl Ka.un4) rfl rfl rfl <| LX.pure (Y.move rfl) rfl rfl rfl <| LX.sub (l' := [(2, _), (3, _), (4, _), (11, _)]) ⟨rfl, rfl, rfl, rfl, trivial⟩ ?_
  apply LX.joinAnd 3 14 11 rfl
  · intro hb1
    refine LX.gT rfl rfl rfl hb1 (Y.fieldAddr0 Ka.fo43_0 rfl) rfl rfl <| LX.gT rfl rfl rfl hb1 (Y.ldB 1 Ka.one4 rfl rfl rfl) rfl rfl <| LX.pure (Y.pickT rfl hb1 rfl) rfl rfl rfl ?_
    exact LX.left ⟨rfl, rfl, rfl, rfl, rfl, trivial⟩
  · intro hb1
    refine LX.gF rfl rfl rfl hb1 rfl rfl <| LX.gF rfl rfl rfl hb1 rfl rfl <| LX.pure (Y.pickF rfl hb1 rfl) rfl rfl rfl ?_
    exact LX.left ⟨rfl, rfl, rfl, rfl, rfl, trivial⟩
  refine LX.pure (Y.assign rfl) rfl rfl rfl <| LX.sub (l' := [(2, _), (3, _), (4, _), (5, _)]) ⟨rfl, rfl, rfl, rfl, trivial⟩ <| LX.next <| PX.thenN ?_
  refine CX.cond rfl (fun hb2 => ?_) (fun hb2 => ?_)
  · try simp at hb2
    refine CX.seq <| CX.region <| LX.pure (Y.assign rfl) rfl rfl rfl <| LX.sub (l' := [(2, _), (3, _), (4, _)]) ⟨rfl, rfl, rfl, trivial⟩ <| LX.next <| PX.thenN <| CX.ret <| PX.blockR <| PX.thenR <| PX.ret1 (by simp) Tryz.results55 rfl ?_
    exact fun w hw => ⟨(), by cases p <;> cases q <;> simp_all, hw.drop (((List.Sublist.refl fr).cons _).cons _)⟩
  try simp at hb2
  refine CX.seq <| CX.region <| LX.pure (Y.fieldAddr0 Ka.fo43_0 rfl) rfl rfl rfl <| LX.pure (Y.ldB 1 Ka.one4 rfl rfl rfl) rfl rfl rfl <| LX.pure (Y.fieldAddr0 Ka.fo43_0 rfl) rfl rfl rfl <| LX.pure (Y.ldB 0 Ka.one4 rfl rfl rfl) rfl rfl rfl <| LX.pure (Y.neB rfl rfl Ka.un4) rfl rfl rfl <| LX.pure (Y.assign rfl) rfl rfl rfl <| LX.sub (l' := [(2, _), (3, _), (4, _), (15, _)]) ⟨rfl, rfl, rfl, rfl, trivial⟩ <| LX.next <| PX.thenN ?_
  refine CX.cond rfl (fun hb3 => ?_) (fun hb3 => ?_)
  · try simp at hb3
    refine CX.seq <| CX.region <| LX.pure (Y.assign rfl) rfl rfl rfl <| LX.sub (l' := [(2, _), (3, _), (4, _)]) ⟨rfl, rfl, rfl, trivial⟩ <| LX.next <| PX.thenN <| CX.ret <| PX.blockR <| PX.thenR <| PX.ret1 (by simp) Tryz.results55 rfl ?_
    exact fun w hw => ⟨(), by cases p <;> cases q <;> simp_all, hw.drop (((List.Sublist.refl fr).cons _).cons _)⟩
  try simp at hb3
  refine CX.seq <| CX.region <| LX.pure (Y.fieldAddr0 Ka.fo43_0 rfl) rfl rfl rfl <| LX.pure (Y.ldB 1 Ka.one4 rfl rfl rfl) rfl rfl rfl <| LX.pure (Y.assign rfl) rfl rfl rfl <| LX.sub (l' := [(2, _), (3, _), (4, _), (21, _)]) ⟨rfl, rfl, rfl, rfl, trivial⟩ <| LX.next <| PX.thenN ?_
  refine CX.cond rfl (fun hb4 => ?_) (fun hb4 => ?_)
  · try simp at hb4
    refine CX.seq <| CX.region <| LX.pure (Y.fieldAddr0 Ka.fo43_1 rfl) rfl rfl rfl <| LX.pure (Y.ldB 0 Ka.one41 rfl rfl rfl) rfl rfl rfl <| LX.pure (Y.fieldAddr0 Ka.fo43_1 rfl) rfl rfl rfl <| LX.pure (Y.ldB 1 Ka.one41 rfl rfl rfl) rfl rfl rfl <| LX.call (cmp_c c2 c1 h2 h1 s2 s1 (digs_lt _) (digs_lt _)) Ka.en97 rfl rfl rfl rfl rfl ?_
    intro _
    refine LX.call (sign_c _) Ka.en96 rfl rfl rfl rfl rfl ?_
    intro _
    refine LX.pure (Y.assign rfl) rfl rfl rfl <| LX.sub (l' := [(2, _), (3, _), (4, _)]) ⟨rfl, rfl, rfl, trivial⟩ <| LX.next <| PX.thenN <| CX.ret <| PX.blockR <| PX.thenR <| PX.ret1 (by simp) Tryz.results55 rfl ?_
    exact fun w hw => ⟨(), by cases p <;> cases q <;> simp_all, hw.drop (((List.Sublist.refl fr).cons _).cons _)⟩
  try simp at hb4
  refine CX.skip <| PX.blockN <| PX.thenN <| CX.seq <| CX.region <| LX.pure (Y.fieldAddr0 Ka.fo43_1 rfl) rfl rfl rfl <| LX.pure (Y.ldB 1 Ka.one41 rfl rfl rfl) rfl rfl rfl <| LX.pure (Y.fieldAddr0 Ka.fo43_1 rfl) rfl rfl rfl <| LX.pure (Y.ldB 0 Ka.one41 rfl rfl rfl) rfl rfl rfl <| LX.call (cmp_c c1 c2 h1 h2 s1 s2 (digs_lt _) (digs_lt _)) Ka.en97 rfl rfl rfl rfl rfl ?_
  intro _
  refine LX.call (sign_c _) Ka.en96 rfl rfl rfl rfl rfl ?_
  intro _
  refine LX.pure (Y.assign rfl) rfl rfl rfl <| LX.sub (l' := [(4, _)]) ⟨rfl, trivial⟩ <| LX.next <| PX.thenN <| CX.ret <| PX.ret1 (by simp) Tryz.results55 rfl ?_
  exact fun w hw => ⟨(), by cases p <;> cases q <;> simp_all, hw.drop (((List.Sublist.refl fr).cons _).cons _)⟩
theorem Cmp_c {w0 : World} {base : Nat} {fr : List It} {x y : Int} {u v : Value} (hx : NumM (Lies w0 base) x u) (hy : NumM (Lies w0 base) y v) : FnC Tryz.prog 55 #[u, v] (WA w0 base fr) (fun _ : Unit => .int .i64 (cmp3 x y)) (fun _ => WA w0 base fr) := by
  obtain ⟨⟨g1, c1, rfl, h1⟩, s1⟩ := hx
  obtain ⟨⟨g2, c2, rfl, h2⟩, s2⟩ := hy
  have h := Cmp_0 (fr := fr) ((digs x.natAbs).length + c1) ((digs y.natAbs).length + c2) (decide (x < 0)) (decide (y < 0)) h1 h2 s1 s2
  have e := cmpC_eq x y
  unfold cmpC at e
  rw [← e]
  simpa using h
theorem rev_c {w0 : World} {base : Nat} {fr : List It} {g : Option Nat} {c : Nat} {bs : List UInt8} (h1 : 1 ≤ bs.length) (h9 : bs.length ≤ 1000) : FnC Tryz.prog 94 #[rv g bs.length c] (WA w0 base (.row g c (bs).length 5 1 ((bs).map b8) :: fr)) (fun _ : Unit => .tuple #[]) (fun _ => WA w0 base (.row g c bs.length 5 1 (bs.reverse.map b8) :: fr)) := by
  refine FnC.of_body (fn := Tryz.f94) [(0, _)] Tryz.func94 rfl Tryz.ntmps94 rfl ⟨rfl, trivial⟩ ?_
  refine CX.seq <| CX.region <| LX.pure (Y.move rfl) rfl rfl rfl <| LX.pure (Y.lenSl rfl Ka.un57 rfl) rfl rfl rfl <| LX.pure (Y.subN (a := bs.length) (b := 1) rfl rfl (by omega) (by omega)) rfl rfl rfl <| LX.pure (Y.assign rfl) rfl rfl rfl <| LX.pure (Y.assign rfl) rfl rfl rfl <| LX.sub (l' := [(0, _), (2, _), (3, _)]) ⟨rfl, rfl, rfl, trivial⟩ <| LX.next <| PX.thenN <| CX.block <| CX.loop (fun i : Nat => [(0, rv g bs.length c), (2, .int .i64 (i : Int)), (3, .int .i64 ((bs.length - 1 - i : Nat) : Int))]) (fun (i : Nat) w => 2 * i ≤ bs.length ∧ WA w0 base (.row g c bs.length 5 1 ((swp bs.length i bs).map b8) :: fr) w) (fun i => bs.length - i) 0 ⟨rfl, rfl, rfl, trivial⟩ (fun w hw => ⟨Nat.zero_le _, hw⟩) ?_
  intro i
  refine CX.have fun hi0 => ?_
  try dsimp only at hi0 ⊢
  refine CX.seq <| CX.seq <| CX.region <| LX.pure (Y.move rfl) rfl rfl rfl <| LX.pure (Y.move rfl) rfl rfl rfl <| LX.pure (Y.ltN rfl rfl) rfl rfl rfl <| LX.sub (l' := [(0, _), (2, _), (3, _), (9, _)]) ⟨rfl, rfl, rfl, rfl, trivial⟩ <| LX.next <| PX.thenN ?_
  refine CX.cond rfl (fun hb1 => ?_) (fun hb1 => ?_)
  · try simp at hb1
    refine CX.skip <| PX.thenN <| CX.seq <| CX.block <| CX.regionM [(0, .anywhere), (1, .anywhere), (2, .anywhere), (3, .anywhere), (4, .anywhere), (5, .anywhere), (6, .held), (7, .held), (8, .anywhere), (9, .anywhere), (10, .held), (11, .held), (12, .held), (13, .alone), (14, .alone), (15, .alone)] rfl (by kernel_rfl) <| MX.lift0 (i := 0) rfl (Y.move rfl) rfl rfl rfl <| MX.lift0 (i := 1) rfl (Y.move rfl) rfl rfl rfl <| MX.lift0 (i := 2) rfl (Y.move rfl) rfl rfl rfl <| MX.lift0 (i := 3) rfl (Y.move rfl) rfl rfl rfl <| MX.lift0 (i := 4) rfl (Y.move rfl) rfl rfl rfl <| MX.lift0 (i := 5) rfl (Y.move rfl) rfl rfl rfl <| MX.lift1 (i := 6) (pend' := []) rfl (fun w hw => by exact hw) (Y.idxR1 0 Ka.un57 Ka.sz5 rfl rfl rfl (by omega)) rfl rfl rfl (by kernel_rfl) <| MX.lift1 (i := 7) (pend' := []) rfl (fun w hw => by exact hw) (Y.ldR 0 (v := b8 ((swp bs.length i bs).getD (bs.length - 1 - i) 0)) Ka.one5 rfl rfl (b8_at (by rw [swp_len]; omega))) rfl rfl rfl (by kernel_rfl) <| MX.lift0 (i := 8) rfl (Y.move rfl) rfl rfl rfl <| MX.lift0 (i := 9) rfl (Y.move rfl) rfl rfl rfl <| MX.lift1 (i := 10) (pend' := [7]) rfl (fun w hw => by exact hw) (Y.idxR1 0 Ka.un57 Ka.sz5 rfl rfl rfl (by omega)) rfl rfl rfl (by kernel_rfl) <| MX.lift1 (i := 11) (pend' := [7]) rfl (fun w hw => by exact hw) (Y.ldR 0 (v := b8 ((swp bs.length i bs).getD i 0)) Ka.one5 rfl rfl (b8_at (by rw [swp_len]; omega))) rfl rfl rfl (by kernel_rfl) <| MX.lift1 (i := 12) (pend' := []) rfl (fun w hw => by exact hw) (Y.idxR1 0 Ka.un57 Ka.sz5 rfl rfl rfl (by omega)) rfl rfl rfl (by kernel_rfl) <| MX.force (i := 13) rfl <| LX.storeR 0 (off := i) Ka.sz5 rfl rfl rfl rfl rfl (by rw [List.length_map, swp_len]; omega) rfl rfl <| LX.nextM [] (by kernel_rfl) (fun h => absurd rfl h) <| MX.force (i := 14) rfl <| LX.pure (Y.idxR1 0 Ka.un57 Ka.sz5 rfl rfl rfl (by omega)) rfl rfl rfl <| LX.nextM [] (by kernel_rfl) (fun h => absurd rfl h) <| MX.force (i := 15) rfl <| LX.storeR 0 (off := bs.length - 1 - i) Ka.sz5 rfl rfl rfl rfl rfl (by rw [List.length_set, List.length_map, swp_len]; omega) rfl rfl <| LX.nextM [] (by kernel_rfl) (fun h => absurd rfl h) <| MX.sub (l' := [(0, _), (2, _), (3, _)]) ⟨rfl, rfl, rfl, trivial⟩ <| MX.done <| PX.blockN <| PX.thenN <| CX.region <| LX.pure (Y.move rfl) rfl rfl rfl <| LX.pure (Y.addN rfl rfl (by (simp only []; omega))) rfl rfl rfl <| LX.pure (Y.move rfl) rfl rfl rfl <| LX.pure (Y.subN (a := bs.length - 1 - i) (b := 1) rfl rfl (by omega) (by omega)) rfl rfl rfl <| LX.pure (Y.assign rfl) rfl rfl rfl <| LX.pure (Y.assign rfl) rfl rfl rfl <| LX.sub (l' := [(0, _), (2, _), (3, _)]) ⟨rfl, rfl, rfl, trivial⟩ <| LX.next ?_
    exact PX.again (μ := fun i => bs.length - i) (i := i) (i + 1) (by show bs.length - (i + 1) < bs.length - i; omega) ⟨rfl, rfl, by dsimp only; rw [show bs.length - 1 - (i + 1) = bs.length - 1 - i - 1 by omega]; rfl, trivial⟩ (fun w hw => ⟨by show 2 * (i + 1) ≤ bs.length; omega, by simpa [swp, List.map_set] using hw⟩)
  try simp at hb1
  have hie : i = bs.length / 2 := by omega
  subst hie
  refine CX.exit <| PX.thenE <| PX.thenE <| PX.blockE <| PX.ret0 (by simp) Tryz.results94 ?_
  exact fun w hw => ⟨(), rfl, by rw [← turned_rev]; exact hw⟩
theorem text_0 {w0 : World} {base : Nat} {fr : List It} {b : Bool} {av : Option Addr} {c : Nat} : FnC Tryz.prog 52 #[.agg #[.bool b, .slice av 0 c]] (WA w0 base fr) (fun _ : Unit => str [48]) (fun _ => WA w0 base fr) := by
  refine FnC.of_body (fn := Tryz.f52) [(0, _)] Tryz.func52 rfl Tryz.ntmps52 rfl ⟨rfl, trivial⟩ ?_
  refine CX.seq <| CX.region <| LX.box rfl rfl rfl rfl rfl ?_
  intro bx0
  refine LX.pure (Y.assign rfl) rfl rfl rfl <| LX.sub (l' := [(1, _), (2, _)]) ⟨rfl, rfl, trivial⟩ <| LX.next <| PX.thenN <| CX.seq <| CX.seq <| CX.region <| LX.pure (Y.fieldAddr0 Ka.fo43_1 rfl) rfl rfl rfl <| LX.pure (Y.ldB 0 Ka.one41 rfl rfl rfl) rfl rfl rfl <| LX.pure (Y.lenSl rfl Ka.un41 rfl) rfl rfl rfl <| LX.pure (Y.eqN rfl rfl) rfl rfl rfl <| LX.sub (l' := [(1, _), (2, _), (10, _)]) ⟨rfl, rfl, rfl, trivial⟩ <| LX.next <| PX.thenN ?_
  refine CX.cond rfl (fun hb1 => ?_) (fun hb1 => ?_)
  · try simp at hb1
    refine CX.seq <| CX.region <| LX.pure (Y.assign rfl) rfl rfl rfl <| LX.sub (l' := [(1, _), (2, _)]) ⟨rfl, rfl, trivial⟩ <| LX.next <| PX.thenN <| CX.ret <| PX.thenR <| PX.ret1 (by simp) Tryz.results52 rfl ?_
    exact fun w hw => ⟨(), rfl, hw.drop (List.sublist_cons_self _ _)⟩
  try simp at hb1
  done
theorem text_1 {w0 : World} {base : Nat} {fr : List It} {z : Int} {av : Option Addr} {c : Nat} (h1 : SlAt 1 digA (Lies w0 base) av (digs z.natAbs)) (h80 : (digs z.natAbs).length ≤ 80) (h0 : 0 < (digs z.natAbs).length) (hz : z < 0) : FnC Tryz.prog 52 #[.agg #[.bool (decide (z < 0)), .slice av (digs z.natAbs).length c]] (WA w0 base fr) (fun _ : Unit => str ((px (digs z.natAbs) (digs z.natAbs).length ++ [45]).reverse)) (fun _ => WA w0 base fr) := by
  refine FnC.of_body (fn := Tryz.f52) [(0, _)] Tryz.func52 rfl Tryz.ntmps52 rfl ⟨rfl, trivial⟩ ?_
  refine CX.seq <| CX.region <| LX.box rfl rfl rfl rfl rfl ?_
  intro bx0
  refine LX.pure (Y.assign rfl) rfl rfl rfl <| LX.sub (l' := [(1, _), (2, _)]) ⟨rfl, rfl, trivial⟩ <| LX.next <| PX.thenN <| CX.seq <| CX.seq <| CX.region <| LX.pure (Y.fieldAddr0 Ka.fo43_1 rfl) rfl rfl rfl <| LX.pure (Y.ldB 0 Ka.one41 rfl rfl rfl) rfl rfl rfl <| LX.pure (Y.lenSl rfl Ka.un41 rfl) rfl rfl rfl <| LX.pure (Y.eqN rfl rfl) rfl rfl rfl <| LX.sub (l' := [(1, _), (2, _), (10, _)]) ⟨rfl, rfl, rfl, trivial⟩ <| LX.next <| PX.thenN ?_
  refine CX.cond rfl (fun hb1 => ?_) (fun hb1 => ?_)
  · try simp at hb1
    (exfalso; simp_all; done)
  try simp at hb1
  refine CX.skip <| PX.thenN <| CX.seq <| CX.region <| LX.pure (Y.assign rfl) rfl rfl rfl <| LX.sub (l' := [(1, _), (2, _), (3, _)]) ⟨rfl, rfl, rfl, trivial⟩ <| LX.next <| PX.thenN <| CX.seq <| CX.seq <| CX.region <| LX.pure (Y.fieldAddr0 Ka.fo43_1 rfl) rfl rfl rfl <| LX.pure (Y.ldB 0 Ka.one41 rfl rfl rfl) rfl rfl rfl <| LX.pure (Y.lenSl rfl Ka.un41 rfl) rfl rfl rfl <| LX.pure (Y.move rfl) rfl rfl rfl <| LX.sub (l' := [(1, _), (2, _), (3, _), (12, _), (13, _), (14, _)]) ⟨rfl, rfl, rfl, rfl, rfl, rfl, trivial⟩ <| LX.next <| PX.thenN <| CX.block <| CX.loop (fun s : Nat × Option Nat × Nat => [(1, .pointer (some ⟨bx0, 0, none⟩)), (3, rv s.2.1 (px (digs z.natAbs) s.1).length s.2.2), (12, .slice av (digs z.natAbs).length c), (13, .int .i64 ((digs z.natAbs).length : Int)), (14, .int .i64 (s.1 : Int))]) (fun (s : Nat × Option Nat × Nat) w => s.1 ≤ (digs z.natAbs).length ∧ WA w0 base (.row s.2.1 s.2.2 (px (digs z.natAbs) s.1).length 5 1 ((px (digs z.natAbs) s.1).map b8) :: blk bx0 [.bool (decide (z < 0)), .slice av (digs z.natAbs).length c] 43 :: fr) w) (fun s => (digs z.natAbs).length - s.1) (0, none, 0) ⟨rfl, by dsimp only; rw [px_0]; rfl, rfl, rfl, rfl, trivial⟩ (fun w hw => ⟨Nat.zero_le _, by dsimp only; rw [px_0]; exact hw.nilRow 5 1⟩) ?_
  rintro ⟨i, g, cg⟩
  refine CX.have fun hi0 => ?_
  try dsimp only at hi0 ⊢
  refine CX.seq <| CX.region <| LX.pure (Y.ltN rfl rfl) rfl rfl rfl <| LX.sub (l' := [(1, _), (3, _), (12, _), (13, _), (14, _), (15, _)]) ⟨rfl, rfl, rfl, rfl, rfl, rfl, trivial⟩ <| LX.next <| PX.thenN <| CX.seq ?_
  refine CX.cond rfl (fun hb2 => ?_) (fun hb2 => ?_)
  · try simp at hb2
    have hi1 : i < (digs z.natAbs).length := by omega
    obtain ⟨a1, ha1, hL1⟩ := dig_at h1 hi1
    obtain ⟨d, hd⟩ : ∃ d, (digs z.natAbs).getD i 0 = d := ⟨_, rfl⟩
    have hdg : (digs z.natAbs)[i]? = some d := by rw [← hd, List.getD_eq_getElem?_getD, List.getElem?_eq_getElem hi1]; rfl
    have hdB : d < 1000000000 := digs_lt _ _ (List.mem_of_getElem? hdg)
    have hdp : i + 1 = (digs z.natAbs).length → 0 < d := fun h => by
      have h2 := digs_top z.natAbs (by omega)
      rw [show (digs z.natAbs).length - 1 = i by omega, hd] at h2
      omega
    rw [hd] at hL1
    have hpl := px_len (digs z.natAbs) (digs_lt _) i (by omega)
    refine CX.skip <| PX.thenN <| CX.seq <| CX.block <| CX.seq <| CX.region <| LX.pure (Y.move rfl) rfl rfl rfl <| LX.pure (Y.idxZ Ka.un41 Ka.sz76 rfl rfl ha1 (j := i) rfl hi1) rfl rfl rfl <| LX.pure (Y.ldO1 Ka.one76 rfl hL1) rfl rfl rfl <| LX.pure (Y.assign rfl) rfl rfl rfl <| LX.pure (Y.assign rfl) rfl rfl rfl <| LX.sub (l' := [(1, _), (3, _), (4, _), (5, _), (12, _), (13, _), (14, _)]) ⟨rfl, rfl, rfl, rfl, rfl, rfl, rfl, trivial⟩ <| LX.next <| PX.thenN <| CX.seq <| CX.region <| LX.pure (Y.assign rfl) rfl rfl rfl <| LX.sub (l' := [(1, _), (3, _), (4, _), (5, _), (6, _), (12, _), (13, _), (14, _)]) ⟨rfl, rfl, rfl, rfl, rfl, rfl, rfl, rfl, trivial⟩ <| LX.next <| PX.thenN <| CX.block <| CX.loop (fun s : Nat × Option Nat × Nat => [(1, .pointer (some ⟨bx0, 0, none⟩)), (3, rv s.2.1 (px (digs z.natAbs) i ++ lowk s.1 d).length s.2.2), (4, .int .i64 (i : Int)), (5, .int .u32 ((d / 10 ^ s.1 : Nat) : Int)), (6, .int .i64 (s.1 : Int)), (12, .slice av (digs z.natAbs).length c), (13, .int .i64 ((digs z.natAbs).length : Int)), (14, .int .i64 (i : Int))]) (fun (s : Nat × Option Nat × Nat) w => (s.1 ≤ 9 ∧ (i + 1 = (digs z.natAbs).length → lowk s.1 d ++ tl (d / 10 ^ s.1) = revD d)) ∧ WA w0 base (.row s.2.1 s.2.2 (px (digs z.natAbs) i ++ lowk s.1 d).length 5 1 ((px (digs z.natAbs) i ++ lowk s.1 d).map b8) :: blk bx0 [.bool (decide (z < 0)), .slice av (digs z.natAbs).length c] 43 :: fr) w) (fun s => 9 - s.1) (0, g, cg) ⟨rfl, by simp [lowk]; rfl, rfl, by simp; rfl, rfl, rfl, rfl, rfl, trivial⟩ (fun w hw => ⟨⟨Nat.zero_le _, fun h => by have := hdp h; unfold tl; rw [Nat.pow_zero, Nat.div_one, if_neg (by omega)]; rfl⟩, by simpa [lowk] using hw⟩) ?_
    rintro ⟨k, g2, c2⟩
    refine CX.have fun ⟨hk0, hkl⟩ => ?_
    try dsimp only at hk0 hkl ⊢
    have hcl : (px (digs z.natAbs) i ++ lowk k d).length ≤ 9 * i + 9 := by rw [List.length_append, lowk_len]; omega
    have hdk : d / 10 ^ k ≤ d := Nat.div_le_self _ _
    refine CX.seq <| CX.seq <| CX.region <| LX.pure (Y.move rfl) rfl rfl rfl <| LX.pure (Y.ltN rfl rfl) rfl rfl rfl <| LX.pure (Y.move rfl) rfl rfl rfl <| LX.sub (l' := [(1, _), (3, _), (4, _), (5, _), (6, _), (12, _), (13, _), (14, _), (21, _)]) ⟨rfl, rfl, rfl, rfl, rfl, rfl, rfl, rfl, rfl, trivial⟩ ?_
    apply LX.joinAnd 11 32 21 rfl
    · intro hb3
      have hb3p := hb3
      try simp at hb3p
      refine LX.gT rfl rfl rfl hb3 (Y.move rfl) rfl rfl <| LX.gT rfl rfl rfl hb3 (Y.fieldAddr0 Ka.fo43_1 rfl) rfl rfl <| LX.gT rfl rfl rfl hb3 (Y.ldB 1 Ka.one41 rfl rfl rfl) rfl rfl <| LX.gT rfl rfl rfl hb3 (Y.lenSl rfl Ka.un41 rfl) rfl rfl <| LX.gT rfl rfl rfl hb3 (Y.subN (a := (digs z.natAbs).length) (b := 1) rfl rfl (by omega) (by omega)) rfl rfl <| LX.gT rfl rfl rfl hb3 (Y.ltN rfl rfl) rfl rfl <| LX.gT rfl rfl rfl hb3 (Y.move rfl) rfl rfl <| LX.sub (l' := [(1, _), (3, _), (4, _), (5, _), (6, _), (12, _), (13, _), (14, _), (21, _), (28, _)]) ⟨rfl, rfl, rfl, rfl, rfl, rfl, rfl, rfl, rfl, rfl, trivial⟩ ?_
      apply LX.joinOr 3 31 28 rfl
      · intro hb4
        refine LX.gF rfl rfl rfl hb4 rfl rfl <| LX.gF rfl rfl rfl hb4 rfl rfl <| LX.gT rfl rfl rfl hb3 (Y.pickT rfl hb4 rfl) rfl rfl ?_
        exact LX.left ⟨rfl, rfl, rfl, rfl, rfl, rfl, rfl, rfl, rfl, rfl, rfl, trivial⟩
      · intro hb4
        refine LX.gT rfl rfl rfl hb4 (Y.move rfl) rfl rfl <| LX.gT rfl rfl rfl hb4 (Y.gtN rfl rfl) rfl rfl <| LX.gT rfl rfl rfl hb3 (Y.pickF rfl hb4 rfl) rfl rfl ?_
        exact LX.left ⟨rfl, rfl, rfl, rfl, rfl, rfl, rfl, rfl, rfl, rfl, rfl, trivial⟩
      refine LX.pure (Y.pickT rfl hb3 rfl) rfl rfl rfl ?_
      exact LX.left ⟨rfl, rfl, rfl, rfl, rfl, rfl, rfl, rfl, rfl, rfl, trivial⟩
    · intro hb3
      refine LX.gF rfl rfl rfl hb3 rfl rfl <| LX.gF rfl rfl rfl hb3 rfl rfl <| LX.gF rfl rfl rfl hb3 rfl rfl <| LX.gF rfl rfl rfl hb3 rfl rfl <| LX.gF rfl rfl rfl hb3 rfl rfl <| LX.gF rfl rfl rfl hb3 rfl rfl <| LX.gF rfl rfl rfl hb3 rfl rfl <| LX.gU rfl rfl rfl rfl rfl <| LX.gU rfl rfl rfl rfl rfl <| LX.gF rfl rfl rfl hb3 rfl rfl <| LX.pure (Y.pickF rfl hb3 rfl) rfl rfl rfl ?_
      exact LX.left ⟨rfl, rfl, rfl, rfl, rfl, rfl, rfl, rfl, rfl, rfl, trivial⟩
    refine LX.sub (l' := [(1, _), (3, _), (4, _), (5, _), (6, _), (12, _), (13, _), (14, _), (32, _)]) ⟨rfl, rfl, rfl, rfl, rfl, rfl, rfl, rfl, rfl, trivial⟩ <| LX.next <| PX.thenN ?_
    refine CX.cond rfl (fun hb5 => ?_) (fun hb5 => ?_)
    · try simp at hb5
      have hk9 : k < 9 := by omega
      have hbk : i + 1 = (digs z.natAbs).length → 0 < d / 10 ^ k := fun h => by (simp_all; omega)
      refine CX.skip <| PX.thenN <| CX.seq <| CX.block <| CX.seq <| CX.region <| LX.pure (Y.move rfl) rfl rfl rfl <| LX.pure (Y.move rfl) rfl rfl rfl <| LX.pure (Y.remK (a := d / 10 ^ k) (b := 10) rfl rfl (by decide)) rfl rfl rfl <| LX.pure (Y.addK (a := 48) (b := d / 10 ^ k % 10) rfl rfl (wrap_u32 (by omega))) rfl rfl rfl <| LX.pure (Y.convN rfl Ka.un76 Ka.un5 (wrap_u8 (by omega))) rfl rfl rfl <| LX.buildSlice (e := 5) (size := 1) rfl rfl (fun _ => by kernel_rfl) rfl (by decide) rfl rfl rfl ?_
      intro gt39
      refine LX.appendT 0 Ka.el57 rfl rfl rfl rfl rfl rfl rfl (by omega) (by omega) rfl rfl rfl ?_
      intro g' cap'
      refine LX.pure (Y.assign rfl) rfl rfl rfl <| LX.sub (l' := [(1, _), (3, _), (4, _), (5, _), (6, _), (12, _), (13, _), (14, _)]) ⟨rfl, rfl, rfl, rfl, rfl, rfl, rfl, rfl, trivial⟩ <| LX.next <| PX.thenN <| CX.region <| LX.pure (Y.move rfl) rfl rfl rfl <| LX.pure (Y.quoK (a := d / 10 ^ k) (b := 10) rfl rfl (by decide) (wrap_u32 (by omega))) rfl rfl rfl <| LX.pure (Y.assign rfl) rfl rfl rfl <| LX.sub (l' := [(1, _), (3, _), (4, _), (5, _), (6, _), (12, _), (13, _), (14, _)]) ⟨rfl, rfl, rfl, rfl, rfl, rfl, rfl, rfl, trivial⟩ <| LX.next <| PX.blockN <| PX.thenN <| CX.region <| LX.pure (Y.move rfl) rfl rfl rfl <| LX.pure (Y.addN rfl rfl (by (simp only []; omega))) rfl rfl rfl <| LX.pure (Y.assign rfl) rfl rfl rfl <| LX.sub (l' := [(1, _), (3, _), (4, _), (5, _), (6, _), (12, _), (13, _), (14, _)]) ⟨rfl, rfl, rfl, rfl, rfl, rfl, rfl, rfl, trivial⟩ <| LX.next ?_
      have hsn := lowk_snoc k d
      exact PX.again (μ := fun s => 9 - s.1) (i := (k, g2, c2)) (k + 1, g', cap') (by show 9 - (k + 1) < 9 - k; omega) ⟨rfl, congrArg (fun n => some (rv g' n cap')) (by simp only [hsn, List.length_append, List.length_singleton]; omega), rfl, by dsimp only; rw [Nat.pow_succ, ← Nat.div_div_eq_div_mul]; rfl, rfl, rfl, rfl, rfl, trivial⟩ (fun w hw => ⟨⟨by show k + 1 ≤ 9; omega, fun h => by rw [hsn, ← hkl h, tl_step (v := d / 10 ^ k) (by omega), List.append_assoc, Nat.pow_succ, ← Nat.div_div_eq_div_mul]; rfl⟩, by dsimp only; rw [hsn, ← List.append_assoc, List.length_append, List.map_append, show ([UInt8.ofNat (48 + d / 10 ^ k % 10)] : List UInt8).map b8 = [.int .u8 ((48 + d / 10 ^ k % 10 : Nat) : Int)] by rw [b8_nat (by omega)]; rfl]; exact hw⟩)
    try simp at hb5
    have hpx : px (digs z.natAbs) (i + 1) = px (digs z.natAbs) i ++ lowk k d := by
      rcases Nat.lt_or_ge (i + 1) (digs z.natAbs).length with h | h
      · rw [px_next _ i d hdg h, show k = 9 by omega]
      have h0 : d / 10 ^ k = 0 := by
        have hpk : 0 < 10 ^ k := Nat.pow_pos (by decide)
        rcases Nat.lt_or_ge k 9 with h9 | h9
        · exact Nat.div_eq_of_lt ((hb5 h9).2 hpk)
        obtain rfl : k = 9 := by omega
        exact Nat.div_eq_of_lt hdB
      have h2 := hkl (by omega)
      rw [h0, show tl 0 = [] from rfl, List.append_nil] at h2
      rw [px_last _ i d hdg (by omega), h2]
    refine CX.exit <| PX.thenE <| PX.thenE <| PX.blockE <| PX.blockN <| PX.thenN <| CX.region <| LX.pure (Y.addN rfl rfl (by (simp only []; omega))) rfl rfl rfl <| LX.pure (Y.move rfl) rfl rfl rfl <| LX.sub (l' := [(1, _), (3, _), (12, _), (13, _), (14, _)]) ⟨rfl, rfl, rfl, rfl, rfl, trivial⟩ <| LX.next ?_
    exact PX.again (μ := fun s => (digs z.natAbs).length - s.1) (i := (i, g, cg)) (i + 1, g2, c2) (by show (digs z.natAbs).length - (i + 1) < (digs z.natAbs).length - i; omega) ⟨rfl, by dsimp only; rw [hpx]; rfl, rfl, rfl, rfl, trivial⟩ (fun w hw => ⟨by show i + 1 ≤ (digs z.natAbs).length; omega, by dsimp only; rw [hpx]; exact hw⟩)
  try simp at hb2
  obtain rfl : i = (digs z.natAbs).length := by omega
  have hpl := px_len (digs z.natAbs) (digs_lt _) (digs z.natAbs).length (Nat.le_refl _)
  have hpp := px_pos h0
  have hl9 : (px (digs z.natAbs) (digs z.natAbs).length).length + 1 = (px (digs z.natAbs) (digs z.natAbs).length ++ [45]).length := by simp
  refine CX.exit <| PX.thenE <| PX.thenE <| PX.blockE <| PX.thenN <| CX.seq <| CX.seq <| CX.region <| LX.pure (Y.fieldAddr0 Ka.fo43_0 rfl) rfl rfl rfl <| LX.pure (Y.ldB 1 Ka.one4 rfl rfl rfl) rfl rfl rfl <| LX.sub (l' := [(3, _), (46, _)]) ⟨rfl, rfl, trivial⟩ <| LX.next <| PX.thenN ?_
  refine CX.cond rfl (fun hb6 => ?_) (fun hb6 => ?_)
  · try simp at hb6
    refine CX.region <| LX.pure (Y.move rfl) rfl rfl rfl <| LX.buildSlice (e := 5) (size := 1) rfl rfl (fun _ => by kernel_rfl) rfl (by decide) rfl rfl rfl ?_
    intro gt53
    refine LX.appendT 0 Ka.el57 rfl rfl rfl rfl rfl rfl rfl (by omega) (by omega) rfl rfl rfl ?_
    intro g9 c9
    rw [hl9]
    refine LX.world (W' := WA w0 base (.row g9 c9 (px (digs z.natAbs) (digs z.natAbs).length ++ [45]).length 5 1 ((px (digs z.natAbs) (digs z.natAbs).length ++ [45]).map b8) :: blk bx0 [.bool (decide (z < 0)), .slice av (digs z.natAbs).length c] 43 :: fr)) (fun w hw => by rw [List.map_append]; exact hw) <| LX.pure (Y.assign rfl) rfl rfl rfl <| LX.sub (l' := [(3, _)]) ⟨rfl, trivial⟩ <| LX.next <| PX.thenN <| CX.seq <| CX.region <| LX.pure (Y.move rfl) rfl rfl rfl <| LX.call (rev_c (by omega) (by omega)) Ka.en94 rfl rfl rfl rfl rfl ?_
    intro _
    refine LX.sub (l' := [(3, _)]) ⟨rfl, trivial⟩ <| LX.next <| PX.thenN <| CX.seq <| CX.region <| LX.pure (Y.move rfl) rfl rfl rfl <| LX.pure (Y.str 0 rfl rfl Ka.un57 Ka.un5 Ka.un9) rfl rfl rfl <| LX.pure (Y.assign rfl) rfl rfl rfl <| LX.sub (l' := [(2, _)]) ⟨rfl, trivial⟩ <| LX.next <| PX.thenN <| CX.ret <| PX.ret1 (by simp) Tryz.results52 rfl ?_
    exact fun w hw => ⟨(), rfl, hw.drop ((List.sublist_cons_self _ _).cons _)⟩
  try simp at hb6
  (exfalso; omega)
theorem text_00 {w0 : World} {base : Nat} {fr : List It} {z : Int} {av : Option Addr} {c : Nat} (h1 : SlAt 1 digA (Lies w0 base) av (digs z.natAbs)) (h80 : (digs z.natAbs).length ≤ 80) (h0 : 0 < (digs z.natAbs).length) (hz : ¬z < 0) : FnC Tryz.prog 52 #[.agg #[.bool (decide (z < 0)), .slice av (digs z.natAbs).length c]] (WA w0 base fr) (fun _ : Unit => str ((px (digs z.natAbs) (digs z.natAbs).length).reverse)) (fun _ => WA w0 base fr) := by
  refine FnC.of_body (fn := Tryz.f52) [(0, _)] Tryz.func52 rfl Tryz.ntmps52 rfl ⟨rfl, trivial⟩ ?_
  refine CX.seq <| CX.region <| LX.box rfl rfl rfl rfl rfl ?_
  intro bx0
  refine LX.pure (Y.assign rfl) rfl rfl rfl <| LX.sub (l' := [(1, _), (2, _)]) ⟨rfl, rfl, trivial⟩ <| LX.next <| PX.thenN <| CX.seq <| CX.seq <| CX.region <| LX.pure (Y.fieldAddr0 Ka.fo43_1 rfl) rfl rfl rfl <| LX.pure (Y.ldB 0 Ka.one41 rfl rfl rfl) rfl rfl rfl <| LX.pure (Y.lenSl rfl Ka.un41 rfl) rfl rfl rfl <| LX.pure (Y.eqN rfl rfl) rfl rfl rfl <| LX.sub (l' := [(1, _), (2, _), (10, _)]) ⟨rfl, rfl, rfl, trivial⟩ <| LX.next <| PX.thenN ?_
  refine CX.cond rfl (fun hb1 => ?_) (fun hb1 => ?_)
  · try simp at hb1
    (exfalso; simp_all; done)
  try simp at hb1
  refine CX.skip <| PX.thenN <| CX.seq <| CX.region <| LX.pure (Y.assign rfl) rfl rfl rfl <| LX.sub (l' := [(1, _), (2, _), (3, _)]) ⟨rfl, rfl, rfl, trivial⟩ <| LX.next <| PX.thenN <| CX.seq <| CX.seq <| CX.region <| LX.pure (Y.fieldAddr0 Ka.fo43_1 rfl) rfl rfl rfl <| LX.pure (Y.ldB 0 Ka.one41 rfl rfl rfl) rfl rfl rfl <| LX.pure (Y.lenSl rfl Ka.un41 rfl) rfl rfl rfl <| LX.pure (Y.move rfl) rfl rfl rfl <| LX.sub (l' := [(1, _), (2, _), (3, _), (12, _), (13, _), (14, _)]) ⟨rfl, rfl, rfl, rfl, rfl, rfl, trivial⟩ <| LX.next <| PX.thenN <| CX.block <| CX.loop (fun s : Nat × Option Nat × Nat => [(1, .pointer (some ⟨bx0, 0, none⟩)), (3, rv s.2.1 (px (digs z.natAbs) s.1).length s.2.2), (12, .slice av (digs z.natAbs).length c), (13, .int .i64 ((digs z.natAbs).length : Int)), (14, .int .i64 (s.1 : Int))]) (fun (s : Nat × Option Nat × Nat) w => s.1 ≤ (digs z.natAbs).length ∧ WA w0 base (.row s.2.1 s.2.2 (px (digs z.natAbs) s.1).length 5 1 ((px (digs z.natAbs) s.1).map b8) :: blk bx0 [.bool (decide (z < 0)), .slice av (digs z.natAbs).length c] 43 :: fr) w) (fun s => (digs z.natAbs).length - s.1) (0, none, 0) ⟨rfl, by dsimp only; rw [px_0]; rfl, rfl, rfl, rfl, trivial⟩ (fun w hw => ⟨Nat.zero_le _, by dsimp only; rw [px_0]; exact hw.nilRow 5 1⟩) ?_
  rintro ⟨i, g, cg⟩
  refine CX.have fun hi0 => ?_
  try dsimp only at hi0 ⊢
  refine CX.seq <| CX.region <| LX.pure (Y.ltN rfl rfl) rfl rfl rfl <| LX.sub (l' := [(1, _), (3, _), (12, _), (13, _), (14, _), (15, _)]) ⟨rfl, rfl, rfl, rfl, rfl, rfl, trivial⟩ <| LX.next <| PX.thenN <| CX.seq ?_
  refine CX.cond rfl (fun hb2 => ?_) (fun hb2 => ?_)
  · try simp at hb2
    have hi1 : i < (digs z.natAbs).length := by omega
    obtain ⟨a1, ha1, hL1⟩ := dig_at h1 hi1
    obtain ⟨d, hd⟩ : ∃ d, (digs z.natAbs).getD i 0 = d := ⟨_, rfl⟩
    have hdg : (digs z.natAbs)[i]? = some d := by rw [← hd, List.getD_eq_getElem?_getD, List.getElem?_eq_getElem hi1]; rfl
    have hdB : d < 1000000000 := digs_lt _ _ (List.mem_of_getElem? hdg)
    have hdp : i + 1 = (digs z.natAbs).length → 0 < d := fun h => by
      have h2 := digs_top z.natAbs (by omega)
      rw [show (digs z.natAbs).length - 1 = i by omega, hd] at h2
      omega
    rw [hd] at hL1
    have hpl := px_len (digs z.natAbs) (digs_lt _) i (by omega)
    refine CX.skip <| PX.thenN <| CX.seq <| CX.block <| CX.seq <| CX.region <| LX.pure (Y.move rfl) rfl rfl rfl <| LX.pure (Y.idxZ Ka.un41 Ka.sz76 rfl rfl ha1 (j := i) rfl hi1) rfl rfl rfl <| LX.pure (Y.ldO1 Ka.one76 rfl hL1) rfl rfl rfl <| LX.pure (Y.assign rfl) rfl rfl rfl <| LX.pure (Y.assign rfl) rfl rfl rfl <| LX.sub (l' := [(1, _), (3, _), (4, _), (5, _), (12, _), (13, _), (14, _)]) ⟨rfl, rfl, rfl, rfl, rfl, rfl, rfl, trivial⟩ <| LX.next <| PX.thenN <| CX.seq <| CX.region <| LX.pure (Y.assign rfl) rfl rfl rfl <| LX.sub (l' := [(1, _), (3, _), (4, _), (5, _), (6, _), (12, _), (13, _), (14, _)]) ⟨rfl, rfl, rfl, rfl, rfl, rfl, rfl, rfl, trivial⟩ <| LX.next <| PX.thenN <| CX.block <| CX.loop (fun s : Nat × Option Nat × Nat => [(1, .pointer (some ⟨bx0, 0, none⟩)), (3, rv s.2.1 (px (digs z.natAbs) i ++ lowk s.1 d).length s.2.2), (4, .int .i64 (i : Int)), (5, .int .u32 ((d / 10 ^ s.1 : Nat) : Int)), (6, .int .i64 (s.1 : Int)), (12, .slice av (digs z.natAbs).length c), (13, .int .i64 ((digs z.natAbs).length : Int)), (14, .int .i64 (i : Int))]) (fun (s : Nat × Option Nat × Nat) w => (s.1 ≤ 9 ∧ (i + 1 = (digs z.natAbs).length → lowk s.1 d ++ tl (d / 10 ^ s.1) = revD d)) ∧ WA w0 base (.row s.2.1 s.2.2 (px (digs z.natAbs) i ++ lowk s.1 d).length 5 1 ((px (digs z.natAbs) i ++ lowk s.1 d).map b8) :: blk bx0 [.bool (decide (z < 0)), .slice av (digs z.natAbs).length c] 43 :: fr) w) (fun s => 9 - s.1) (0, g, cg) ⟨rfl, by simp [lowk]; rfl, rfl, by simp; rfl, rfl, rfl, rfl, rfl, trivial⟩ (fun w hw => ⟨⟨Nat.zero_le _, fun h => by have := hdp h; unfold tl; rw [Nat.pow_zero, Nat.div_one, if_neg (by omega)]; rfl⟩, by simpa [lowk] using hw⟩) ?_
    rintro ⟨k, g2, c2⟩
    refine CX.have fun ⟨hk0, hkl⟩ => ?_
    try dsimp only at hk0 hkl ⊢
    have hcl : (px (digs z.natAbs) i ++ lowk k d).length ≤ 9 * i + 9 := by rw [List.length_append, lowk_len]; omega
    have hdk : d / 10 ^ k ≤ d := Nat.div_le_self _ _
    refine CX.seq <| CX.seq <| CX.region <| LX.pure (Y.move rfl) rfl rfl rfl <| LX.pure (Y.ltN rfl rfl) rfl rfl rfl <| LX.pure (Y.move rfl) rfl rfl rfl <| LX.sub (l' := [(1, _), (3, _), (4, _), (5, _), (6, _), (12, _), (13, _), (14, _), (21, _)]) ⟨rfl, rfl, rfl, rfl, rfl, rfl, rfl, rfl, rfl, trivial⟩ ?_
    apply LX.joinAnd 11 32 21 rfl
    · intro hb3
      have hb3p := hb3
      try simp at hb3p
      refine LX.gT rfl rfl rfl hb3 (Y.move rfl) rfl rfl <| LX.gT rfl rfl rfl hb3 (Y.fieldAddr0 Ka.fo43_1 rfl) rfl rfl <| LX.gT rfl rfl rfl hb3 (Y.ldB 1 Ka.one41 rfl rfl rfl) rfl rfl <| LX.gT rfl rfl rfl hb3 (Y.lenSl rfl Ka.un41 rfl) rfl rfl <| LX.gT rfl rfl rfl hb3 (Y.subN (a := (digs z.natAbs).length) (b := 1) rfl rfl (by omega) (by omega)) rfl rfl <| LX.gT rfl rfl rfl hb3 (Y.ltN rfl rfl) rfl rfl <| LX.gT rfl rfl rfl hb3 (Y.move rfl) rfl rfl <| LX.sub (l' := [(1, _), (3, _), (4, _), (5, _), (6, _), (12, _), (13, _), (14, _), (21, _), (28, _)]) ⟨rfl, rfl, rfl, rfl, rfl, rfl, rfl, rfl, rfl, rfl, trivial⟩ ?_
      apply LX.joinOr 3 31 28 rfl
      · intro hb4
        refine LX.gF rfl rfl rfl hb4 rfl rfl <| LX.gF rfl rfl rfl hb4 rfl rfl <| LX.gT rfl rfl rfl hb3 (Y.pickT rfl hb4 rfl) rfl rfl ?_
        exact LX.left ⟨rfl, rfl, rfl, rfl, rfl, rfl, rfl, rfl, rfl, rfl, rfl, trivial⟩
      · intro hb4
        refine LX.gT rfl rfl rfl hb4 (Y.move rfl) rfl rfl <| LX.gT rfl rfl rfl hb4 (Y.gtN rfl rfl) rfl rfl <| LX.gT rfl rfl rfl hb3 (Y.pickF rfl hb4 rfl) rfl rfl ?_
        exact LX.left ⟨rfl, rfl, rfl, rfl, rfl, rfl, rfl, rfl, rfl, rfl, rfl, trivial⟩
      refine LX.pure (Y.pickT rfl hb3 rfl) rfl rfl rfl ?_
      exact LX.left ⟨rfl, rfl, rfl, rfl, rfl, rfl, rfl, rfl, rfl, rfl, trivial⟩
    · intro hb3
      refine LX.gF rfl rfl rfl hb3 rfl rfl <| LX.gF rfl rfl rfl hb3 rfl rfl <| LX.gF rfl rfl rfl hb3 rfl rfl <| LX.gF rfl rfl rfl hb3 rfl rfl <| LX.gF rfl rfl rfl hb3 rfl rfl <| LX.gF rfl rfl rfl hb3 rfl rfl <| LX.gF rfl rfl rfl hb3 rfl rfl <| LX.gU rfl rfl rfl rfl rfl <| LX.gU rfl rfl rfl rfl rfl <| LX.gF rfl rfl rfl hb3 rfl rfl <| LX.pure (Y.pickF rfl hb3 rfl) rfl rfl rfl ?_
      exact LX.left ⟨rfl, rfl, rfl, rfl, rfl, rfl, rfl, rfl, rfl, rfl, trivial⟩
    refine LX.sub (l' := [(1, _), (3, _), (4, _), (5, _), (6, _), (12, _), (13, _), (14, _), (32, _)]) ⟨rfl, rfl, rfl, rfl, rfl, rfl, rfl, rfl, rfl, trivial⟩ <| LX.next <| PX.thenN ?_
    refine CX.cond rfl (fun hb5 => ?_) (fun hb5 => ?_)
    · try simp at hb5
      have hk9 : k < 9 := by omega
      have hbk : i + 1 = (digs z.natAbs).length → 0 < d / 10 ^ k := fun h => by (simp_all; omega)
      refine CX.skip <| PX.thenN <| CX.seq <| CX.block <| CX.seq <| CX.region <| LX.pure (Y.move rfl) rfl rfl rfl <| LX.pure (Y.move rfl) rfl rfl rfl <| LX.pure (Y.remK (a := d / 10 ^ k) (b := 10) rfl rfl (by decide)) rfl rfl rfl <| LX.pure (Y.addK (a := 48) (b := d / 10 ^ k % 10) rfl rfl (wrap_u32 (by omega))) rfl rfl rfl <| LX.pure (Y.convN rfl Ka.un76 Ka.un5 (wrap_u8 (by omega))) rfl rfl rfl <| LX.buildSlice (e := 5) (size := 1) rfl rfl (fun _ => by kernel_rfl) rfl (by decide) rfl rfl rfl ?_
      intro gt39
      refine LX.appendT 0 Ka.el57 rfl rfl rfl rfl rfl rfl rfl (by omega) (by omega) rfl rfl rfl ?_
      intro g' cap'
      refine LX.pure (Y.assign rfl) rfl rfl rfl <| LX.sub (l' := [(1, _), (3, _), (4, _), (5, _), (6, _), (12, _), (13, _), (14, _)]) ⟨rfl, rfl, rfl, rfl, rfl, rfl, rfl, rfl, trivial⟩ <| LX.next <| PX.thenN <| CX.region <| LX.pure (Y.move rfl) rfl rfl rfl <| LX.pure (Y.quoK (a := d / 10 ^ k) (b := 10) rfl rfl (by decide) (wrap_u32 (by omega))) rfl rfl rfl <| LX.pure (Y.assign rfl) rfl rfl rfl <| LX.sub (l' := [(1, _), (3, _), (4, _), (5, _), (6, _), (12, _), (13, _), (14, _)]) ⟨rfl, rfl, rfl, rfl, rfl, rfl, rfl, rfl, trivial⟩ <| LX.next <| PX.blockN <| PX.thenN <| CX.region <| LX.pure (Y.move rfl) rfl rfl rfl <| LX.pure (Y.addN rfl rfl (by (simp only []; omega))) rfl rfl rfl <| LX.pure (Y.assign rfl) rfl rfl rfl <| LX.sub (l' := [(1, _), (3, _), (4, _), (5, _), (6, _), (12, _), (13, _), (14, _)]) ⟨rfl, rfl, rfl, rfl, rfl, rfl, rfl, rfl, trivial⟩ <| LX.next ?_
      have hsn := lowk_snoc k d
      exact PX.again (μ := fun s => 9 - s.1) (i := (k, g2, c2)) (k + 1, g', cap') (by show 9 - (k + 1) < 9 - k; omega) ⟨rfl, congrArg (fun n => some (rv g' n cap')) (by simp only [hsn, List.length_append, List.length_singleton]; omega), rfl, by dsimp only; rw [Nat.pow_succ, ← Nat.div_div_eq_div_mul]; rfl, rfl, rfl, rfl, rfl, trivial⟩ (fun w hw => ⟨⟨by show k + 1 ≤ 9; omega, fun h => by rw [hsn, ← hkl h, tl_step (v := d / 10 ^ k) (by omega), List.append_assoc, Nat.pow_succ, ← Nat.div_div_eq_div_mul]; rfl⟩, by dsimp only; rw [hsn, ← List.append_assoc, List.length_append, List.map_append, show ([UInt8.ofNat (48 + d / 10 ^ k % 10)] : List UInt8).map b8 = [.int .u8 ((48 + d / 10 ^ k % 10 : Nat) : Int)] by rw [b8_nat (by omega)]; rfl]; exact hw⟩)
    try simp at hb5
    have hpx : px (digs z.natAbs) (i + 1) = px (digs z.natAbs) i ++ lowk k d := by
      rcases Nat.lt_or_ge (i + 1) (digs z.natAbs).length with h | h
      · rw [px_next _ i d hdg h, show k = 9 by omega]
      have h0 : d / 10 ^ k = 0 := by
        have hpk : 0 < 10 ^ k := Nat.pow_pos (by decide)
        rcases Nat.lt_or_ge k 9 with h9 | h9
        · exact Nat.div_eq_of_lt ((hb5 h9).2 hpk)
        obtain rfl : k = 9 := by omega
        exact Nat.div_eq_of_lt hdB
      have h2 := hkl (by omega)
      rw [h0, show tl 0 = [] from rfl, List.append_nil] at h2
      rw [px_last _ i d hdg (by omega), h2]
    refine CX.exit <| PX.thenE <| PX.thenE <| PX.blockE <| PX.blockN <| PX.thenN <| CX.region <| LX.pure (Y.addN rfl rfl (by (simp only []; omega))) rfl rfl rfl <| LX.pure (Y.move rfl) rfl rfl rfl <| LX.sub (l' := [(1, _), (3, _), (12, _), (13, _), (14, _)]) ⟨rfl, rfl, rfl, rfl, rfl, trivial⟩ <| LX.next ?_
    exact PX.again (μ := fun s => (digs z.natAbs).length - s.1) (i := (i, g, cg)) (i + 1, g2, c2) (by show (digs z.natAbs).length - (i + 1) < (digs z.natAbs).length - i; omega) ⟨rfl, by dsimp only; rw [hpx]; rfl, rfl, rfl, rfl, trivial⟩ (fun w hw => ⟨by show i + 1 ≤ (digs z.natAbs).length; omega, by dsimp only; rw [hpx]; exact hw⟩)
  try simp at hb2
  obtain rfl : i = (digs z.natAbs).length := by omega
  have hpl := px_len (digs z.natAbs) (digs_lt _) (digs z.natAbs).length (Nat.le_refl _)
  have hpp := px_pos h0
  refine CX.exit <| PX.thenE <| PX.thenE <| PX.blockE <| PX.thenN <| CX.seq <| CX.seq <| CX.region <| LX.pure (Y.fieldAddr0 Ka.fo43_0 rfl) rfl rfl rfl <| LX.pure (Y.ldB 1 Ka.one4 rfl rfl rfl) rfl rfl rfl <| LX.sub (l' := [(3, _), (46, _)]) ⟨rfl, rfl, trivial⟩ <| LX.next <| PX.thenN ?_
  refine CX.cond rfl (fun hb6 => ?_) (fun hb6 => ?_)
  · try simp at hb6
    (exfalso; omega)
  try simp at hb6
  refine CX.skip <| PX.thenN <| CX.seq <| CX.region <| LX.pure (Y.move rfl) rfl rfl rfl <| LX.call (rev_c (by omega) (by omega)) Ka.en94 rfl rfl rfl rfl rfl ?_
  intro _
  refine LX.sub (l' := [(3, _)]) ⟨rfl, trivial⟩ <| LX.next <| PX.thenN <| CX.seq <| CX.region <| LX.pure (Y.move rfl) rfl rfl rfl <| LX.pure (Y.str 0 rfl rfl Ka.un57 Ka.un5 Ka.un9) rfl rfl rfl <| LX.pure (Y.assign rfl) rfl rfl rfl <| LX.sub (l' := [(2, _)]) ⟨rfl, trivial⟩ <| LX.next <| PX.thenN <| CX.ret <| PX.ret1 (by simp) Tryz.results52 rfl ?_
  exact fun w hw => ⟨(), rfl, hw.drop ((List.sublist_cons_self _ _).cons _)⟩
theorem text_c {w0 : World} {base : Nat} {fr : List It} {z : Int} {u : Value} (hu : NumM (Lies w0 base) z u) : FnC Tryz.prog 52 #[u] (WA w0 base fr) (fun _ : Unit => str (Go.Lib.itoa z)) (fun _ => WA w0 base fr) := by
  obtain ⟨⟨av, c, rfl, h1⟩, h80⟩ := hu
  by_cases h0 : digs z.natAbs = []
  · have hz : z = 0 := by
      have := valD_digs z.natAbs
      rw [h0] at this
      have h2 : 0 = z.natAbs := this
      omega
    subst hz
    rw [h0, show Go.Lib.itoa 0 = [48] by
      rw [itoa_pos (by decide)]
      show Go.Lib.decDigits 0 = _
      rw [Go.Lib.decDigits, dif_pos (by decide)]
      rfl]
    exact text_0
  have hp := List.length_pos_iff.2 h0
  have e := text_eq h0
  by_cases hz : z < 0
  · rw [if_pos hz] at e
    rw [← e]
    exact text_1 h1 h80 hp hz
  rw [if_neg hz, List.append_nil] at e
  rw [← e]
  exact text_00 h1 h80 hp hz
end Go.Proofs.YtickdimknfeddaaGreatDoor
