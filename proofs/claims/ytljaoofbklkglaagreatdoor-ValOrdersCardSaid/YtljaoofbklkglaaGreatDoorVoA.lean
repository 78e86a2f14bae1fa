/-
  Proved here: numbers held against each other; sorts of values; how many pairs more.
-/
import Derived.Test.YtljaoofbklkglaaGreatDoorVoS
import Derived.Test.YtljaoofbklkglaaGreatDoorProg
namespace Go.Proofs.YtljaoofbklkglaaGreatDoor
open Go.SX Go.RowKit Go.Vo
namespace Fo
theorem en50 : Enters Tryz.prog 50 := Enters.of Tryz.func50 (by kernel_rfl) (by kernel_rfl)
theorem en51 : Enters Tryz.prog 51 := Enters.of Tryz.func51 (by kernel_rfl) (by kernel_rfl)
theorem fo37_0 : FieldOff Tryz.prog 37 0 0 := fun b o w => by kernel_rfl
theorem fo37_1 : FieldOff Tryz.prog 37 1 1 := fun b o w => by kernel_rfl
theorem fo48_0 : FieldOff Tryz.prog 48 0 0 := fun b o w => by kernel_rfl
theorem one3 : One Tryz.prog 3 := fun w => by kernel_rfl
theorem one35 : One Tryz.prog 35 := fun w => by kernel_rfl
theorem one4 : One Tryz.prog 4 := fun w => by kernel_rfl
theorem one60 : One Tryz.prog 60 := fun w => by kernel_rfl
theorem sz3 : SizeIs Tryz.prog 3 1 := fun w => by kernel_rfl
theorem sz60 : SizeIs Tryz.prog 60 1 := fun w => by kernel_rfl
theorem un3 : Tryz.prog.underlying 3 = some (.int .i64) := by kernel_rfl
theorem un35 : Tryz.prog.underlying 35 = some (.slice 60) := by kernel_rfl
theorem un4 : Tryz.prog.underlying 4 = some .bool := by kernel_rfl
theorem un60 : Tryz.prog.underlying 60 = some (.int .u32) := by kernel_rfl
end Fo
theorem sign_c {w0 : World} {base : Nat} {fr : List It} (z : Int) : FnC Tryz.prog 50 #[.int .i64 z] (WA w0 base fr) (fun _ : Unit => .int .i64 (sg z)) (fun _ => WA w0 base fr) := by
  refine FnC.of_body (fn := Tryz.f50) [(0, _)] Tryz.func50 rfl Tryz.ntmps50 rfl ⟨rfl, trivial⟩ ?_
  refine CX.seq ?_
  refine CX.region ?_
  refine LX.pure (Y.assign rfl) rfl rfl rfl ?_
  refine LX.sub (l' := [(0, _), (2, _)]) ⟨rfl, rfl, trivial⟩ ?_
  refine LX.next ?_
  refine PX.thenN ?_
  refine CX.seq ?_
  refine CX.block ?_
  refine CX.seq ?_
  refine CX.region ?_
  refine LX.pure (Y.move rfl) rfl rfl rfl ?_
  first
    | refine LX.pure (Y.ltN rfl rfl) rfl rfl rfl ?_
    | refine LX.pure (Y.ltI rfl rfl) rfl rfl rfl ?_
  refine LX.pure (Y.assign rfl) rfl rfl rfl ?_
  refine LX.sub (l' := [(0, _), (2, _), (3, _)]) ⟨rfl, rfl, rfl, trivial⟩ ?_
  refine LX.next ?_
  refine PX.thenN ?_
  refine CX.cond rfl (fun hb1 => ?_) (fun hb1 => ?_)
  · try simp at hb1
    refine CX.seq ?_
    refine CX.region ?_
    refine LX.pure (Y.assign rfl) rfl rfl rfl ?_
    refine LX.sub (l' := [(2, _)]) ⟨rfl, trivial⟩ ?_
    refine LX.next ?_
    refine PX.thenN ?_
    refine CX.ret ?_
    refine PX.blockR ?_
    refine PX.thenR ?_
    refine PX.ret1 (by simp) Tryz.results50 rfl ?_
    exact fun w hw => ⟨(), by rw [sg_neg (by omega)], hw⟩
  · try simp at hb1
    refine CX.seq ?_
    refine CX.region ?_
    refine LX.pure (Y.move rfl) rfl rfl rfl ?_
    first
      | refine LX.pure (Y.gtN rfl rfl) rfl rfl rfl ?_
      | refine LX.pure (Y.gtI rfl rfl) rfl rfl rfl ?_
    refine LX.pure (Y.assign rfl) rfl rfl rfl ?_
    refine LX.sub (l' := [(2, _), (6, _)]) ⟨rfl, rfl, trivial⟩ ?_
    refine LX.next ?_
    refine PX.thenN ?_
    refine CX.cond rfl (fun hb2 => ?_) (fun hb2 => ?_)
    · try simp at hb2
      refine CX.seq ?_
      refine CX.region ?_
      refine LX.pure (Y.assign rfl) rfl rfl rfl ?_
      refine LX.sub (l' := [(2, _)]) ⟨rfl, trivial⟩ ?_
      refine LX.next ?_
      refine PX.thenN ?_
      refine CX.ret ?_
      refine PX.blockR ?_
      refine PX.thenR ?_
      refine PX.ret1 (by simp) Tryz.results50 rfl ?_
      exact fun w hw => ⟨(), by rw [sg_pos (by omega)], hw⟩
    · try simp at hb2
      refine CX.skip ?_
      refine PX.blockN ?_
      refine PX.thenN ?_
      refine CX.seq ?_
      refine CX.region ?_
      refine LX.pure (Y.assign rfl) rfl rfl rfl ?_
      refine LX.sub (l' := [(2, _)]) ⟨rfl, trivial⟩ ?_
      refine LX.next ?_
      refine PX.thenN ?_
      refine CX.ret ?_
      refine PX.ret1 (by simp) Tryz.results50 rfl ?_
      exact fun w hw => ⟨(), by unfold sg; rw [if_neg (by omega), if_neg (by omega)], hw⟩
theorem cmp_c {w0 : World} {base : Nat} {fr : List It} {g1 g2 : Option Nat} (c1 c2 : Nat) {xs ys : List Nat} (h1 : RowAt w0 base g1 (dv xs)) (h2 : RowAt w0 base g2 (dv ys)) (l1 : xs.length ≤ 3) (l2 : ys.length ≤ 3) (d1 : ∀ d ∈ xs, d < Go.Vo.B) (d2 : ∀ d ∈ ys, d < Go.Vo.B) :
    FnC Tryz.prog 51 #[rv g1 xs.length c1, rv g2 ys.length c2] (WA w0 base fr) (fun _ : Unit => .int .i64 (cmpD xs ys)) (fun _ => WA w0 base fr) := by
  refine FnC.of_body (fn := Tryz.f51) [(0, _), (1, _)] Tryz.func51 rfl Tryz.ntmps51 rfl ⟨rfl, rfl, trivial⟩ ?_
  refine CX.seq ?_
  refine CX.region ?_
  refine LX.pure (Y.assign rfl) rfl rfl rfl ?_
  refine LX.sub (l' := [(0, _), (1, _), (4, _)]) ⟨rfl, rfl, rfl, trivial⟩ ?_
  refine LX.next ?_
  refine PX.thenN ?_
  refine CX.seq ?_
  refine CX.seq ?_
  refine CX.region ?_
  refine LX.pure (Y.move rfl) rfl rfl rfl ?_
  refine LX.pure (Y.lenSl rfl Fo.un35 rfl) rfl rfl rfl ?_
  refine LX.pure (Y.move rfl) rfl rfl rfl ?_
  refine LX.pure (Y.lenSl rfl Fo.un35 rfl) rfl rfl rfl ?_
  first
    | refine LX.pure (Y.neN rfl rfl) rfl rfl rfl ?_
    | refine LX.pure (Y.neI rfl rfl) rfl rfl rfl ?_
  refine LX.sub (l' := [(0, _), (1, _), (4, _), (10, _)]) ⟨rfl, rfl, rfl, rfl, trivial⟩ ?_
  refine LX.next ?_
  refine PX.thenN ?_
  refine CX.cond rfl (fun hb1 => ?_) (fun hb1 => ?_)
  · try simp at hb1
    refine CX.seq ?_
    refine CX.region ?_
    refine LX.pure (Y.move rfl) rfl rfl rfl ?_
    refine LX.pure (Y.lenSl rfl Fo.un35 rfl) rfl rfl rfl ?_
    refine LX.pure (Y.move rfl) rfl rfl rfl ?_
    refine LX.pure (Y.lenSl rfl Fo.un35 rfl) rfl rfl rfl ?_
    first
      | refine LX.pure (Y.subN rfl rfl (by first | omega | (simp only []; omega) | (simp; done) | (simp; omega)) (by first | omega | (simp only []; omega) | (simp; done) | (simp; omega))) rfl rfl rfl ?_
      | refine LX.pure (Y.sub rfl rfl (by first | omega | (simp only []; omega) | (simp; done) | (simp; omega))) rfl rfl rfl ?_
    refine LX.pure (Y.assign rfl) rfl rfl rfl ?_
    refine LX.sub (l' := [(0, _), (1, _), (4, _)]) ⟨rfl, rfl, rfl, trivial⟩ ?_
    refine LX.next ?_
    refine PX.thenN ?_
    refine CX.ret ?_
    refine PX.thenR ?_
    refine PX.ret1 (by simp) Tryz.results51 rfl ?_
    exact fun w hw => ⟨(), by unfold cmpD; rw [if_neg (by simpa using hb1)], hw⟩
  · try simp at hb1
    refine CX.skip ?_
    refine PX.thenN ?_
    refine CX.seq ?_
    refine CX.seq ?_
    refine CX.region ?_
    refine LX.pure (Y.move rfl) rfl rfl rfl ?_
    refine LX.pure (Y.lenSl rfl Fo.un35 rfl) rfl rfl rfl ?_
    first
      | refine LX.pure (Y.subN rfl rfl (by first | omega | (simp only []; omega) | (simp; done) | (simp; omega)) (by first | omega | (simp only []; omega) | (simp; done) | (simp; omega))) rfl rfl rfl ?_
      | refine LX.pure (Y.sub rfl rfl (by first | omega | (simp only []; omega) | (simp; done) | (simp; omega))) rfl rfl rfl ?_
    refine LX.pure (Y.assign rfl) rfl rfl rfl ?_
    refine LX.sub (l' := [(0, _), (1, _), (4, _), (5, _)]) ⟨rfl, rfl, rfl, rfl, trivial⟩ ?_
    refine LX.next ?_
    refine PX.thenN ?_
    refine CX.block ?_
    refine CX.loop (fun k : Nat => [(0, rv g1 xs.length c1), (1, rv g2 ys.length c2), (5, .int .i64 ((k : Int) - 1))]) (fun (k : Nat) w => (k ≤ xs.length ∧ cmpTo xs ys k = cmpTo xs ys xs.length) ∧ WA w0 base fr w) (fun k => k) xs.length ⟨rfl, rfl, rfl, trivial⟩ (fun w hw => ⟨⟨Nat.le_refl _, rfl⟩, hw⟩) ?_
    intro k
    refine CX.have fun ⟨hk0, hkc⟩ => ?_
    try dsimp only at hk0 hkc ⊢
    refine CX.seq ?_
    refine CX.seq ?_
    refine CX.region ?_
    refine LX.pure (Y.move rfl) rfl rfl rfl ?_
    first
      | refine LX.pure (Y.geN rfl rfl) rfl rfl rfl ?_
      | refine LX.pure (Y.geI rfl rfl) rfl rfl rfl ?_
    refine LX.sub (l' := [(0, _), (1, _), (5, _), (20, _)]) ⟨rfl, rfl, rfl, rfl, trivial⟩ ?_
    refine LX.next ?_
    refine PX.thenN ?_
    refine CX.cond rfl (fun hb2 => ?_) (fun hb2 => ?_)
    · try simp at hb2
      obtain ⟨j, rfl⟩ : ∃ j, k = j + 1 := ⟨k - 1, by omega⟩
      have ej : (((j + 1 : Nat) : Int) - 1) = (j : Int) := by omega
      obtain ⟨b1, rfl, hb1, hc1⟩ := h1.at_ j _ (dv_at (by omega))
      obtain ⟨b2, rfl, hb2, hc2⟩ := h2.at_ j _ (dv_at (by omega))
      have hx9 : xs.getD j 0 < 1000000000 := getD_lt d1 j
      have hy9 : ys.getD j 0 < 1000000000 := getD_lt d2 j
      refine CX.skip ?_
      refine PX.thenN ?_
      refine CX.seq ?_
      refine CX.block ?_
      refine CX.seq ?_
      refine CX.regionQ rfl (by kernel_rfl) ?_
      refine LX.pure (Y.move rfl) rfl rfl rfl ?_
      refine LX.pure (Y.move (v := .int .i64 (j : Int)) (congrArg (fun z => some (Value.int .i64 z)) ej)) rfl rfl rfl ?_
      refine LX.pure (Y.idx1 Fo.un35 Fo.sz60 rfl rfl (by omega)) rfl rfl rfl ?_
      refine LX.pure (Y.ldO Fo.one60 rfl hc1 hb1) rfl rfl rfl ?_
      refine LX.pure (Y.move rfl) rfl rfl rfl ?_
      refine LX.pure (Y.move (v := .int .i64 (j : Int)) (congrArg (fun z => some (Value.int .i64 z)) ej)) rfl rfl rfl ?_
      refine LX.pure (Y.idx1 Fo.un35 Fo.sz60 rfl rfl (by omega)) rfl rfl rfl ?_
      refine LX.pure (Y.ldO Fo.one60 rfl hc2 hb2) rfl rfl rfl ?_
      first
        | refine LX.pure (Y.neN rfl rfl) rfl rfl rfl ?_
        | refine LX.pure (Y.neI rfl rfl) rfl rfl rfl ?_
      refine LX.sub (l' := [(0, _), (1, _), (5, _), (31, _)]) ⟨rfl, rfl, rfl, rfl, trivial⟩ ?_
      refine LX.nextQ ?_
      refine PX.thenN ?_
      refine CX.cond rfl (fun hb3 => ?_) (fun hb3 => ?_)
      · try simp at hb3
        refine CX.seq ?_
        refine CX.regionQ rfl (by kernel_rfl) ?_
        refine LX.pure (Y.move rfl) rfl rfl rfl ?_
        refine LX.pure (Y.move (v := .int .i64 (j : Int)) (congrArg (fun z => some (Value.int .i64 z)) ej)) rfl rfl rfl ?_
        refine LX.pure (Y.idx1 Fo.un35 Fo.sz60 rfl rfl (by omega)) rfl rfl rfl ?_
        refine LX.pure (Y.ldO Fo.one60 rfl hc1 hb1) rfl rfl rfl ?_
        refine LX.pure (Y.convN rfl Fo.un60 Fo.un3 (IntWalk.i64_in _ (by omega))) rfl rfl rfl ?_
        refine LX.pure (Y.move rfl) rfl rfl rfl ?_
        refine LX.pure (Y.move (v := .int .i64 (j : Int)) (congrArg (fun z => some (Value.int .i64 z)) ej)) rfl rfl rfl ?_
        refine LX.pure (Y.idx1 Fo.un35 Fo.sz60 rfl rfl (by omega)) rfl rfl rfl ?_
        refine LX.pure (Y.ldO Fo.one60 rfl hc2 hb2) rfl rfl rfl ?_
        refine LX.pure (Y.convN rfl Fo.un60 Fo.un3 (IntWalk.i64_in _ (by omega))) rfl rfl rfl ?_
        first
          | refine LX.pure (Y.subN rfl rfl (by first | omega | (simp only []; omega) | (simp; done) | (simp; omega)) (by first | omega | (simp only []; omega) | (simp; done) | (simp; omega))) rfl rfl rfl ?_
          | refine LX.pure (Y.sub rfl rfl (by first | omega | (simp only []; omega) | (simp; done) | (simp; omega))) rfl rfl rfl ?_
        refine LX.pure (Y.assign rfl) rfl rfl rfl ?_
        refine LX.sub (l' := [(0, _), (1, _), (4, _), (5, _)]) ⟨rfl, rfl, rfl, rfl, trivial⟩ ?_
        refine LX.nextQ ?_
        refine PX.thenN ?_
        refine CX.ret ?_
        refine PX.blockR ?_
        refine PX.thenR ?_
        refine PX.thenR ?_
        refine PX.blockR ?_
        refine PX.thenR ?_
        refine PX.ret1 (by simp) Tryz.results51 rfl ?_
        exact fun w hw => ⟨(), by unfold cmpD; rw [if_pos (by omega), ← hkc, cmpTo, if_neg (by simpa using hb3)], hw⟩
      · try simp at hb3
        refine CX.skip ?_
        refine PX.blockN ?_
        refine PX.thenN ?_
        refine CX.region ?_
        refine LX.pure (Y.move rfl) rfl rfl rfl ?_
        first
          | refine LX.pure (Y.subN rfl rfl (by first | omega | (simp only []; omega) | (simp; done) | (simp; omega)) (by first | omega | (simp only []; omega) | (simp; done) | (simp; omega))) rfl rfl rfl ?_
          | refine LX.pure (Y.sub rfl rfl (by first | omega | (simp only []; omega) | (simp; done) | (simp; omega))) rfl rfl rfl ?_
        refine LX.pure (Y.assign rfl) rfl rfl rfl ?_
        refine LX.sub (l' := [(0, _), (1, _), (5, _)]) ⟨rfl, rfl, rfl, trivial⟩ ?_
        refine LX.next ?_
        exact PX.again (L := (fun k : Nat => [(0, rv (some b1) xs.length c1), (1, rv (some b2) ys.length c2), (5, .int .i64 ((k : Int) - 1))])) (WW := (fun (k : Nat) w => (k ≤ xs.length ∧ cmpTo xs ys k = cmpTo xs ys xs.length) ∧ WA w0 base fr w)) (μ := fun k => k) (i := j + 1) j (by omega) ⟨rfl, rfl, by show some (Value.int .i64 _) = some (Value.int .i64 _); congr 2; omega, trivial⟩ (fun w hw => ⟨⟨by omega, by rw [← hkc, cmpTo, if_pos (by simpa using hb3)]⟩, hw⟩)
    · try simp at hb2
      have hke : k = 0 := by omega
      subst hke
      refine CX.exit ?_
      refine PX.thenE ?_
      refine PX.thenE ?_
      refine PX.blockE ?_
      refine PX.thenN ?_
      refine CX.seq ?_
      refine CX.region ?_
      refine LX.pure (Y.assign rfl) rfl rfl rfl ?_
      refine LX.sub (l' := [(4, _)]) ⟨rfl, trivial⟩ ?_
      refine LX.next ?_
      refine PX.thenN ?_
      refine CX.ret ?_
      refine PX.ret1 (by simp) Tryz.results51 rfl ?_
      exact fun w hw => ⟨(), by unfold cmpD; rw [if_pos (by omega), ← hkc]; rfl, hw⟩
theorem Cmp_0 {w0 : World} {base : Nat} {fr : List It} {g1 g2 : Option Nat} (c1 c2 : Nat) (p q : Bool) {x y : Nat} (h1 : RowAt w0 base g1 (dv (digs x))) (h2 : RowAt w0 base g2 (dv (digs y))) (s1 : x < 18446744073709551616) (s2 : y < 18446744073709551616) :
    FnC Tryz.prog 26 #[.agg #[.bool p, rv g1 (digs x).length c1], .agg #[.bool q, rv g2 (digs y).length c2]] (WA w0 base fr) (fun _ : Unit => .int .i64 (if p ≠ q then (if p then -1 else 1) else if p then sg (cmpD (digs y) (digs x)) else sg (cmpD (digs x) (digs y)))) (fun _ => WA w0 base fr) := by
  refine FnC.of_body (fn := Tryz.f26) [(0, _), (1, _)] Tryz.func26 rfl Tryz.ntmps26 rfl ⟨rfl, rfl, trivial⟩ ?_
  refine CX.seq ?_
  refine CX.region ?_
  refine LX.box rfl rfl rfl rfl rfl ?_
  intro bx0
  refine LX.box rfl rfl rfl rfl rfl ?_
  intro bx1
  refine LX.pure (Y.assign rfl) rfl rfl rfl ?_
  refine LX.sub (l' := [(2, _), (3, _), (4, _)]) ⟨rfl, rfl, rfl, trivial⟩ ?_
  refine LX.next ?_
  refine PX.thenN ?_
  refine CX.seq ?_
  refine CX.block ?_
  refine CX.seq ?_
  refine CX.region ?_
  first
    | refine LX.pure (Y.fieldAddr0 Fo.fo37_0 rfl) rfl rfl rfl ?_
    | refine LX.pure (Y.fieldAddr Fo.fo37_0 rfl) rfl rfl rfl ?_
  first
    | refine LX.pure (Y.ldB 0 Fo.one4 rfl rfl rfl) rfl rfl rfl ?_
    | refine LX.pure (Y.ldB 1 Fo.one4 rfl rfl rfl) rfl rfl rfl ?_
    | refine LX.pure (Y.ldB 2 Fo.one4 rfl rfl rfl) rfl rfl rfl ?_
  first
    | refine LX.pure (Y.fieldAddr0 Fo.fo37_0 rfl) rfl rfl rfl ?_
    | refine LX.pure (Y.fieldAddr Fo.fo37_0 rfl) rfl rfl rfl ?_
  first
    | refine LX.pure (Y.ldB 0 Fo.one4 rfl rfl rfl) rfl rfl rfl ?_
    | refine LX.pure (Y.ldB 1 Fo.one4 rfl rfl rfl) rfl rfl rfl ?_
    | refine LX.pure (Y.ldB 2 Fo.one4 rfl rfl rfl) rfl rfl rfl ?_
  refine LX.pure (Y.neB rfl rfl Fo.un4) rfl rfl rfl ?_
  refine LX.pure (Y.move rfl) rfl rfl rfl ?_
  refine LX.sub (l' := [(2, _), (3, _), (4, _), (11, _)]) ⟨rfl, rfl, rfl, rfl, trivial⟩ ?_
  apply LX.joinAnd 3 14 11 rfl
  · intro hb1
    have hb1p := hb1
    try simp at hb1p
    first
      | refine LX.gT rfl rfl rfl hb1 (Y.fieldAddr0 Fo.fo37_0 rfl) rfl rfl ?_
      | refine LX.gT rfl rfl rfl hb1 (Y.fieldAddr Fo.fo37_0 rfl) rfl rfl ?_
    first
      | refine LX.gT rfl rfl rfl hb1 (Y.ldB 0 Fo.one4 rfl rfl rfl) rfl rfl ?_
      | refine LX.gT rfl rfl rfl hb1 (Y.ldB 1 Fo.one4 rfl rfl rfl) rfl rfl ?_
      | refine LX.gT rfl rfl rfl hb1 (Y.ldB 2 Fo.one4 rfl rfl rfl) rfl rfl ?_
    refine LX.pure (Y.pickT rfl hb1 rfl) rfl rfl rfl ?_
    exact LX.left ⟨rfl, rfl, rfl, rfl, rfl, trivial⟩
  · intro hb1
    have hb1p := hb1
    try simp at hb1p
    refine LX.gF rfl rfl rfl hb1 rfl rfl ?_
    refine LX.gF rfl rfl rfl hb1 rfl rfl ?_
    refine LX.pure (Y.pickF rfl hb1 rfl) rfl rfl rfl ?_
    exact LX.left ⟨rfl, rfl, rfl, rfl, rfl, trivial⟩
  refine LX.pure (Y.assign rfl) rfl rfl rfl ?_
  refine LX.sub (l' := [(2, _), (3, _), (4, _), (5, _)]) ⟨rfl, rfl, rfl, rfl, trivial⟩ ?_
  refine LX.next ?_
  refine PX.thenN ?_
  refine CX.cond rfl (fun hb2 => ?_) (fun hb2 => ?_)
  · try simp at hb2
    refine CX.seq ?_
    refine CX.region ?_
    refine LX.pure (Y.assign rfl) rfl rfl rfl ?_
    refine LX.sub (l' := [(2, _), (3, _), (4, _)]) ⟨rfl, rfl, rfl, trivial⟩ ?_
    refine LX.next ?_
    refine PX.thenN ?_
    refine CX.ret ?_
    refine PX.blockR ?_
    refine PX.thenR ?_
    refine PX.ret1 (by simp) Tryz.results26 rfl ?_
    exact fun w hw => ⟨(), by cases p <;> cases q <;> simp_all, hw.drop (((List.Sublist.refl fr).cons _).cons _)⟩
  · try simp at hb2
    refine CX.seq ?_
    refine CX.region ?_
    first
      | refine LX.pure (Y.fieldAddr0 Fo.fo37_0 rfl) rfl rfl rfl ?_
      | refine LX.pure (Y.fieldAddr Fo.fo37_0 rfl) rfl rfl rfl ?_
    first
      | refine LX.pure (Y.ldB 0 Fo.one4 rfl rfl rfl) rfl rfl rfl ?_
      | refine LX.pure (Y.ldB 1 Fo.one4 rfl rfl rfl) rfl rfl rfl ?_
      | refine LX.pure (Y.ldB 2 Fo.one4 rfl rfl rfl) rfl rfl rfl ?_
    first
      | refine LX.pure (Y.fieldAddr0 Fo.fo37_0 rfl) rfl rfl rfl ?_
      | refine LX.pure (Y.fieldAddr Fo.fo37_0 rfl) rfl rfl rfl ?_
    first
      | refine LX.pure (Y.ldB 0 Fo.one4 rfl rfl rfl) rfl rfl rfl ?_
      | refine LX.pure (Y.ldB 1 Fo.one4 rfl rfl rfl) rfl rfl rfl ?_
      | refine LX.pure (Y.ldB 2 Fo.one4 rfl rfl rfl) rfl rfl rfl ?_
    refine LX.pure (Y.neB rfl rfl Fo.un4) rfl rfl rfl ?_
    refine LX.pure (Y.assign rfl) rfl rfl rfl ?_
    refine LX.sub (l' := [(2, _), (3, _), (4, _), (15, _)]) ⟨rfl, rfl, rfl, rfl, trivial⟩ ?_
    refine LX.next ?_
    refine PX.thenN ?_
    refine CX.cond rfl (fun hb3 => ?_) (fun hb3 => ?_)
    · try simp at hb3
      refine CX.seq ?_
      refine CX.region ?_
      refine LX.pure (Y.assign rfl) rfl rfl rfl ?_
      refine LX.sub (l' := [(2, _), (3, _), (4, _)]) ⟨rfl, rfl, rfl, trivial⟩ ?_
      refine LX.next ?_
      refine PX.thenN ?_
      refine CX.ret ?_
      refine PX.blockR ?_
      refine PX.thenR ?_
      refine PX.ret1 (by simp) Tryz.results26 rfl ?_
      exact fun w hw => ⟨(), by cases p <;> cases q <;> simp_all, hw.drop (((List.Sublist.refl fr).cons _).cons _)⟩
    · try simp at hb3
      refine CX.seq ?_
      refine CX.region ?_
      first
        | refine LX.pure (Y.fieldAddr0 Fo.fo37_0 rfl) rfl rfl rfl ?_
        | refine LX.pure (Y.fieldAddr Fo.fo37_0 rfl) rfl rfl rfl ?_
      first
        | refine LX.pure (Y.ldB 0 Fo.one4 rfl rfl rfl) rfl rfl rfl ?_
        | refine LX.pure (Y.ldB 1 Fo.one4 rfl rfl rfl) rfl rfl rfl ?_
        | refine LX.pure (Y.ldB 2 Fo.one4 rfl rfl rfl) rfl rfl rfl ?_
      refine LX.pure (Y.assign rfl) rfl rfl rfl ?_
      refine LX.sub (l' := [(2, _), (3, _), (4, _), (21, _)]) ⟨rfl, rfl, rfl, rfl, trivial⟩ ?_
      refine LX.next ?_
      refine PX.thenN ?_
      refine CX.cond rfl (fun hb4 => ?_) (fun hb4 => ?_)
      · try simp at hb4
        refine CX.seq ?_
        refine CX.region ?_
        first
          | refine LX.pure (Y.fieldAddr0 Fo.fo37_1 rfl) rfl rfl rfl ?_
          | refine LX.pure (Y.fieldAddr Fo.fo37_1 rfl) rfl rfl rfl ?_
        first
          | refine LX.pure (Y.ldB 0 Fo.one35 rfl rfl rfl) rfl rfl rfl ?_
          | refine LX.pure (Y.ldB 1 Fo.one35 rfl rfl rfl) rfl rfl rfl ?_
          | refine LX.pure (Y.ldB 2 Fo.one35 rfl rfl rfl) rfl rfl rfl ?_
        first
          | refine LX.pure (Y.fieldAddr0 Fo.fo37_1 rfl) rfl rfl rfl ?_
          | refine LX.pure (Y.fieldAddr Fo.fo37_1 rfl) rfl rfl rfl ?_
        first
          | refine LX.pure (Y.ldB 0 Fo.one35 rfl rfl rfl) rfl rfl rfl ?_
          | refine LX.pure (Y.ldB 1 Fo.one35 rfl rfl rfl) rfl rfl rfl ?_
          | refine LX.pure (Y.ldB 2 Fo.one35 rfl rfl rfl) rfl rfl rfl ?_
        refine LX.call (cmp_c c2 c1 h2 h1 (digs_len s2) (digs_len s1) (digs_lt _) (digs_lt _)) Fo.en51 rfl rfl rfl rfl rfl ?_
        intro _
        refine LX.call (sign_c _) Fo.en50 rfl rfl rfl rfl rfl ?_
        intro _
        refine LX.pure (Y.assign rfl) rfl rfl rfl ?_
        refine LX.sub (l' := [(2, _), (3, _), (4, _)]) ⟨rfl, rfl, rfl, trivial⟩ ?_
        refine LX.next ?_
        refine PX.thenN ?_
        refine CX.ret ?_
        refine PX.blockR ?_
        refine PX.thenR ?_
        refine PX.ret1 (by simp) Tryz.results26 rfl ?_
        exact fun w hw => ⟨(), by cases p <;> cases q <;> simp_all, hw.drop (((List.Sublist.refl fr).cons _).cons _)⟩
      · try simp at hb4
        refine CX.skip ?_
        refine PX.blockN ?_
        refine PX.thenN ?_
        refine CX.seq ?_
        refine CX.region ?_
        first
          | refine LX.pure (Y.fieldAddr0 Fo.fo37_1 rfl) rfl rfl rfl ?_
          | refine LX.pure (Y.fieldAddr Fo.fo37_1 rfl) rfl rfl rfl ?_
        first
          | refine LX.pure (Y.ldB 0 Fo.one35 rfl rfl rfl) rfl rfl rfl ?_
          | refine LX.pure (Y.ldB 1 Fo.one35 rfl rfl rfl) rfl rfl rfl ?_
          | refine LX.pure (Y.ldB 2 Fo.one35 rfl rfl rfl) rfl rfl rfl ?_
        first
          | refine LX.pure (Y.fieldAddr0 Fo.fo37_1 rfl) rfl rfl rfl ?_
          | refine LX.pure (Y.fieldAddr Fo.fo37_1 rfl) rfl rfl rfl ?_
        first
          | refine LX.pure (Y.ldB 0 Fo.one35 rfl rfl rfl) rfl rfl rfl ?_
          | refine LX.pure (Y.ldB 1 Fo.one35 rfl rfl rfl) rfl rfl rfl ?_
          | refine LX.pure (Y.ldB 2 Fo.one35 rfl rfl rfl) rfl rfl rfl ?_
        refine LX.call (cmp_c c1 c2 h1 h2 (digs_len s1) (digs_len s2) (digs_lt _) (digs_lt _)) Fo.en51 rfl rfl rfl rfl rfl ?_
        intro _
        refine LX.call (sign_c _) Fo.en50 rfl rfl rfl rfl rfl ?_
        intro _
        refine LX.pure (Y.assign rfl) rfl rfl rfl ?_
        refine LX.sub (l' := [(4, _)]) ⟨rfl, trivial⟩ ?_
        refine LX.next ?_
        refine PX.thenN ?_
        refine CX.ret ?_
        refine PX.ret1 (by simp) Tryz.results26 rfl ?_
        exact fun w hw => ⟨(), by cases p <;> cases q <;> simp_all, hw.drop (((List.Sublist.refl fr).cons _).cons _)⟩
theorem Cmp_c {w0 : World} {base : Nat} {fr : List It} {x y : Int} {u v : Value} (hx : NumV w0 base x u) (hy : NumV w0 base y v) : FnC Tryz.prog 26 #[u, v] (WA w0 base fr) (fun _ : Unit => .int .i64 (cmp3 x y)) (fun _ => WA w0 base fr) := by
  obtain ⟨⟨g1, c1, rfl, h1⟩, s1⟩ := hx
  obtain ⟨⟨g2, c2, rfl, h2⟩, s2⟩ := hy
  have h := Cmp_0 (fr := fr) c1 c2 (decide (x < 0)) (decide (y < 0)) h1 h2 s1 s2
  have e := cmpC_eq x y
  unfold cmpC at e
  rw [← e]
  simpa using h
theorem kindW_c {w0 : World} {base : Nat} {fr : List It} (z : Int) (g : Option Nat) (c : Nat) : FnC Tryz.prog 198 #[numV z g c] (WA w0 base fr) (fun _ : Unit => .int .i64 3) (fun _ => WA w0 base fr) := by
  refine FnC.of_body (fn := Tryz.f198) [(0, _)] Tryz.func198 rfl Tryz.ntmps198 rfl ⟨rfl, trivial⟩ ?_
  refine CX.seq ?_
  refine CX.region ?_
  refine LX.box rfl rfl rfl rfl rfl ?_
  intro bx0
  refine LX.pure (Y.assign rfl) rfl rfl rfl ?_
  refine LX.sub (l' := [(2, _)]) ⟨rfl, trivial⟩ ?_
  refine LX.next ?_
  refine PX.thenN ?_
  refine CX.seq ?_
  refine CX.region ?_
  refine LX.pure (Y.assign rfl) rfl rfl rfl ?_
  refine LX.sub (l' := [(2, _)]) ⟨rfl, trivial⟩ ?_
  refine LX.next ?_
  refine PX.thenN ?_
  refine CX.ret ?_
  refine PX.ret1 (by simp) Tryz.results198 rfl ?_
  exact fun w hw => ⟨(), rfl, hw.drop (List.sublist_cons_self _ _)⟩
theorem kindT_c {w0 : World} {base : Nat} {fr : List It} (v : Value) : FnC Tryz.prog 199 #[v] (WA w0 base fr) (fun _ : Unit => .int .i64 4) (fun _ => WA w0 base fr) := by
  refine FnC.of_body (fn := Tryz.f199) [(0, _)] Tryz.func199 rfl Tryz.ntmps199 rfl ⟨rfl, trivial⟩ ?_
  refine CX.seq ?_
  refine CX.region ?_
  refine LX.pure (Y.assign rfl) rfl rfl rfl ?_
  refine LX.sub (l' := [(2, _)]) ⟨rfl, trivial⟩ ?_
  refine LX.next ?_
  refine PX.thenN ?_
  refine CX.seq ?_
  refine CX.region ?_
  refine LX.pure (Y.assign rfl) rfl rfl rfl ?_
  refine LX.sub (l' := [(2, _)]) ⟨rfl, trivial⟩ ?_
  refine LX.next ?_
  refine PX.thenN ?_
  refine CX.ret ?_
  refine PX.ret1 (by simp) Tryz.results199 rfl ?_
  exact fun w hw => ⟨(), rfl, hw⟩
theorem kindL_c {w0 : World} {base : Nat} {fr : List It} (v : Value) : FnC Tryz.prog 196 #[v] (WA w0 base fr) (fun _ : Unit => .int .i64 5) (fun _ => WA w0 base fr) := by
  refine FnC.of_body (fn := Tryz.f196) [(0, _)] Tryz.func196 rfl Tryz.ntmps196 rfl ⟨rfl, trivial⟩ ?_
  refine CX.seq ?_
  refine CX.region ?_
  refine LX.pure (Y.assign rfl) rfl rfl rfl ?_
  refine LX.sub (l' := [(2, _)]) ⟨rfl, trivial⟩ ?_
  refine LX.next ?_
  refine PX.thenN ?_
  refine CX.seq ?_
  refine CX.region ?_
  refine LX.pure (Y.assign rfl) rfl rfl rfl ?_
  refine LX.sub (l' := [(2, _)]) ⟨rfl, trivial⟩ ?_
  refine LX.next ?_
  refine PX.thenN ?_
  refine CX.ret ?_
  refine PX.ret1 (by simp) Tryz.results196 rfl ?_
  exact fun w hw => ⟨(), rfl, hw⟩
theorem look_c {w0 : World} {base : Nat} {fr : List It} (bk : Nat) {dd L : Int} (hd : 0 ≤ dd ∧ dd ≤ 60) (hL : 1 ≤ L ∧ L ≤ 5000) : FnC Tryz.prog 25 #[.pointer (some ⟨bk, 0, none⟩), .int .i64 dd] (WA w0 base (blk bk [.int .i64 L] 48 :: fr)) (fun _ : Unit => .nilIface) (fun _ => WA w0 base (blk bk [.int .i64 (L - 1)] 48 :: fr)) := by
  refine FnC.of_body (fn := Tryz.f25) [(0, _), (1, _)] Tryz.func25 rfl Tryz.ntmps25 rfl ⟨rfl, rfl, trivial⟩ ?_
  refine CX.seq ?_
  refine CX.region ?_
  refine LX.pure (Y.assign rfl) rfl rfl rfl ?_
  refine LX.sub (l' := [(0, _), (1, _), (4, _)]) ⟨rfl, rfl, rfl, trivial⟩ ?_
  refine LX.next ?_
  refine PX.thenN ?_
  refine CX.seq ?_
  refine CX.seq ?_
  refine CX.region ?_
  refine LX.pure (Y.move rfl) rfl rfl rfl ?_
  refine LX.pure (Y.nilCheck rfl) rfl rfl rfl ?_
  first
    | refine LX.pure (Y.fieldAddr0 Fo.fo48_0 rfl) rfl rfl rfl ?_
    | refine LX.pure (Y.fieldAddr Fo.fo48_0 rfl) rfl rfl rfl ?_
  first
    | refine LX.pure (Y.ldB 0 Fo.one3 rfl rfl rfl) rfl rfl rfl ?_
    | refine LX.pure (Y.ldB 1 Fo.one3 rfl rfl rfl) rfl rfl rfl ?_
    | refine LX.pure (Y.ldB 2 Fo.one3 rfl rfl rfl) rfl rfl rfl ?_
  first
    | refine LX.pure (Y.subN rfl rfl (by first | omega | (simp only []; omega) | (simp; done) | (simp; omega)) (by first | omega | (simp only []; omega) | (simp; done) | (simp; omega))) rfl rfl rfl ?_
    | refine LX.pure (Y.sub rfl rfl (by first | omega | (simp only []; omega) | (simp; done) | (simp; omega))) rfl rfl rfl ?_
  refine LX.pure (Y.nilCheck rfl) rfl rfl rfl ?_
  first
    | refine LX.pure (Y.fieldAddr0 Fo.fo48_0 rfl) rfl rfl rfl ?_
    | refine LX.pure (Y.fieldAddr Fo.fo48_0 rfl) rfl rfl rfl ?_
  first
    | refine LX.storeB 0 Fo.sz3 rfl rfl rfl rfl rfl rfl rfl rfl ?_
    | refine LX.storeB 1 Fo.sz3 rfl rfl rfl rfl rfl rfl rfl rfl ?_
    | refine LX.storeB 2 Fo.sz3 rfl rfl rfl rfl rfl rfl rfl rfl ?_
  refine LX.sub (l' := [(0, _), (1, _), (4, _)]) ⟨rfl, rfl, rfl, trivial⟩ ?_
  refine LX.next ?_
  refine PX.thenN ?_
  refine CX.seq ?_
  refine CX.region ?_
  refine LX.pure (Y.move rfl) rfl rfl rfl ?_
  refine LX.pure (Y.nilCheck rfl) rfl rfl rfl ?_
  first
    | refine LX.pure (Y.fieldAddr0 Fo.fo48_0 rfl) rfl rfl rfl ?_
    | refine LX.pure (Y.fieldAddr Fo.fo48_0 rfl) rfl rfl rfl ?_
  first
    | refine LX.pure (Y.ldB 0 Fo.one3 rfl rfl rfl) rfl rfl rfl ?_
    | refine LX.pure (Y.ldB 1 Fo.one3 rfl rfl rfl) rfl rfl rfl ?_
    | refine LX.pure (Y.ldB 2 Fo.one3 rfl rfl rfl) rfl rfl rfl ?_
  first
    | refine LX.pure (Y.ltN rfl rfl) rfl rfl rfl ?_
    | refine LX.pure (Y.ltI rfl rfl) rfl rfl rfl ?_
  refine LX.pure (Y.move rfl) rfl rfl rfl ?_
  refine LX.sub (l' := [(1, _), (4, _), (17, _)]) ⟨rfl, rfl, rfl, trivial⟩ ?_
  apply LX.joinOr 3 20 17 rfl
  · intro hb1
    have hb1p := hb1
    try simp at hb1p
    refine LX.gF rfl rfl rfl hb1 rfl rfl ?_
    refine LX.gF rfl rfl rfl hb1 rfl rfl ?_
    refine LX.pure (Y.pickT rfl hb1 rfl) rfl rfl rfl ?_
    exact LX.left ⟨rfl, rfl, rfl, rfl, trivial⟩
  · intro hb1
    have hb1p := hb1
    try simp at hb1p
    refine LX.gT rfl rfl rfl hb1 (Y.move rfl) rfl rfl ?_
    first
      | refine LX.gT rfl rfl rfl hb1 (Y.gtN rfl rfl) rfl rfl ?_
      | refine LX.gT rfl rfl rfl hb1 (Y.gtI rfl rfl) rfl rfl ?_
    refine LX.pure (Y.pickF rfl hb1 rfl) rfl rfl rfl ?_
    exact LX.left ⟨rfl, rfl, rfl, rfl, trivial⟩
  refine LX.sub (l' := [(4, _), (20, _)]) ⟨rfl, rfl, trivial⟩ ?_
  refine LX.next ?_
  refine PX.thenN ?_
  refine CX.cond rfl (fun hb2 => ?_) (fun hb2 => ?_)
  · try simp at hb2
    first | done | (exfalso; omega) | (exfalso; simp_all; done) | (exfalso; simp_all; omega)
  · try simp at hb2
    refine CX.skip ?_
    refine PX.thenN ?_
    refine CX.seq ?_
    refine CX.region ?_
    refine LX.pure (Y.assign rfl) rfl rfl rfl ?_
    refine LX.sub (l' := [(4, _)]) ⟨rfl, trivial⟩ ?_
    refine LX.next ?_
    refine PX.thenN ?_
    refine CX.ret ?_
    refine PX.ret1 (by simp) Tryz.results25 rfl ?_
    exact fun w hw => ⟨(), rfl, hw⟩
theorem shallow_c {w0 : World} {base : Nat} {fr : List It} (n : Nat) {dd : Int} (hd : 0 ≤ dd ∧ dd < 60) : FnC Tryz.prog 52 #[.int .i64 (n : Int), .int .i64 dd] (WA w0 base fr) (fun _ : Unit => .nilIface) (fun _ => WA w0 base fr) := by
  refine FnC.of_body (fn := Tryz.f52) [(0, _), (1, _)] Tryz.func52 rfl Tryz.ntmps52 rfl ⟨rfl, rfl, trivial⟩ ?_
  refine CX.seq ?_
  refine CX.region ?_
  refine LX.pure (Y.assign rfl) rfl rfl rfl ?_
  refine LX.sub (l' := [(0, _), (1, _), (4, _)]) ⟨rfl, rfl, rfl, trivial⟩ ?_
  refine LX.next ?_
  refine PX.thenN ?_
  refine CX.seq ?_
  refine CX.seq ?_
  refine CX.region ?_
  refine LX.pure (Y.move rfl) rfl rfl rfl ?_
  first
    | refine LX.pure (Y.eqN rfl rfl) rfl rfl rfl ?_
    | refine LX.pure (Y.eqI rfl rfl) rfl rfl rfl ?_
  refine LX.pure (Y.move rfl) rfl rfl rfl ?_
  refine LX.sub (l' := [(1, _), (4, _), (7, _)]) ⟨rfl, rfl, rfl, trivial⟩ ?_
  apply LX.joinAnd 3 10 7 rfl
  · intro hb1
    have hb1p := hb1
    try simp at hb1p
    refine LX.gT rfl rfl rfl hb1 (Y.move rfl) rfl rfl ?_
    first
      | refine LX.gT rfl rfl rfl hb1 (Y.geN rfl rfl) rfl rfl ?_
      | refine LX.gT rfl rfl rfl hb1 (Y.geI rfl rfl) rfl rfl ?_
    refine LX.pure (Y.pickT rfl hb1 rfl) rfl rfl rfl ?_
    exact LX.left ⟨rfl, rfl, rfl, rfl, trivial⟩
  · intro hb1
    have hb1p := hb1
    try simp at hb1p
    refine LX.gF rfl rfl rfl hb1 rfl rfl ?_
    refine LX.gF rfl rfl rfl hb1 rfl rfl ?_
    refine LX.pure (Y.pickF rfl hb1 rfl) rfl rfl rfl ?_
    exact LX.left ⟨rfl, rfl, rfl, rfl, trivial⟩
  refine LX.sub (l' := [(4, _), (10, _)]) ⟨rfl, rfl, trivial⟩ ?_
  refine LX.next ?_
  refine PX.thenN ?_
  refine CX.cond rfl (fun hb2 => ?_) (fun hb2 => ?_)
  · try simp at hb2
    first | done | (exfalso; omega) | (exfalso; simp_all; done) | (exfalso; simp_all; omega)
  · try simp at hb2
    refine CX.skip ?_
    refine PX.thenN ?_
    refine CX.seq ?_
    refine CX.region ?_
    refine LX.pure (Y.assign rfl) rfl rfl rfl ?_
    refine LX.sub (l' := [(4, _)]) ⟨rfl, trivial⟩ ?_
    refine LX.next ?_
    refine PX.thenN ?_
    refine CX.ret ?_
    refine PX.ret1 (by simp) Tryz.results52 rfl ?_
    exact fun w hw => ⟨(), rfl, hw⟩
end Go.Proofs.YtljaoofbklkglaaGreatDoor
