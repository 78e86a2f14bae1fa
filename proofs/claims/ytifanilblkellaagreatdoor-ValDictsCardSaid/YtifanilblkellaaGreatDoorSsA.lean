/-
  Proved here: numbers held against each other, and made; sorts of values.
-/
import Derived.Test.YtifanilblkellaaGreatDoorSsS
import Derived.Test.YtifanilblkellaaGreatDoorProg
namespace Go.Proofs.YtifanilblkellaaGreatDoor
open Go.SX Go.RowKit Go.Vo Go.Ss
namespace Fo
theorem ag36 : AggT Tryz.prog 36 2 := AggT.of (by kernel_rfl) (by kernel_rfl)
theorem ag82 : AggT Tryz.prog 82 2 := AggT.of (by kernel_rfl) (by kernel_rfl)
theorem en35 : Enters Tryz.prog 35 := Enters.of Tryz.func35 (by kernel_rfl) (by kernel_rfl)
theorem en70 : Enters Tryz.prog 70 := Enters.of Tryz.func70 (by kernel_rfl) (by kernel_rfl)
theorem en71 : Enters Tryz.prog 71 := Enters.of Tryz.func71 (by kernel_rfl) (by kernel_rfl)
theorem en94 : Enters Tryz.prog 94 := Enters.of Tryz.func94 (by kernel_rfl) (by kernel_rfl)
theorem en95 : Enters Tryz.prog 95 := Enters.of Tryz.func95 (by kernel_rfl) (by kernel_rfl)
theorem fo118_0 : FieldOff Tryz.prog 118 0 0 := fun b o w => by kernel_rfl
theorem fo36_0 : FieldOff Tryz.prog 36 0 0 := fun b o w => by kernel_rfl
theorem fo36_1 : FieldOff Tryz.prog 36 1 1 := fun b o w => by kernel_rfl
theorem fo82_1 : FieldOff Tryz.prog 82 1 0 := fun b o w => by kernel_rfl
theorem ni82 : NoIface Tryz.prog 82 := fun w v => by kernel_rfl
theorem one3 : One Tryz.prog 3 := fun w => by kernel_rfl
theorem one34 : One Tryz.prog 34 := fun w => by kernel_rfl
theorem one4 : One Tryz.prog 4 := fun w => by kernel_rfl
theorem one84 : One Tryz.prog 84 := fun w => by kernel_rfl
theorem sz3 : SizeIs Tryz.prog 3 1 := fun w => by kernel_rfl
theorem sz84 : SizeIs Tryz.prog 84 1 := fun w => by kernel_rfl
theorem un107 : Tryz.prog.underlying 107 = some (.struct #[⟨"Mark", 73, 0, true, "", "", 0⟩]) := by kernel_rfl
theorem un135 : Tryz.prog.underlying 135 = some .bool := by kernel_rfl
theorem un2 : Tryz.prog.underlying 2 = some (.int .i64) := by kernel_rfl
theorem un3 : Tryz.prog.underlying 3 = some (.int .i64) := by kernel_rfl
theorem un34 : Tryz.prog.underlying 34 = some (.slice 84) := by kernel_rfl
theorem un4 : Tryz.prog.underlying 4 = some .bool := by kernel_rfl
theorem un40 : Tryz.prog.underlying 40 = some (.interface #[("Error", 47)]) := by kernel_rfl
theorem un82 : Tryz.prog.underlying 82 = some (.struct #[⟨"Mark", 73, 0, true, "", "", 0⟩, ⟨"n", 36, 0, false, "", "smithy/val", 0⟩]) := by kernel_rfl
theorem un83 : Tryz.prog.underlying 83 = some (.int .u64) := by kernel_rfl
theorem un84 : Tryz.prog.underlying 84 = some (.int .u32) := by kernel_rfl
theorem zv107 : ∀ w, (zeroValue 107).run Tryz.prog w = .ok (.agg #[]) w := fun w => by kernel_rfl
theorem zv135 : ∀ w, (zeroValue 135).run Tryz.prog w = .ok (.bool false) w := fun w => by kernel_rfl
theorem zv36 : ∀ w, (zeroValue 36).run Tryz.prog w = .ok (.agg #[.bool false, .slice none 0 0]) w := fun w => by kernel_rfl
theorem zv82 : ∀ w, (zeroValue 82).run Tryz.prog w = .ok (.agg #[.bool false, .slice none 0 0]) w := fun w => by kernel_rfl
theorem el34 : Elem Tryz.prog 34 84 1 4 := Elem.of un34 (z := .int .u32 0) (by kernel_rfl) rfl
theorem nif107 : NotIface Tryz.prog 107 := NotIface.of un107 (fun ms h => by cases h)
theorem nif135 : NotIface Tryz.prog 135 := NotIface.of un135 (fun ms h => by cases h)
theorem nif82 : NotIface Tryz.prog 82 := NotIface.of un82 (fun ms h => by cases h)
end Fo
theorem sign_c {w0 : World} {base : Nat} {fr : List It} (z : Int) : FnC Tryz.prog 94 #[.int .i64 z] (WA w0 base fr) (fun _ : Unit => .int .i64 (sg z)) (fun _ => WA w0 base fr) := by
  refine FnC.of_body (fn := Tryz.f94) [(0, _)] Tryz.func94 rfl Tryz.ntmps94 rfl ⟨rfl, trivial⟩ ?_
  refine CX.seq ?_
  refine CX.region ?_
  refine LX.pure (Y.assign rfl) rfl rfl rfl ?_
  refine LX.sub (l' := [(0, _), (2, _)]) ⟨rfl, rfl, trivial⟩ ?_
  refine LX.next ?_
  refine PX.thenN ?_
  refine CX.seq ?_
  refine CX.block ?_
  refine CX.seq ?_
  refine CX.region ?_
  refine LX.pure (Y.move rfl) rfl rfl rfl ?_
  first
    | refine LX.pure (Y.ltN rfl rfl) rfl rfl rfl ?_
    | refine LX.pure (Y.ltI rfl rfl) rfl rfl rfl ?_
  refine LX.pure (Y.assign rfl) rfl rfl rfl ?_
  refine LX.sub (l' := [(0, _), (2, _), (3, _)]) ⟨rfl, rfl, rfl, trivial⟩ ?_
  refine LX.next ?_
  refine PX.thenN ?_
  refine CX.cond rfl (fun hb1 => ?_) (fun hb1 => ?_)
  · try simp at hb1
    refine CX.seq ?_
    refine CX.region ?_
    refine LX.pure (Y.assign rfl) rfl rfl rfl ?_
    refine LX.sub (l' := [(2, _)]) ⟨rfl, trivial⟩ ?_
    refine LX.next ?_
    refine PX.thenN ?_
    refine CX.ret ?_
    refine PX.blockR ?_
    refine PX.thenR ?_
    refine PX.ret1 (by simp) Tryz.results94 rfl ?_
    exact fun w hw => ⟨(), by rw [sg_neg (by omega)], hw⟩
  · try simp at hb1
    refine CX.seq ?_
    refine CX.region ?_
    refine LX.pure (Y.move rfl) rfl rfl rfl ?_
    first
      | refine LX.pure (Y.gtN rfl rfl) rfl rfl rfl ?_
      | refine LX.pure (Y.gtI rfl rfl) rfl rfl rfl ?_
    refine LX.pure (Y.assign rfl) rfl rfl rfl ?_
    refine LX.sub (l' := [(2, _), (6, _)]) ⟨rfl, rfl, trivial⟩ ?_
    refine LX.next ?_
    refine PX.thenN ?_
    refine CX.cond rfl (fun hb2 => ?_) (fun hb2 => ?_)
    · try simp at hb2
      refine CX.seq ?_
      refine CX.region ?_
      refine LX.pure (Y.assign rfl) rfl rfl rfl ?_
      refine LX.sub (l' := [(2, _)]) ⟨rfl, trivial⟩ ?_
      refine LX.next ?_
      refine PX.thenN ?_
      refine CX.ret ?_
      refine PX.blockR ?_
      refine PX.thenR ?_
      refine PX.ret1 (by simp) Tryz.results94 rfl ?_
      exact fun w hw => ⟨(), by rw [sg_pos (by omega)], hw⟩
    · try simp at hb2
      refine CX.skip ?_
      refine PX.blockN ?_
      refine PX.thenN ?_
      refine CX.seq ?_
      refine CX.region ?_
      refine LX.pure (Y.assign rfl) rfl rfl rfl ?_
      refine LX.sub (l' := [(2, _)]) ⟨rfl, trivial⟩ ?_
      refine LX.next ?_
      refine PX.thenN ?_
      refine CX.ret ?_
      refine PX.ret1 (by simp) Tryz.results94 rfl ?_
      exact fun w hw => ⟨(), by unfold sg; rw [if_neg (by omega), if_neg (by omega)], hw⟩
theorem cmp_c {w0 : World} {base : Nat} {fr : List It} {g1 g2 : Option Nat} (c1 c2 : Nat) {xs ys : List Nat} (h1 : RowAt w0 base g1 (dv xs)) (h2 : RowAt w0 base g2 (dv ys)) (l1 : xs.length ≤ 3) (l2 : ys.length ≤ 3) (d1 : ∀ d ∈ xs, d < Go.Vo.B) (d2 : ∀ d ∈ ys, d < Go.Vo.B) :
    FnC Tryz.prog 95 #[rv g1 xs.length c1, rv g2 ys.length c2] (WA w0 base fr) (fun _ : Unit => .int .i64 (cmpD xs ys)) (fun _ => WA w0 base fr) := by
  refine FnC.of_body (fn := Tryz.f95) [(0, _), (1, _)] Tryz.func95 rfl Tryz.ntmps95 rfl ⟨rfl, rfl, trivial⟩ ?_
  refine CX.seq ?_
  refine CX.region ?_
  refine LX.pure (Y.assign rfl) rfl rfl rfl ?_
  refine LX.sub (l' := [(0, _), (1, _), (4, _)]) ⟨rfl, rfl, rfl, trivial⟩ ?_
  refine LX.next ?_
  refine PX.thenN ?_
  refine CX.seq ?_
  refine CX.seq ?_
  refine CX.region ?_
  refine LX.pure (Y.move rfl) rfl rfl rfl ?_
  refine LX.pure (Y.lenSl rfl Fo.un34 rfl) rfl rfl rfl ?_
  refine LX.pure (Y.move rfl) rfl rfl rfl ?_
  refine LX.pure (Y.lenSl rfl Fo.un34 rfl) rfl rfl rfl ?_
  first
    | refine LX.pure (Y.neN rfl rfl) rfl rfl rfl ?_
    | refine LX.pure (Y.neI rfl rfl) rfl rfl rfl ?_
  refine LX.sub (l' := [(0, _), (1, _), (4, _), (10, _)]) ⟨rfl, rfl, rfl, rfl, trivial⟩ ?_
  refine LX.next ?_
  refine PX.thenN ?_
  refine CX.cond rfl (fun hb1 => ?_) (fun hb1 => ?_)
  · try simp at hb1
    refine CX.seq ?_
    refine CX.region ?_
    refine LX.pure (Y.move rfl) rfl rfl rfl ?_
    refine LX.pure (Y.lenSl rfl Fo.un34 rfl) rfl rfl rfl ?_
    refine LX.pure (Y.move rfl) rfl rfl rfl ?_
    refine LX.pure (Y.lenSl rfl Fo.un34 rfl) rfl rfl rfl ?_
    first
      | refine LX.pure (Y.subN rfl rfl (by first | omega | (simp only []; omega) | (simp; done) | (simp; omega)) (by first | omega | (simp only []; omega) | (simp; done) | (simp; omega))) rfl rfl rfl ?_
      | refine LX.pure (Y.sub rfl rfl (by first | omega | (simp only []; omega) | (simp; done) | (simp; omega))) rfl rfl rfl ?_
    refine LX.pure (Y.assign rfl) rfl rfl rfl ?_
    refine LX.sub (l' := [(0, _), (1, _), (4, _)]) ⟨rfl, rfl, rfl, trivial⟩ ?_
    refine LX.next ?_
    refine PX.thenN ?_
    refine CX.ret ?_
    refine PX.thenR ?_
    refine PX.ret1 (by simp) Tryz.results95 rfl ?_
    exact fun w hw => ⟨(), by unfold cmpD; rw [if_neg (by simpa using hb1)], hw⟩
  · try simp at hb1
    refine CX.skip ?_
    refine PX.thenN ?_
    refine CX.seq ?_
    refine CX.seq ?_
    refine CX.region ?_
    refine LX.pure (Y.move rfl) rfl rfl rfl ?_
    refine LX.pure (Y.lenSl rfl Fo.un34 rfl) rfl rfl rfl ?_
    first
      | refine LX.pure (Y.subN rfl rfl (by first | omega | (simp only []; omega) | (simp; done) | (simp; omega)) (by first | omega | (simp only []; omega) | (simp; done) | (simp; omega))) rfl rfl rfl ?_
      | refine LX.pure (Y.sub rfl rfl (by first | omega | (simp only []; omega) | (simp; done) | (simp; omega))) rfl rfl rfl ?_
    refine LX.pure (Y.assign rfl) rfl rfl rfl ?_
    refine LX.sub (l' := [(0, _), (1, _), (4, _), (5, _)]) ⟨rfl, rfl, rfl, rfl, trivial⟩ ?_
    refine LX.next ?_
    refine PX.thenN ?_
    refine CX.block ?_
    refine CX.loop (fun k : Nat => [(0, rv g1 xs.length c1), (1, rv g2 ys.length c2), (5, .int .i64 ((k : Int) - 1))]) (fun (k : Nat) w => (k ≤ xs.length ∧ cmpTo xs ys k = cmpTo xs ys xs.length) ∧ WA w0 base fr w) (fun k => k) xs.length ⟨rfl, rfl, rfl, trivial⟩ (fun w hw => ⟨⟨Nat.le_refl _, rfl⟩, hw⟩) ?_
    intro k
    refine CX.have fun ⟨hk0, hkc⟩ => ?_
    try dsimp only at hk0 hkc ⊢
    refine CX.seq ?_
    refine CX.seq ?_
    refine CX.region ?_
    refine LX.pure (Y.move rfl) rfl rfl rfl ?_
    first
      | refine LX.pure (Y.geN rfl rfl) rfl rfl rfl ?_
      | refine LX.pure (Y.geI rfl rfl) rfl rfl rfl ?_
    refine LX.sub (l' := [(0, _), (1, _), (5, _), (20, _)]) ⟨rfl, rfl, rfl, rfl, trivial⟩ ?_
    refine LX.next ?_
    refine PX.thenN ?_
    refine CX.cond rfl (fun hb2 => ?_) (fun hb2 => ?_)
    · try simp at hb2
      obtain ⟨j, rfl⟩ : ∃ j, k = j + 1 := ⟨k - 1, by omega⟩
      have ej : (((j + 1 : Nat) : Int) - 1) = (j : Int) := by omega
      obtain ⟨b1, rfl, hb1, hc1⟩ := h1.at_ j _ (dv_at (by omega))
      obtain ⟨b2, rfl, hb2, hc2⟩ := h2.at_ j _ (dv_at (by omega))
      have hx9 : xs.getD j 0 < 1000000000 := getD_lt d1 j
      have hy9 : ys.getD j 0 < 1000000000 := getD_lt d2 j
      refine CX.skip ?_
      refine PX.thenN ?_
      refine CX.seq ?_
      refine CX.block ?_
      refine CX.seq ?_
      refine CX.regionQ rfl (by kernel_rfl) ?_
      refine LX.pure (Y.move rfl) rfl rfl rfl ?_
      refine LX.pure (Y.move (v := .int .i64 (j : Int)) (congrArg (fun z => some (Value.int .i64 z)) ej)) rfl rfl rfl ?_
      refine LX.pure (Y.idx1 Fo.un34 Fo.sz84 rfl rfl (by omega)) rfl rfl rfl ?_
      refine LX.pure (Y.ldO Fo.one84 rfl hc1 hb1) rfl rfl rfl ?_
      refine LX.pure (Y.move rfl) rfl rfl rfl ?_
      refine LX.pure (Y.move (v := .int .i64 (j : Int)) (congrArg (fun z => some (Value.int .i64 z)) ej)) rfl rfl rfl ?_
      refine LX.pure (Y.idx1 Fo.un34 Fo.sz84 rfl rfl (by omega)) rfl rfl rfl ?_
      refine LX.pure (Y.ldO Fo.one84 rfl hc2 hb2) rfl rfl rfl ?_
      first
        | refine LX.pure (Y.neN rfl rfl) rfl rfl rfl ?_
        | refine LX.pure (Y.neI rfl rfl) rfl rfl rfl ?_
      refine LX.sub (l' := [(0, _), (1, _), (5, _), (31, _)]) ⟨rfl, rfl, rfl, rfl, trivial⟩ ?_
      refine LX.nextQ ?_
      refine PX.thenN ?_
      refine CX.cond rfl (fun hb3 => ?_) (fun hb3 => ?_)
      · try simp at hb3
        refine CX.seq ?_
        refine CX.regionQ rfl (by kernel_rfl) ?_
        refine LX.pure (Y.move rfl) rfl rfl rfl ?_
        refine LX.pure (Y.move (v := .int .i64 (j : Int)) (congrArg (fun z => some (Value.int .i64 z)) ej)) rfl rfl rfl ?_
        refine LX.pure (Y.idx1 Fo.un34 Fo.sz84 rfl rfl (by omega)) rfl rfl rfl ?_
        refine LX.pure (Y.ldO Fo.one84 rfl hc1 hb1) rfl rfl rfl ?_
        refine LX.pure (Y.convN rfl Fo.un84 Fo.un3 (IntWalk.i64_in _ (by omega))) rfl rfl rfl ?_
        refine LX.pure (Y.move rfl) rfl rfl rfl ?_
        refine LX.pure (Y.move (v := .int .i64 (j : Int)) (congrArg (fun z => some (Value.int .i64 z)) ej)) rfl rfl rfl ?_
        refine LX.pure (Y.idx1 Fo.un34 Fo.sz84 rfl rfl (by omega)) rfl rfl rfl ?_
        refine LX.pure (Y.ldO Fo.one84 rfl hc2 hb2) rfl rfl rfl ?_
        refine LX.pure (Y.convN rfl Fo.un84 Fo.un3 (IntWalk.i64_in _ (by omega))) rfl rfl rfl ?_
        first
          | refine LX.pure (Y.subN rfl rfl (by first | omega | (simp only []; omega) | (simp; done) | (simp; omega)) (by first | omega | (simp only []; omega) | (simp; done) | (simp; omega))) rfl rfl rfl ?_
          | refine LX.pure (Y.sub rfl rfl (by first | omega | (simp only []; omega) | (simp; done) | (simp; omega))) rfl rfl rfl ?_
        refine LX.pure (Y.assign rfl) rfl rfl rfl ?_
        refine LX.sub (l' := [(0, _), (1, _), (4, _), (5, _)]) ⟨rfl, rfl, rfl, rfl, trivial⟩ ?_
        refine LX.nextQ ?_
        refine PX.thenN ?_
        refine CX.ret ?_
        refine PX.blockR ?_
        refine PX.thenR ?_
        refine PX.thenR ?_
        refine PX.blockR ?_
        refine PX.thenR ?_
        refine PX.ret1 (by simp) Tryz.results95 rfl ?_
        exact fun w hw => ⟨(), by unfold cmpD; rw [if_pos (by omega), ← hkc, cmpTo, if_neg (by simpa using hb3)], hw⟩
      · try simp at hb3
        refine CX.skip ?_
        refine PX.blockN ?_
        refine PX.thenN ?_
        refine CX.region ?_
        refine LX.pure (Y.move rfl) rfl rfl rfl ?_
        first
          | refine LX.pure (Y.subN rfl rfl (by first | omega | (simp only []; omega) | (simp; done) | (simp; omega)) (by first | omega | (simp only []; omega) | (simp; done) | (simp; omega))) rfl rfl rfl ?_
          | refine LX.pure (Y.sub rfl rfl (by first | omega | (simp only []; omega) | (simp; done) | (simp; omega))) rfl rfl rfl ?_
        refine LX.pure (Y.assign rfl) rfl rfl rfl ?_
        refine LX.sub (l' := [(0, _), (1, _), (5, _)]) ⟨rfl, rfl, rfl, trivial⟩ ?_
        refine LX.next ?_
        exact PX.again (L := (fun k : Nat => [(0, rv (some b1) xs.length c1), (1, rv (some b2) ys.length c2), (5, .int .i64 ((k : Int) - 1))])) (WW := (fun (k : Nat) w => (k ≤ xs.length ∧ cmpTo xs ys k = cmpTo xs ys xs.length) ∧ WA w0 base fr w)) (μ := fun k => k) (i := j + 1) j (by omega) ⟨rfl, rfl, by show some (Value.int .i64 _) = some (Value.int .i64 _); congr 2; omega, trivial⟩ (fun w hw => ⟨⟨by omega, by rw [← hkc, cmpTo, if_pos (by simpa using hb3)]⟩, hw⟩)
    · try simp at hb2
      have hke : k = 0 := by omega
      subst hke
      refine CX.exit ?_
      refine PX.thenE ?_
      refine PX.thenE ?_
      refine PX.blockE ?_
      refine PX.thenN ?_
      refine CX.seq ?_
      refine CX.region ?_
      refine LX.pure (Y.assign rfl) rfl rfl rfl ?_
      refine LX.sub (l' := [(4, _)]) ⟨rfl, trivial⟩ ?_
      refine LX.next ?_
      refine PX.thenN ?_
      refine CX.ret ?_
      refine PX.ret1 (by simp) Tryz.results95 rfl ?_
      exact fun w hw => ⟨(), by unfold cmpD; rw [if_pos (by omega), ← hkc]; rfl, hw⟩
theorem Cmp_0 {w0 : World} {base : Nat} {fr : List It} {g1 g2 : Option Nat} (c1 c2 : Nat) (p q : Bool) {x y : Nat} (h1 : RowAt w0 base g1 (dv (digs x))) (h2 : RowAt w0 base g2 (dv (digs y))) (s1 : x < 18446744073709551616) (s2 : y < 18446744073709551616) :
    FnC Tryz.prog 71 #[.agg #[.bool p, rv g1 (digs x).length c1], .agg #[.bool q, rv g2 (digs y).length c2]] (WA w0 base fr) (fun _ : Unit => .int .i64 (if p ≠ q then (if p then -1 else 1) else if p then sg (cmpD (digs y) (digs x)) else sg (cmpD (digs x) (digs y)))) (fun _ => WA w0 base fr) := by
  refine FnC.of_body (fn := Tryz.f71) [(0, _), (1, _)] Tryz.func71 rfl Tryz.ntmps71 rfl ⟨rfl, rfl, trivial⟩ ?_
  refine CX.seq ?_
  refine CX.region ?_
  refine LX.box rfl rfl rfl rfl rfl ?_
  intro bx0
  refine LX.box rfl rfl rfl rfl rfl ?_
  intro bx1
  refine LX.pure (Y.assign rfl) rfl rfl rfl ?_
  refine LX.sub (l' := [(2, _), (3, _), (4, _)]) ⟨rfl, rfl, rfl, trivial⟩ ?_
  refine LX.next ?_
  refine PX.thenN ?_
  refine CX.seq ?_
  refine CX.block ?_
  refine CX.seq ?_
  refine CX.region ?_
  first
    | refine LX.pure (Y.fieldAddr0 Fo.fo36_0 rfl) rfl rfl rfl ?_
    | refine LX.pure (Y.fieldAddr Fo.fo36_0 rfl) rfl rfl rfl ?_
  first
    | refine LX.pure (Y.ldB 0 Fo.one4 rfl rfl rfl) rfl rfl rfl ?_
    | refine LX.pure (Y.ldB 1 Fo.one4 rfl rfl rfl) rfl rfl rfl ?_
    | refine LX.pure (Y.ldB 2 Fo.one4 rfl rfl rfl) rfl rfl rfl ?_
  first
    | refine LX.pure (Y.fieldAddr0 Fo.fo36_0 rfl) rfl rfl rfl ?_
    | refine LX.pure (Y.fieldAddr Fo.fo36_0 rfl) rfl rfl rfl ?_
  first
    | refine LX.pure (Y.ldB 0 Fo.one4 rfl rfl rfl) rfl rfl rfl ?_
    | refine LX.pure (Y.ldB 1 Fo.one4 rfl rfl rfl) rfl rfl rfl ?_
    | refine LX.pure (Y.ldB 2 Fo.one4 rfl rfl rfl) rfl rfl rfl ?_
  refine LX.pure (Y.neB rfl rfl Fo.un4) rfl rfl rfl ?_
  refine LX.pure (Y.move rfl) rfl rfl rfl ?_
  refine LX.sub (l' := [(2, _), (3, _), (4, _), (11, _)]) ⟨rfl, rfl, rfl, rfl, trivial⟩ ?_
  apply LX.joinAnd 3 14 11 rfl
  · intro hb1
    have hb1p := hb1
    try simp at hb1p
    first
      | refine LX.gT rfl rfl rfl hb1 (Y.fieldAddr0 Fo.fo36_0 rfl) rfl rfl ?_
      | refine LX.gT rfl rfl rfl hb1 (Y.fieldAddr Fo.fo36_0 rfl) rfl rfl ?_
    first
      | refine LX.gT rfl rfl rfl hb1 (Y.ldB 0 Fo.one4 rfl rfl rfl) rfl rfl ?_
      | refine LX.gT rfl rfl rfl hb1 (Y.ldB 1 Fo.one4 rfl rfl rfl) rfl rfl ?_
      | refine LX.gT rfl rfl rfl hb1 (Y.ldB 2 Fo.one4 rfl rfl rfl) rfl rfl ?_
    refine LX.pure (Y.pickT rfl hb1 rfl) rfl rfl rfl ?_
    exact LX.left ⟨rfl, rfl, rfl, rfl, rfl, trivial⟩
  · intro hb1
    have hb1p := hb1
    try simp at hb1p
    refine LX.gF rfl rfl rfl hb1 rfl rfl ?_
    refine LX.gF rfl rfl rfl hb1 rfl rfl ?_
    refine LX.pure (Y.pickF rfl hb1 rfl) rfl rfl rfl ?_
    exact LX.left ⟨rfl, rfl, rfl, rfl, rfl, trivial⟩
  refine LX.pure (Y.assign rfl) rfl rfl rfl ?_
  refine LX.sub (l' := [(2, _), (3, _), (4, _), (5, _)]) ⟨rfl, rfl, rfl, rfl, trivial⟩ ?_
  refine LX.next ?_
  refine PX.thenN ?_
  refine CX.cond rfl (fun hb2 => ?_) (fun hb2 => ?_)
  · try simp at hb2
    refine CX.seq ?_
    refine CX.region ?_
    refine LX.pure (Y.assign rfl) rfl rfl rfl ?_
    refine LX.sub (l' := [(2, _), (3, _), (4, _)]) ⟨rfl, rfl, rfl, trivial⟩ ?_
    refine LX.next ?_
    refine PX.thenN ?_
    refine CX.ret ?_
    refine PX.blockR ?_
    refine PX.thenR ?_
    refine PX.ret1 (by simp) Tryz.results71 rfl ?_
    exact fun w hw => ⟨(), by cases p <;> cases q <;> simp_all, hw.drop (((List.Sublist.refl fr).cons _).cons _)⟩
  · try simp at hb2
    refine CX.seq ?_
    refine CX.region ?_
    first
      | refine LX.pure (Y.fieldAddr0 Fo.fo36_0 rfl) rfl rfl rfl ?_
      | refine LX.pure (Y.fieldAddr Fo.fo36_0 rfl) rfl rfl rfl ?_
    first
      | refine LX.pure (Y.ldB 0 Fo.one4 rfl rfl rfl) rfl rfl rfl ?_
      | refine LX.pure (Y.ldB 1 Fo.one4 rfl rfl rfl) rfl rfl rfl ?_
      | refine LX.pure (Y.ldB 2 Fo.one4 rfl rfl rfl) rfl rfl rfl ?_
    first
      | refine LX.pure (Y.fieldAddr0 Fo.fo36_0 rfl) rfl rfl rfl ?_
      | refine LX.pure (Y.fieldAddr Fo.fo36_0 rfl) rfl rfl rfl ?_
    first
      | refine LX.pure (Y.ldB 0 Fo.one4 rfl rfl rfl) rfl rfl rfl ?_
      | refine LX.pure (Y.ldB 1 Fo.one4 rfl rfl rfl) rfl rfl rfl ?_
      | refine LX.pure (Y.ldB 2 Fo.one4 rfl rfl rfl) rfl rfl rfl ?_
    refine LX.pure (Y.neB rfl rfl Fo.un4) rfl rfl rfl ?_
    refine LX.pure (Y.assign rfl) rfl rfl rfl ?_
    refine LX.sub (l' := [(2, _), (3, _), (4, _), (15, _)]) ⟨rfl, rfl, rfl, rfl, trivial⟩ ?_
    refine LX.next ?_
    refine PX.thenN ?_
    refine CX.cond rfl (fun hb3 => ?_) (fun hb3 => ?_)
    · try simp at hb3
      refine CX.seq ?_
      refine CX.region ?_
      refine LX.pure (Y.assign rfl) rfl rfl rfl ?_
      refine LX.sub (l' := [(2, _), (3, _), (4, _)]) ⟨rfl, rfl, rfl, trivial⟩ ?_
      refine LX.next ?_
      refine PX.thenN ?_
      refine CX.ret ?_
      refine PX.blockR ?_
      refine PX.thenR ?_
      refine PX.ret1 (by simp) Tryz.results71 rfl ?_
      exact fun w hw => ⟨(), by cases p <;> cases q <;> simp_all, hw.drop (((List.Sublist.refl fr).cons _).cons _)⟩
    · try simp at hb3
      refine CX.seq ?_
      refine CX.region ?_
      first
        | refine LX.pure (Y.fieldAddr0 Fo.fo36_0 rfl) rfl rfl rfl ?_
        | refine LX.pure (Y.fieldAddr Fo.fo36_0 rfl) rfl rfl rfl ?_
      first
        | refine LX.pure (Y.ldB 0 Fo.one4 rfl rfl rfl) rfl rfl rfl ?_
        | refine LX.pure (Y.ldB 1 Fo.one4 rfl rfl rfl) rfl rfl rfl ?_
        | refine LX.pure (Y.ldB 2 Fo.one4 rfl rfl rfl) rfl rfl rfl ?_
      refine LX.pure (Y.assign rfl) rfl rfl rfl ?_
      refine LX.sub (l' := [(2, _), (3, _), (4, _), (21, _)]) ⟨rfl, rfl, rfl, rfl, trivial⟩ ?_
      refine LX.next ?_
      refine PX.thenN ?_
      refine CX.cond rfl (fun hb4 => ?_) (fun hb4 => ?_)
      · try simp at hb4
        refine CX.seq ?_
        refine CX.region ?_
        first
          | refine LX.pure (Y.fieldAddr0 Fo.fo36_1 rfl) rfl rfl rfl ?_
          | refine LX.pure (Y.fieldAddr Fo.fo36_1 rfl) rfl rfl rfl ?_
        first
          | refine LX.pure (Y.ldB 0 Fo.one34 rfl rfl rfl) rfl rfl rfl ?_
          | refine LX.pure (Y.ldB 1 Fo.one34 rfl rfl rfl) rfl rfl rfl ?_
          | refine LX.pure (Y.ldB 2 Fo.one34 rfl rfl rfl) rfl rfl rfl ?_
        first
          | refine LX.pure (Y.fieldAddr0 Fo.fo36_1 rfl) rfl rfl rfl ?_
          | refine LX.pure (Y.fieldAddr Fo.fo36_1 rfl) rfl rfl rfl ?_
        first
          | refine LX.pure (Y.ldB 0 Fo.one34 rfl rfl rfl) rfl rfl rfl ?_
          | refine LX.pure (Y.ldB 1 Fo.one34 rfl rfl rfl) rfl rfl rfl ?_
          | refine LX.pure (Y.ldB 2 Fo.one34 rfl rfl rfl) rfl rfl rfl ?_
        refine LX.call (cmp_c c2 c1 h2 h1 (digs_len s2) (digs_len s1) (digs_lt _) (digs_lt _)) Fo.en95 rfl rfl rfl rfl rfl ?_
        intro _
        refine LX.call (sign_c _) Fo.en94 rfl rfl rfl rfl rfl ?_
        intro _
        refine LX.pure (Y.assign rfl) rfl rfl rfl ?_
        refine LX.sub (l' := [(2, _), (3, _), (4, _)]) ⟨rfl, rfl, rfl, trivial⟩ ?_
        refine LX.next ?_
        refine PX.thenN ?_
        refine CX.ret ?_
        refine PX.blockR ?_
        refine PX.thenR ?_
        refine PX.ret1 (by simp) Tryz.results71 rfl ?_
        exact fun w hw => ⟨(), by cases p <;> cases q <;> simp_all, hw.drop (((List.Sublist.refl fr).cons _).cons _)⟩
      · try simp at hb4
        refine CX.skip ?_
        refine PX.blockN ?_
        refine PX.thenN ?_
        refine CX.seq ?_
        refine CX.region ?_
        first
          | refine LX.pure (Y.fieldAddr0 Fo.fo36_1 rfl) rfl rfl rfl ?_
          | refine LX.pure (Y.fieldAddr Fo.fo36_1 rfl) rfl rfl rfl ?_
        first
          | refine LX.pure (Y.ldB 0 Fo.one34 rfl rfl rfl) rfl rfl rfl ?_
          | refine LX.pure (Y.ldB 1 Fo.one34 rfl rfl rfl) rfl rfl rfl ?_
          | refine LX.pure (Y.ldB 2 Fo.one34 rfl rfl rfl) rfl rfl rfl ?_
        first
          | refine LX.pure (Y.fieldAddr0 Fo.fo36_1 rfl) rfl rfl rfl ?_
          | refine LX.pure (Y.fieldAddr Fo.fo36_1 rfl) rfl rfl rfl ?_
        first
          | refine LX.pure (Y.ldB 0 Fo.one34 rfl rfl rfl) rfl rfl rfl ?_
          | refine LX.pure (Y.ldB 1 Fo.one34 rfl rfl rfl) rfl rfl rfl ?_
          | refine LX.pure (Y.ldB 2 Fo.one34 rfl rfl rfl) rfl rfl rfl ?_
        refine LX.call (cmp_c c1 c2 h1 h2 (digs_len s1) (digs_len s2) (digs_lt _) (digs_lt _)) Fo.en95 rfl rfl rfl rfl rfl ?_
        intro _
        refine LX.call (sign_c _) Fo.en94 rfl rfl rfl rfl rfl ?_
        intro _
        refine LX.pure (Y.assign rfl) rfl rfl rfl ?_
        refine LX.sub (l' := [(4, _)]) ⟨rfl, trivial⟩ ?_
        refine LX.next ?_
        refine PX.thenN ?_
        refine CX.ret ?_
        refine PX.ret1 (by simp) Tryz.results71 rfl ?_
        exact fun w hw => ⟨(), by cases p <;> cases q <;> simp_all, hw.drop (((List.Sublist.refl fr).cons _).cons _)⟩
theorem Cmp_c {w0 : World} {base : Nat} {fr : List It} {x y : Int} {u v : Value} (hx : NumV w0 base x u) (hy : NumV w0 base y v) : FnC Tryz.prog 71 #[u, v] (WA w0 base fr) (fun _ : Unit => .int .i64 (cmp3 x y)) (fun _ => WA w0 base fr) := by
  obtain ⟨⟨g1, c1, rfl, h1⟩, s1⟩ := hx
  obtain ⟨⟨g2, c2, rfl, h2⟩, s2⟩ := hy
  have h := Cmp_0 (fr := fr) c1 c2 (decide (x < 0)) (decide (y < 0)) h1 h2 s1 s2
  have e := cmpC_eq x y
  unfold cmpC at e
  rw [← e]
  simpa using h
theorem kindW_c {w0 : World} {base : Nat} {fr : List It} (z : Int) (g : Option Nat) (c : Nat) : FnC Tryz.prog 247 #[numV z g c] (WA w0 base fr) (fun _ : Unit => .int .i64 3) (fun _ => WA w0 base fr) := by
  refine FnC.of_body (fn := Tryz.f247) [(0, _)] Tryz.func247 rfl Tryz.ntmps247 rfl ⟨rfl, trivial⟩ ?_
  refine CX.seq ?_
  refine CX.region ?_
  refine LX.box rfl rfl rfl rfl rfl ?_
  intro bx0
  refine LX.pure (Y.assign rfl) rfl rfl rfl ?_
  refine LX.sub (l' := [(2, _)]) ⟨rfl, trivial⟩ ?_
  refine LX.next ?_
  refine PX.thenN ?_
  refine CX.seq ?_
  refine CX.region ?_
  refine LX.pure (Y.assign rfl) rfl rfl rfl ?_
  refine LX.sub (l' := [(2, _)]) ⟨rfl, trivial⟩ ?_
  refine LX.next ?_
  refine PX.thenN ?_
  refine CX.ret ?_
  refine PX.ret1 (by simp) Tryz.results247 rfl ?_
  exact fun w hw => ⟨(), rfl, hw.drop (List.sublist_cons_self _ _)⟩
theorem look_c {w0 : World} {base : Nat} {fr : List It} (bk : Nat) {dd L : Int} (hd : 0 ≤ dd ∧ dd ≤ 60) (hL : 1 ≤ L ∧ L ≤ 5000) : FnC Tryz.prog 70 #[.pointer (some ⟨bk, 0, none⟩), .int .i64 dd] (WA w0 base (blk bk [.int .i64 L] 118 :: fr)) (fun _ : Unit => .nilIface) (fun _ => WA w0 base (blk bk [.int .i64 (L - 1)] 118 :: fr)) := by
  refine FnC.of_body (fn := Tryz.f70) [(0, _), (1, _)] Tryz.func70 rfl Tryz.ntmps70 rfl ⟨rfl, rfl, trivial⟩ ?_
  refine CX.seq ?_
  refine CX.region ?_
  refine LX.pure (Y.assign rfl) rfl rfl rfl ?_
  refine LX.sub (l' := [(0, _), (1, _), (4, _)]) ⟨rfl, rfl, rfl, trivial⟩ ?_
  refine LX.next ?_
  refine PX.thenN ?_
  refine CX.seq ?_
  refine CX.seq ?_
  refine CX.region ?_
  refine LX.pure (Y.move rfl) rfl rfl rfl ?_
  refine LX.pure (Y.nilCheck rfl) rfl rfl rfl ?_
  first
    | refine LX.pure (Y.fieldAddr0 Fo.fo118_0 rfl) rfl rfl rfl ?_
    | refine LX.pure (Y.fieldAddr Fo.fo118_0 rfl) rfl rfl rfl ?_
  first
    | refine LX.pure (Y.ldB 0 Fo.one3 rfl rfl rfl) rfl rfl rfl ?_
    | refine LX.pure (Y.ldB 1 Fo.one3 rfl rfl rfl) rfl rfl rfl ?_
    | refine LX.pure (Y.ldB 2 Fo.one3 rfl rfl rfl) rfl rfl rfl ?_
  first
    | refine LX.pure (Y.subN rfl rfl (by first | omega | (simp only []; omega) | (simp; done) | (simp; omega)) (by first | omega | (simp only []; omega) | (simp; done) | (simp; omega))) rfl rfl rfl ?_
    | refine LX.pure (Y.sub rfl rfl (by first | omega | (simp only []; omega) | (simp; done) | (simp; omega))) rfl rfl rfl ?_
  refine LX.pure (Y.nilCheck rfl) rfl rfl rfl ?_
  first
    | refine LX.pure (Y.fieldAddr0 Fo.fo118_0 rfl) rfl rfl rfl ?_
    | refine LX.pure (Y.fieldAddr Fo.fo118_0 rfl) rfl rfl rfl ?_
  first
    | refine LX.storeB 0 Fo.sz3 rfl rfl rfl rfl rfl rfl rfl rfl ?_
    | refine LX.storeB 1 Fo.sz3 rfl rfl rfl rfl rfl rfl rfl rfl ?_
    | refine LX.storeB 2 Fo.sz3 rfl rfl rfl rfl rfl rfl rfl rfl ?_
  refine LX.sub (l' := [(0, _), (1, _), (4, _)]) ⟨rfl, rfl, rfl, trivial⟩ ?_
  refine LX.next ?_
  refine PX.thenN ?_
  refine CX.seq ?_
  refine CX.region ?_
  refine LX.pure (Y.move rfl) rfl rfl rfl ?_
  refine LX.pure (Y.nilCheck rfl) rfl rfl rfl ?_
  first
    | refine LX.pure (Y.fieldAddr0 Fo.fo118_0 rfl) rfl rfl rfl ?_
    | refine LX.pure (Y.fieldAddr Fo.fo118_0 rfl) rfl rfl rfl ?_
  first
    | refine LX.pure (Y.ldB 0 Fo.one3 rfl rfl rfl) rfl rfl rfl ?_
    | refine LX.pure (Y.ldB 1 Fo.one3 rfl rfl rfl) rfl rfl rfl ?_
    | refine LX.pure (Y.ldB 2 Fo.one3 rfl rfl rfl) rfl rfl rfl ?_
  first
    | refine LX.pure (Y.ltN rfl rfl) rfl rfl rfl ?_
    | refine LX.pure (Y.ltI rfl rfl) rfl rfl rfl ?_
  refine LX.pure (Y.move rfl) rfl rfl rfl ?_
  refine LX.sub (l' := [(1, _), (4, _), (17, _)]) ⟨rfl, rfl, rfl, trivial⟩ ?_
  apply LX.joinOr 3 20 17 rfl
  · intro hb1
    have hb1p := hb1
    try simp at hb1p
    refine LX.gF rfl rfl rfl hb1 rfl rfl ?_
    refine LX.gF rfl rfl rfl hb1 rfl rfl ?_
    refine LX.pure (Y.pickT rfl hb1 rfl) rfl rfl rfl ?_
    exact LX.left ⟨rfl, rfl, rfl, rfl, trivial⟩
  · intro hb1
    have hb1p := hb1
    try simp at hb1p
    refine LX.gT rfl rfl rfl hb1 (Y.move rfl) rfl rfl ?_
    first
      | refine LX.gT rfl rfl rfl hb1 (Y.gtN rfl rfl) rfl rfl ?_
      | refine LX.gT rfl rfl rfl hb1 (Y.gtI rfl rfl) rfl rfl ?_
    refine LX.pure (Y.pickF rfl hb1 rfl) rfl rfl rfl ?_
    exact LX.left ⟨rfl, rfl, rfl, rfl, trivial⟩
  refine LX.sub (l' := [(4, _), (20, _)]) ⟨rfl, rfl, trivial⟩ ?_
  refine LX.next ?_
  refine PX.thenN ?_
  refine CX.cond rfl (fun hb2 => ?_) (fun hb2 => ?_)
  · try simp at hb2
    first | done | (exfalso; omega) | (exfalso; simp_all; done) | (exfalso; simp_all; omega)
  · try simp at hb2
    refine CX.skip ?_
    refine PX.thenN ?_
    refine CX.seq ?_
    refine CX.region ?_
    refine LX.pure (Y.assign rfl) rfl rfl rfl ?_
    refine LX.sub (l' := [(4, _)]) ⟨rfl, trivial⟩ ?_
    refine LX.next ?_
    refine PX.thenN ?_
    refine CX.ret ?_
    refine PX.ret1 (by simp) Tryz.results70 rfl ?_
    exact fun w hw => ⟨(), rfl, hw⟩
theorem shallow_c {w0 : World} {base : Nat} {fr : List It} (n : Nat) {dd : Int} (hd : 0 ≤ dd ∧ dd < 60) : FnC Tryz.prog 96 #[.int .i64 (n : Int), .int .i64 dd] (WA w0 base fr) (fun _ : Unit => .nilIface) (fun _ => WA w0 base fr) := by
  refine FnC.of_body (fn := Tryz.f96) [(0, _), (1, _)] Tryz.func96 rfl Tryz.ntmps96 rfl ⟨rfl, rfl, trivial⟩ ?_
  refine CX.seq ?_
  refine CX.region ?_
  refine LX.pure (Y.assign rfl) rfl rfl rfl ?_
  refine LX.sub (l' := [(0, _), (1, _), (4, _)]) ⟨rfl, rfl, rfl, trivial⟩ ?_
  refine LX.next ?_
  refine PX.thenN ?_
  refine CX.seq ?_
  refine CX.seq ?_
  refine CX.region ?_
  refine LX.pure (Y.move rfl) rfl rfl rfl ?_
  first
    | refine LX.pure (Y.eqN rfl rfl) rfl rfl rfl ?_
    | refine LX.pure (Y.eqI rfl rfl) rfl rfl rfl ?_
  refine LX.pure (Y.move rfl) rfl rfl rfl ?_
  refine LX.sub (l' := [(1, _), (4, _), (7, _)]) ⟨rfl, rfl, rfl, trivial⟩ ?_
  apply LX.joinAnd 3 10 7 rfl
  · intro hb1
    have hb1p := hb1
    try simp at hb1p
    refine LX.gT rfl rfl rfl hb1 (Y.move rfl) rfl rfl ?_
    first
      | refine LX.gT rfl rfl rfl hb1 (Y.geN rfl rfl) rfl rfl ?_
      | refine LX.gT rfl rfl rfl hb1 (Y.geI rfl rfl) rfl rfl ?_
    refine LX.pure (Y.pickT rfl hb1 rfl) rfl rfl rfl ?_
    exact LX.left ⟨rfl, rfl, rfl, rfl, trivial⟩
  · intro hb1
    have hb1p := hb1
    try simp at hb1p
    refine LX.gF rfl rfl rfl hb1 rfl rfl ?_
    refine LX.gF rfl rfl rfl hb1 rfl rfl ?_
    refine LX.pure (Y.pickF rfl hb1 rfl) rfl rfl rfl ?_
    exact LX.left ⟨rfl, rfl, rfl, rfl, trivial⟩
  refine LX.sub (l' := [(4, _), (10, _)]) ⟨rfl, rfl, trivial⟩ ?_
  refine LX.next ?_
  refine PX.thenN ?_
  refine CX.cond rfl (fun hb2 => ?_) (fun hb2 => ?_)
  · try simp at hb2
    first | done | (exfalso; omega) | (exfalso; simp_all; done) | (exfalso; simp_all; omega)
  · try simp at hb2
    refine CX.skip ?_
    refine PX.thenN ?_
    refine CX.seq ?_
    refine CX.region ?_
    refine LX.pure (Y.assign rfl) rfl rfl rfl ?_
    refine LX.sub (l' := [(4, _)]) ⟨rfl, trivial⟩ ?_
    refine LX.next ?_
    refine PX.thenN ?_
    refine CX.ret ?_
    refine PX.ret1 (by simp) Tryz.results96 rfl ?_
    exact fun w hw => ⟨(), rfl, hw⟩
theorem kindN_c {w0 : World} {base : Nat} {fr : List It} (v : Value) : FnC Tryz.prog 250 #[v] (WA w0 base fr) (fun _ : Unit => .int .i64 1) (fun _ => WA w0 base fr) := by
  refine FnC.of_body (fn := Tryz.f250) [(0, _)] Tryz.func250 rfl Tryz.ntmps250 rfl ⟨rfl, trivial⟩ ?_
  refine CX.seq ?_
  refine CX.region ?_
  refine LX.box rfl rfl rfl rfl rfl ?_
  intro bx0
  refine LX.pure (Y.assign rfl) rfl rfl rfl ?_
  refine LX.sub (l' := [(2, _)]) ⟨rfl, trivial⟩ ?_
  refine LX.next ?_
  refine PX.thenN ?_
  refine CX.seq ?_
  refine CX.region ?_
  refine LX.pure (Y.assign rfl) rfl rfl rfl ?_
  refine LX.sub (l' := [(2, _)]) ⟨rfl, trivial⟩ ?_
  refine LX.next ?_
  refine PX.thenN ?_
  refine CX.ret ?_
  refine PX.ret1 (by simp) Tryz.results250 rfl ?_
  exact fun w hw => ⟨(), rfl, hw.drop (List.sublist_cons_self _ _)⟩
theorem kindS_c {w0 : World} {base : Nat} {fr : List It} (v : Value) : FnC Tryz.prog 251 #[v] (WA w0 base fr) (fun _ : Unit => .int .i64 8) (fun _ => WA w0 base fr) := by
  refine FnC.of_body (fn := Tryz.f251) [(0, _)] Tryz.func251 rfl Tryz.ntmps251 rfl ⟨rfl, trivial⟩ ?_
  refine CX.seq ?_
  refine CX.region ?_
  refine LX.pure (Y.assign rfl) rfl rfl rfl ?_
  refine LX.sub (l' := [(2, _)]) ⟨rfl, trivial⟩ ?_
  refine LX.next ?_
  refine PX.thenN ?_
  refine CX.seq ?_
  refine CX.region ?_
  refine LX.pure (Y.assign rfl) rfl rfl rfl ?_
  refine LX.sub (l' := [(2, _)]) ⟨rfl, trivial⟩ ?_
  refine LX.next ?_
  refine PX.thenN ?_
  refine CX.ret ?_
  refine PX.ret1 (by simp) Tryz.results251 rfl ?_
  exact fun w hw => ⟨(), rfl, hw⟩
theorem equalW_c {w0 : World} {base : Nat} {fr : List It} (bk : Nat) {dd L : Int} (hd : 0 ≤ dd ∧ dd ≤ 60) (hL : 1 ≤ L ∧ L ≤ 5000) {x y : Int} {u v : Value} (hx : NumV w0 base x u) (hy : NumV w0 base y v) : FnC Tryz.prog 50 #[.pointer (some ⟨bk, 0, none⟩), .iface 82 u, .iface 82 v, .int .i64 dd] (WA w0 base (blk bk [.int .i64 L] 118 :: fr)) (fun _ : Unit => .tuple #[.bool (decide (cmp3 x y = 0)), .nilIface]) (fun _ => WA w0 base (blk bk [.int .i64 (L - 1)] 118 :: fr)) := by
  obtain ⟨⟨g1, c1, e1, _⟩, _⟩ := id hx
  subst e1
  obtain ⟨⟨g2, c2, e2, _⟩, _⟩ := id hy
  subst e2
  refine FnC.of_body (fn := Tryz.f50) [(0, _), (1, _), (2, _), (3, _)] Tryz.func50 rfl Tryz.ntmps50 rfl ⟨rfl, rfl, rfl, rfl, trivial⟩ ?_
  refine CX.seq ?_
  refine CX.region ?_
  refine LX.pure (Y.assign rfl) rfl rfl rfl ?_
  refine LX.pure (Y.assign rfl) rfl rfl rfl ?_
  refine LX.sub (l' := [(0, _), (1, _), (2, _), (3, _), (8, _), (9, _)]) ⟨rfl, rfl, rfl, rfl, rfl, rfl, trivial⟩ ?_
  refine LX.next ?_
  refine PX.thenN ?_
  refine CX.seq ?_
  refine CX.seq ?_
  refine CX.region ?_
  refine LX.pure (Y.move rfl) rfl rfl rfl ?_
  refine LX.pure (Y.move rfl) rfl rfl rfl ?_
  refine LX.call (look_c bk hd hL) Fo.en70 rfl rfl rfl rfl rfl ?_
  intro _
  refine LX.pure (Y.assign rfl) rfl rfl rfl ?_
  refine LX.sub (l' := [(0, _), (1, _), (2, _), (3, _), (8, _), (9, _), (10, _)]) ⟨rfl, rfl, rfl, rfl, rfl, rfl, rfl, trivial⟩ ?_
  refine LX.next ?_
  refine PX.thenN ?_
  refine CX.seq ?_
  refine CX.region ?_
  refine LX.pure (Y.move rfl) rfl rfl rfl ?_
  first
    | refine LX.pure (Y.neNil Fo.un40 rfl rfl) rfl rfl rfl ?_
    | refine LX.pure (Y.neNilNil Fo.un40 rfl) rfl rfl rfl ?_
  refine LX.sub (l' := [(0, _), (1, _), (2, _), (3, _), (8, _), (9, _), (10, _), (25, _)]) ⟨rfl, rfl, rfl, rfl, rfl, rfl, rfl, rfl, trivial⟩ ?_
  refine LX.next ?_
  refine PX.thenN ?_
  refine CX.cond rfl (fun hb1 => ?_) (fun hb1 => ?_)
  · try simp at hb1
    first | done | (exfalso; omega) | (exfalso; simp_all; done) | (exfalso; simp_all; omega)
  · try simp at hb1
    refine CX.skip ?_
    refine PX.thenN ?_
    refine CX.seq ?_
    refine CX.seq ?_
    refine CX.region ?_
    refine LX.pure (Y.move rfl) rfl rfl rfl ?_
    refine LX.invC (kindW_c x g1 c1) rfl (fun _ => by kernel_rfl) rfl rfl rfl rfl ?_
    intro _
    refine LX.pure (Y.move rfl) rfl rfl rfl ?_
    refine LX.invC (kindW_c y g2 c2) rfl (fun _ => by kernel_rfl) rfl rfl rfl rfl ?_
    intro _
    first
      | refine LX.pure (Y.neN rfl rfl) rfl rfl rfl ?_
      | refine LX.pure (Y.neI rfl rfl) rfl rfl rfl ?_
    refine LX.sub (l' := [(0, _), (1, _), (2, _), (3, _), (8, _), (9, _), (31, _)]) ⟨rfl, rfl, rfl, rfl, rfl, rfl, rfl, trivial⟩ ?_
    refine LX.next ?_
    refine PX.thenN ?_
    refine CX.cond rfl (fun hb2 => ?_) (fun hb2 => ?_)
    · try simp at hb2
      first | done | (exfalso; omega) | (exfalso; simp_all; done) | (exfalso; simp_all; omega)
    · try simp at hb2
      refine CX.skip ?_
      refine PX.thenN ?_
      refine CX.seq ?_
      refine CX.seq ?_
      refine CX.region ?_
      refine LX.pure (Y.move rfl) rfl rfl rfl ?_
      refine LX.sub (l' := [(0, _), (1, _), (2, _), (3, _), (8, _), (9, _), (32, _)]) ⟨rfl, rfl, rfl, rfl, rfl, rfl, rfl, trivial⟩ ?_
      refine LX.next ?_
      refine PX.thenN ?_
      refine CX.block ?_
      refine CX.seq ?_
      refine CX.region ?_
      first
        | refine LX.pure (Y.assertYes Fo.nif107 rfl) rfl rfl rfl ?_
        | refine LX.pure (Y.assertNo Fo.nif107 rfl (by decide) Fo.zv107) rfl rfl rfl ?_
      refine LX.pure (Y.extract rfl rfl) rfl rfl rfl ?_
      refine LX.pure (Y.extract rfl rfl) rfl rfl rfl ?_
      refine LX.sub (l' := [(0, _), (1, _), (2, _), (3, _), (8, _), (9, _), (32, _), (34, _), (35, _)]) ⟨rfl, rfl, rfl, rfl, rfl, rfl, rfl, rfl, rfl, trivial⟩ ?_
      refine LX.next ?_
      refine PX.thenN ?_
      refine CX.cond rfl (fun hb3 => ?_) (fun hb3 => ?_)
      · try simp at hb3
        first | done | (exfalso; omega) | (exfalso; simp_all; done) | (exfalso; simp_all; omega)
      · try simp at hb3
        refine CX.seq ?_
        refine CX.region ?_
        first
          | refine LX.pure (Y.assertYes Fo.nif135 rfl) rfl rfl rfl ?_
          | refine LX.pure (Y.assertNo Fo.nif135 rfl (by decide) Fo.zv135) rfl rfl rfl ?_
        refine LX.pure (Y.extract rfl rfl) rfl rfl rfl ?_
        refine LX.pure (Y.extract rfl rfl) rfl rfl rfl ?_
        refine LX.sub (l' := [(0, _), (1, _), (2, _), (3, _), (8, _), (9, _), (32, _), (37, _), (38, _)]) ⟨rfl, rfl, rfl, rfl, rfl, rfl, rfl, rfl, rfl, trivial⟩ ?_
        refine LX.next ?_
        refine PX.thenN ?_
        refine CX.cond rfl (fun hb4 => ?_) (fun hb4 => ?_)
        · try simp at hb4
          first | done | (exfalso; omega) | (exfalso; simp_all; done) | (exfalso; simp_all; omega)
        · try simp at hb4
          refine CX.seq ?_
          refine CX.region ?_
          first
            | refine LX.pure (Y.assertYes Fo.nif82 rfl) rfl rfl rfl ?_
            | refine LX.pure (Y.assertNo Fo.nif82 rfl (by decide) Fo.zv82) rfl rfl rfl ?_
          refine LX.pure (Y.extract rfl rfl) rfl rfl rfl ?_
          refine LX.pure (Y.extract rfl rfl) rfl rfl rfl ?_
          refine LX.sub (l' := [(0, _), (1, _), (2, _), (3, _), (8, _), (9, _), (32, _), (44, _), (45, _)]) ⟨rfl, rfl, rfl, rfl, rfl, rfl, rfl, rfl, rfl, trivial⟩ ?_
          refine LX.next ?_
          refine PX.thenN ?_
          refine CX.cond rfl (fun hb5 => ?_) (fun hb5 => ?_)
          · try simp at hb5
            refine CX.seq ?_
            refine CX.region ?_
            refine LX.alloc rfl Fo.zv82 rfl rfl rfl ?_
            intro bx23
            first
              | refine LX.storeA 0 Fo.ag82 rfl rfl rfl rfl rfl rfl rfl rfl rfl ?_
              | refine LX.storeA 1 Fo.ag82 rfl rfl rfl rfl rfl rfl rfl rfl rfl ?_
              | refine LX.storeA 2 Fo.ag82 rfl rfl rfl rfl rfl rfl rfl rfl rfl ?_
            refine LX.sub (l' := [(1, _), (2, _), (8, _), (9, _), (13, _)]) ⟨rfl, rfl, rfl, rfl, rfl, trivial⟩ ?_
            refine LX.next ?_
            refine PX.thenN ?_
            refine CX.seq ?_
            refine CX.regionM [(0, .anywhere), (1, .held), (2, .anywhere), (3, .anywhere), (4, .anywhere), (5, .alone), (6, .anywhere), (7, .anywhere), (8, .anywhere)] rfl (by kernel_rfl) ?_
            first
              | refine MX.lift0 (i := 0) rfl (Y.fieldAddr0 Fo.fo82_1 rfl) rfl rfl rfl ?_
              | refine MX.lift0 (i := 0) rfl (Y.fieldAddr Fo.fo82_1 rfl) rfl rfl rfl ?_
            refine MX.lift1 (i := 1) (pend' := []) rfl (fun w hw => by first | exact hw | exact hw.1 | exact hw.drop (List.sublist_cons_self _ _) | exact hw.drop ((List.sublist_cons_self _ _).cons _)) (Y.ldAggB (vs := [.bool (decide (x < 0)), rv g1 (digs x.natAbs).length c1]) 0 Fo.ag36 rfl rfl rfl rfl) rfl rfl rfl (by kernel_rfl) ?_
            refine MX.lift0 (i := 2) rfl (Y.move rfl) rfl rfl rfl ?_
            refine MX.lift0 (i := 3) rfl (Y.assert1 Fo.nif82 rfl) rfl rfl rfl ?_
            refine MX.lift0 (i := 4) rfl (Y.field (v := .agg #[.bool (decide (y < 0)), rv g2 (digs y.natAbs).length c2]) rfl (fun _ => by kernel_rfl)) rfl rfl rfl ?_
            refine MX.force (i := 5) rfl ?_
            refine LX.call (Cmp_c hx hy) Fo.en71 rfl rfl rfl rfl rfl ?_
            intro _
            refine LX.nextM [] (by kernel_rfl) (fun h => absurd rfl h) ?_
            first
              | refine MX.lift0 (i := 6) rfl (Y.eqN rfl rfl) rfl rfl rfl ?_
              | refine MX.lift0 (i := 6) rfl (Y.eqI rfl rfl) rfl rfl rfl ?_
            refine MX.lift0 (i := 7) rfl (Y.assign rfl) rfl rfl rfl ?_
            refine MX.lift0 (i := 8) rfl (Y.assign rfl) rfl rfl rfl ?_
            refine MX.sub (l' := [(1, _), (2, _), (8, _), (9, _)]) ⟨rfl, rfl, rfl, rfl, trivial⟩ ?_
            refine MX.done ?_
            refine PX.thenN ?_
            refine CX.ret ?_
            refine PX.blockR ?_
            refine PX.thenR ?_
            refine PX.ret2 (by simp) Tryz.results50 rfl rfl ?_
            exact fun w hw => ⟨(), rfl, hw.drop (List.sublist_cons_self _ _)⟩
          · try simp at hb5
            first | done | (exfalso; omega) | (exfalso; simp_all; done) | (exfalso; simp_all; omega)
theorem equalWN_c {w0 : World} {base : Nat} {fr : List It} (bk : Nat) {dd L : Int} (hd : 0 ≤ dd ∧ dd ≤ 60) (hL : 1 ≤ L ∧ L ≤ 5000) {x : Int} {u : Value} (hx : NumV w0 base x u) : FnC Tryz.prog 50 #[.pointer (some ⟨bk, 0, none⟩), .iface 82 u, .iface 107 (.agg #[]), .int .i64 dd] (WA w0 base (blk bk [.int .i64 L] 118 :: fr)) (fun _ : Unit => .tuple #[.bool (false), .nilIface]) (fun _ => WA w0 base (blk bk [.int .i64 (L - 1)] 118 :: fr)) := by
  obtain ⟨⟨g1, c1, e1, _⟩, _⟩ := id hx
  subst e1
  refine FnC.of_body (fn := Tryz.f50) [(0, _), (1, _), (2, _), (3, _)] Tryz.func50 rfl Tryz.ntmps50 rfl ⟨rfl, rfl, rfl, rfl, trivial⟩ ?_
  refine CX.seq ?_
  refine CX.region ?_
  refine LX.pure (Y.assign rfl) rfl rfl rfl ?_
  refine LX.pure (Y.assign rfl) rfl rfl rfl ?_
  refine LX.sub (l' := [(0, _), (1, _), (2, _), (3, _), (8, _), (9, _)]) ⟨rfl, rfl, rfl, rfl, rfl, rfl, trivial⟩ ?_
  refine LX.next ?_
  refine PX.thenN ?_
  refine CX.seq ?_
  refine CX.seq ?_
  refine CX.region ?_
  refine LX.pure (Y.move rfl) rfl rfl rfl ?_
  refine LX.pure (Y.move rfl) rfl rfl rfl ?_
  refine LX.call (look_c bk hd hL) Fo.en70 rfl rfl rfl rfl rfl ?_
  intro _
  refine LX.pure (Y.assign rfl) rfl rfl rfl ?_
  refine LX.sub (l' := [(0, _), (1, _), (2, _), (3, _), (8, _), (9, _), (10, _)]) ⟨rfl, rfl, rfl, rfl, rfl, rfl, rfl, trivial⟩ ?_
  refine LX.next ?_
  refine PX.thenN ?_
  refine CX.seq ?_
  refine CX.region ?_
  refine LX.pure (Y.move rfl) rfl rfl rfl ?_
  first
    | refine LX.pure (Y.neNil Fo.un40 rfl rfl) rfl rfl rfl ?_
    | refine LX.pure (Y.neNilNil Fo.un40 rfl) rfl rfl rfl ?_
  refine LX.sub (l' := [(0, _), (1, _), (2, _), (3, _), (8, _), (9, _), (10, _), (25, _)]) ⟨rfl, rfl, rfl, rfl, rfl, rfl, rfl, rfl, trivial⟩ ?_
  refine LX.next ?_
  refine PX.thenN ?_
  refine CX.cond rfl (fun hb1 => ?_) (fun hb1 => ?_)
  · try simp at hb1
    first | done | (exfalso; omega) | (exfalso; simp_all; done) | (exfalso; simp_all; omega)
  · try simp at hb1
    refine CX.skip ?_
    refine PX.thenN ?_
    refine CX.seq ?_
    refine CX.seq ?_
    refine CX.region ?_
    refine LX.pure (Y.move rfl) rfl rfl rfl ?_
    refine LX.invC (kindW_c x g1 c1) rfl (fun _ => by kernel_rfl) rfl rfl rfl rfl ?_
    intro _
    refine LX.pure (Y.move rfl) rfl rfl rfl ?_
    refine LX.invC (kindN_c _) rfl (fun _ => by kernel_rfl) rfl rfl rfl rfl ?_
    intro _
    first
      | refine LX.pure (Y.neN rfl rfl) rfl rfl rfl ?_
      | refine LX.pure (Y.neI rfl rfl) rfl rfl rfl ?_
    refine LX.sub (l' := [(0, _), (1, _), (2, _), (3, _), (8, _), (9, _), (31, _)]) ⟨rfl, rfl, rfl, rfl, rfl, rfl, rfl, trivial⟩ ?_
    refine LX.next ?_
    refine PX.thenN ?_
    refine CX.cond rfl (fun hb2 => ?_) (fun hb2 => ?_)
    · try simp at hb2
      refine CX.seq ?_
      refine CX.region ?_
      refine LX.pure (Y.assign rfl) rfl rfl rfl ?_
      refine LX.pure (Y.assign rfl) rfl rfl rfl ?_
      refine LX.sub (l' := [(0, _), (1, _), (2, _), (3, _), (8, _), (9, _)]) ⟨rfl, rfl, rfl, rfl, rfl, rfl, trivial⟩ ?_
      refine LX.next ?_
      refine PX.thenN ?_
      refine CX.ret ?_
      refine PX.thenR ?_
      refine PX.ret2 (by simp) Tryz.results50 rfl rfl ?_
      exact fun w hw => ⟨(), rfl, hw⟩
    · try simp at hb2
      first | done | (exfalso; omega) | (exfalso; simp_all; done) | (exfalso; simp_all; omega)
theorem made_c {w0 : World} {base : Nat} {fr : List It} (ng : Bool) (g : Option Nat) (c n : Nat) (l : List Nat) (hn : l.length = n) (h3 : n ≤ 3) (ht : 0 < n → l.getD (n - 1) 0 ≠ 0) : FnC Tryz.prog 35 #[.bool ng, rv g n c] (WA w0 base (.row g c n 84 1 (dv l) :: fr)) (fun _ : Unit => .agg #[.bool (ng && decide (0 < n)), rv g n c]) (fun _ => WA w0 base (.row g c n 84 1 (dv l) :: fr)) := by
  refine FnC.of_body (fn := Tryz.f35) [(0, _), (1, _)] Tryz.func35 rfl Tryz.ntmps35 rfl ⟨rfl, rfl, trivial⟩ ?_
  refine CX.seq ?_
  refine CX.region ?_
  refine LX.alloc rfl Fo.zv36 rfl rfl rfl ?_
  intro bx0
  refine LX.sub (l' := [(0, _), (1, _), (4, _)]) ⟨rfl, rfl, rfl, trivial⟩ ?_
  refine LX.next ?_
  refine PX.thenN ?_
  refine CX.seq ?_
  refine CX.block ?_
  refine CX.loop (fun _ : Unit => [(0, .bool ng), (1, rv g n c), (4, .pointer (some ⟨bx0, 0, none⟩))]) (fun (_ : Unit) w => WA w0 base (blk bx0 (Value.agg #[.bool false, .slice none 0 0]).cells.toList 36 :: .row g c n 84 1 (dv l) :: fr) w) (fun _ => 0) () ⟨rfl, rfl, rfl, trivial⟩ (fun w hw => hw) ?_
  intro _
  refine CX.seq ?_
  refine CX.seq ?_
  refine CX.region ?_
  refine LX.pure (Y.move rfl) rfl rfl rfl ?_
  refine LX.pure (Y.lenSl rfl Fo.un34 rfl) rfl rfl rfl ?_
  first
    | refine LX.pure (Y.gtN rfl rfl) rfl rfl rfl ?_
    | refine LX.pure (Y.gtI rfl rfl) rfl rfl rfl ?_
  refine LX.pure (Y.move rfl) rfl rfl rfl ?_
  refine LX.sub (l' := [(0, _), (1, _), (4, _), (8, _)]) ⟨rfl, rfl, rfl, rfl, trivial⟩ ?_
  apply LX.joinAnd 8 16 8 rfl
  · intro hb1
    have hb1p := hb1
    try simp at hb1p
    refine LX.gT rfl rfl rfl hb1 (Y.move rfl) rfl rfl ?_
    refine LX.gT rfl rfl rfl hb1 (Y.move rfl) rfl rfl ?_
    refine LX.gT rfl rfl rfl hb1 (Y.lenSl rfl Fo.un34 rfl) rfl rfl ?_
    refine LX.gT rfl rfl rfl hb1 (Y.subN (a := n) (b := 1) rfl rfl (by omega) (by omega)) rfl rfl ?_
    refine LX.gT rfl rfl rfl hb1 (Y.idxR1 1 Fo.un34 Fo.sz84 rfl rfl rfl (by omega)) rfl rfl ?_
    refine LX.gT rfl rfl rfl hb1 (Y.ldR 1 Fo.one84 rfl rfl (dv_at (l := l) (i := n - 1) (by omega))) rfl rfl ?_
    first
      | refine LX.gT rfl rfl rfl hb1 (Y.eqN rfl rfl) rfl rfl ?_
      | refine LX.gT rfl rfl rfl hb1 (Y.eqI rfl rfl) rfl rfl ?_
    refine LX.pure (Y.pickT rfl hb1 rfl) rfl rfl rfl ?_
    exact LX.left ⟨rfl, rfl, rfl, rfl, rfl, trivial⟩
  · intro hb1
    have hb1p := hb1
    try simp at hb1p
    refine LX.gF rfl rfl rfl hb1 rfl rfl ?_
    refine LX.gF rfl rfl rfl hb1 rfl rfl ?_
    refine LX.gF rfl rfl rfl hb1 rfl rfl ?_
    refine LX.gF rfl rfl rfl hb1 rfl rfl ?_
    refine LX.gF rfl rfl rfl hb1 rfl rfl ?_
    refine LX.gF rfl rfl rfl hb1 rfl rfl ?_
    refine LX.gF rfl rfl rfl hb1 rfl rfl ?_
    refine LX.pure (Y.pickF rfl hb1 rfl) rfl rfl rfl ?_
    exact LX.left ⟨rfl, rfl, rfl, rfl, rfl, trivial⟩
  refine LX.sub (l' := [(0, _), (1, _), (4, _), (16, _)]) ⟨rfl, rfl, rfl, rfl, trivial⟩ ?_
  refine LX.next ?_
  refine PX.thenN ?_
  refine CX.cond rfl (fun hb2 => ?_) (fun hb2 => ?_)
  · try simp at hb2
    first | done | (exfalso; simp_all; done) | (exfalso; simp_all; omega)
  · try simp at hb2
    refine CX.exit ?_
    refine PX.thenE ?_
    refine PX.thenE ?_
    refine PX.blockE ?_
    refine PX.thenN ?_
    refine CX.seq ?_
    refine CX.region ?_
    refine LX.pure (Y.move rfl) rfl rfl rfl ?_
    refine LX.pure (Y.move rfl) rfl rfl rfl ?_
    refine LX.sub (l' := [(1, _), (4, _), (23, _)]) ⟨rfl, rfl, rfl, trivial⟩ ?_
    apply LX.joinAnd 4 27 23 rfl
    · intro hb3
      have hb3p := hb3
      try simp at hb3p
      refine LX.gT rfl rfl rfl hb3 (Y.move rfl) rfl rfl ?_
      refine LX.gT rfl rfl rfl hb3 (Y.lenSl rfl Fo.un34 rfl) rfl rfl ?_
      first
        | refine LX.gT rfl rfl rfl hb3 (Y.gtN rfl rfl) rfl rfl ?_
        | refine LX.gT rfl rfl rfl hb3 (Y.gtI rfl rfl) rfl rfl ?_
      refine LX.pure (Y.pickT rfl hb3 rfl) rfl rfl rfl ?_
      exact LX.left ⟨rfl, rfl, rfl, rfl, trivial⟩
    · intro hb3
      have hb3p := hb3
      try simp at hb3p
      refine LX.gF rfl rfl rfl hb3 rfl rfl ?_
      refine LX.gF rfl rfl rfl hb3 rfl rfl ?_
      refine LX.gF rfl rfl rfl hb3 rfl rfl ?_
      refine LX.pure (Y.pickF rfl hb3 rfl) rfl rfl rfl ?_
      exact LX.left ⟨rfl, rfl, rfl, rfl, trivial⟩
    refine LX.pure (Y.move rfl) rfl rfl rfl ?_
    refine LX.pure (Y.build (v := .agg #[.bool (ng && decide (0 < n)), rv g n c]) rfl (fun _ => by kernel_rfl)) rfl rfl rfl ?_
    first
      | refine LX.storeA 0 Fo.ag36 rfl rfl rfl rfl rfl rfl rfl rfl rfl ?_
      | refine LX.storeA 1 Fo.ag36 rfl rfl rfl rfl rfl rfl rfl rfl rfl ?_
      | refine LX.storeA 2 Fo.ag36 rfl rfl rfl rfl rfl rfl rfl rfl rfl ?_
    refine LX.sub (l' := [(4, _)]) ⟨rfl, trivial⟩ ?_
    refine LX.next ?_
    refine PX.thenN ?_
    refine CX.ret ?_
    first
      | refine PX.retA (i := 0) (by simp) Tryz.results35 Fo.ag36 rfl rfl rfl ?_
      | refine PX.retA (i := 1) (by simp) Tryz.results35 Fo.ag36 rfl rfl rfl ?_
      | refine PX.retA (i := 2) (by simp) Tryz.results35 Fo.ag36 rfl rfl rfl ?_
    exact fun w hw => ⟨(), by first | rfl | (simp_all; done) | (cases ng <;> simp_all; done), hw.drop (List.sublist_cons_self _ _)⟩
theorem int_c {w0 : World} {base : Nat} {fr : List It} (z : Int) (g : Option Nat) (c : Nat) : FnC Tryz.prog 9 #[numV z g c] (WA w0 base fr) (fun _ : Unit => .iface 82 (numV z g c)) (fun _ => WA w0 base fr) := by
  refine FnC.of_body (fn := Tryz.f9) [(0, _)] Tryz.func9 rfl Tryz.ntmps9 rfl ⟨rfl, trivial⟩ ?_
  refine CX.seq ?_
  refine CX.region ?_
  refine LX.box rfl rfl rfl rfl rfl ?_
  intro bx0
  refine LX.pure (Y.assign rfl) rfl rfl rfl ?_
  refine LX.sub (l' := [(1, _), (2, _)]) ⟨rfl, rfl, trivial⟩ ?_
  refine LX.next ?_
  refine PX.thenN ?_
  refine CX.seq ?_
  refine CX.region ?_
  refine LX.pure (Y.ldAggB (vs := [.bool (decide (z < 0)), rv g (digs z.natAbs).length c]) 0 Fo.ag36 rfl rfl rfl rfl) rfl rfl rfl ?_
  refine LX.pure (Y.build (v := numV z g c) rfl (fun _ => by kernel_rfl)) rfl rfl rfl ?_
  refine LX.pure (Y.mkI Fo.ni82 rfl) rfl rfl rfl ?_
  refine LX.pure (Y.assign rfl) rfl rfl rfl ?_
  refine LX.sub (l' := [(2, _)]) ⟨rfl, trivial⟩ ?_
  refine LX.next ?_
  refine PX.thenN ?_
  refine CX.ret ?_
  refine PX.ret1 (by simp) Tryz.results9 rfl ?_
  exact fun w hw => ⟨(), rfl, hw.drop (List.sublist_cons_self _ _)⟩
theorem of_c {w0 : World} {base : Nat} {fr : List It} {x : Int} (hx : -9223372036854775808 ≤ x ∧ x ≤ 9223372036854775807) : FnC Tryz.prog 10 #[.int .i64 x] (WA w0 base fr) (fun r : Option Nat × Nat => numV x r.1 r.2) (fun r => WA w0 base (.row r.1 r.2 (digs x.natAbs).length 84 1 (dv (digs x.natAbs)) :: fr)) := by
  refine FnC.of_body (fn := Tryz.f10) [(0, _)] Tryz.func10 rfl Tryz.ntmps10 rfl ⟨rfl, trivial⟩ ?_
  refine CX.seq ?_
  refine CX.region ?_
  refine LX.alloc rfl Fo.zv36 rfl rfl rfl ?_
  intro bx0
  refine LX.sub (l' := [(0, _), (2, _)]) ⟨rfl, rfl, trivial⟩ ?_
  refine LX.next ?_
  refine PX.thenN ?_
  refine CX.seq ?_
  refine CX.region ?_
  refine LX.pure (Y.move rfl) rfl rfl rfl ?_
  refine LX.pure (Y.convW rfl Fo.un2 Fo.un83) rfl rfl rfl ?_
  refine LX.pure (Y.assign rfl) rfl rfl rfl ?_
  refine LX.sub (l' := [(0, _), (2, _), (3, _)]) ⟨rfl, rfl, rfl, trivial⟩ ?_
  refine LX.next ?_
  refine PX.thenN ?_
  refine CX.seqM (τ := Unit) (fun _ : Unit => [(0, .int .i64 x), (2, .pointer (some ⟨bx0, 0, none⟩)), (3, .int .u64 ((x.natAbs : Nat) : Int))]) (fun (_ : Unit) w => WA w0 base (blk bx0 (Value.agg #[.bool false, .slice none 0 0]).cells.toList 36 :: fr) w) ?_ ?_
  ·
    refine CX.seq ?_
    refine CX.region ?_
    refine LX.pure (Y.move rfl) rfl rfl rfl ?_
    first
      | refine LX.pure (Y.ltN rfl rfl) rfl rfl rfl ?_
      | refine LX.pure (Y.ltI rfl rfl) rfl rfl rfl ?_
    refine LX.sub (l' := [(0, _), (2, _), (3, _), (8, _)]) ⟨rfl, rfl, rfl, rfl, trivial⟩ ?_
    refine LX.next ?_
    refine PX.thenN ?_
    refine CX.cond rfl (fun hb1 => ?_) (fun hb1 => ?_)
    · try simp at hb1
      refine CX.region ?_
      refine LX.pure (Y.move rfl) rfl rfl rfl ?_
      refine LX.pure (Y.neg rfl) rfl rfl rfl ?_
      refine LX.pure (Y.assign rfl) rfl rfl rfl ?_
      refine LX.sub (l' := [(0, _), (2, _), (3, _)]) ⟨rfl, rfl, rfl, trivial⟩ ?_
      refine LX.next ?_
      exact PX.seam () ⟨rfl, rfl, congrArg (fun z => some (Value.int .u64 z)) (abs_neg (by omega) hx.1), trivial⟩ (fun w hw => hw)
    · try simp at hb1
      refine CX.skip ?_
      exact PX.seam () ⟨rfl, rfl, congrArg (fun z => some (Value.int .u64 z)) (abs_pos (by omega) hx.2), trivial⟩ (fun w hw => hw)
  ·
    intro _
    refine CX.seq ?_
    refine CX.region ?_
    refine LX.pure (Y.assign rfl) rfl rfl rfl ?_
    refine LX.sub (l' := [(0, _), (2, _), (3, _), (4, _)]) ⟨rfl, rfl, rfl, rfl, trivial⟩ ?_
    refine LX.next ?_
    refine PX.thenN ?_
    refine CX.seq ?_
    refine CX.block ?_
    refine CX.loop (fun s : Nat × List Nat × Option Nat × Nat => [(0, .int .i64 x), (2, .pointer (some ⟨bx0, 0, none⟩)), (3, .int .u64 ((s.1 : Nat) : Int)), (4, rv s.2.2.1 s.2.1.length s.2.2.2)]) (fun (s : Nat × List Nat × Option Nat × Nat) w => (digs x.natAbs = s.2.1 ++ digs s.1 ∧ s.1 < 18446744073709551616) ∧ WA w0 base (.row s.2.2.1 s.2.2.2 s.2.1.length 84 1 (dv s.2.1) :: blk bx0 (Value.agg #[.bool false, .slice none 0 0]).cells.toList 36 :: fr) w) (fun s => s.1) (x.natAbs, [], none, 0) ⟨rfl, rfl, rfl, rfl, trivial⟩ (fun w hw => ⟨⟨rfl, by show x.natAbs < _; omega⟩, hw.nilRow 84 1⟩) ?_
    rintro ⟨u, l, g, cap⟩
    refine CX.have fun ⟨hdu, hu64⟩ => ?_
    try dsimp only at hdu hu64 ⊢
    have hl3 : l.length ≤ 3 := by have := digs_len (u := x.natAbs) (by omega); rw [hdu, List.length_append] at this; omega
    refine CX.seq ?_
    refine CX.seq ?_
    refine CX.region ?_
    refine LX.pure (Y.move rfl) rfl rfl rfl ?_
    first
      | refine LX.pure (Y.gtN rfl rfl) rfl rfl rfl ?_
      | refine LX.pure (Y.gtI rfl rfl) rfl rfl rfl ?_
    refine LX.sub (l' := [(0, _), (2, _), (3, _), (4, _), (12, _)]) ⟨rfl, rfl, rfl, rfl, rfl, trivial⟩ ?_
    refine LX.next ?_
    refine PX.thenN ?_
    refine CX.cond rfl (fun hb2 => ?_) (fun hb2 => ?_)
    · try simp at hb2
      refine CX.skip ?_
      refine PX.thenN ?_
      refine CX.seq ?_
      refine CX.block ?_
      refine CX.region ?_
      refine LX.pure (Y.move rfl) rfl rfl rfl ?_
      refine LX.pure (Y.move rfl) rfl rfl rfl ?_
      refine LX.pure (Y.remK (a := u) (b := 1000000000) rfl rfl (by decide)) rfl rfl rfl ?_
      refine LX.pure (Y.convN rfl Fo.un83 Fo.un84 (wrap_u32 (by omega))) rfl rfl rfl ?_
      refine LX.buildSlice (e := 84) (size := 1) rfl rfl (fun _ => by kernel_rfl) rfl (by decide) rfl rfl rfl ?_
      intro gt16
      first
        | refine LX.appendT 0 Fo.el34 rfl rfl rfl rfl rfl rfl rfl (by first | omega | (dsimp only; omega)) (by first | omega | (dsimp only; omega)) rfl rfl rfl ?_
        | refine LX.appendT 1 Fo.el34 rfl rfl rfl rfl rfl rfl rfl (by first | omega | (dsimp only; omega)) (by first | omega | (dsimp only; omega)) rfl rfl rfl ?_
        | refine LX.appendT 2 Fo.el34 rfl rfl rfl rfl rfl rfl rfl (by first | omega | (dsimp only; omega)) (by first | omega | (dsimp only; omega)) rfl rfl rfl ?_
      intro g' cap'
      refine LX.pure (Y.assign rfl) rfl rfl rfl ?_
      refine LX.sub (l' := [(0, _), (2, _), (3, _), (4, _)]) ⟨rfl, rfl, rfl, rfl, trivial⟩ ?_
      refine LX.next ?_
      refine PX.blockN ?_
      refine PX.thenN ?_
      refine CX.region ?_
      refine LX.pure (Y.move rfl) rfl rfl rfl ?_
      refine LX.pure (Y.quoK (a := u) (b := 1000000000) rfl rfl (by decide) (wrap_u64 (by omega))) rfl rfl rfl ?_
      refine LX.pure (Y.assign rfl) rfl rfl rfl ?_
      refine LX.sub (l' := [(0, _), (2, _), (3, _), (4, _)]) ⟨rfl, rfl, rfl, rfl, trivial⟩ ?_
      refine LX.next ?_
      exact PX.again (L := (fun s : Nat × List Nat × Option Nat × Nat => [(0, .int .i64 x), (2, .pointer (some ⟨bx0, 0, none⟩)), (3, .int .u64 ((s.1 : Nat) : Int)), (4, rv s.2.2.1 s.2.1.length s.2.2.2)])) (WW := (fun (s : Nat × List Nat × Option Nat × Nat) w => (digs x.natAbs = s.2.1 ++ digs s.1 ∧ s.1 < 18446744073709551616) ∧ WA w0 base (.row s.2.2.1 s.2.2.2 s.2.1.length 84 1 (dv s.2.1) :: blk bx0 (Value.agg #[.bool false, .slice none 0 0]).cells.toList 36 :: fr) w)) (μ := fun s => s.1) (i := (u, l, g, cap)) (u / 1000000000, l ++ [u % 1000000000], g', cap') (by show u / 1000000000 < u; exact Nat.div_lt_self (by omega) (by decide)) ⟨rfl, rfl, rfl, by show _ = some (rv g' (l ++ [_]).length cap'); rw [List.length_append]; rfl, trivial⟩ (fun w hw => ⟨⟨by show _ = (l ++ [_]) ++ digs _; rw [hdu, digs_pos (by omega), List.append_assoc]; rfl, by show u / 1000000000 < _; omega⟩, by simpa [dv, flat, Value.cells] using hw⟩)
    · try simp at hb2
      have hu0 : u = 0 := by omega
      subst hu0
      rw [digs_0, List.append_nil] at hdu
      subst hdu
      have hng : (decide (x < 0) && decide (0 < (digs x.natAbs).length)) = decide (x < 0) := by
        by_cases h : x < 0
        · rw [decide_eq_true (List.length_pos_iff.2 (digs_ne (by omega))), Bool.and_true]
        · rw [decide_eq_false h, Bool.false_and]
      refine CX.exit ?_
      refine PX.thenE ?_
      refine PX.thenE ?_
      refine PX.blockE ?_
      refine PX.thenN ?_
      refine CX.seq ?_
      refine CX.region ?_
      refine LX.pure (Y.move rfl) rfl rfl rfl ?_
      first
        | refine LX.pure (Y.ltN rfl rfl) rfl rfl rfl ?_
        | refine LX.pure (Y.ltI rfl rfl) rfl rfl rfl ?_
      refine LX.pure (Y.move rfl) rfl rfl rfl ?_
      refine LX.call (made_c (decide (x < 0)) g cap _ (digs x.natAbs) rfl hl3 (digs_top _)) Fo.en35 rfl rfl rfl rfl rfl ?_
      intro _
      first
        | refine LX.storeA 0 Fo.ag36 rfl rfl rfl rfl rfl rfl rfl rfl rfl ?_
        | refine LX.storeA 1 Fo.ag36 rfl rfl rfl rfl rfl rfl rfl rfl rfl ?_
        | refine LX.storeA 2 Fo.ag36 rfl rfl rfl rfl rfl rfl rfl rfl rfl ?_
      refine LX.sub (l' := [(2, _)]) ⟨rfl, trivial⟩ ?_
      refine LX.next ?_
      refine PX.thenN ?_
      refine CX.ret ?_
      first
        | refine PX.retA (i := 0) (by simp) Tryz.results10 Fo.ag36 rfl rfl rfl ?_
        | refine PX.retA (i := 1) (by simp) Tryz.results10 Fo.ag36 rfl rfl rfl ?_
        | refine PX.retA (i := 2) (by simp) Tryz.results10 Fo.ag36 rfl rfl rfl ?_
      exact fun w hw => ⟨(g, cap), by rw [hng]; rfl, hw.drop (((List.Sublist.refl fr).cons _).cons_cons _)⟩
end Go.Proofs.YtifanilblkellaaGreatDoor
