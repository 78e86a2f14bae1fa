/-
  Proved here: lists made of numbers.
-/
import Derived.Test.YtljaoofbklkglaaGreatDoorVoC
namespace Go.Proofs.YtljaoofbklkglaaGreatDoor
open Go.SX Go.RowKit Go.Vo
namespace Fs
theorem en10 : Enters Tryz.prog 10 := Enters.of Tryz.func10 (by kernel_rfl) (by kernel_rfl)
theorem en11 : Enters Tryz.prog 11 := Enters.of Tryz.func11 (by kernel_rfl) (by kernel_rfl)
theorem en14 : Enters Tryz.prog 14 := Enters.of Tryz.func14 (by kernel_rfl) (by kernel_rfl)
theorem en15 : Enters Tryz.prog 15 := Enters.of Tryz.func15 (by kernel_rfl) (by kernel_rfl)
theorem en24 : Enters Tryz.prog 24 := Enters.of Tryz.func24 (by kernel_rfl) (by kernel_rfl)
theorem en9 : Enters Tryz.prog 9 := Enters.of Tryz.func9 (by kernel_rfl) (by kernel_rfl)
theorem ni44 : NoIface Tryz.prog 44 := fun w v => by kernel_rfl
theorem un22 : Tryz.prog.underlying 22 = some (.slice 3) := by kernel_rfl
theorem un9 : Tryz.prog.underlying 9 = some .string := by kernel_rfl
theorem el42 : Elem Tryz.prog 42 25 1 16 := Elem.of Fp.un42 (z := .nilIface) (by kernel_rfl) rfl
end Fs
theorem clone0_c {w0 : World} {base : Nat} {fr : List It} : FnC Tryz.prog 24 #[.slice none 0 0] (WA w0 base fr) (fun _ : Unit => .slice none 0 0) (fun _ => WA w0 base fr) := by
  refine FnC.of_body (fn := Tryz.f24) [(0, _)] Tryz.func24 rfl Tryz.ntmps24 rfl ⟨rfl, trivial⟩ ?_
  refine CX.seq ?_
  refine CX.region ?_
  refine LX.pure (Y.assign rfl) rfl rfl rfl ?_
  refine LX.sub (l' := [(0, _), (2, _)]) ⟨rfl, rfl, trivial⟩ ?_
  refine LX.next ?_
  refine PX.thenN ?_
  refine CX.seq ?_
  refine CX.seq ?_
  refine CX.region ?_
  refine LX.pure (Y.move rfl) rfl rfl rfl ?_
  refine LX.pure (Y.eqSlNil Fp.un42 rfl) rfl rfl rfl ?_
  refine LX.sub (l' := [(0, _), (2, _), (4, _)]) ⟨rfl, rfl, rfl, trivial⟩ ?_
  refine LX.next ?_
  refine PX.thenN ?_
  refine CX.cond rfl (fun hb1 => ?_) (fun hb1 => ?_)
  · try simp at hb1
    refine CX.seq ?_
    refine CX.region ?_
    refine LX.pure (Y.assign rfl) rfl rfl rfl ?_
    refine LX.sub (l' := [(0, _), (2, _)]) ⟨rfl, rfl, trivial⟩ ?_
    refine LX.next ?_
    refine PX.thenN ?_
    refine CX.ret ?_
    refine PX.thenR ?_
    refine PX.ret1 (by simp) Tryz.results24 rfl ?_
    exact fun w hw => ⟨(), rfl, hw⟩
  · try simp at hb1
    first | done | (exfalso; omega) | (exfalso; simp_all; done) | (exfalso; simp_all; omega)
theorem clone1_c {w0 : World} {base : Nat} {fr : List It} (b c n : Nat) (us : List Value) (hl : us.length = n) (h1 : us.all (·.oneCell') = true) (hn : n ≤ 100) : FnC Tryz.prog 24 #[rv (some b) n c] (WA w0 base (.row (some b) c n 25 1 us :: fr)) (fun r : Option Nat × Nat => rv r.1 n r.2) (fun r => WA w0 base (.row r.1 r.2 n 25 1 us :: .row (some b) c n 25 1 us :: fr)) := by
  refine FnC.of_body (fn := Tryz.f24) [(0, _)] Tryz.func24 rfl Tryz.ntmps24 rfl ⟨rfl, trivial⟩ ?_
  refine CX.seq ?_
  refine CX.region ?_
  refine LX.pure (Y.assign rfl) rfl rfl rfl ?_
  refine LX.sub (l' := [(0, _), (2, _)]) ⟨rfl, rfl, trivial⟩ ?_
  refine LX.next ?_
  refine PX.thenN ?_
  refine CX.seq ?_
  refine CX.seq ?_
  refine CX.region ?_
  refine LX.pure (Y.move rfl) rfl rfl rfl ?_
  refine LX.pure (Y.eqSlNil Fp.un42 rfl) rfl rfl rfl ?_
  refine LX.sub (l' := [(0, _), (2, _), (4, _)]) ⟨rfl, rfl, rfl, trivial⟩ ?_
  refine LX.next ?_
  refine PX.thenN ?_
  refine CX.cond rfl (fun hb1 => ?_) (fun hb1 => ?_)
  · try simp at hb1
    first | done | (exfalso; omega) | (exfalso; simp_all; done) | (exfalso; simp_all; omega)
  · try simp at hb1
    refine CX.skip ?_
    refine PX.thenN ?_
    refine CX.seq ?_
    refine CX.region ?_
    refine LX.buildSlice (e := 25) (size := 1) rfl rfl (fun _ => by kernel_rfl) rfl (by decide) rfl rfl rfl ?_
    intro gt3
    refine LX.pure (Y.move rfl) rfl rfl rfl ?_
    refine LX.appendRow 0 1 (k := 0) Fs.el42 rfl rfl rfl rfl rfl rfl hl h1 (by omega) (by omega) rfl rfl rfl ?_
    intro g' cap'
    rw [Nat.zero_add]
    refine LX.pure (Y.assign rfl) rfl rfl rfl ?_
    refine LX.sub (l' := [(2, _)]) ⟨rfl, trivial⟩ ?_
    refine LX.next ?_
    refine PX.thenN ?_
    refine CX.ret ?_
    refine PX.ret1 (by simp) Tryz.results24 rfl ?_
    exact fun w hw => ⟨(g', cap'), rfl, hw⟩
theorem newList0_c {w0 : World} {base : Nat} {fr : List It} : FnC Tryz.prog 15 #[.slice none 0 0] (WA w0 base fr) (fun r : Nat × Option Nat × Nat => .pointer (some ⟨r.1, 0, none⟩)) (fun r => WA w0 base (blk r.1 [rv r.2.1 0 r.2.2, .bool false, .int .i64 0] 74 :: .row r.2.1 r.2.2 0 25 1 [] :: fr)) := by
  refine FnC.of_body (fn := Tryz.f15) [(0, _)] Tryz.func15 rfl Tryz.ntmps15 rfl ⟨rfl, trivial⟩ ?_
  refine CX.seq ?_
  refine CX.region ?_
  refine LX.pure (Y.assign rfl) rfl rfl rfl ?_
  refine LX.sub (l' := [(0, _), (2, _)]) ⟨rfl, rfl, trivial⟩ ?_
  refine LX.next ?_
  refine PX.thenN ?_
  refine CX.seq ?_
  refine CX.region ?_
  refine LX.pure (Y.move rfl) rfl rfl rfl ?_
  refine LX.call (clone0_c) Fs.en24 rfl rfl rfl rfl rfl ?_
  intro _
  refine LX.pure (Y.build (v := .agg #[.slice none 0 0, .bool false, .int .i64 0]) rfl (fun _ => by kernel_rfl)) rfl rfl rfl ?_
  refine LX.box rfl rfl rfl rfl rfl ?_
  intro bx4
  refine LX.pure (Y.assign rfl) rfl rfl rfl ?_
  refine LX.sub (l' := [(2, _)]) ⟨rfl, trivial⟩ ?_
  refine LX.next ?_
  refine PX.thenN ?_
  refine CX.ret ?_
  refine PX.ret1 (by simp) Tryz.results15 rfl ?_
  exact fun w hw => ⟨(_, none, 0), rfl, (hw.nilRow 25 1).perm (.swap _ _ _)⟩
theorem newList1_c {w0 : World} {base : Nat} {fr : List It} (b c n : Nat) (us : List Value) (hl : us.length = n) (h1 : us.all (·.oneCell') = true) (hn : n ≤ 100) : FnC Tryz.prog 15 #[rv (some b) n c] (WA w0 base (.row (some b) c n 25 1 us :: fr)) (fun r : Nat × Option Nat × Nat => .pointer (some ⟨r.1, 0, none⟩)) (fun r => WA w0 base (blk r.1 [rv r.2.1 n r.2.2, .bool false, .int .i64 0] 74 :: .row r.2.1 r.2.2 n 25 1 us :: .row (some b) c n 25 1 us :: fr)) := by
  refine FnC.of_body (fn := Tryz.f15) [(0, _)] Tryz.func15 rfl Tryz.ntmps15 rfl ⟨rfl, trivial⟩ ?_
  refine CX.seq ?_
  refine CX.region ?_
  refine LX.pure (Y.assign rfl) rfl rfl rfl ?_
  refine LX.sub (l' := [(0, _), (2, _)]) ⟨rfl, rfl, trivial⟩ ?_
  refine LX.next ?_
  refine PX.thenN ?_
  refine CX.seq ?_
  refine CX.region ?_
  refine LX.pure (Y.move rfl) rfl rfl rfl ?_
  refine LX.call (clone1_c b c n us hl h1 hn) Fs.en24 rfl rfl rfl rfl rfl ?_
  rintro ⟨g2, c2⟩
  refine LX.pure (Y.build (v := .agg #[rv g2 n c2, .bool false, .int .i64 0]) rfl (fun _ => by kernel_rfl)) rfl rfl rfl ?_
  refine LX.box rfl rfl rfl rfl rfl ?_
  intro bx4
  refine LX.pure (Y.assign rfl) rfl rfl rfl ?_
  refine LX.sub (l' := [(2, _)]) ⟨rfl, trivial⟩ ?_
  refine LX.next ?_
  refine PX.thenN ?_
  refine CX.ret ?_
  refine PX.ret1 (by simp) Tryz.results15 rfl ?_
  exact fun w hw => ⟨(_, g2, c2), rfl, hw⟩
theorem newList_c {w0 : World} {base : Nat} {fr : List It} (g : Option Nat) (c n : Nat) (us : List Value) (h0 : n = 0 → g = none ∧ c = 0) (hl : us.length = n) (h1 : us.all (·.oneCell') = true) (hn : n ≤ 100) : FnC Tryz.prog 15 #[rv g n c] (WA w0 base (.row g c n 25 1 us :: fr)) (fun r : Nat × Option Nat × Nat => .pointer (some ⟨r.1, 0, none⟩)) (fun r => WA w0 base (blk r.1 [rv r.2.1 n r.2.2, .bool false, .int .i64 0] 74 :: .row r.2.1 r.2.2 n 25 1 us :: .row g c n 25 1 us :: fr)) := by
  intro w hw
  rcases Nat.eq_zero_or_pos n with e | e
  · obtain ⟨rfl, rfl⟩ := h0 e
    subst e
    obtain rfl := List.eq_nil_of_length_eq_zero hl
    exact newList0_c w hw
  · obtain ⟨b, _, rfl, _⟩ := row_some (hw.get (i := 0) rfl) e
    exact newList1_c b c n us hl h1 hn w hw
theorem listOf_c {w0 : World} {base : Nat} {fr : List It} {t : Bool} {a0 : Option Addr} (cap : Nat) {zs : List Int} (hA : IntsAt w0 base a0 zs) (h12 : zs.length ≤ 12) : FnC Tryz.prog 5 #[.slice a0 zs.length cap, .bool t] (WA w0 base fr) (fun v : Value => v) (fun v w => LsW t zs v w ∧ WA w0 base fr w) := by
  refine FnC.of_body (fn := Tryz.f5) [(0, _), (1, _)] Tryz.func5 rfl Tryz.ntmps5 rfl ⟨rfl, rfl, trivial⟩ ?_
  refine CX.seq ?_
  refine CX.region ?_
  refine LX.pure (Y.assign rfl) rfl rfl rfl ?_
  refine LX.sub (l' := [(0, _), (1, _), (4, _)]) ⟨rfl, rfl, rfl, trivial⟩ ?_
  refine LX.next ?_
  refine PX.thenN ?_
  refine CX.seq ?_
  refine CX.region ?_
  refine LX.pure (Y.assign rfl) rfl rfl rfl ?_
  refine LX.sub (l' := [(0, _), (1, _), (4, _), (5, _)]) ⟨rfl, rfl, rfl, rfl, trivial⟩ ?_
  refine LX.next ?_
  refine PX.thenN ?_
  refine CX.seq ?_
  refine CX.seq ?_
  refine CX.region ?_
  refine LX.pure (Y.assign rfl) rfl rfl rfl ?_
  refine LX.sub (l' := [(0, _), (1, _), (4, _), (5, _), (6, _)]) ⟨rfl, rfl, rfl, rfl, rfl, trivial⟩ ?_
  refine LX.next ?_
  refine PX.thenN ?_
  refine CX.block ?_
  refine CX.loop (fun s : Nat × (Option Nat × Nat) × List Value × List It => [(0, .slice a0 zs.length cap), (1, .bool t), (5, rv s.2.1.1 s.1 s.2.1.2), (6, .int .i64 (s.1 : Int))]) (fun (s : Nat × (Option Nat × Nat) × List Value × List It) w => (s.1 ≤ zs.length ∧ s.2.2.1.length = s.1 ∧ Own t zs s.2.2.1 s.2.2.2 ∧ s.2.2.1.all (·.oneCell') = true ∧ (s.1 = 0 → s.2.1.1 = none ∧ s.2.1.2 = 0)) ∧ WA w0 base (.row s.2.1.1 s.2.1.2 s.1 25 1 s.2.2.1 :: (s.2.2.2 ++ fr)) w) (fun s => zs.length - s.1) (0, (none, 0), [], []) ⟨rfl, rfl, rfl, rfl, trivial⟩ (fun w hw => ⟨⟨Nat.zero_le _, rfl, Own.nil _ _ _, rfl, fun _ => ⟨rfl, rfl⟩⟩, hw.nilRow 25 1⟩) ?_
  rintro ⟨i, ⟨g, cc⟩, us, ds⟩
  refine CX.have fun ⟨hi0, hul, hown, hone, hnil⟩ => ?_
  try dsimp only at hi0 hul hown hone hnil ⊢
  refine CX.seq ?_
  refine CX.seq ?_
  refine CX.region ?_
  refine LX.pure (Y.move rfl) rfl rfl rfl ?_
  refine LX.pure (Y.move rfl) rfl rfl rfl ?_
  refine LX.pure (Y.lenSl rfl Fs.un22 rfl) rfl rfl rfl ?_
  first
    | refine LX.pure (Y.ltN rfl rfl) rfl rfl rfl ?_
    | refine LX.pure (Y.ltI rfl rfl) rfl rfl rfl ?_
  refine LX.sub (l' := [(0, _), (1, _), (5, _), (6, _), (10, _)]) ⟨rfl, rfl, rfl, rfl, rfl, trivial⟩ ?_
  refine LX.next ?_
  refine PX.thenN ?_
  refine CX.cond rfl (fun hb1 => ?_) (fun hb1 => ?_)
  · try simp at hb1
    obtain ⟨a, rfl, hab, hac⟩ := hA.at_ i (by omega)
    have hsm := hA.small i
    have h8 := nm9_in (zs.getD i 0)
    refine CX.skip ?_
    refine PX.thenN ?_
    refine CX.seq ?_
    refine CX.block ?_
    refine CX.seq ?_
    refine CX.region ?_
    refine LX.pure (Y.move rfl) rfl rfl rfl ?_
    refine LX.sub (l' := [(0, _), (1, _), (5, _), (6, _), (13, _)]) ⟨rfl, rfl, rfl, rfl, rfl, trivial⟩ ?_
    refine LX.next ?_
    refine PX.thenN ?_
    refine CX.cond rfl (fun hb2 => ?_) (fun hb2 => ?_)
    · try simp at hb2
      subst hb2
      refine CX.region ?_
      refine LX.pure (Y.move rfl) rfl rfl rfl ?_
      refine LX.pure (Y.move rfl) rfl rfl rfl ?_
      refine LX.pure (Y.move rfl) rfl rfl rfl ?_
      refine LX.pure (Y.idxA Fs.un22 Fo.sz3 rfl rfl (by omega)) rfl rfl rfl ?_
      refine LX.pure (Y.ldO Fo.one3 rfl hac hab) rfl rfl rfl ?_
      refine LX.call (number_c _) Fs.en14 rfl rfl rfl rfl rfl ?_
      intro _
      refine LX.pure (Y.sliceHi (s := [97, 98, 99, 100, 101, 102, 103, 104]) (b := (nm9 (zs.getD i 0)).toNat) rfl rfl Fs.un9 (by show _ ≤ 8; omega)) rfl rfl rfl ?_
      refine LX.call (str_c (txt (nm9 (zs.getD i 0)).toNat)) Fs.en11 rfl rfl rfl rfl rfl ?_
      intro _
      refine LX.buildSlice (e := 25) (size := 1) rfl rfl (fun _ => by kernel_rfl) rfl (by decide) rfl rfl rfl ?_
      intro gt16
      first
        | refine LX.appendT 0 Fs.el42 rfl rfl rfl rfl rfl rfl rfl (by first | omega | (dsimp only; omega)) (by first | omega | (dsimp only; omega)) rfl rfl rfl ?_
        | refine LX.appendT 1 Fs.el42 rfl rfl rfl rfl rfl rfl rfl (by first | omega | (dsimp only; omega)) (by first | omega | (dsimp only; omega)) rfl rfl rfl ?_
        | refine LX.appendT 2 Fs.el42 rfl rfl rfl rfl rfl rfl rfl (by first | omega | (dsimp only; omega)) (by first | omega | (dsimp only; omega)) rfl rfl rfl ?_
      intro g' cap'
      refine LX.pure (Y.assign rfl) rfl rfl rfl ?_
      refine LX.sub (l' := [(0, _), (1, _), (5, _), (6, _)]) ⟨rfl, rfl, rfl, rfl, trivial⟩ ?_
      refine LX.next ?_
      refine PX.blockN ?_
      refine PX.thenN ?_
      refine CX.region ?_
      refine LX.pure (Y.move rfl) rfl rfl rfl ?_
      first
        | refine LX.pure (Y.addN rfl rfl (by first | omega | (simp only []; omega) | (simp; done) | (simp; omega))) rfl rfl rfl ?_
        | refine LX.pure (Y.add rfl rfl (by first | omega | (simp only []; omega) | (simp; done) | (simp; omega))) rfl rfl rfl ?_
      refine LX.pure (Y.assign rfl) rfl rfl rfl ?_
      refine LX.sub (l' := [(0, _), (1, _), (5, _), (6, _)]) ⟨rfl, rfl, rfl, rfl, trivial⟩ ?_
      refine LX.next ?_
      exact PX.again (L := (fun s : Nat × (Option Nat × Nat) × List Value × List It => [(0, .slice (some a) zs.length cap), (1, .bool true), (5, rv s.2.1.1 s.1 s.2.1.2), (6, .int .i64 (s.1 : Int))])) (WW := (fun (s : Nat × (Option Nat × Nat) × List Value × List It) w => (s.1 ≤ zs.length ∧ s.2.2.1.length = s.1 ∧ Own true zs s.2.2.1 s.2.2.2 ∧ s.2.2.1.all (·.oneCell') = true ∧ (s.1 = 0 → s.2.1.1 = none ∧ s.2.1.2 = 0)) ∧ WA w0 base (.row s.2.1.1 s.2.1.2 s.1 25 1 s.2.2.1 :: (s.2.2.2 ++ fr)) w)) (μ := fun s => zs.length - s.1) (i := (i, (g, cc), us, ds)) (i + 1, (g', cap'), us ++ [.iface 62 (str (txt (nm9 (zs.getD i 0)).toNat))], ds) (by show zs.length - (i + 1) < zs.length - i; omega) ⟨rfl, rfl, rfl, rfl, trivial⟩ (fun w hw => ⟨⟨by show i + 1 ≤ zs.length; omega, by show (us ++ [_]).length = i + 1; rw [List.length_append, hul]; rfl, hown.snoc (fun _ h => h) (by rw [hul]; exact rfl), by show (us ++ [_]).all _ = true; rw [List.all_append, hone]; rfl, fun h => absurd h (by show i + 1 ≠ 0; omega)⟩, by simpa [flat, Value.cells] using hw⟩)
    · try simp at hb2
      subst hb2
      refine CX.region ?_
      refine LX.pure (Y.move rfl) rfl rfl rfl ?_
      refine LX.pure (Y.move rfl) rfl rfl rfl ?_
      refine LX.pure (Y.move rfl) rfl rfl rfl ?_
      refine LX.pure (Y.idxA Fs.un22 Fo.sz3 rfl rfl (by omega)) rfl rfl rfl ?_
      refine LX.pure (Y.ldO Fo.one3 rfl hac hab) rfl rfl rfl ?_
      refine LX.call (of_c hsm) Fs.en10 rfl rfl rfl rfl rfl ?_
      rintro ⟨gd, cd⟩
      refine LX.call (int_c _ gd cd) Fs.en9 rfl rfl rfl rfl rfl ?_
      intro _
      refine LX.buildSlice (e := 25) (size := 1) rfl rfl (fun _ => by kernel_rfl) rfl (by decide) rfl rfl rfl ?_
      intro gt29
      first
        | refine LX.appendT 0 Fs.el42 rfl rfl rfl rfl rfl rfl rfl (by first | omega | (dsimp only; omega)) (by first | omega | (dsimp only; omega)) rfl rfl rfl ?_
        | refine LX.appendT 1 Fs.el42 rfl rfl rfl rfl rfl rfl rfl (by first | omega | (dsimp only; omega)) (by first | omega | (dsimp only; omega)) rfl rfl rfl ?_
        | refine LX.appendT 2 Fs.el42 rfl rfl rfl rfl rfl rfl rfl (by first | omega | (dsimp only; omega)) (by first | omega | (dsimp only; omega)) rfl rfl rfl ?_
      intro g' cap'
      refine LX.pure (Y.assign rfl) rfl rfl rfl ?_
      refine LX.sub (l' := [(0, _), (1, _), (5, _), (6, _)]) ⟨rfl, rfl, rfl, rfl, trivial⟩ ?_
      refine LX.next ?_
      refine PX.blockN ?_
      refine PX.thenN ?_
      refine CX.region ?_
      refine LX.pure (Y.move rfl) rfl rfl rfl ?_
      first
        | refine LX.pure (Y.addN rfl rfl (by first | omega | (simp only []; omega) | (simp; done) | (simp; omega))) rfl rfl rfl ?_
        | refine LX.pure (Y.add rfl rfl (by first | omega | (simp only []; omega) | (simp; done) | (simp; omega))) rfl rfl rfl ?_
      refine LX.pure (Y.assign rfl) rfl rfl rfl ?_
      refine LX.sub (l' := [(0, _), (1, _), (5, _), (6, _)]) ⟨rfl, rfl, rfl, rfl, trivial⟩ ?_
      refine LX.next ?_
      exact PX.again (L := (fun s : Nat × (Option Nat × Nat) × List Value × List It => [(0, .slice (some a) zs.length cap), (1, .bool false), (5, rv s.2.1.1 s.1 s.2.1.2), (6, .int .i64 (s.1 : Int))])) (WW := (fun (s : Nat × (Option Nat × Nat) × List Value × List It) w => (s.1 ≤ zs.length ∧ s.2.2.1.length = s.1 ∧ Own false zs s.2.2.1 s.2.2.2 ∧ s.2.2.1.all (·.oneCell') = true ∧ (s.1 = 0 → s.2.1.1 = none ∧ s.2.1.2 = 0)) ∧ WA w0 base (.row s.2.1.1 s.2.1.2 s.1 25 1 s.2.2.1 :: (s.2.2.2 ++ fr)) w)) (μ := fun s => zs.length - s.1) (i := (i, (g, cc), us, ds)) (i + 1, (g', cap'), us ++ [.iface 58 (numV (zs.getD i 0) gd cd)], (It.row gd cd (digs (zs.getD i 0).natAbs).length 60 1 (dv (digs (zs.getD i 0).natAbs)) :: ds)) (by show zs.length - (i + 1) < zs.length - i; omega) ⟨rfl, rfl, rfl, rfl, trivial⟩ (fun w hw => ⟨⟨by show i + 1 ≤ zs.length; omega, by show (us ++ [_]).length = i + 1; rw [List.length_append, hul]; rfl, hown.snoc (fun _ h => List.mem_cons_of_mem _ h) (by rw [hul]; exact ⟨_, _, rfl, List.mem_cons_self ..⟩), by show (us ++ [_]).all _ = true; rw [List.all_append, hone]; rfl, fun h => absurd h (by show i + 1 ≠ 0; omega)⟩, by simpa [flat, Value.cells] using hw.perm (.swap _ _ _)⟩)
  · try simp at hb1
    have hie : i = zs.length := by omega
    refine CX.exit ?_
    refine PX.thenE ?_
    refine PX.thenE ?_
    refine PX.blockE ?_
    refine PX.thenN ?_
    refine CX.seq ?_
    refine CX.region ?_
    refine LX.pure (Y.move rfl) rfl rfl rfl ?_
    refine LX.call (newList_c g cc i us hnil hul hone (by omega)) Fs.en15 rfl rfl rfl rfl rfl ?_
    rintro ⟨bl, g2, c2⟩
    refine LX.pure (Y.mkI Fs.ni44 rfl) rfl rfl rfl ?_
    refine LX.pure (Y.assign rfl) rfl rfl rfl ?_
    refine LX.sub (l' := [(4, _)]) ⟨rfl, trivial⟩ ?_
    refine LX.next ?_
    refine PX.thenN ?_
    refine CX.ret ?_
    refine PX.ret1 (by simp) Tryz.results5 rfl ?_
    exact fun w hw => ⟨_, rfl, ls_of (us := us) (ds := ds) (n := i) (g := g2) (c := c2) (e := 25) hw rfl (List.mem_cons_of_mem _ (List.mem_cons_self ..)) hie (hul.trans hie) hown (fun it h => by simp [h]) hA.small, hw.drop (((List.sublist_append_right ds fr).cons _).cons _ |>.cons _)⟩
end Go.Proofs.YtljaoofbklkglaaGreatDoor
