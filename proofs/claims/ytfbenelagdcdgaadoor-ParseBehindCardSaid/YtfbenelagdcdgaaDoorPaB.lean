/-
  Proved here: signs and what they are.
-/
import Derived.Test.YtfbenelagdcdgaaDoorPaA
namespace Go.Proofs.YtfbenelagdcdgaaDoor
open Go.SX Go.RowKit Go.Tr Go.Lex
namespace Pb
theorem en75 : Enters Tryd.prog 75 := Enters.of Tryd.func75 (by kernel_rfl) (by kernel_rfl)
theorem sz3 : SizeIs Tryd.prog 3 1 := fun w => by kernel_rfl
theorem un29 : Tryd.prog.underlying 29 = some (.slice 3) := by kernel_rfl
end Pb
open Go.Pa (opOf)
def opsT : List (List UInt8) := [[111, 114], [97, 110, 100], [61, 61], [33, 61], [60], [60, 61], [62], [62, 61], [105, 110], [43], [45], [42], [47, 47], [37]]
def opsI : List Int := [19, 18, 26, 27, 28, 29, 30, 31, 32, 21, 22, 23, 24, 25]
theorem op_at {x : List UInt8} {k : Int} (h : opOf x = some k) : ∃ j : Nat, j < 14 ∧ idxI x opsT 0 = (j : Int) ∧ opsI[j]? = some k := by
  unfold opOf at h
  by_cases hx0 : x = [111, 114]
  · rw [if_pos hx0] at h; subst hx0; cases h; exact ⟨0, by decide, by decide, rfl⟩
  rw [if_neg hx0] at h
  by_cases hx1 : x = [97, 110, 100]
  · rw [if_pos hx1] at h; subst hx1; cases h; exact ⟨1, by decide, by decide, rfl⟩
  rw [if_neg hx1] at h
  by_cases hx2 : x = [61, 61]
  · rw [if_pos hx2] at h; subst hx2; cases h; exact ⟨2, by decide, by decide, rfl⟩
  rw [if_neg hx2] at h
  by_cases hx3 : x = [33, 61]
  · rw [if_pos hx3] at h; subst hx3; cases h; exact ⟨3, by decide, by decide, rfl⟩
  rw [if_neg hx3] at h
  by_cases hx4 : x = [60]
  · rw [if_pos hx4] at h; subst hx4; cases h; exact ⟨4, by decide, by decide, rfl⟩
  rw [if_neg hx4] at h
  by_cases hx5 : x = [60, 61]
  · rw [if_pos hx5] at h; subst hx5; cases h; exact ⟨5, by decide, by decide, rfl⟩
  rw [if_neg hx5] at h
  by_cases hx6 : x = [62]
  · rw [if_pos hx6] at h; subst hx6; cases h; exact ⟨6, by decide, by decide, rfl⟩
  rw [if_neg hx6] at h
  by_cases hx7 : x = [62, 61]
  · rw [if_pos hx7] at h; subst hx7; cases h; exact ⟨7, by decide, by decide, rfl⟩
  rw [if_neg hx7] at h
  by_cases hx8 : x = [105, 110]
  · rw [if_pos hx8] at h; subst hx8; cases h; exact ⟨8, by decide, by decide, rfl⟩
  rw [if_neg hx8] at h
  by_cases hx9 : x = [43]
  · rw [if_pos hx9] at h; subst hx9; cases h; exact ⟨9, by decide, by decide, rfl⟩
  rw [if_neg hx9] at h
  by_cases hx10 : x = [45]
  · rw [if_pos hx10] at h; subst hx10; cases h; exact ⟨10, by decide, by decide, rfl⟩
  rw [if_neg hx10] at h
  by_cases hx11 : x = [42]
  · rw [if_pos hx11] at h; subst hx11; cases h; exact ⟨11, by decide, by decide, rfl⟩
  rw [if_neg hx11] at h
  by_cases hx12 : x = [47, 47]
  · rw [if_pos hx12] at h; subst hx12; cases h; exact ⟨12, by decide, by decide, rfl⟩
  rw [if_neg hx12] at h
  by_cases hx13 : x = [37]
  · rw [if_pos hx13] at h; subst hx13; cases h; exact ⟨13, by decide, by decide, rfl⟩
  rw [if_neg hx13] at h
  cases h
theorem psops_c {w0 : World} {base : Nat} {fr : List It} : FnC Tryd.prog 75 #[] (WA w0 base fr) (fun q : Nat × Nat => .tuple #[.slice (some ⟨q.1, 0, none⟩) 14 14, .slice (some ⟨q.2, 0, none⟩) 14 14]) (fun q => WA w0 base (.row (some q.2) 14 14 3 1 (opsI.map iv) :: .row (some q.1) 14 14 9 1 (opsT.map str) :: fr)) := by
  refine FnC.of_body (fn := Tryd.f75) [] Tryd.func75 rfl Tryd.ntmps75 rfl trivial ?_
  refine CX.seq <| CX.region <| LX.pure (Y.assign rfl) rfl rfl rfl <| LX.pure (Y.assign rfl) rfl rfl rfl <| LX.sub (l' := [(0, _), (1, _)]) ⟨rfl, rfl, trivial⟩ <| LX.next <| PX.thenN <| CX.seq <| CX.region <| LX.buildSlice (e := 9) (size := 1) rfl rfl (fun _ => by kernel_rfl) rfl (by decide) rfl rfl rfl ?_
  intro b1
  refine LX.buildSlice (e := 3) (size := 1) rfl rfl (fun _ => by kernel_rfl) rfl (by decide) rfl rfl rfl ?_
  intro b2
  refine LX.pure (Y.assign rfl) rfl rfl rfl <| LX.pure (Y.assign rfl) rfl rfl rfl <| LX.sub (l' := [(0, _), (1, _)]) ⟨rfl, rfl, trivial⟩ <| LX.next <| PX.thenN <| CX.ret <| PX.ret2 (by simp) Tryd.results75 rfl rfl ?_
  exact fun w hw => ⟨(b1, b2), rfl, hw⟩
theorem psop_c {w0 : World} {base : Nat} {fr : List It} {x : List UInt8} {k : Int} (hk : opOf x = some k) : FnC Tryd.prog 72 #[str x] (WA w0 base fr) (fun _ : Unit => .int .i64 k) (fun _ => WA w0 base fr) := by
  obtain ⟨j, hj, hji, hjk⟩ := op_at hk
  refine FnC.of_body (fn := Tryd.f72) [(0, _)] Tryd.func72 rfl Tryd.ntmps72 rfl ⟨rfl, trivial⟩ ?_
  refine CX.seq <| CX.region <| LX.pure (Y.assign rfl) rfl rfl rfl <| LX.sub (l' := [(0, _), (2, _)]) ⟨rfl, rfl, trivial⟩ <| LX.next <| PX.thenN <| CX.seq <| CX.region <| LX.call (psops_c) Pb.en75 rfl rfl rfl rfl rfl ?_
  rintro ⟨b1, b2⟩
  refine LX.pure (Y.move rfl) rfl rfl rfl <| LX.pure (Y.extract rfl rfl) rfl rfl rfl <| LX.pure (Y.extract rfl rfl) rfl rfl rfl <| LX.pure (Y.assign rfl) rfl rfl rfl <| LX.pure (Y.assign rfl) rfl rfl rfl <| LX.sub (l' := [(0, _), (2, _), (3, _), (4, _)]) ⟨rfl, rfl, rfl, rfl, trivial⟩ <| LX.next <| PX.thenN <| CX.seq <| CX.region <| LX.pure (Y.move rfl) rfl rfl rfl <| LX.pure (Y.move rfl) rfl rfl rfl <| LX.pure (Y.move rfl) rfl rfl rfl <| LX.callQ (Str_q 14 (ss := opsT) (by decide) x (fun w hw => row_at hw (j := 1) (g := some b1) rfl rfl (by decide) (fun i z h => map_A h))) Fy.en56 rfl rfl rfl rfl rfl <| LX.pure (Y.idxR 0 Pb.un29 Pb.sz3 rfl (congrArg (fun z => some (Value.int .i64 z)) hji) rfl (by omega)) rfl rfl rfl <| LX.pure (Y.ldR 0 (v := .int .i64 k) Pa.one3 rfl rfl (iv_at hjk)) rfl rfl rfl <| LX.pure (Y.assign rfl) rfl rfl rfl <| LX.sub (l' := [(2, _)]) ⟨rfl, trivial⟩ <| LX.next <| PX.thenN <| CX.ret <| PX.ret1 (by simp) Tryd.results72 rfl ?_
  exact fun w hw => ⟨(), rfl, hw.drop (.cons _ (List.sublist_cons_self _ _))⟩
end Go.Proofs.YtfbenelagdcdgaaDoor
