/-
  Proved here: what instructions are called.
-/
import Derived.Test.YtgijpgkckiknjaaGreatDoorCkPl
namespace Go.Proofs.YtgijpgkckiknjaaGreatDoor
open Go.SX Go.RowKit Go.Ck Go.Lex
namespace Fjg
theorem en61 : Enters Tryz.prog 61 := Enters.of Tryz.func61 (by kernel_rfl) (by kernel_rfl)
end Fjg
def insNames : List (List UInt8) := [[], [99, 111, 110, 115, 116], [108, 111, 99, 97, 108], [115, 101, 116, 108, 111, 99, 97, 108], [103, 108, 111, 98, 97, 108], [115, 101, 116, 103, 108, 111, 98, 97, 108], [112, 114, 101], [108, 105, 115, 116], [116, 117, 112, 108, 101], [100, 105, 99, 116], [117, 110, 97, 114, 121], [98, 105, 110, 97, 114, 121], [106, 117, 109, 112], [105, 102, 110, 111, 116], [107, 101, 101, 112, 105, 102], [107, 101, 101, 112, 105, 102, 110, 111, 116], [99, 97, 108, 108], [100, 111, 116], [105, 110, 100, 101, 120], [115, 108, 105, 99, 101], [112, 117, 116], [115, 112, 114, 101, 97, 100], [101, 97, 99, 104], [110, 101, 120, 116], [111, 118, 101, 114], [97, 100, 100], [108, 97, 121], [112, 111, 112], [102, 117, 110, 99], [114, 101, 116, 117, 114, 110], [108, 111, 97, 100], [116, 119, 111], [112, 105, 99, 107], [117, 110, 115, 101, 116]]
def nmOf (z : Int) : List UInt8 := if 0 ≤ z ∧ z ≤ 33 then insNames.getD z.toNat [] else []
theorem insNames_at {k : Nat} (h : k < 34) : (insNames.map str)[k * 1]? = some (str (insNames.getD k [])) := by
  rw [Nat.mul_one, List.getElem?_map, List.getD_eq_getElem?_getD, List.getElem?_eq_getElem (show k < insNames.length from h)]; rfl
theorem insNames_c {w0 : World} {base : Nat} {fr : List It} : FnC Tryz.prog 61 #[] (WA w0 base fr) (fun b : Nat => .slice (some ⟨b, 0, none⟩) 34 34) (fun b => WA w0 base (.row (some b) 34 34 9 1 (insNames.map str) :: fr)) := by
  refine FnC.of_body (fn := Tryz.f61) [] Tryz.func61 rfl Tryz.ntmps61 rfl trivial ?_
  refine CX.seq ?_
  refine CX.region ?_
  refine LX.pure (Y.assign rfl) rfl rfl rfl ?_
  refine LX.sub (l' := [(0, _)]) ⟨rfl, trivial⟩ ?_
  refine LX.next ?_
  refine PX.thenN ?_
  refine CX.seq ?_
  refine CX.region ?_
  refine LX.buildSlice (e := 9) (size := 1) rfl rfl (fun _ => by kernel_rfl) rfl (by decide) rfl rfl rfl ?_
  intro bn
  refine LX.pure (Y.assign rfl) rfl rfl rfl ?_
  refine LX.sub (l' := [(0, _)]) ⟨rfl, trivial⟩ ?_
  refine LX.next ?_
  refine PX.thenN ?_
  refine CX.ret ?_
  refine PX.ret1 (by simp) Tryz.results61 rfl ?_
  exact fun w hw => ⟨bn, rfl, hw⟩
theorem insNames4_c {w0 : World} {base : Nat} {fr : List It} : FnC Tryz.prog 22 #[] (WA w0 base fr) (fun b : Nat => .slice (some ⟨b, 0, none⟩) 34 34) (fun b => WA w0 base (.row (some b) 34 34 9 1 (insNames.map str) :: fr)) := by
  refine FnC.of_body (fn := Tryz.f22) [] Tryz.func22 rfl Tryz.ntmps22 rfl trivial ?_
  refine CX.seq ?_
  refine CX.region ?_
  refine LX.pure (Y.assign rfl) rfl rfl rfl ?_
  refine LX.sub (l' := [(0, _)]) ⟨rfl, trivial⟩ ?_
  refine LX.next ?_
  refine PX.thenN ?_
  refine CX.seq ?_
  refine CX.region ?_
  refine LX.buildSlice (e := 9) (size := 1) rfl rfl (fun _ => by kernel_rfl) rfl (by decide) rfl rfl rfl ?_
  intro bn
  refine LX.pure (Y.assign rfl) rfl rfl rfl ?_
  refine LX.sub (l' := [(0, _)]) ⟨rfl, trivial⟩ ?_
  refine LX.next ?_
  refine PX.thenN ?_
  refine CX.ret ?_
  refine PX.ret1 (by simp) Tryz.results22 rfl ?_
  exact fun w hw => ⟨bn, rfl, hw⟩
theorem insName_c {w0 : World} {base : Nat} {fr : List It} (z : Int) : FnC Tryz.prog 25 #[.int .i64 z] (WA w0 base fr) (fun _ : Unit => str (nmOf z)) (fun _ => WA w0 base fr) := by
  refine FnC.of_body (fn := Tryz.f25) [(0, _)] Tryz.func25 rfl Tryz.ntmps25 rfl ⟨rfl, trivial⟩ ?_
  refine CX.seq ?_
  refine CX.region ?_
  refine LX.pure (Y.assign rfl) rfl rfl rfl ?_
  refine LX.sub (l' := [(0, _), (2, _)]) ⟨rfl, rfl, trivial⟩ ?_
  refine LX.next ?_
  refine PX.thenN ?_
  refine CX.seq ?_
  refine CX.seq ?_
  refine CX.region ?_
  refine LX.pure (Y.move rfl) rfl rfl rfl ?_
  refine LX.pure (Y.ltI rfl rfl) rfl rfl rfl ?_
  refine LX.pure (Y.move rfl) rfl rfl rfl ?_
  refine LX.sub (l' := [(0, _), (2, _), (5, _)]) ⟨rfl, rfl, rfl, trivial⟩ ?_
  apply LX.joinOr 3 8 5 rfl
  · intro hb1
    have hb1p := hb1
    try simp at hb1p
    refine LX.gF rfl rfl rfl hb1 rfl rfl ?_
    refine LX.gF rfl rfl rfl hb1 rfl rfl ?_
    refine LX.pure (Y.pickT rfl hb1 rfl) rfl rfl rfl ?_
    exact LX.left ⟨rfl, rfl, rfl, rfl, trivial⟩
  · intro hb1
    have hb1p := hb1
    try simp at hb1p
    refine LX.gT rfl rfl rfl hb1 (Y.move rfl) rfl rfl ?_
    refine LX.gT rfl rfl rfl hb1 (Y.gtI rfl rfl) rfl rfl ?_
    refine LX.pure (Y.pickF rfl hb1 rfl) rfl rfl rfl ?_
    exact LX.left ⟨rfl, rfl, rfl, rfl, trivial⟩
  refine LX.sub (l' := [(0, _), (2, _), (8, _)]) ⟨rfl, rfl, rfl, trivial⟩ ?_
  refine LX.next ?_
  refine PX.thenN ?_
  refine CX.cond rfl (fun hb2 => ?_) (fun hb2 => ?_)
  · try simp at hb2
    refine CX.seq ?_
    refine CX.region ?_
    refine LX.pure (Y.assign rfl) rfl rfl rfl ?_
    refine LX.sub (l' := [(0, _), (2, _)]) ⟨rfl, rfl, trivial⟩ ?_
    refine LX.next ?_
    refine PX.thenN ?_
    refine CX.ret ?_
    refine PX.thenR ?_
    refine PX.ret1 (by simp) Tryz.results25 rfl ?_
    exact fun w hw => ⟨(), congrArg (fun z => Ending.returned (str z)) (show [] = nmOf z from by unfold nmOf; rw [if_neg (by omega)]), hw⟩
  · try simp at hb2
    obtain ⟨k, rfl⟩ : ∃ k : Nat, z = (k : Int) := ⟨z.toNat, by omega⟩
    have hk : k < 34 := by omega
    refine CX.skip ?_
    refine PX.thenN ?_
    refine CX.seq ?_
    refine CX.region ?_
    refine LX.call (insNames_c) Fjg.en61 rfl rfl rfl rfl rfl ?_
    intro bn
    refine LX.pure (Y.move rfl) rfl rfl rfl ?_
    refine LX.pure (Y.idxR 0 Fy.un26 Fy.sz9 rfl rfl rfl (by omega)) rfl rfl rfl ?_
    refine LX.pure (Y.ldR 0 Fy.one9 rfl rfl (insNames_at hk)) rfl rfl rfl ?_
    refine LX.pure (Y.assign rfl) rfl rfl rfl ?_
    refine LX.sub (l' := [(2, _)]) ⟨rfl, trivial⟩ ?_
    refine LX.next ?_
    refine PX.thenN ?_
    refine CX.ret ?_
    refine PX.ret1 (by simp) Tryz.results25 rfl ?_
    exact fun w hw => ⟨(), congrArg (fun z => Ending.returned (str z)) (show insNames.getD k [] = nmOf (k : Int) from by unfold nmOf; rw [if_pos (by omega)]; rfl), hw.drop (List.sublist_cons_self _ _)⟩
end Go.Proofs.YtgijpgkckiknjaaGreatDoor
