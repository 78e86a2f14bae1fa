/-
  Proved here: what slices.Grow hands back of nothing: room for so many.
-/
import Derived.Shelf.Spec.SlicesGrow
import Derived.Ground.Names8Prog
import Derived.Test.YtifanilblkellaaGreatDoorProg
import Derived.Test.YtifanilblkellaaGreatDoorSsT
namespace Go.Proofs
open Go.Shelf
def Tryz.grow57_ren : Go.Shelf.Ren := ⟨fun | 4 => 57 | n => n, fun | 22 => 74 | 25 => 89 | 3 => 3 | 4 => 4 | 9 => 9 | 20 => 20 | 0 => 0 | n => n, fun | n => n⟩
theorem Tryz.grow57 : Go.Proofs.Lays8.n4 Tryz.prog Tryz.grow57_ren := {
  mixed := by kernel_rfl
  f4 := ⟨Tryz.f57.name, by decide, Tryz.func57.trans (congrArg some (by kernel_rfl))⟩
  t0 := Tryz.underlying0
  a0 := Tryz.isAgg0
  z0 := Tryz.sizeOf0
  v0 := Tryz.zeroValue0
  t3 := Tryz.underlying3
  a3 := Tryz.isAgg3
  z3 := Tryz.sizeOf3
  v3 := Tryz.zeroValue3
  t4 := Tryz.underlying4
  a4 := Tryz.isAgg4
  z4 := Tryz.sizeOf4
  v4 := Tryz.zeroValue4
  t9 := Tryz.underlying9
  a9 := Tryz.isAgg9
  z9 := Tryz.sizeOf9
  v9 := Tryz.zeroValue9
  t20 := Tryz.underlying20
  a20 := Tryz.isAgg20
  z20 := Tryz.sizeOf20
  v20 := Tryz.zeroValue20
  t22 := Tryz.underlying74
  a22 := Tryz.isAgg74
  z22 := Tryz.sizeOf74
  v22 := Tryz.zeroValue74 }
end Go.Proofs
namespace Go.Proofs.YtifanilblkellaaGreatDoor
open Go.SX Go.RowKit Go.Shelf
theorem WA.asRow {w0 w : World} {base b cap e : Nat} {cur : Array Value} {its : List It} (hw : WA w0 base (.obj b (.cells cur e (0, 0)) :: its) w) (h1 : cur.size = cap) (h2 : cap ≤ maxLen) : WA w0 base (.row (some b) cap 0 e 1 [] :: its) w := by
  have h := hw.get (i := 0) rfl
  have ha := List.pairwise_cons.1 hw.apart
  refine ⟨hw.below, hw.fits, fun it hi => ?_, List.pairwise_cons.2 ⟨fun it hi => ha.1 it hi, ha.2⟩⟩
  rcases List.mem_cons.1 hi with rfl | hi
  · exact ⟨rfl, .inr ⟨b, cap, cur, rfl, h.1, h.2, Nat.zero_le _, h2, by rw [h1, Nat.mul_one], by simp⟩⟩
  · exact hw.all it (List.mem_cons_of_mem _ hi)
theorem elG : Elem Tryz.prog 74 89 1 8 := Elem.of (z := .pointer none) (by kernel_rfl) (by kernel_rfl) rfl
theorem grow_c {w0 : World} {base : Nat} {its : List It} {m : Nat} (hm : m ≤ 12) : FnC Tryz.prog 57 #[.slice none 0 0, .int .i64 (m : Int)] (WA w0 base its) (fun q : Option Nat × Nat => rv q.1 0 q.2) (fun q => WA w0 base (.row q.1 q.2 0 89 1 [] :: its)) := fun w hw => by
  rcases Nat.eq_zero_or_pos m with rfl | hp
  · exact (Any8.slices_Grow_room Tryz.grow57 none 0 0 0 w (Nat.le_refl _) (by omega) (by omega) (Nat.le_refl _)).mono fun e w' ⟨he, h⟩ => ⟨(none, 0), he, by subst h; exact hw.nilRow 89 1⟩
  · obtain ⟨i0, z, e1, e2, e3, e4, e5⟩ := elG.ex
    refine (Any8.slices_Grow_grow Tryz.grow57 i0 z e1 e2 (by omega) none 0 0 m [] w (Nat.le_refl _) (by omega) (by rw [e4]; omega) (by omega) (by simp) (fun _ => rfl) (fun a ha => by cases ha)).mono fun e w' ⟨he, h⟩ => ⟨(some w.heap.size, grownCap w (0 + m) 0 89), he, ?_⟩
    subst h
    have h1 := (Stab.drew hw : WA w0 base its w.drew).alloc (.cells (([] : List Value).toArray ++ Builtin.zeroCells z.cells (0 + m - 0) ++ Builtin.zeroCells z.cells (grownCap w (0 + m) 0 89 - (0 + m))) 89)
    have hg := grownCap_ge w (0 + m) 0 89
    have hmx : (12 : Nat) ≤ maxLen := by decide
    refine WA.asRow h1 ?_ (grownCap_le_maxLen w (0 + m) 0 89 (by omega))
    simp only [Array.size_append, List.size_toArray, List.length_nil, size_zeroCells, e5]
    omega
end Go.Proofs.YtifanilblkellaaGreatDoor
