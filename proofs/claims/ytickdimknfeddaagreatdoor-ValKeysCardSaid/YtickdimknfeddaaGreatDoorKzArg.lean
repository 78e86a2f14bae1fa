/-
  Proved here: what arguments that are programs, functions, instructions and nodes read as.
-/
import Derived.Test.YtickdimknfeddaaGreatDoorTrQ
import Derived.ChangeArms
import Derived.Test.YtickdimknfeddaaGreatDoorProg
namespace Go.Proofs.YtickdimknfeddaaGreatDoor.Arg
open Go.SX Go.RowKit
theorem c3 : Tryz.prog.cellsOf 3 = 1 := by kernel_rfl
theorem u3 : Tryz.prog.underlying 3 = some (.int .i64) := by kernel_rfl
theorem c9 : Tryz.prog.cellsOf 9 = 1 := by kernel_rfl
theorem u9 : Tryz.prog.underlying 9 = some .string := by kernel_rfl
theorem c51 : Tryz.prog.cellsOf 51 = 1 := by kernel_rfl
theorem u51 : Tryz.prog.underlying 51 = some (.slice 3) := by kernel_rfl
theorem c53 : Tryz.prog.cellsOf 53 = 5 := by kernel_rfl
theorem u53 : Tryz.prog.underlying 53 = some (.struct #[⟨"Op", 3, 0, false, "", "", 0⟩, ⟨"N", 3, 1, false, "", "", 8⟩, ⟨"Pos", 3, 2, false, "", "", 16⟩, ⟨"S", 9, 3, false, "", "", 24⟩, ⟨"Kids", 51, 4, false, "", "", 40⟩]) := by kernel_rfl
theorem c22 : Tryz.prog.cellsOf 22 = 1 := by kernel_rfl
theorem u22 : Tryz.prog.underlying 22 = some (.slice 53) := by kernel_rfl
section
variable {H : Type} {enc : TypeId × Value → H} {W : World} {spare : Nat → Bool} {held : Bool}
theorem len4 {l : List Value} (h : l.length = 4) : ∃ k0 k1 k2 k3, l = [k0, k1, k2, k3] := by
  rcases l with _ | ⟨k0, l⟩
  · simp at h
  rcases l with _ | ⟨k1, l⟩
  · simp at h
  rcases l with _ | ⟨k2, l⟩
  · simp at h
  rcases l with _ | ⟨k3, l⟩
  · simp at h
  rcases l with _ | ⟨_, l⟩
  · exact ⟨k0, k1, k2, k3, rfl⟩
  · simp at h
theorem len5 {l : List Value} (h : l.length = 5) : ∃ k0 k1 k2 k3 k4, l = [k0, k1, k2, k3, k4] := by
  rcases l with _ | ⟨k0, l⟩
  · simp at h
  rcases l with _ | ⟨k1, l⟩
  · simp at h
  rcases l with _ | ⟨k2, l⟩
  · simp at h
  rcases l with _ | ⟨k3, l⟩
  · simp at h
  rcases l with _ | ⟨k4, l⟩
  · simp at h
  rcases l with _ | ⟨_, l⟩
  · exact ⟨k0, k1, k2, k3, k4, rfl⟩
  · simp at h
theorem len6 {l : List Value} (h : l.length = 6) : ∃ k0 k1 k2 k3 k4 k5, l = [k0, k1, k2, k3, k4, k5] := by
  rcases l with _ | ⟨k0, l⟩
  · simp at h
  rcases l with _ | ⟨k1, l⟩
  · simp at h
  rcases l with _ | ⟨k2, l⟩
  · simp at h
  rcases l with _ | ⟨k3, l⟩
  · simp at h
  rcases l with _ | ⟨k4, l⟩
  · simp at h
  rcases l with _ | ⟨k5, l⟩
  · simp at h
  rcases l with _ | ⟨_, l⟩
  · exact ⟨k0, k1, k2, k3, k4, k5, rfl⟩
  · simp at h
theorem int_open {fuel : Nat} {cs : List Value} {y : DataW H × List MemPlace} (h : DataW.trod enc Tryz.prog W 0 spare held fuel 3 cs = some y) : ∃ z, cs = [.int .i64 z] ∧ inI z := by
  obtain ⟨n, rfl, _, hw⟩ := DataW.trod_int u3 h
  refine ⟨n, rfl, ?_⟩
  simp only [Lit.wf, Bool.and_eq_true, decide_eq_true_eq] at hw
  unfold inI
  rw [show IntKind.i64.min = -9223372036854775808 from by decide, show IntKind.i64.max = 9223372036854775807 from by decide] at hw
  omega
theorem str_open {fuel : Nat} {cs : List Value} {y : DataW H × List MemPlace} (h : DataW.trod enc Tryz.prog W 0 spare held fuel 9 cs = some y) : ∃ s, cs = [str s] := by
  obtain ⟨b, rfl, _⟩ := DataW.trod_string u9 h
  exact ⟨b.data.toList, by unfold str; cases b; simp⟩
theorem ints_open {fuel : Nat} {cs : List Value} {y : DataW H × List MemPlace} (h : DataW.trod enc Tryz.prog W 0 spare held fuel 51 cs = some y) : ∃ v xs, cs = [v] ∧ SlA 1 intA (Lies W W.heap.size) v xs := by
  have h0 : ∃ v, cs = [v] := by
    rcases DataW.trod_slice u51 h with ⟨hv, _⟩ | ⟨a, len, cap, _, _, _, _, hv, _⟩
    · exact ⟨_, hv⟩
    · exact ⟨_, hv⟩
  obtain ⟨v, rfl⟩ := h0
  obtain ⟨xs, hx⟩ := slA_of_trod (A := intA) u51 c3 (by decide) (fun fuel cs y hl h => by obtain ⟨z, e, hz⟩ := int_open h; exact ⟨z, e, hz⟩) h
  exact ⟨v, xs, rfl, hx⟩
theorem node_open {fuel : Nat} {cs : List Value} {y : DataW H × List MemPlace} (h : DataW.trod enc Tryz.prog W 0 spare held fuel 53 cs = some y) : ∃ x, Go.Tr.ndA (Lies W W.heap.size) cs x := by
  obtain ⟨xs, n, _, _, hl, hxl, hf⟩ := DataW.trod_struct u53 h
  rw [c53] at hl
  obtain ⟨k0, k1, k2, k3, k4, rfl⟩ := len5 hl
  have f0 := hf 0 ⟨"Op", 3, 0, false, "", "", 0⟩ rfl
  try dsimp only at f0
  rw [c3] at f0
  replace f0 : DataW.trod enc Tryz.prog W 0 spare held n 3 [k0] = _ := f0.trans (List.getElem?_eq_getElem (by rw [hxl]; decide))
  obtain ⟨z0, e0, hz0⟩ := int_open f0
  cases e0
  have f1 := hf 1 ⟨"N", 3, 1, false, "", "", 8⟩ rfl
  try dsimp only at f1
  rw [c3] at f1
  replace f1 : DataW.trod enc Tryz.prog W 0 spare held n 3 [k1] = _ := f1.trans (List.getElem?_eq_getElem (by rw [hxl]; decide))
  obtain ⟨z1, e1, hz1⟩ := int_open f1
  cases e1
  have f2 := hf 2 ⟨"Pos", 3, 2, false, "", "", 16⟩ rfl
  try dsimp only at f2
  rw [c3] at f2
  replace f2 : DataW.trod enc Tryz.prog W 0 spare held n 3 [k2] = _ := f2.trans (List.getElem?_eq_getElem (by rw [hxl]; decide))
  obtain ⟨z2, e2, hz2⟩ := int_open f2
  cases e2
  have f3 := hf 3 ⟨"S", 9, 3, false, "", "", 24⟩ rfl
  try dsimp only at f3
  rw [c9] at f3
  replace f3 : DataW.trod enc Tryz.prog W 0 spare held n 9 [k3] = _ := f3.trans (List.getElem?_eq_getElem (by rw [hxl]; decide))
  obtain ⟨s3, e3⟩ := str_open f3
  cases e3
  have f4 := hf 4 ⟨"Kids", 51, 4, false, "", "", 40⟩ rfl
  try dsimp only at f4
  rw [c51] at f4
  replace f4 : DataW.trod enc Tryz.prog W 0 spare held n 51 [k4] = _ := f4.trans (List.getElem?_eq_getElem (by rw [hxl]; decide))
  obtain ⟨v4, x4, e4, hx4⟩ := ints_open f4
  cases e4
  exact ⟨⟨z0, z1, z2, s3, x4⟩, k4, rfl, hx4, hz0, hz1, hz2⟩
theorem nodes_open {fuel : Nat} {cs : List Value} {y : DataW H × List MemPlace} (h : DataW.trod enc Tryz.prog W 0 spare held fuel 22 cs = some y) : ∃ v xs, cs = [v] ∧ SlA 5 Go.Tr.ndA (Lies W W.heap.size) v xs := by
  have h0 : ∃ v, cs = [v] := by
    rcases DataW.trod_slice u22 h with ⟨hv, _⟩ | ⟨a, len, cap, _, _, _, _, hv, _⟩
    · exact ⟨_, hv⟩
    · exact ⟨_, hv⟩
  obtain ⟨v, rfl⟩ := h0
  obtain ⟨xs, hx⟩ := slA_of_trod (A := Go.Tr.ndA) u22 c53 (by decide) (fun fuel cs y hl h => node_open h) h
  exact ⟨v, xs, rfl, hx⟩
end
end Go.Proofs.YtickdimknfeddaaGreatDoor.Arg
