/-
  Proved here: what arguments that are programs, functions, instructions and nodes read as.
-/
import Derived.Test.YtgijpgkckiknjaaGreatDoorCkS
import Derived.Test.YtgijpgkckiknjaaGreatDoorTrQ
import Derived.Test.YtgijpgkckiknjaaGreatDoorByR
import Derived.ChangeArms
import Derived.Test.YtgijpgkckiknjaaGreatDoorProg
namespace Go.Proofs.YtgijpgkckiknjaaGreatDoor.Arg
open Go.SX Go.RowKit Go.Ck
theorem c3 : Tryz.prog.cellsOf 3 = 1 := by kernel_rfl
theorem u3 : Tryz.prog.underlying 3 = some (.int .i64) := by kernel_rfl
theorem c9 : Tryz.prog.cellsOf 9 = 1 := by kernel_rfl
theorem u9 : Tryz.prog.underlying 9 = some .string := by kernel_rfl
theorem c5 : Tryz.prog.cellsOf 5 = 1 := by kernel_rfl
theorem u5 : Tryz.prog.underlying 5 = some (.int .u8) := by kernel_rfl
theorem c79 : Tryz.prog.cellsOf 79 = 1 := by kernel_rfl
theorem u79 : Tryz.prog.underlying 79 = some (.slice 5) := by kernel_rfl
theorem c42 : Tryz.prog.cellsOf 42 = 1 := by kernel_rfl
theorem u42 : Tryz.prog.underlying 42 = some (.slice 3) := by kernel_rfl
theorem c26 : Tryz.prog.cellsOf 26 = 1 := by kernel_rfl
theorem u26 : Tryz.prog.underlying 26 = some (.slice 9) := by kernel_rfl
theorem c44 : Tryz.prog.cellsOf 44 = 5 := by kernel_rfl
theorem u44 : Tryz.prog.underlying 44 = some (.struct #[⟨"Op", 3, 0, false, "", "", 0⟩, ⟨"N", 3, 1, false, "", "", 8⟩, ⟨"Pos", 3, 2, false, "", "", 16⟩, ⟨"S", 9, 3, false, "", "", 24⟩, ⟨"Kids", 42, 4, false, "", "", 40⟩]) := by kernel_rfl
theorem c22 : Tryz.prog.cellsOf 22 = 1 := by kernel_rfl
theorem u22 : Tryz.prog.underlying 22 = some (.slice 44) := by kernel_rfl
theorem c53 : Tryz.prog.cellsOf 53 = 4 := by kernel_rfl
theorem u53 : Tryz.prog.underlying 53 = some (.struct #[⟨"Op", 3, 0, false, "", "", 0⟩, ⟨"A", 3, 1, false, "", "", 8⟩, ⟨"B", 3, 2, false, "", "", 16⟩, ⟨"Pos", 3, 3, false, "", "", 24⟩]) := by kernel_rfl
theorem c49 : Tryz.prog.cellsOf 49 = 1 := by kernel_rfl
theorem u49 : Tryz.prog.underlying 49 = some (.slice 53) := by kernel_rfl
theorem c51 : Tryz.prog.cellsOf 51 = 6 := by kernel_rfl
theorem u51 : Tryz.prog.underlying 51 = some (.struct #[⟨"Name", 9, 0, false, "", "", 0⟩, ⟨"Params", 3, 1, false, "", "", 16⟩, ⟨"Given", 3, 2, false, "", "", 24⟩, ⟨"Slots", 3, 3, false, "", "", 32⟩, ⟨"Names", 26, 4, false, "", "", 40⟩, ⟨"Code", 49, 5, false, "", "", 64⟩]) := by kernel_rfl
theorem c25 : Tryz.prog.cellsOf 25 = 1 := by kernel_rfl
theorem u25 : Tryz.prog.underlying 25 = some (.slice 51) := by kernel_rfl
theorem c28 : Tryz.prog.cellsOf 28 = 4 := by kernel_rfl
theorem u28 : Tryz.prog.underlying 28 = some (.struct #[⟨"Funcs", 25, 0, false, "", "", 0⟩, ⟨"Consts", 22, 1, false, "", "", 24⟩, ⟨"Globals", 26, 2, false, "", "", 48⟩, ⟨"Names", 26, 3, false, "", "", 72⟩]) := by kernel_rfl
section
variable {H : Type} {enc : TypeId × Value → H} {W : World} {spare : Nat → Bool} {held : Bool}
theorem len4 {l : List Value} (h : l.length = 4) : ∃ k0 k1 k2 k3, l = [k0, k1, k2, k3] := by
  rcases l with _ | ⟨k0, l⟩
  · simp at h
  rcases l with _ | ⟨k1, l⟩
  · simp at h
  rcases l with _ | ⟨k2, l⟩
  · simp at h
  rcases l with _ | ⟨k3, l⟩
  · simp at h
  rcases l with _ | ⟨_, l⟩
  · exact ⟨k0, k1, k2, k3, rfl⟩
  · simp at h
theorem len5 {l : List Value} (h : l.length = 5) : ∃ k0 k1 k2 k3 k4, l = [k0, k1, k2, k3, k4] := by
  rcases l with _ | ⟨k0, l⟩
  · simp at h
  rcases l with _ | ⟨k1, l⟩
  · simp at h
  rcases l with _ | ⟨k2, l⟩
  · simp at h
  rcases l with _ | ⟨k3, l⟩
  · simp at h
  rcases l with _ | ⟨k4, l⟩
  · simp at h
  rcases l with _ | ⟨_, l⟩
  · exact ⟨k0, k1, k2, k3, k4, rfl⟩
  · simp at h
theorem len6 {l : List Value} (h : l.length = 6) : ∃ k0 k1 k2 k3 k4 k5, l = [k0, k1, k2, k3, k4, k5] := by
  rcases l with _ | ⟨k0, l⟩
  · simp at h
  rcases l with _ | ⟨k1, l⟩
  · simp at h
  rcases l with _ | ⟨k2, l⟩
  · simp at h
  rcases l with _ | ⟨k3, l⟩
  · simp at h
  rcases l with _ | ⟨k4, l⟩
  · simp at h
  rcases l with _ | ⟨k5, l⟩
  · simp at h
  rcases l with _ | ⟨_, l⟩
  · exact ⟨k0, k1, k2, k3, k4, k5, rfl⟩
  · simp at h
theorem int_open {fuel : Nat} {cs : List Value} {y : DataW H × List MemPlace} (h : DataW.trod enc Tryz.prog W 0 spare held fuel 3 cs = some y) : ∃ z, cs = [.int .i64 z] ∧ inI z := by
  obtain ⟨n, rfl, _, hw⟩ := DataW.trod_int u3 h
  refine ⟨n, rfl, ?_⟩
  simp only [Lit.wf, Bool.and_eq_true, decide_eq_true_eq] at hw
  unfold inI
  rw [show IntKind.i64.min = -9223372036854775808 from by decide, show IntKind.i64.max = 9223372036854775807 from by decide] at hw
  omega
theorem str_open {fuel : Nat} {cs : List Value} {y : DataW H × List MemPlace} (h : DataW.trod enc Tryz.prog W 0 spare held fuel 9 cs = some y) : ∃ s, cs = [str s] := by
  obtain ⟨b, rfl, _⟩ := DataW.trod_string u9 h
  exact ⟨b.data.toList, by unfold str; cases b; simp⟩
theorem byte_open {fuel : Nat} {cs : List Value} {y : DataW H × List MemPlace} (h : DataW.trod enc Tryz.prog W 0 spare held fuel 5 cs = some y) : ∃ c, cs = [b8 c] := by
  obtain ⟨n, rfl, _, hw⟩ := DataW.trod_int u5 h
  simp only [Lit.wf, Bool.and_eq_true, decide_eq_true_eq] at hw
  rw [show IntKind.u8.min = 0 from by decide, show IntKind.u8.max = 255 from by decide] at hw
  refine ⟨n.toNat.toUInt8, ?_⟩
  have e : (((n.toNat.toUInt8).toNat : Nat) : Int) = n := by
    rw [show (n.toNat.toUInt8).toNat = n.toNat from by simp; omega]; omega
  unfold b8
  rw [e]
theorem bytes_open {fuel : Nat} {cs : List Value} {y : DataW H × List MemPlace} (h : DataW.trod enc Tryz.prog W 0 spare held fuel 79 cs = some y) : ∃ v xs, cs = [v] ∧ SlA 1 byteA (Lies W W.heap.size) v xs := by
  have h0 : ∃ v, cs = [v] := by
    rcases DataW.trod_slice u79 h with ⟨hv, _⟩ | ⟨a, len, cap, _, _, _, _, hv, _⟩
    · exact ⟨_, hv⟩
    · exact ⟨_, hv⟩
  obtain ⟨v, rfl⟩ := h0
  obtain ⟨xs, hx⟩ := slA_of_trod (A := byteA) u79 c5 (by decide) (fun fuel cs y hl h => by obtain ⟨c, e⟩ := byte_open h; exact ⟨c, e⟩) h
  exact ⟨v, xs, rfl, hx⟩
theorem ints_open {fuel : Nat} {cs : List Value} {y : DataW H × List MemPlace} (h : DataW.trod enc Tryz.prog W 0 spare held fuel 42 cs = some y) : ∃ v xs, cs = [v] ∧ SlA 1 intA (Lies W W.heap.size) v xs := by
  have h0 : ∃ v, cs = [v] := by
    rcases DataW.trod_slice u42 h with ⟨hv, _⟩ | ⟨a, len, cap, _, _, _, _, hv, _⟩
    · exact ⟨_, hv⟩
    · exact ⟨_, hv⟩
  obtain ⟨v, rfl⟩ := h0
  obtain ⟨xs, hx⟩ := slA_of_trod (A := intA) u42 c3 (by decide) (fun fuel cs y hl h => by obtain ⟨z, e, hz⟩ := int_open h; exact ⟨z, e, hz⟩) h
  exact ⟨v, xs, rfl, hx⟩
theorem texts_open {fuel : Nat} {cs : List Value} {y : DataW H × List MemPlace} (h : DataW.trod enc Tryz.prog W 0 spare held fuel 26 cs = some y) : ∃ v xs, cs = [v] ∧ SlA 1 strA (Lies W W.heap.size) v xs := by
  have h0 : ∃ v, cs = [v] := by
    rcases DataW.trod_slice u26 h with ⟨hv, _⟩ | ⟨a, len, cap, _, _, _, _, hv, _⟩
    · exact ⟨_, hv⟩
    · exact ⟨_, hv⟩
  obtain ⟨v, rfl⟩ := h0
  obtain ⟨xs, hx⟩ := slA_of_trod (A := strA) u26 c9 (by decide) (fun fuel cs y hl h => by obtain ⟨s, e⟩ := str_open h; exact ⟨s, e⟩) h
  exact ⟨v, xs, rfl, hx⟩
theorem node_open {fuel : Nat} {cs : List Value} {y : DataW H × List MemPlace} (h : DataW.trod enc Tryz.prog W 0 spare held fuel 44 cs = some y) : ∃ x, Go.Tr.ndA (Lies W W.heap.size) cs x := by
  obtain ⟨xs, n, _, _, hl, hxl, hf⟩ := DataW.trod_struct u44 h
  rw [c44] at hl
  obtain ⟨k0, k1, k2, k3, k4, rfl⟩ := len5 hl
  have f0 := hf 0 ⟨"Op", 3, 0, false, "", "", 0⟩ rfl
  try dsimp only at f0
  rw [c3] at f0
  replace f0 : DataW.trod enc Tryz.prog W 0 spare held n 3 [k0] = _ := f0.trans (List.getElem?_eq_getElem (by rw [hxl]; decide))
  obtain ⟨z0, e0, hz0⟩ := int_open f0
  cases e0
  have f1 := hf 1 ⟨"N", 3, 1, false, "", "", 8⟩ rfl
  try dsimp only at f1
  rw [c3] at f1
  replace f1 : DataW.trod enc Tryz.prog W 0 spare held n 3 [k1] = _ := f1.trans (List.getElem?_eq_getElem (by rw [hxl]; decide))
  obtain ⟨z1, e1, hz1⟩ := int_open f1
  cases e1
  have f2 := hf 2 ⟨"Pos", 3, 2, false, "", "", 16⟩ rfl
  try dsimp only at f2
  rw [c3] at f2
  replace f2 : DataW.trod enc Tryz.prog W 0 spare held n 3 [k2] = _ := f2.trans (List.getElem?_eq_getElem (by rw [hxl]; decide))
  obtain ⟨z2, e2, hz2⟩ := int_open f2
  cases e2
  have f3 := hf 3 ⟨"S", 9, 3, false, "", "", 24⟩ rfl
  try dsimp only at f3
  rw [c9] at f3
  replace f3 : DataW.trod enc Tryz.prog W 0 spare held n 9 [k3] = _ := f3.trans (List.getElem?_eq_getElem (by rw [hxl]; decide))
  obtain ⟨s3, e3⟩ := str_open f3
  cases e3
  have f4 := hf 4 ⟨"Kids", 42, 4, false, "", "", 40⟩ rfl
  try dsimp only at f4
  rw [c42] at f4
  replace f4 : DataW.trod enc Tryz.prog W 0 spare held n 42 [k4] = _ := f4.trans (List.getElem?_eq_getElem (by rw [hxl]; decide))
  obtain ⟨v4, x4, e4, hx4⟩ := ints_open f4
  cases e4
  exact ⟨⟨z0, z1, z2, s3, x4⟩, k4, rfl, hx4, hz0, hz1, hz2⟩
theorem nodes_open {fuel : Nat} {cs : List Value} {y : DataW H × List MemPlace} (h : DataW.trod enc Tryz.prog W 0 spare held fuel 22 cs = some y) : ∃ v xs, cs = [v] ∧ SlA 5 Go.Tr.ndA (Lies W W.heap.size) v xs := by
  have h0 : ∃ v, cs = [v] := by
    rcases DataW.trod_slice u22 h with ⟨hv, _⟩ | ⟨a, len, cap, _, _, _, _, hv, _⟩
    · exact ⟨_, hv⟩
    · exact ⟨_, hv⟩
  obtain ⟨v, rfl⟩ := h0
  obtain ⟨xs, hx⟩ := slA_of_trod (A := Go.Tr.ndA) u22 c44 (by decide) (fun fuel cs y hl h => node_open h) h
  exact ⟨v, xs, rfl, hx⟩
theorem ins_open {fuel : Nat} {cs : List Value} {y : DataW H × List MemPlace} (h : DataW.trod enc Tryz.prog W 0 spare held fuel 53 cs = some y) : ∃ x, insA (Lies W W.heap.size) cs x := by
  obtain ⟨xs, n, _, _, hl, hxl, hf⟩ := DataW.trod_struct u53 h
  rw [c53] at hl
  obtain ⟨k0, k1, k2, k3, rfl⟩ := len4 hl
  have f0 := hf 0 ⟨"Op", 3, 0, false, "", "", 0⟩ rfl
  try dsimp only at f0
  rw [c3] at f0
  replace f0 : DataW.trod enc Tryz.prog W 0 spare held n 3 [k0] = _ := f0.trans (List.getElem?_eq_getElem (by rw [hxl]; decide))
  obtain ⟨z0, e0, hz0⟩ := int_open f0
  cases e0
  have f1 := hf 1 ⟨"A", 3, 1, false, "", "", 8⟩ rfl
  try dsimp only at f1
  rw [c3] at f1
  replace f1 : DataW.trod enc Tryz.prog W 0 spare held n 3 [k1] = _ := f1.trans (List.getElem?_eq_getElem (by rw [hxl]; decide))
  obtain ⟨z1, e1, hz1⟩ := int_open f1
  cases e1
  have f2 := hf 2 ⟨"B", 3, 2, false, "", "", 16⟩ rfl
  try dsimp only at f2
  rw [c3] at f2
  replace f2 : DataW.trod enc Tryz.prog W 0 spare held n 3 [k2] = _ := f2.trans (List.getElem?_eq_getElem (by rw [hxl]; decide))
  obtain ⟨z2, e2, hz2⟩ := int_open f2
  cases e2
  have f3 := hf 3 ⟨"Pos", 3, 3, false, "", "", 24⟩ rfl
  try dsimp only at f3
  rw [c3] at f3
  replace f3 : DataW.trod enc Tryz.prog W 0 spare held n 3 [k3] = _ := f3.trans (List.getElem?_eq_getElem (by rw [hxl]; decide))
  obtain ⟨z3, e3, hz3⟩ := int_open f3
  cases e3
  exact ⟨⟨z0, z1, z2, z3⟩, rfl, hz0, hz1, hz2, hz3⟩
theorem inss_open {fuel : Nat} {cs : List Value} {y : DataW H × List MemPlace} (h : DataW.trod enc Tryz.prog W 0 spare held fuel 49 cs = some y) : ∃ v xs, cs = [v] ∧ SlA 4 insA (Lies W W.heap.size) v xs := by
  have h0 : ∃ v, cs = [v] := by
    rcases DataW.trod_slice u49 h with ⟨hv, _⟩ | ⟨a, len, cap, _, _, _, _, hv, _⟩
    · exact ⟨_, hv⟩
    · exact ⟨_, hv⟩
  obtain ⟨v, rfl⟩ := h0
  obtain ⟨xs, hx⟩ := slA_of_trod (A := insA) u49 c53 (by decide) (fun fuel cs y hl h => ins_open h) h
  exact ⟨v, xs, rfl, hx⟩
theorem fun_open {fuel : Nat} {cs : List Value} {y : DataW H × List MemPlace} (h : DataW.trod enc Tryz.prog W 0 spare held fuel 51 cs = some y) : ∃ x, fnA (Lies W W.heap.size) cs x := by
  obtain ⟨xs, n, _, _, hl, hxl, hf⟩ := DataW.trod_struct u51 h
  rw [c51] at hl
  obtain ⟨k0, k1, k2, k3, k4, k5, rfl⟩ := len6 hl
  have f0 := hf 0 ⟨"Name", 9, 0, false, "", "", 0⟩ rfl
  try dsimp only at f0
  rw [c9] at f0
  replace f0 : DataW.trod enc Tryz.prog W 0 spare held n 9 [k0] = _ := f0.trans (List.getElem?_eq_getElem (by rw [hxl]; decide))
  obtain ⟨s0, e0⟩ := str_open f0
  cases e0
  have f1 := hf 1 ⟨"Params", 3, 1, false, "", "", 16⟩ rfl
  try dsimp only at f1
  rw [c3] at f1
  replace f1 : DataW.trod enc Tryz.prog W 0 spare held n 3 [k1] = _ := f1.trans (List.getElem?_eq_getElem (by rw [hxl]; decide))
  obtain ⟨z1, e1, hz1⟩ := int_open f1
  cases e1
  have f2 := hf 2 ⟨"Given", 3, 2, false, "", "", 24⟩ rfl
  try dsimp only at f2
  rw [c3] at f2
  replace f2 : DataW.trod enc Tryz.prog W 0 spare held n 3 [k2] = _ := f2.trans (List.getElem?_eq_getElem (by rw [hxl]; decide))
  obtain ⟨z2, e2, hz2⟩ := int_open f2
  cases e2
  have f3 := hf 3 ⟨"Slots", 3, 3, false, "", "", 32⟩ rfl
  try dsimp only at f3
  rw [c3] at f3
  replace f3 : DataW.trod enc Tryz.prog W 0 spare held n 3 [k3] = _ := f3.trans (List.getElem?_eq_getElem (by rw [hxl]; decide))
  obtain ⟨z3, e3, hz3⟩ := int_open f3
  cases e3
  have f4 := hf 4 ⟨"Names", 26, 4, false, "", "", 40⟩ rfl
  try dsimp only at f4
  rw [c26] at f4
  replace f4 : DataW.trod enc Tryz.prog W 0 spare held n 26 [k4] = _ := f4.trans (List.getElem?_eq_getElem (by rw [hxl]; decide))
  obtain ⟨v4, x4, e4, hx4⟩ := texts_open f4
  cases e4
  have f5 := hf 5 ⟨"Code", 49, 5, false, "", "", 64⟩ rfl
  try dsimp only at f5
  rw [c49] at f5
  replace f5 : DataW.trod enc Tryz.prog W 0 spare held n 49 [k5] = _ := f5.trans (List.getElem?_eq_getElem (by rw [hxl]; decide))
  obtain ⟨v5, x5, e5, hx5⟩ := inss_open f5
  cases e5
  exact ⟨⟨s0, z1, z2, z3, x4, x5⟩, k4, k5, rfl, hx4, hx5, hz1, hz2, hz3⟩
theorem funs_open {fuel : Nat} {cs : List Value} {y : DataW H × List MemPlace} (h : DataW.trod enc Tryz.prog W 0 spare held fuel 25 cs = some y) : ∃ v xs, cs = [v] ∧ SlA 6 fnA (Lies W W.heap.size) v xs := by
  have h0 : ∃ v, cs = [v] := by
    rcases DataW.trod_slice u25 h with ⟨hv, _⟩ | ⟨a, len, cap, _, _, _, _, hv, _⟩
    · exact ⟨_, hv⟩
    · exact ⟨_, hv⟩
  obtain ⟨v, rfl⟩ := h0
  obtain ⟨xs, hx⟩ := slA_of_trod (A := fnA) u25 c51 (by decide) (fun fuel cs y hl h => fun_open h) h
  exact ⟨v, xs, rfl, hx⟩
theorem prog_open {fuel : Nat} {cs : List Value} {y : DataW H × List MemPlace} (h : DataW.trod enc Tryz.prog W 0 spare held fuel 28 cs = some y) : ∃ X p, cs = Cx.pcs X p ∧ CkAt (Lies W W.heap.size) X p ⟨[], 0, 0, 0, [], []⟩ := by
  obtain ⟨xs, n, _, _, hl, hxl, hf⟩ := DataW.trod_struct u28 h
  rw [c28] at hl
  obtain ⟨k0, k1, k2, k3, rfl⟩ := len4 hl
  have f0 := hf 0 ⟨"Funcs", 25, 0, false, "", "", 0⟩ rfl
  try dsimp only at f0
  rw [c25] at f0
  replace f0 : DataW.trod enc Tryz.prog W 0 spare held n 25 [k0] = _ := f0.trans (List.getElem?_eq_getElem (by rw [hxl]; decide))
  obtain ⟨v0, x0, e0, hx0⟩ := funs_open f0
  cases e0
  have f1 := hf 1 ⟨"Consts", 22, 1, false, "", "", 24⟩ rfl
  try dsimp only at f1
  rw [c22] at f1
  replace f1 : DataW.trod enc Tryz.prog W 0 spare held n 22 [k1] = _ := f1.trans (List.getElem?_eq_getElem (by rw [hxl]; decide))
  obtain ⟨v1, x1, e1, hx1⟩ := nodes_open f1
  cases e1
  have f2 := hf 2 ⟨"Globals", 26, 2, false, "", "", 48⟩ rfl
  try dsimp only at f2
  rw [c26] at f2
  replace f2 : DataW.trod enc Tryz.prog W 0 spare held n 26 [k2] = _ := f2.trans (List.getElem?_eq_getElem (by rw [hxl]; decide))
  obtain ⟨v2, x2, e2, hx2⟩ := texts_open f2
  cases e2
  have f3 := hf 3 ⟨"Names", 26, 3, false, "", "", 72⟩ rfl
  try dsimp only at f3
  rw [c26] at f3
  replace f3 : DataW.trod enc Tryz.prog W 0 spare held n 26 [k3] = _ := f3.trans (List.getElem?_eq_getElem (by rw [hxl]; decide))
  obtain ⟨v3, x3, e3, hx3⟩ := texts_open f3
  cases e3
  exact by
    obtain ⟨a0, b0, rfl, _, g0⟩ := hx0.sl
    obtain ⟨a1, b1, rfl, _, g1⟩ := hx1.sl
    obtain ⟨a2, b2, rfl, _, g2⟩ := hx2.sl
    obtain ⟨a3, b3, rfl, _, g3⟩ := hx3.sl
    exact ⟨⟨a0, a1, a2, a3, none, none, b0, b1, b2, b3, 0, 0⟩, ⟨x0, x1, x2, x3⟩, rfl, g0, g1, g2, g3, (fun i x h => by cases h), (fun i x h => by cases h), by unfold inI; decide⟩
end
end Go.Proofs.YtgijpgkckiknjaaGreatDoor.Arg
