/-
  Proved here: an argument that is a slice of things told to a Dict, as the walk reads it.
-/
import Derived.Test.YtifanilblkellaaGreatDoorDdM
import Derived.Test.YtifanilblkellaaGreatDoorAt
import Derived.ChangeArms
namespace Go.Proofs.YtifanilblkellaaGreatDoor.Arg
open Go.SX Go.RowKit Go.Ss Go.ChangeShapes Go.WideShapes Go.ChangeAt Go.Proofs.YtifanilblkellaaGreatDoor.Env
theorem c3 : Tryz.prog.cellsOf 3 = 1 := by kernel_rfl
theorem u3 : Tryz.prog.underlying 3 = some (.int .i64) := by kernel_rfl
theorem c29 : Tryz.prog.cellsOf 29 = 3 := by kernel_rfl
theorem u29 : Tryz.prog.underlying 29 = some (.struct #[⟨"Kind", 3, 0, false, "", "", 0⟩, ⟨"Key", 3, 1, false, "", "", 8⟩, ⟨"Value", 3, 2, false, "", "", 16⟩]) := by kernel_rfl
theorem c22 : Tryz.prog.cellsOf 22 = 1 := by kernel_rfl
theorem u22 : Tryz.prog.underlying 22 = some (.slice 29) := by kernel_rfl
def doA (_ : Rd) (cs : List Value) (x : Int × Int × Int) : Prop := cs = [.int .i64 x.1, .int .i64 x.2.1, .int .i64 x.2.2]
section
variable {H : Type} {enc : TypeId × Value → H} {W : World} {spare : Nat → Bool} {held : Bool}
theorem len3 {l : List Value} (h : l.length = 3) : ∃ k0 k1 k2, l = [k0, k1, k2] := by
  rcases l with _ | ⟨k0, l⟩
  · simp at h
  rcases l with _ | ⟨k1, l⟩
  · simp at h
  rcases l with _ | ⟨k2, l⟩
  · simp at h
  rcases l with _ | ⟨_, l⟩
  · exact ⟨k0, k1, k2, rfl⟩
  · simp at h
theorem int_open {fuel : Nat} {cs : List Value} {y : DataW H × List MemPlace} (h : DataW.trod enc Tryz.prog W 0 spare held fuel 3 cs = some y) : ∃ z, cs = [.int .i64 z] ∧ inI z := by
  obtain ⟨n, rfl, _, hw⟩ := DataW.trod_int u3 h
  refine ⟨n, rfl, ?_⟩
  simp only [Lit.wf, Bool.and_eq_true, decide_eq_true_eq] at hw
  unfold inI
  rw [show IntKind.i64.min = -9223372036854775808 from by decide, show IntKind.i64.max = 9223372036854775807 from by decide] at hw
  omega
theorem do_open {fuel : Nat} {cs : List Value} {y : DataW H × List MemPlace} (h : DataW.trod enc Tryz.prog W 0 spare held fuel 29 cs = some y) : ∃ x, doA (Lies W W.heap.size) cs x := by
  obtain ⟨xs, n, _, _, hl, hxl, hf⟩ := DataW.trod_struct u29 h
  rw [c29] at hl
  obtain ⟨k0, k1, k2, rfl⟩ := len3 hl
  have f0 := hf 0 ⟨"Kind", 3, 0, false, "", "", 0⟩ rfl
  try dsimp only at f0
  rw [c3] at f0
  replace f0 : DataW.trod enc Tryz.prog W 0 spare held n 3 [k0] = _ := f0.trans (List.getElem?_eq_getElem (by rw [hxl]; decide))
  obtain ⟨z0, e0, hz0⟩ := int_open f0
  cases e0
  have f1 := hf 1 ⟨"Key", 3, 1, false, "", "", 8⟩ rfl
  try dsimp only at f1
  rw [c3] at f1
  replace f1 : DataW.trod enc Tryz.prog W 0 spare held n 3 [k1] = _ := f1.trans (List.getElem?_eq_getElem (by rw [hxl]; decide))
  obtain ⟨z1, e1, hz1⟩ := int_open f1
  cases e1
  have f2 := hf 2 ⟨"Value", 3, 2, false, "", "", 16⟩ rfl
  try dsimp only at f2
  rw [c3] at f2
  replace f2 : DataW.trod enc Tryz.prog W 0 spare held n 3 [k2] = _ := f2.trans (List.getElem?_eq_getElem (by rw [hxl]; decide))
  obtain ⟨z2, e2, hz2⟩ := int_open f2
  cases e2
  exact ⟨(z0, z1, z2), rfl⟩
theorem dos_open {fuel : Nat} {a0 : Option Addr} {len cap : Nat} {x : DataW H × List MemPlace} (h : DataW.trod enc Tryz.prog W 0 spare held fuel 22 (Value.slice a0 len cap).cells.toList = some x) : ∃ l : List (Int × Int × Int), l.length = len ∧ DoAt W W.heap.size a0 l := by
  obtain ⟨l, hs⟩ := slA_of_trod (n := 3) (A := doA) u22 c29 (by omega) (fun fuel cs y hl ht => do_open ht) h
  obtain ⟨av, cp, hv, _, hat⟩ := hs.sl
  have e : a0 = av ∧ len = l.length := by
    have hv2 : Value.slice a0 len cap = .slice av l.length cp := hv
    injection hv2 with h1 h2 _
    exact ⟨h1, h2⟩
  obtain ⟨rfl, rfl⟩ := e
  refine ⟨l, rfl, ⟨fun i q hi => ?_⟩⟩
  obtain ⟨a, cs, e1, e2, e3, e4⟩ := hat i q hi
  obtain rfl : cs = [.int .i64 q.1, .int .i64 q.2.1, .int .i64 q.2.2] := e4
  exact ⟨a, e1, e3.at_ 0 _ rfl, e3.at_ 1 _ rfl, e3.at_ 2 _ rfl⟩
end
theorem dict_w {W : World} {aE : Nat → Addr} (hS : EnvS W W.heap.size aE) {a0 : Option Addr} {l : List (Int × Int × Int)} {len cap : Nat} (hl : l.length = len) (hL : DoAt W W.heap.size a0 l) (z : Int) : FnC Tryz.prog 3 #[.slice a0 len cap, .int .i64 z] (WA W W.heap.size []) (fun _ : Unit => .bool true) (fun _ => WA W W.heap.size []) := by
  subst hl
  exact dict_c hS hL z
end Go.Proofs.YtifanilblkellaaGreatDoor.Arg
