/-
  Proved here: an argument that is a slice of texts, as the walks read it.
-/
import Derived.Test.YtifanilblkellaaGreatDoorSsL
namespace Go.Proofs.YtifanilblkellaaGreatDoor.Arg
open Go.SX Go.RowKit Go.Vo Go.Ss Go.ChangeShapes Go.WideShapes Go.ChangeAt Go.Proofs.YtifanilblkellaaGreatDoor.Env
theorem u9 : Tryz.prog.underlying 9 = some .string := by kernel_rfl
theorem u58 : Tryz.prog.underlying 58 = some (.slice 9) := by kernel_rfl
theorem c9 : Tryz.prog.cellsOf 9 = 1 := by kernel_rfl
theorem texts_open {H : Type} {enc : TypeId × Value → H} {W : World} {fuel : Nat} {a0 : Option Addr} {len cap : Nat} {x : DataW H × List MemPlace} (h : DataW.trod enc Tryz.prog W 0 (fun _ => true) true fuel 58 (Value.slice a0 len cap).cells.toList = some x) : ∃ ns : List T, ns.length = len ∧ Sl W W.heap.size a0 (ns.map str) := by
  obtain ⟨ns, hs⟩ := slA_of_trod (n := 1) (A := strA) u58 c9 (by omega) (fun fuel cs y hl ht => by
    obtain ⟨b, rfl, _⟩ := DataW.trod_string u9 ht
    exact ⟨b.data.toList, by unfold strA; cases b; simp⟩) h
  obtain ⟨av, cp, hv, _, hat⟩ := hs.sl
  have e : a0 = av ∧ len = ns.length := by
    have hv2 : Value.slice a0 len cap = .slice av ns.length cp := hv
    injection hv2 with h1 h2 _
    exact ⟨h1, h2⟩
  obtain ⟨rfl, rfl⟩ := e
  refine ⟨ns, rfl, ⟨fun i v hi => ?_⟩⟩
  rw [List.getElem?_map] at hi
  obtain ⟨s, hs1, rfl⟩ := Option.map_eq_some_iff.1 hi
  obtain ⟨a, cs, e1, e2, e3, e4⟩ := hat i s hs1
  obtain rfl : cs = [str s] := e4
  have h0 := e3.at_ 0 (str s) rfl
  rw [add_zero2] at h0
  exact ⟨a, e1, h0.1, h0.2⟩
theorem law_w {W : World} {aE : Nat → Addr} (hS : EnvS W W.heap.size aE) {a0 : Option Addr} {ns : List T} {len cap : Nat} (hl : ns.length = len) (hN : Sl W W.heap.size a0 (ns.map str)) (z : Int) : FnC Tryz.prog 4 #[.slice a0 len cap, .int .i64 z] (WA W W.heap.size []) (fun _ : Unit => .bool true) (fun _ => WA W W.heap.size []) := by
  subst hl
  exact law_c hS hN z
end Go.Proofs.YtifanilblkellaaGreatDoor.Arg
