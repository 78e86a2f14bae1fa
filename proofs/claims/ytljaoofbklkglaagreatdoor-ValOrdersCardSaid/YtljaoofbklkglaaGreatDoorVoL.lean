/-
  Proved here: the statement ValOrders, called with any three lists of numbers, returns true.
-/
import Derived.Test.YtljaoofbklkglaaGreatDoorVoE
import Derived.Test.YtljaoofbklkglaaGreatDoorVoh
import Derived.Test.YtljaoofbklkglaaGreatDoorEnvQ
namespace Go.Proofs.YtljaoofbklkglaaGreatDoor.VoL
open Go.EY Go.EX Go.SX Go.RowKit Go.Vo Go.ChangeShapes Go.WideShapes Go.ChangeAt Env
/-- names for the errors that the variables hold -/
def errRho (aE : Nat → Addr) : Rho := ⟨[], fun i => .pointer (some (aE i)), fun _ => rfl⟩
theorem errEE {w0 : World} {base : Nat} {aE : Nat → Addr} (hS : EnvS w0 base aE) : EE w0 base (errRho aE) Vo.envE := by
  have key : ∀ i g, sentG[i]? = some g → ∃ u, inst (errRho aE) (.iface 241 (.opq i)) = some u ∧ w0.cell? ⟨g, 0, none⟩ = some u ∧ g < base := fun i g hi => ⟨_, rfl, hS.at_ i g hi, hS.lt g (List.mem_of_getElem? hi)⟩
  intro g v hv
  unfold Vo.envE at hv
  simp only [lookE] at hv
  split at hv
  · rename_i hb
    cases hv
    obtain rfl := beqT hb
    exact key 0 _ rfl
  split at hv
  · rename_i hb
    cases hv
    obtain rfl := beqT hb
    exact key 1 _ rfl
  split at hv
  · rename_i hb
    cases hv
    obtain rfl := beqT hb
    exact key 2 _ rfl
  split at hv
  · rename_i hb
    cases hv
    obtain rfl := beqT hb
    exact key 3 _ rfl
  split at hv
  · rename_i hb
    cases hv
    obtain rfl := beqT hb
    exact key 4 _ rfl
  split at hv
  · rename_i hb
    cases hv
    obtain rfl := beqT hb
    exact key 5 _ rfl
  split at hv
  · rename_i hb
    cases hv
    obtain rfl := beqT hb
    exact key 6 _ rfl
  split at hv
  · rename_i hb
    cases hv
    obtain rfl := beqT hb
    exact key 7 _ rfl
  split at hv
  · rename_i hb
    cases hv
    obtain rfl := beqT hb
    exact key 8 _ rfl
  split at hv
  · rename_i hb
    cases hv
    obtain rfl := beqT hb
    exact key 9 _ rfl
  split at hv
  · rename_i hb
    cases hv
    obtain rfl := beqT hb
    exact key 10 _ rfl
  split at hv
  · rename_i hb
    cases hv
    obtain rfl := beqT hb
    exact key 11 _ rfl
  split at hv
  · rename_i hb
    cases hv
    obtain rfl := beqT hb
    exact key 12 _ rfl
  split at hv
  · rename_i hb
    cases hv
    obtain rfl := beqT hb
    exact key 13 _ rfl
  split at hv
  · rename_i hb
    cases hv
    obtain rfl := beqT hb
    exact key 14 _ rfl
  split at hv
  · rename_i hb
    cases hv
    obtain rfl := beqT hb
    exact key 15 _ rfl
  split at hv
  · rename_i hb
    cases hv
    obtain rfl := beqT hb
    exact key 16 _ rfl
  cases hv
theorem errOPQ {w0 : World} {base : Nat} {aE : Nat → Addr} (hS : EnvS w0 base aE) : OPQ w0 base Vo.envE (errRho aE) := OPQ.mk0 ⟨aE, fun _ _ => rfl, hS.blk, hS.ne⟩ rfl
theorem first_run : okT (Vo.g4 [] .nil 1) = true := by kernel_rfl
theorem first_c {w0 : World} {base : Nat} {aE : Nat → Addr} (hS : EnvS w0 base aE) : FnC Tryz.prog 4 #[] (WA w0 base []) (fun _ : Unit => .bool true) (fun _ => WA w0 base []) :=
  okT_c (vs := []) (Vo.g4_ok [] .nil 1) first_run (errRho aE) (errEE hS) (errOPQ hS) (fun _ _ => rfl)
theorem law_c {w0 : World} {base : Nat} {aE : Nat → Addr} (hS : EnvS w0 base aE) {t : Bool} {a0 b0 c0 : Option Addr} (ca cb cc : Nat) {la lb lc : List Int} (hA : IntsAt w0 base a0 la) (hB : IntsAt w0 base b0 lb) (hC : IntsAt w0 base c0 lc) :
    FnC Tryz.prog 3 #[.slice a0 la.length ca, .slice b0 lb.length cb, .slice c0 lc.length cc, .bool t] (WA w0 base []) (fun _ : Unit => .bool true) (fun _ => WA w0 base []) :=
  orders_c (first_c hS) ca cb cc hA hB hC
theorem unIs : Tryz.prog.underlying 22 = some (.slice 3) := by kernel_rfl
/-- an argument that is a slice of integers, as the walks read it -/
theorem ints_in {H : Type} {enc : TypeId × Value → H} {W : World} {fuel : Nat} {a0 : Option Addr} {len cap : Nat} {x : DataW H × List MemPlace}
    (h : DataW.trod enc Tryz.prog W 0 (fun _ => true) true fuel 22 (Value.slice a0 len cap).cells.toList = some x) : ∃ zs, zs.length = len ∧ IntsAt W W.heap.size a0 zs := by
  rcases open_ints unIs unI cells3 h with ⟨hcs, hx⟩ | ⟨a, len', cap', zs, hcs, _, hl, hm, hz, hx, hcell, hwz⟩
  · simp [Value.cells] at hcs
    obtain ⟨rfl, rfl, rfl⟩ := hcs
    exact ⟨[], rfl, ⟨(fun i hi => by cases hi), fun i => by simp⟩⟩
  · simp [Value.cells] at hcs
    obtain ⟨rfl, rfl, rfl⟩ := hcs
    simp only [if_true] at hz
    have hlen : (zs.take len).length = len := by rw [List.length_take]; omega
    refine ⟨zs.take len, hlen, ⟨fun i hi => ?_, fun i => ?_⟩⟩
    · rw [hlen] at hi
      have hc := hcell i (by omega)
      refine ⟨a, rfl, ?_, ?_⟩
      · rw [Nat.mul_one]; exact World.block_lt_of_cell? _ _ hc
      · rw [Nat.mul_one, hc]
        refine congrArg (fun z => some (Value.int .i64 z)) ?_
        rw [List.getD_eq_getElem?_getD, List.getD_eq_getElem?_getD, List.getElem?_take, if_pos hi]
    · rw [List.getD_eq_getElem?_getD]
      cases hg : (zs.take len)[i]? with
      | none => simp
      | some z =>
        have := hwz z (List.mem_of_mem_take (List.mem_of_getElem? hg))
        have h2 : (IntKind.i64.min ≤ z) ∧ (z ≤ IntKind.i64.max) := by simpa [Lit.wf] using this
        exact ⟨h2.1, h2.2⟩
end Go.Proofs.YtljaoofbklkglaaGreatDoor.VoL
