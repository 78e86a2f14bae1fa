/-
  Proved here: smithyworld.Number as a machine of mine takes it, and what a run that comes to 'true' says of the function.
-/
import Derived.Test.YtggoogbloaennaaDoorEyF
import Derived.Test.YtggoogbloaennaaDoorProg
namespace Go.Proofs.YtggoogbloaennaaDoor
open Go.EY Go.EX Go.SX Go.RowKit
def numI (m : Int) (q : Nat) : Int := (m.tmod (q : Int) + (q : Int)).tmod (q : Int)
theorem tmod_in (m : Int) {q : Nat} (h0 : 0 < q) : -(q : Int) < m.tmod (q : Int) ∧ m.tmod (q : Int) < (q : Int) := by
  have h1 := Int.emod_lt_of_pos m (b := (q : Int)) (by omega)
  have h2 := Int.emod_nonneg m (b := (q : Int)) (by omega)
  rw [Int.tmod_eq_emod]
  split <;> constructor <;> omega
theorem numI_ok (m : Int) {q : Nat} (h0 : 0 < q) : ∃ k : Nat, k < q ∧ numI m q = (k : Int) := by
  obtain ⟨h1, h2⟩ := tmod_in m h0
  unfold numI
  refine ⟨(m.tmod (q : Int) + (q : Int)).toNat % q, Nat.mod_lt _ h0, ?_⟩
  obtain ⟨z, hz⟩ := Int.eq_ofNat_of_zero_le (show (0 : Int) ≤ m.tmod (q : Int) + (q : Int) by omega)
  rw [hz]
  simp
  exact Int.tmod_eq_emod_of_nonneg (by omega)
theorem number_ok (E : List (Nat × AV)) (m : Int) (q : Nat) (h0 : 0 < q) (h1 : q ≤ 1000) (ro : List HT) (T : HT) (nx : Nat) :
    GOk Tryd.prog E 13 [.lit (.int .i64 m), .lit (.int .i64 (.ofNat q))] ro T nx (.ok (.val (.lit (.int .i64 (numI m q)))) T nx) := by
  have hq : (Int.ofNat q) ≠ 0 := by simp; omega
  obtain ⟨b1, b2⟩ := tmod_in m h0
  refine GOk.of_body Tryd.func13 rfl Tryd.ntmps13 (by kernel_rfl) rfl fun r T' n' h w0 base ρ its hS hP => ?_
  cases h
  refine CV.sub [(0, .lit (.int .i64 m)), (1, .lit (.int .i64 (.ofNat q)))] ⟨rfl, rfl, trivial⟩ ?_
  refine CV.seq ?_
  refine CV.region ?_
  refine LV.step (VAL.assign rfl) rfl rfl rfl ?_
  refine LV.done ?_
  refine PV.thenN ?_
  refine CV.seq ?_
  refine CV.region ?_
  refine LV.step (VAL.move rfl) rfl rfl rfl ?_
  refine LV.step (VAL.move rfl) rfl rfl rfl ?_
  refine LV.step (VAL.yy (v := .int .i64 (m.tmod (Int.ofNat q))) fun l hf ty => Y.rem (evlit hf rfl) (evlit hf rfl) hq) rfl rfl rfl ?_
  refine LV.step (VAL.move rfl) rfl rfl rfl ?_
  refine LV.step (VAL.yy (v := .int .i64 (m.tmod (Int.ofNat q) + Int.ofNat q)) fun l hf ty => Y.add (evlit hf rfl) (evlit hf rfl) (by simp only [Int.ofNat_eq_natCast]; omega)) rfl rfl rfl ?_
  refine LV.step (VAL.move rfl) rfl rfl rfl ?_
  refine LV.step (VAL.yy (v := .int .i64 ((m.tmod (Int.ofNat q) + Int.ofNat q).tmod (Int.ofNat q))) fun l hf ty => Y.rem (evlit hf rfl) (evlit hf rfl) hq) rfl rfl rfl ?_
  refine LV.step (VAL.assign rfl) rfl rfl rfl ?_
  refine LV.done ?_
  refine PV.thenN ?_
  refine CV.ret ?_
  exact PV.ret (by simp) Tryd.results13 hS (RS.tmp rfl RS.nil) rfl
end Go.Proofs.YtggoogbloaennaaDoor
