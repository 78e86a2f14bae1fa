/-
  Proved here: smithyworld.Number as a machine of mine takes it.
-/
import Derived.Test.YtljaoofbklkglaaDoorTmod
import Derived.Test.YtljaoofbklkglaaDoorProg
namespace Go.Proofs.YtljaoofbklkglaaDoor
open Go.EY Go.EX Go.SX Go.RowKit
theorem number_ok (E : List (Nat × AV)) (m : Int) (q : Nat) (h0 : 0 < q) (h1 : q ≤ 1000) (ro : List HT) (T : HT) (nx : Nat) :
    GOk Tryd.prog E 5 [.lit (.int .i64 m), .lit (.int .i64 (.ofNat q))] ro T nx (.ok (.val (.lit (.int .i64 (numI m q)))) T nx) := by
  have hq : (Int.ofNat q) ≠ 0 := by simp; omega
  obtain ⟨b1, b2⟩ := tmod_in m h0
  refine GOk.of_body Tryd.func5 rfl Tryd.ntmps5 (by kernel_rfl) rfl fun r T' n' h w0 base ρ its hS hP => ?_
  cases h
  refine CV.sub [(0, .lit (.int .i64 m)), (1, .lit (.int .i64 (.ofNat q)))] ⟨rfl, rfl, trivial⟩ ?_
  refine CV.seq ?_
  refine CV.region ?_
  refine LV.step (VAL.assign rfl) rfl rfl rfl ?_
  refine LV.done ?_
  refine PV.thenN ?_
  refine CV.seq ?_
  refine CV.region ?_
  refine LV.step (VAL.move rfl) rfl rfl rfl ?_
  refine LV.step (VAL.move rfl) rfl rfl rfl ?_
  refine LV.step (VAL.yy (v := .int .i64 (m.tmod (Int.ofNat q))) fun l hf ty => Y.rem (evlit hf rfl) (evlit hf rfl) hq) rfl rfl rfl ?_
  refine LV.step (VAL.move rfl) rfl rfl rfl ?_
  refine LV.step (VAL.yy (v := .int .i64 (m.tmod (Int.ofNat q) + Int.ofNat q)) fun l hf ty => Y.add (evlit hf rfl) (evlit hf rfl) (by simp only [Int.ofNat_eq_natCast]; omega)) rfl rfl rfl ?_
  refine LV.step (VAL.move rfl) rfl rfl rfl ?_
  refine LV.step (VAL.yy (v := .int .i64 ((m.tmod (Int.ofNat q) + Int.ofNat q).tmod (Int.ofNat q))) fun l hf ty => Y.rem (evlit hf rfl) (evlit hf rfl) hq) rfl rfl rfl ?_
  refine LV.step (VAL.assign rfl) rfl rfl rfl ?_
  refine LV.done ?_
  refine PV.thenN ?_
  refine CV.ret ?_
  exact PV.ret (by simp) Tryd.results5 hS (RS.tmp rfl RS.nil) rfl
theorem number_is (E : List (Nat × AV)) (m : Int) {q k : Nat} (h0 : 0 < q) (h1 : q ≤ 1000) (e : numI m q = (k : Int)) (z : AV) (ro : List HT) (T : HT) (nx : Nat) :
    GOk Tryd.prog E 5 [.lit (.int .i64 m), z] ro T nx (isK z q (.lit (.int .i64 (.ofNat k))) T nx) := by
  unfold isK
  split
  · cases hb : Nat.beq _ q with
    | false => exact GOk.bad
    | true =>
      obtain rfl := beqT hb
      have h2 := number_ok E m _ h0 h1 ro T nx
      rw [e] at h2
      exact h2
  · exact GOk.bad
end Go.Proofs.YtljaoofbklkglaaDoor
