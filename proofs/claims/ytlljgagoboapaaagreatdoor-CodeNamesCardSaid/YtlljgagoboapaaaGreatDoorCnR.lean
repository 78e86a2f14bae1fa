/-
  Proved here: the statement 'CodeNames', called with any numbers, returns true.
-/
import Derived.Test.YtlljgagoboapaaaGreatDoorCnE
import Derived.Test.YtlljgagoboapaaaGreatDoorCnRa
import Derived.Test.YtlljgagoboapaaaGreatDoorEnvR
namespace Go.Proofs.YtlljgagoboapaaaGreatDoor.CnR
open Go.EY Go.EX Go.SX Go.RowKit Env6 CnE
/-- names for the errors that the variables hold; no others are asked -/
noncomputable def errA (aE : Nat → Addr) (i : Nat) : Addr := if i < 6 then aE i else ⟨(aE 0).block, (aE 0).off + (aE 1).off + (aE 2).off + (aE 3).off + (aE 4).off + (aE 5).off + 1 + i, none⟩
noncomputable def errRho (aE : Nat → Addr) : Rho := ⟨[], fun i => .pointer (some (errA aE i))⟩
theorem errEE {w0 : World} {base : Nat} {aE : Nat → Addr} (hS : EnvS w0 base aE) : EE w0 base (errRho aE) Cn.envE := by
  have key : ∀ i g, sentG[i]? = some g → i < 6 → ∃ u, inst (errRho aE) (.iface 347 (.opq i)) = some u ∧ w0.cell? ⟨g, 0, none⟩ = some u ∧ g < base := fun i g hi h6 => ⟨errV (aE i), by
    have : inst (errRho aE) (.iface 347 (.opq i)) = some (.iface 347 (.pointer (some (errA aE i)))) := rfl
    rw [this]; unfold errA; rw [if_pos h6], hS.at_ i g hi, hS.lt g (List.mem_of_getElem? hi)⟩
  intro g v hv
  unfold Cn.envE at hv
  simp only [lookE] at hv
  split at hv
  · rename_i hb
    cases hv
    obtain rfl := beqT hb
    exact key 0 _ rfl (by decide)
  split at hv
  · rename_i hb
    cases hv
    obtain rfl := beqT hb
    exact key 1 _ rfl (by decide)
  split at hv
  · rename_i hb
    cases hv
    obtain rfl := beqT hb
    exact key 2 _ rfl (by decide)
  split at hv
  · rename_i hb
    cases hv
    obtain rfl := beqT hb
    exact key 3 _ rfl (by decide)
  split at hv
  · rename_i hb
    cases hv
    obtain rfl := beqT hb
    exact key 4 _ rfl (by decide)
  split at hv
  · rename_i hb
    cases hv
    obtain rfl := beqT hb
    exact key 5 _ rfl (by decide)
  cases hv
theorem errA_off (aE : Nat → Addr) {i j : Nat} (hi : i < 6) (hj : 6 ≤ j) : (errA aE i).off < (errA aE j).off := by
  unfold errA
  rw [if_pos hi, if_neg (by omega)]
  match i, hi with
  | 0, _ => show (aE 0).off < _ + 1 + j; omega
  | 1, _ => show (aE 1).off < _ + 1 + j; omega
  | 2, _ => show (aE 2).off < _ + 1 + j; omega
  | 3, _ => show (aE 3).off < _ + 1 + j; omega
  | 4, _ => show (aE 4).off < _ + 1 + j; omega
  | 5, _ => show (aE 5).off < _ + 1 + j; omega
  | q + 6, h => exact absurd h (by omega)
theorem errOPQ {w0 : World} {base : Nat} {aE : Nat → Addr} (hS : EnvS w0 base aE) : OPQ w0 base (errRho aE) := by
  refine ⟨errA aE, fun _ _ => rfl, fun i _ => ?_, fun i j _ _ hne he => ?_⟩
  · unfold errA
    by_cases h : i < 6
    · rw [if_pos h]; exact hS.blk i h
    · rw [if_neg h]; exact hS.blk 0 (by decide)
  · rcases Nat.lt_or_ge i 6 with hi | hi <;> rcases Nat.lt_or_ge j 6 with hj | hj
    · unfold errA at he
      rw [if_pos hi, if_pos hj] at he
      exact hS.ne i j hi hj hne he
    · have := errA_off aE hi hj
      rw [he] at this; exact Nat.lt_irrefl _ this
    · have := errA_off aE hj hi
      rw [he] at this; exact Nat.lt_irrefl _ this
    · unfold errA at he
      rw [if_neg (by omega), if_neg (by omega)] at he
      injection he with _ he
      omega
@[reducible] def lt1000 (n : Int) : Int := if Int.ofNat 1000 < n then Int.ofNat 1000 else n
theorem lt1000_le (n : Int) : lt1000 n ≤ 1000 := by
  unfold lt1000
  split
  · decide
  · rename_i h; simpa using h
theorem law_of {w0 : World} {base : Nat} {aE : Nat → Addr} (hS : EnvS w0 base aE) (n0 n1 n2 : Int) {x y : Nat} {T2 : HT} {n3 : Nat} {xd : HT → Nat → R}
    (h1 : Cn.g28 [] (ins n0 (lt1000 n1) (lt1000 n2)) .nil 1 = .ok (.val (.tup [.lit (.int .i64 (.ofNat x)), .lit (.int .i64 (.ofNat y))])) T2 n3)
    (h2 : ∀ ro T nx, GOk Tryz.prog Cn.envE 28 [ins n0 n1 n2] ro T nx (xd T nx))
    (hr : okT (Cn.g5 (.lit (.int .i64 n0)) (.lit (.int .i64 n1)) (.lit (.int .i64 n2)) (.lit (.bool (decide (Int.ofNat 1000 < n1)))) (.lit (.bool (decide (Int.ofNat 1000 < n2)))) (.lit (.int .i64 (lt1000 n1))) (.lit (.int .i64 (lt1000 n2))) (.lit (.int .i64 (.ofNat x))) (.lit (.int .i64 (.ofNat y))) xd [] (.lit (.int .i64 n0)) (.lit (.int .i64 n1)) (.lit (.int .i64 n2)) .nil 1) = true) :
    FnC Tryz.prog 5 #[.int .i64 n0, .int .i64 n1, .int .i64 n2] (WA w0 base []) (fun _ : Unit => .bool true) (fun _ => WA w0 base []) := by
  obtain ⟨T4, n5, hF0⟩ := okT_eq Cn.first_run
  have hF1 := Cn.g25_ok [.nil] .nil 1
  rw [hF0] at hF1
  have hG := Cn.g5_ok (.lit (.int .i64 n0)) (.lit (.int .i64 n1)) (.lit (.int .i64 n2)) (.lit (.bool (decide (Int.ofNat 1000 < n1)))) (.lit (.bool (decide (Int.ofNat 1000 < n2)))) (.lit (.int .i64 (lt1000 n1))) (.lit (.int .i64 (lt1000 n2))) (.lit (.int .i64 (.ofNat x))) (.lit (.int .i64 (.ofNat y))) xd
    (fun W ρ af h => VAL.gtI (m := n1) (q := .ofNat 1000) h rfl) (fun W ρ af h => VAL.gtI (m := n2) (q := .ofNat 1000) h rfl) (fun W ρ af h => VAL.minI (m := n1) (q := .ofNat 1000) h rfl) (fun W ρ af h => VAL.minI (m := n2) (q := .ofNat 1000) h rfl)
    (fun ro T nx => eff_ok h1 ro T nx) h2 (Cn.bld_is n0 (lt1000 n1) (lt1000 n2)) (Cn.bld_is n0 n1 n2) [] .nil 1 (GOk.quiet hF1 rfl)
  exact okT_c (vs := [.int .i64 n0, .int .i64 n1, .int .i64 n2]) hG hr (errRho aE) (errEE hS) (errOPQ hS) (fun _ _ => rfl)
theorem law_other {w0 : World} {base : Nat} {aE : Nat → Addr} (hS : EnvS w0 base aE) (n0 n1 n2 : Int)
    (hE1 : ∀ A B : Int, outA (Cn.g28 [] (ins n0 A B) .nil 1) = some (.tup [.lit (.int .i64 (.ofNat 0)), .lit (.int .i64 (.ofNat 0))]))
    (hB : ∀ (c4 : AV) (xd : HT → Nat → R) (q1 q2 m1 m2 : AV) (x y : Nat), okT (Cn.g5 (.lit (.int .i64 n0)) q1 q2 (.lit (.bool true)) c4 m1 m2 (.lit (.int .i64 (.ofNat x))) (.lit (.int .i64 (.ofNat y))) xd [] (.lit (.int .i64 n0)) q1 q2 .nil 1) = true)
    (hC : ∀ (xd : HT → Nat → R) (q1 q2 m1 m2 : AV) (x y : Nat), okT (Cn.g5 (.lit (.int .i64 n0)) q1 q2 (.lit (.bool false)) (.lit (.bool true)) m1 m2 (.lit (.int .i64 (.ofNat x))) (.lit (.int .i64 (.ofNat y))) xd [] (.lit (.int .i64 n0)) q1 q2 .nil 1) = true)
    (hD : ∀ (q1 q2 m1 m2 : AV) (x y : Nat), okT (Cn.g5 (.lit (.int .i64 n0)) q1 q2 (.lit (.bool false)) (.lit (.bool false)) m1 m2 (.lit (.int .i64 (.ofNat x))) (.lit (.int .i64 (.ofNat y))) (fun T nx => .ok (.val (.tup [.lit (.int .i64 (.ofNat 0)), .lit (.int .i64 (.ofNat 0))])) T nx) [] (.lit (.int .i64 n0)) q1 q2 .nil 1) = true) :
    FnC Tryz.prog 5 #[.int .i64 n0, .int .i64 n1, .int .i64 n2] (WA w0 base []) (fun _ : Unit => .bool true) (fun _ => WA w0 base []) := by
  obtain ⟨T2, n3, e1⟩ := outA_eq (hE1 (lt1000 n1) (lt1000 n2))
  by_cases g1 : Int.ofNat 1000 < n1
  · have hr := hB (.lit (.bool (decide (Int.ofNat 1000 < n2)))) (fun _ _ => .bad 0) (.lit (.int .i64 n1)) (.lit (.int .i64 n2)) (.lit (.int .i64 (lt1000 n1))) (.lit (.int .i64 (lt1000 n2))) 0 0
    refine law_of hS n0 n1 n2 (xd := fun _ _ => .bad 0) e1 (fun _ _ _ => GOk.bad) ?_
    rw [decide_eq_true g1]
    exact hr
  · by_cases g2 : Int.ofNat 1000 < n2
    · have hr := hC (fun _ _ => .bad 0) (.lit (.int .i64 n1)) (.lit (.int .i64 n2)) (.lit (.int .i64 (lt1000 n1))) (.lit (.int .i64 (lt1000 n2))) 0 0
      refine law_of hS n0 n1 n2 (xd := fun _ _ => .bad 0) e1 (fun _ _ _ => GOk.bad) ?_
      rw [decide_eq_true g2, decide_eq_false g1]
      exact hr
    · obtain ⟨T5, n5, e2⟩ := outA_eq (hE1 n1 n2)
      have hr := hD (.lit (.int .i64 n1)) (.lit (.int .i64 n2)) (.lit (.int .i64 (lt1000 n1))) (.lit (.int .i64 (lt1000 n2))) 0 0
      refine law_of hS n0 n1 n2 (xd := fun T nx => .ok (.val (.tup [.lit (.int .i64 (.ofNat 0)), .lit (.int .i64 (.ofNat 0))])) T nx) e1 (fun ro T nx => eff_ok e2 ro T nx) ?_
      rw [decide_eq_false g1, decide_eq_false g2]
      exact hr
theorem law_c {w0 : World} {base : Nat} {aE : Nat → Addr} (hS : EnvS w0 base aE) (n0 n1 n2 : Int) : FnC Tryz.prog 5 #[.int .i64 n0, .int .i64 n1, .int .i64 n2] (WA w0 base []) (fun _ : Unit => .bool true) (fun _ => WA w0 base []) := by
  cases n0 with
  | negSucc m =>
    cases m with
    | zero => exact law_other hS _ n1 n2 (effOn 0) (fun c4 xd => Cn.runB_o c4 xd) (fun xd => Cn.runC_o xd) Cn.runD_o
    | succ m => exact law_other hS _ n1 n2 (effOn (m + 1)) (fun c4 xd => Cn.runB_n m c4 xd) (fun xd => Cn.runC_n m xd) (Cn.runD_n m)
  | ofNat k =>
    by_cases h0 : k = 0
    · subst h0
      exact law_other hS _ n1 n2 effOz (fun c4 xd => Cn.runB_z c4 xd) (fun xd => Cn.runC_z xd) Cn.runD_z
    · by_cases h34 : k < 34
      · obtain ⟨x, y, T2, n3, e1⟩ := eff_one k (by omega) h34 (lt1000 n1) (lt1000 n2) (lt1000_le n1) (lt1000_le n2)
        exact law_of hS _ n1 n2 (xd := fun _ _ => .bad 0) e1 (fun _ _ _ => GOk.bad) (Cn.runA k (by omega) h34 _ _ _ _ _ _ _ _ _)
      · obtain ⟨m, rfl⟩ : ∃ m, k = m + 34 := ⟨k - 34, by omega⟩
        exact law_other hS _ n1 n2 (effOp m) (fun c4 xd => Cn.runB_p m c4 xd) (fun xd => Cn.runC_p m xd) (Cn.runD_p m)
end Go.Proofs.YtlljgagoboapaaaGreatDoor.CnR
