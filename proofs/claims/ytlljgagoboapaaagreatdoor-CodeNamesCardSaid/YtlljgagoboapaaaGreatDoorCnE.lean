/-
  Proved here: how many an instruction takes off the stack, and puts there, for any numbers that are not great: as the code works it out.
-/
import Derived.Test.YtlljgagoboapaaaGreatDoorCni
namespace Go.Proofs.YtlljgagoboapaaaGreatDoor.CnE
open Go.EY Go.EX Go.SX Go.RowKit
def outA (X : R) : Option AV := match X with | .ok (.val v) _ _ => some v | _ => none
theorem outA_eq {X : R} {v : AV} (h : outA X = some v) : ∃ T n, X = .ok (.val v) T n := by
  unfold outA at h
  split at h
  · cases h; exact ⟨_, _, rfl⟩
  · cases h
/-- two numbers that are none below nothing -/
def two (X : R) : Bool := match X with | .ok (.val (.tup [.lit (.int .i64 (.ofNat _)), .lit (.int .i64 (.ofNat _))])) _ _ => true | _ => false
theorem two_eq {X : R} (h : two X = true) : ∃ (x y : Nat) (T : HT) (n : Nat), X = .ok (.val (.tup [.lit (.int .i64 (.ofNat x)), .lit (.int .i64 (.ofNat y))])) T n := by
  unfold two at h
  split at h
  · exact ⟨_, _, _, _, rfl⟩
  · cases h
@[reducible] def ins (o a b : Int) : AV := .agg [.lit (.int .i64 o), .lit (.int .i64 a), .lit (.int .i64 b), .lit (.int .i64 0)]
def mx (a : Int) : Int := if Int.ofNat 0 > a then Int.ofNat 0 else a
theorem mx_nn (a : Int) : 0 ≤ mx a := by unfold mx; split <;> simp_all
theorem mx_le {a : Int} (h : a ≤ 1000) : mx a ≤ 1000 := by unfold mx; split <;> simp_all
theorem wrap_id {z : Int} (h0 : 0 ≤ z) (h1 : z ≤ 1000000) : IntKind.i64.wrap z = z := IntWalk.i64_in _ ⟨by omega, by omega⟩
theorem andI_1 (z : Int) : 0 ≤ andI z (.ofNat 1) ∧ andI z (.ofNat 1) ≤ 1 := by
  have h : (BitVec.ofInt 64 z &&& BitVec.ofInt 64 (.ofNat 1)).toNat ≤ 1 := by
    rw [BitVec.toNat_and]
    exact Nat.le_trans Nat.and_le_right (by decide)
  unfold andI
  rw [wrap_id] <;> omega
theorem nn_of {X : R} {a b : Int} (h : outA X = some (.tup [.lit (.int .i64 a), .lit (.int .i64 b)])) (ha : 0 ≤ a) (hb : 0 ≤ b) : ∃ (x y : Nat) (T : HT) (n : Nat), X = .ok (.val (.tup [.lit (.int .i64 (.ofNat x)), .lit (.int .i64 (.ofNat y))])) T n := by
  obtain ⟨T, n, e⟩ := outA_eq h
  exact ⟨a.toNat, b.toNat, T, n, by rw [e, show Int.ofNat a.toNat = a from Int.toNat_of_nonneg ha, show Int.ofNat b.toNat = b from Int.toNat_of_nonneg hb]⟩
theorem eff1 (A B : Int) : outA (Cn.g28 [] (ins (.ofNat 1) A B) .nil 1) = some (.tup [.lit (.int .i64 (.ofNat 0)), .lit (.int .i64 (.ofNat 1))]) := by kernel_rfl
theorem eff2 (A B : Int) : outA (Cn.g28 [] (ins (.ofNat 2) A B) .nil 1) = some (.tup [.lit (.int .i64 (.ofNat 0)), .lit (.int .i64 (.ofNat 1))]) := by kernel_rfl
theorem eff3 (A B : Int) : outA (Cn.g28 [] (ins (.ofNat 3) A B) .nil 1) = some (.tup [.lit (.int .i64 (.ofNat 1)), .lit (.int .i64 (.ofNat 0))]) := by kernel_rfl
theorem eff4 (A B : Int) : outA (Cn.g28 [] (ins (.ofNat 4) A B) .nil 1) = some (.tup [.lit (.int .i64 (.ofNat 0)), .lit (.int .i64 (.ofNat 1))]) := by kernel_rfl
theorem eff5 (A B : Int) : outA (Cn.g28 [] (ins (.ofNat 5) A B) .nil 1) = some (.tup [.lit (.int .i64 (.ofNat 1)), .lit (.int .i64 (.ofNat 0))]) := by kernel_rfl
theorem eff6 (A B : Int) : outA (Cn.g28 [] (ins (.ofNat 6) A B) .nil 1) = some (.tup [.lit (.int .i64 (.ofNat 0)), .lit (.int .i64 (.ofNat 1))]) := by kernel_rfl
theorem eff7 (A B : Int) : outA (Cn.g28 [] (ins (.ofNat 7) A B) .nil 1) = some (.tup [.lit (.int .i64 (mx A)), .lit (.int .i64 (.ofNat 1))]) := by kernel_rfl
theorem eff8 (A B : Int) : outA (Cn.g28 [] (ins (.ofNat 8) A B) .nil 1) = some (.tup [.lit (.int .i64 (mx A)), .lit (.int .i64 (.ofNat 1))]) := by kernel_rfl
theorem eff9 (A B : Int) : outA (Cn.g28 [] (ins (.ofNat 9) A B) .nil 1) = some (.tup [.lit (.int .i64 (IntKind.i64.wrap (.ofNat 2 * mx A))), .lit (.int .i64 (.ofNat 1))]) := by kernel_rfl
theorem eff10 (A B : Int) : outA (Cn.g28 [] (ins (.ofNat 10) A B) .nil 1) = some (.tup [.lit (.int .i64 (.ofNat 1)), .lit (.int .i64 (.ofNat 1))]) := by kernel_rfl
theorem eff11 (A B : Int) : outA (Cn.g28 [] (ins (.ofNat 11) A B) .nil 1) = some (.tup [.lit (.int .i64 (.ofNat 2)), .lit (.int .i64 (.ofNat 1))]) := by kernel_rfl
theorem eff12 (A B : Int) : outA (Cn.g28 [] (ins (.ofNat 12) A B) .nil 1) = some (.tup [.lit (.int .i64 (.ofNat 0)), .lit (.int .i64 (.ofNat 0))]) := by kernel_rfl
theorem eff13 (A B : Int) : outA (Cn.g28 [] (ins (.ofNat 13) A B) .nil 1) = some (.tup [.lit (.int .i64 (.ofNat 1)), .lit (.int .i64 (.ofNat 0))]) := by kernel_rfl
theorem eff14 (A B : Int) : outA (Cn.g28 [] (ins (.ofNat 14) A B) .nil 1) = some (.tup [.lit (.int .i64 (.ofNat 1)), .lit (.int .i64 (.ofNat 0))]) := by kernel_rfl
theorem eff15 (A B : Int) : outA (Cn.g28 [] (ins (.ofNat 15) A B) .nil 1) = some (.tup [.lit (.int .i64 (.ofNat 1)), .lit (.int .i64 (.ofNat 0))]) := by kernel_rfl
theorem eff16 (A B : Int) : outA (Cn.g28 [] (ins (.ofNat 16) A B) .nil 1) = some (.tup [.lit (.int .i64 (IntKind.i64.wrap (IntKind.i64.wrap (.ofNat 1 + mx A) + IntKind.i64.wrap (.ofNat 2 * mx B)))), .lit (.int .i64 (.ofNat 1))]) := by kernel_rfl
theorem eff17 (A B : Int) : outA (Cn.g28 [] (ins (.ofNat 17) A B) .nil 1) = some (.tup [.lit (.int .i64 (.ofNat 1)), .lit (.int .i64 (.ofNat 1))]) := by kernel_rfl
theorem eff18 (A B : Int) : outA (Cn.g28 [] (ins (.ofNat 18) A B) .nil 1) = some (.tup [.lit (.int .i64 (.ofNat 2)), .lit (.int .i64 (.ofNat 1))]) := by kernel_rfl
theorem eff19 (A B : Int) : outA (Cn.g28 [] (ins (.ofNat 19) A B) .nil 1) = some (.tup [.lit (.int .i64 (IntKind.i64.wrap (IntKind.i64.wrap (.ofNat 1 + andI (mx A) (.ofNat 1)) + andI ((mx A).fdiv 2) (.ofNat 1)))), .lit (.int .i64 (.ofNat 1))]) := by kernel_rfl
theorem eff20 (A B : Int) : outA (Cn.g28 [] (ins (.ofNat 20) A B) .nil 1) = some (.tup [.lit (.int .i64 (.ofNat 3)), .lit (.int .i64 (.ofNat 0))]) := by kernel_rfl
theorem eff21 (A B : Int) : outA (Cn.g28 [] (ins (.ofNat 21) A B) .nil 1) = some (.tup [.lit (.int .i64 (.ofNat 1)), .lit (.int .i64 (mx A))]) := by kernel_rfl
theorem eff22 (A B : Int) : outA (Cn.g28 [] (ins (.ofNat 22) A B) .nil 1) = some (.tup [.lit (.int .i64 (.ofNat 1)), .lit (.int .i64 (.ofNat 1))]) := by kernel_rfl
theorem eff23 (A B : Int) : outA (Cn.g28 [] (ins (.ofNat 23) A B) .nil 1) = some (.tup [.lit (.int .i64 (.ofNat 1)), .lit (.int .i64 (.ofNat 2))]) := by kernel_rfl
theorem eff24 (A B : Int) : outA (Cn.g28 [] (ins (.ofNat 24) A B) .nil 1) = some (.tup [.lit (.int .i64 (.ofNat 1)), .lit (.int .i64 (.ofNat 0))]) := by kernel_rfl
theorem eff25 (A B : Int) : outA (Cn.g28 [] (ins (.ofNat 25) A B) .nil 1) = some (.tup [.lit (.int .i64 (.ofNat 2)), .lit (.int .i64 (.ofNat 1))]) := by kernel_rfl
theorem eff26 (A B : Int) : outA (Cn.g28 [] (ins (.ofNat 26) A B) .nil 1) = some (.tup [.lit (.int .i64 (.ofNat 1)), .lit (.int .i64 (.ofNat 0))]) := by kernel_rfl
theorem eff27 (A B : Int) : outA (Cn.g28 [] (ins (.ofNat 27) A B) .nil 1) = some (.tup [.lit (.int .i64 (.ofNat 1)), .lit (.int .i64 (.ofNat 0))]) := by kernel_rfl
theorem eff28 (A B : Int) : outA (Cn.g28 [] (ins (.ofNat 28) A B) .nil 1) = some (.tup [.lit (.int .i64 (.ofNat 0)), .lit (.int .i64 (.ofNat 1))]) := by kernel_rfl
theorem eff29 (A B : Int) : outA (Cn.g28 [] (ins (.ofNat 29) A B) .nil 1) = some (.tup [.lit (.int .i64 (.ofNat 1)), .lit (.int .i64 (.ofNat 0))]) := by kernel_rfl
theorem eff30 (A B : Int) : outA (Cn.g28 [] (ins (.ofNat 30) A B) .nil 1) = some (.tup [.lit (.int .i64 (.ofNat 0)), .lit (.int .i64 (.ofNat 1))]) := by kernel_rfl
theorem eff31 (A B : Int) : outA (Cn.g28 [] (ins (.ofNat 31) A B) .nil 1) = some (.tup [.lit (.int .i64 (.ofNat 2)), .lit (.int .i64 (.ofNat 4))]) := by kernel_rfl
theorem eff32 (A B : Int) : outA (Cn.g28 [] (ins (.ofNat 32) A B) .nil 1) = some (.tup [.lit (.int .i64 (.ofNat 1)), .lit (.int .i64 (.ofNat 2))]) := by kernel_rfl
theorem eff33 (A B : Int) : outA (Cn.g28 [] (ins (.ofNat 33) A B) .nil 1) = some (.tup [.lit (.int .i64 (.ofNat 0)), .lit (.int .i64 (.ofNat 0))]) := by kernel_rfl
theorem effOn (m : Nat) (A B : Int) : outA (Cn.g28 [] (ins (.negSucc m) A B) .nil 1) = some (.tup [.lit (.int .i64 (.ofNat 0)), .lit (.int .i64 (.ofNat 0))]) := by kernel_rfl
theorem effOz (A B : Int) : outA (Cn.g28 [] (ins (.ofNat 0) A B) .nil 1) = some (.tup [.lit (.int .i64 (.ofNat 0)), .lit (.int .i64 (.ofNat 0))]) := by kernel_rfl
theorem effOp (m : Nat) (A B : Int) : outA (Cn.g28 [] (ins (.ofNat (m + 34)) A B) .nil 1) = some (.tup [.lit (.int .i64 (.ofNat 0)), .lit (.int .i64 (.ofNat 0))]) := by kernel_rfl
/-- an instruction that is one -/
theorem eff_one (k : Nat) (h1 : 1 ≤ k) (h2 : k < 34) (A B : Int) (hA : A ≤ 1000) (hB : B ≤ 1000) : ∃ (x y : Nat) (T : HT) (n : Nat), Cn.g28 [] (ins (.ofNat k) A B) .nil 1 = .ok (.val (.tup [.lit (.int .i64 (.ofNat x)), .lit (.int .i64 (.ofNat y))])) T n := by
  have a0 := mx_nn A
  have b0 := mx_nn B
  have a1 := mx_le hA
  have b1 := mx_le hB
  match k, h1, h2 with
  | 1, _, _ => exact nn_of (eff1 A B) (Int.natCast_nonneg _) (Int.natCast_nonneg _)
  | 2, _, _ => exact nn_of (eff2 A B) (Int.natCast_nonneg _) (Int.natCast_nonneg _)
  | 3, _, _ => exact nn_of (eff3 A B) (Int.natCast_nonneg _) (Int.natCast_nonneg _)
  | 4, _, _ => exact nn_of (eff4 A B) (Int.natCast_nonneg _) (Int.natCast_nonneg _)
  | 5, _, _ => exact nn_of (eff5 A B) (Int.natCast_nonneg _) (Int.natCast_nonneg _)
  | 6, _, _ => exact nn_of (eff6 A B) (Int.natCast_nonneg _) (Int.natCast_nonneg _)
  | 7, _, _ => exact nn_of (eff7 A B) a0 (Int.natCast_nonneg _)
  | 8, _, _ => exact nn_of (eff8 A B) a0 (Int.natCast_nonneg _)
  | 9, _, _ => exact nn_of (eff9 A B) (by rw [wrap_id] <;> simp only [Int.ofNat_eq_natCast] <;> omega) (Int.natCast_nonneg _)
  | 10, _, _ => exact nn_of (eff10 A B) (Int.natCast_nonneg _) (Int.natCast_nonneg _)
  | 11, _, _ => exact nn_of (eff11 A B) (Int.natCast_nonneg _) (Int.natCast_nonneg _)
  | 12, _, _ => exact nn_of (eff12 A B) (Int.natCast_nonneg _) (Int.natCast_nonneg _)
  | 13, _, _ => exact nn_of (eff13 A B) (Int.natCast_nonneg _) (Int.natCast_nonneg _)
  | 14, _, _ => exact nn_of (eff14 A B) (Int.natCast_nonneg _) (Int.natCast_nonneg _)
  | 15, _, _ => exact nn_of (eff15 A B) (Int.natCast_nonneg _) (Int.natCast_nonneg _)
  | 16, _, _ => exact nn_of (eff16 A B) (by rw [wrap_id (z := .ofNat 1 + mx A), wrap_id (z := .ofNat 2 * mx B), wrap_id] <;> simp only [Int.ofNat_eq_natCast] <;> omega) (Int.natCast_nonneg _)
  | 17, _, _ => exact nn_of (eff17 A B) (Int.natCast_nonneg _) (Int.natCast_nonneg _)
  | 18, _, _ => exact nn_of (eff18 A B) (Int.natCast_nonneg _) (Int.natCast_nonneg _)
  | 19, _, _ => exact nn_of (eff19 A B) (by have := andI_1 (mx A); have := andI_1 ((mx A).fdiv 2); rw [wrap_id (z := .ofNat 1 + andI (mx A) (.ofNat 1)), wrap_id] <;> simp only [Int.ofNat_eq_natCast] at * <;> omega) (Int.natCast_nonneg _)
  | 20, _, _ => exact nn_of (eff20 A B) (Int.natCast_nonneg _) (Int.natCast_nonneg _)
  | 21, _, _ => exact nn_of (eff21 A B) (Int.natCast_nonneg _) a0
  | 22, _, _ => exact nn_of (eff22 A B) (Int.natCast_nonneg _) (Int.natCast_nonneg _)
  | 23, _, _ => exact nn_of (eff23 A B) (Int.natCast_nonneg _) (Int.natCast_nonneg _)
  | 24, _, _ => exact nn_of (eff24 A B) (Int.natCast_nonneg _) (Int.natCast_nonneg _)
  | 25, _, _ => exact nn_of (eff25 A B) (Int.natCast_nonneg _) (Int.natCast_nonneg _)
  | 26, _, _ => exact nn_of (eff26 A B) (Int.natCast_nonneg _) (Int.natCast_nonneg _)
  | 27, _, _ => exact nn_of (eff27 A B) (Int.natCast_nonneg _) (Int.natCast_nonneg _)
  | 28, _, _ => exact nn_of (eff28 A B) (Int.natCast_nonneg _) (Int.natCast_nonneg _)
  | 29, _, _ => exact nn_of (eff29 A B) (Int.natCast_nonneg _) (Int.natCast_nonneg _)
  | 30, _, _ => exact nn_of (eff30 A B) (Int.natCast_nonneg _) (Int.natCast_nonneg _)
  | 31, _, _ => exact nn_of (eff31 A B) (Int.natCast_nonneg _) (Int.natCast_nonneg _)
  | 32, _, _ => exact nn_of (eff32 A B) (Int.natCast_nonneg _) (Int.natCast_nonneg _)
  | 33, _, _ => exact nn_of (eff33 A B) (Int.natCast_nonneg _) (Int.natCast_nonneg _)
  | q + 34, _, h => exact absurd h (by omega)
/-- what is settled once, by itself, is settled anywhere -/
theorem calm {P : Program} {E : List (Nat × AV)} {f : FuncId} {args : List AV} {v : AV} {T2 : HT} {n2 : Nat} (hG : GOk P E f args [] .nil 1 (.ok (.val v) T2 n2)) (hv : ∀ ρ ρ' : Rho, inst ρ v = inst ρ' v) (ha : ∀ ρ ρ' : Rho, instL ρ args = instL ρ' args)
    (hE : ∀ g u, lookE E g = some u → ∀ ρ ρ' : Rho, ρ.opq = ρ'.opq → inst ρ u = inst ρ' u) (ro : List HT) (T : HT) (nx : Nat) : GOk P E f args ro T nx (.ok (.val v) T nx) := by
  intro v' T' n' h
  cases h
  obtain ⟨hen, hcc⟩ := hG _ _ _ rfl
  refine ⟨hen, fun w0 base ρ vs its hS hA w hW => ?_⟩
  have hSe : ST w w.heap.size E ⟨[], ρ.opq⟩ ⟨[], ρ.opq⟩ .nil [] 1 [] := by
    refine ⟨⟨[], (fun id m h => by cases h), rfl⟩, (fun id _ => rfl), (fun id m h => by cases h), fun g u hg => ?_, Ext.refl _, hS.opq.push hW⟩
    obtain ⟨u', e1, e2⟩ := (hS.push hW).env g u hg
    exact ⟨u', by rw [hE g u hg ⟨[], ρ.opq⟩ ρ rfl]; exact e1, e2⟩
  refine (hcc w w.heap.size ⟨[], ρ.opq⟩ vs [] hSe (by rw [ha ⟨[], ρ.opq⟩ ρ]; exact hA) w (WA.start w)).mono fun e w' he => ?_
  obtain ⟨ρ1, its1, e1, e2, z, e3, rfl⟩ := he
  exact ⟨ρ, its, hS, Stab.st w w' hW e2.below, z, by rw [hv ρ ρ1]; exact e3, rfl⟩
theorem env_opq : ∀ g u, lookE Cn.envE g = some u → ∀ ρ ρ' : Rho, ρ.opq = ρ'.opq → inst ρ u = inst ρ' u := by
  intro g u h ρ ρ' hq
  unfold Cn.envE at h
  simp only [lookE] at h
  split at h
  · cases h; simp only [inst, hq]
  split at h
  · cases h; simp only [inst, hq]
  split at h
  · cases h; simp only [inst, hq]
  split at h
  · cases h; simp only [inst, hq]
  split at h
  · cases h; simp only [inst, hq]
  split at h
  · cases h; simp only [inst, hq]
  cases h
theorem eff_ok {o A B : Int} {x y : Nat} {T2 : HT} {n2 : Nat} (h : Cn.g28 [] (ins o A B) .nil 1 = .ok (.val (.tup [.lit (.int .i64 (.ofNat x)), .lit (.int .i64 (.ofNat y))])) T2 n2) (ro : List HT) (T : HT) (nx : Nat) :
    GOk Tryz.prog Cn.envE 28 [ins o A B] ro T nx (.ok (.val (.tup [.lit (.int .i64 (.ofNat x)), .lit (.int .i64 (.ofNat y))])) T nx) := by
  have hG := Cn.g28_ok [] (ins o A B) .nil 1
  rw [h] at hG
  exact calm hG (fun _ _ => rfl) (fun _ _ => rfl) env_opq ro T nx
end Go.Proofs.YtlljgagoboapaaaGreatDoor.CnE
