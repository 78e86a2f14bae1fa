/-
  Proved here: the text of a key that is a number and a letter, below twelve, and how it is written; the text of None.
-/
import Derived.Test.YtifanilblkellaaGreatDoorDdS
namespace Go.Proofs.YtifanilblkellaaGreatDoor.Bsf
open Go.SX Go.EX Go.EB Go.RowKit Go.Vo Go.Ss Go.Proofs.YtifanilblkellaaGreatDoor.Env
def tupH (k : Nat) : AH := [(2, .obj [.sl 3 0 2 0] 80), (3, .row 2 31 1 [.iface 82 (numA k), .iface 86 (.lit (.string ⟨#[107]⟩))])]
def isK (r : Option (AV × AH × Nat)) (s : List UInt8) : Bool := match r with
  | some (.tup [.lit (.string b), .lit .nilIface], _, _) => decide (b.data.toList = s)
  | _ => false
def reprT (k : Nat) : T := 40 :: (dec k ++ [44, 32, 34, 107, 34, 41])
set_option maxRecDepth 100000
theorem runK : (List.range 12).all (fun k => isK (callB Tryz.prog cfg 300 [tupH k, numH k] 36 [.iface 77 (.ptr 2 0)] [] 4) (keyT k)) = true := by kernel_rfl
theorem runRK : (List.range 12).all (fun k => isS (callB Tryz.prog cfg 300 [tupH k, numH k] 20 [.iface 77 (.ptr 2 0)] [] 4) (reprT k)) = true := by kernel_rfl
theorem runN : isK (callB Tryz.prog cfg 300 [] 36 [.iface 107 (.lit (.agg #[]))] [] 1) [78, 59] = true := by kernel_rfl
theorem isK_inv {r : Option (AV × AH × Nat)} {s : List UInt8} (h : isK r s = true) : ∃ n, pk [] r = some (.tup [.lit (str s), .lit .nilIface], [], n) := by
  unfold isK at h
  split at h
  · rename_i b H n
    have h1 := of_decide_eq_true h
    refine ⟨n, ?_⟩
    unfold pk pickH
    have h2 : str s = .string b := by
      unfold str
      rw [← h1]
    rw [h2]
  · cases h
theorem tup_eq {u v : Value} : ∀ (ρ ρ' : Rho) (z : Value), Ext ρ ρ' → inst ρ' (.tup [.lit u, .lit v]) = some z → z = .tuple #[u, v] := fun _ _ _ _ h => by
  obtain ⟨x, h1, rfl⟩ := inst_pair h
  obtain rfl := inst_lit h1
  rfl
/-- a key, where it lies -/
structure KW (k : Nat) (kv : Value) (w : World) : Prop where
  ex : ∃ tb gb ct u, kv = .iface 77 (.pointer (some ⟨tb, 0, none⟩)) ∧ tb < w.heap.size ∧ w.cell? ⟨tb, 0, none⟩ = some (.slice (some ⟨gb, 0, none⟩) 2 ct) ∧ 2 ≤ ct ∧ gb < w.heap.size ∧ w.cell? ⟨gb, 0, none⟩ = some (.iface 82 u) ∧ w.cell? ⟨gb, 1, none⟩ = some (.iface 86 (str [107])) ∧ NumV w w.heap.size (k : Int) u ∧ NX k u
theorem KW.below {k : Nat} {kv : Value} {w w' : World} (h : KW k kv w) (hb : Below w.heap.size w w') : KW k kv w' := by
  obtain ⟨tb, gb, ct, u, e1, e2, e3, e4, e5, e6, e7, e8, e9⟩ := h
  have hw := WA.from hb
  exact ⟨tb, gb, ct, u, e1, Nat.lt_of_lt_of_le e2 hb.size, hw.old (a := ⟨tb, 0, none⟩) e2 e3, e4, Nat.lt_of_lt_of_le e5 hb.size, hw.old (a := ⟨gb, 0, none⟩) e5 e6, hw.old (a := ⟨gb, 1, none⟩) e5 e7, e8.push hw, e9⟩
instance {k : Nat} {kv : Value} : Stab (KW k kv) where
  st _ _ h hb := h.below hb
theorem tup_st {w : World} {aE : Nat → Addr} (hS : EnvS w w.heap.size aE) {k : Nat} (hk : k < 12) {kv : Value} (h : KW k kv w) : ∃ ρ, St [tupH k, numH k] 4 ρ w ∧ inst ρ (.iface 77 (.ptr 2 0)) = some kv := by
  obtain ⟨tb, gb, ct, u, rfl, e2, e3, e4, e5, e6, e7, e8, e9⟩ := h
  obtain ⟨ρ, s1, i1⟩ := num_st hS hk e8 e9
  have x1 := Ext.add s1.fr tb 0
  have f1 := Fresh.add s1.fr tb 0
  have x2 := Ext.add f1 gb ct
  have f2 := Fresh.add f1 gb ct
  have x := x1.trans x2
  have r2 : rat ((ρ.add 2 tb 0).add 3 gb ct).blk 2 = some (tb, 0) := x2.blk _ _ (rat_add _ _ _ _)
  have r3 : rat ((ρ.add 2 tb 0).add 3 gb ct).blk 3 = some (gb, ct) := rat_add _ _ _ _
  have i2 := inst_ext x _ _ i1
  refine ⟨(ρ.add 2 tb 0).add 3 gb ct, ⟨fun id it hi => ?_, s1.ee.ext x, f2⟩, ?_⟩
  · have hc : (id = 2 ∧ it = .obj [.sl 3 0 2 0] 80) ∨ (id = 3 ∧ it = .row 2 31 1 [.iface 82 (numA k), .iface 86 (.lit (.string ⟨#[107]⟩))]) ∨ findRO [numH k] id = some it := by
      unfold findRO tupH findA at hi
      cases hb : Nat.beq 2 id with
      | true => rw [hb] at hi; cases hi; exact .inl ⟨(Nat.eq_of_beq_eq_true hb).symm, rfl⟩
      | false =>
        rw [hb] at hi
        unfold findA at hi
        cases hb3 : Nat.beq 3 id with
        | true => rw [hb3] at hi; cases hi; exact .inr (.inl ⟨(Nat.eq_of_beq_eq_true hb3).symm, rfl⟩)
        | false => rw [hb3] at hi; exact .inr (.inr hi)
    rcases hc with ⟨rfl, rfl⟩ | ⟨rfl, rfl⟩ | hi
    · refine ⟨(tb, 0), [.slice (some ⟨gb, 0, none⟩) 2 ct], r2, ?_, e2, fun off v hv => ?_, fun n e s cs hq => by cases hq⟩
      · show instL _ [.sl 3 0 2 0] = _
        refine instL1 ?_
        unfold inst
        rw [r3]
        rfl
      · cases off with
        | zero => cases hv; exact e3
        | succ j => cases hv
    · refine ⟨(gb, ct), [.iface 82 u, .iface 86 (str [107])], r3, instL_mk (inst_mkI i2) rfl, e5, fun off v hv => ?_, fun n e s cs hq => by cases hq; exact e4⟩
      match off, hv with
      | 0, hv => cases hv; exact e6
      | 1, hv => cases hv; exact e7
    · exact (s1.ro.ext x) id it hi
  · refine inst_mkI ?_
    unfold inst
    rw [r2]
    rfl
theorem key_q {W : World → Prop} [Stab W] {aE : Nat → Addr} (hS : ∀ w, W w → EnvS w w.heap.size aE) {k : Nat} (hk : k < 12) {kv : Value} (hK : ∀ w, W w → KW k kv w) : FnQ Tryz.prog 36 #[kv] W (.tuple #[str (keyT k), .nilIface]) := fun w hw => by
  obtain ⟨ρ, h1, h2⟩ := tup_st (hS w hw) hk (hK w hw)
  obtain ⟨n, h3⟩ := isK_inv (List.all_eq_true.1 runK k (List.mem_range.2 hk))
  exact callL (W := fun w' => w' = w) h3 (tup_eq ρ) (fun w' e => by subst e; exact h1) (instL1 h2) w rfl
theorem reprK_q {W : World → Prop} [Stab W] {aE : Nat → Addr} (hS : ∀ w, W w → EnvS w w.heap.size aE) {k : Nat} (hk : k < 12) {kv : Value} (hK : ∀ w, W w → KW k kv w) : FnQ Tryz.prog 20 #[kv] W (str (reprT k)) := fun w hw => by
  obtain ⟨ρ, h1, h2⟩ := tup_st (hS w hw) hk (hK w hw)
  obtain ⟨n, h3⟩ := isS_inv (List.all_eq_true.1 runRK k (List.mem_range.2 hk))
  exact callL (W := fun w' => w' = w) h3 (lit_eq ρ) (fun w' e => by subst e; exact h1) (instL1 h2) w rfl
theorem keyN_q {W : World → Prop} [Stab W] {aE : Nat → Addr} (hS : ∀ w, W w → EnvS w w.heap.size aE) : FnQ Tryz.prog 36 #[.iface 107 (.agg #[])] W (.tuple #[str [78, 59], .nilIface]) := fun w hw => by
  obtain ⟨n, h3⟩ := isK_inv runN
  exact callL (W := fun w' => w' = w) h3 (tup_eq (rho aE)) (fun w' e => by subst e; exact St.start (hS w' hw)) (us := [.iface 107 (.agg #[])]) rfl w rfl
end Go.Proofs.YtifanilblkellaaGreatDoor.Bsf
