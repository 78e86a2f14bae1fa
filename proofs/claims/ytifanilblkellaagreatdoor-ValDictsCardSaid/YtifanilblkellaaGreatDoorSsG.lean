/-
  Proved here: numbers below twelve, and a Struct of nothing, written down; the number 0.
-/
import Derived.Test.YtifanilblkellaaGreatDoorFsA
import Derived.Test.YtifanilblkellaaGreatDoorSsA
namespace Go.Proofs.YtifanilblkellaaGreatDoor.Bsf
open Go.SX Go.EX Go.EB Go.RowKit Go.Vo Go.Ss Go.Proofs.YtifanilblkellaaGreatDoor.Env
def numA (i : Nat) : AV := match i with
  | 0 => .agg [.lit (.bool false), .lit (.slice none 0 0)]
  | _ + 1 => .agg [.lit (.bool false), .sl 1 0 1 0]
def numH (i : Nat) : AH := match i with
  | 0 => []
  | j + 1 => [(1, .row 1 84 1 [.lit (.int .u32 (.ofNat (j + 1)))])]
def isS (r : Option (AV × AH × Nat)) (s : List UInt8) : Bool := match r with
  | some (.lit (.string b), _, _) => decide (b.data.toList = s)
  | _ => false
def dec (i : Nat) : List UInt8 := match Nat.blt i 10 with
  | true => [(48 + i).toUInt8]
  | false => [49, (38 + i).toUInt8]
set_option maxRecDepth 100000
theorem runT : (List.range 12).all (fun i => isS (callB Tryz.prog cfg 300 [numH i] 17 [numA i] [] 2) (dec i)) = true := by kernel_rfl
theorem runR : (List.range 12).all (fun i => isS (callB Tryz.prog cfg 300 [numH i] 20 [.iface 82 (numA i)] [] 2) (dec i)) = true := by kernel_rfl
def stH : AH := [(1, .obj [.lit (.slice none 0 0), .lit (.slice none 0 0)] 115)]
theorem runS : isS (callB Tryz.prog cfg 300 [stH] 20 [.iface 109 (.ptr 1 0)] [] 2) [115, 116, 114, 117, 99, 116, 40, 41] = true := by kernel_rfl
theorem runO : pk [] (callB Tryz.prog cfg 300 [] 10 [.lit (.int .i64 0)] [] 1) = some (.agg [.lit (.bool false), .lit (.slice none 0 0)], [], 3) := by kernel_rfl
theorem isS_inv {r : Option (AV × AH × Nat)} {s : List UInt8} (h : isS r s = true) : ∃ n, pk [] r = some (.lit (str s), [], n) := by
  unfold isS at h
  split at h
  · rename_i b H n
    have h1 := of_decide_eq_true h
    refine ⟨n, ?_⟩
    unfold pk pickH
    have h2 : str s = .string b := by
      unfold str
      rw [← h1]
    rw [h2]
  · cases h
theorem lit_eq {v : Value} : ∀ (ρ ρ' : Rho) (u : Value), Ext ρ ρ' → inst ρ' (.lit v) = some u → u = v := fun _ _ _ _ h => inst_lit h
def rho1 (aE : Nat → Addr) (b c : Nat) : Rho := ⟨[(1, b, c)], fun i => .pointer (some (aE i)), fun _ => rfl⟩
theorem digs_small {i : Nat} (h : 0 < i) (h2 : i < 12) : digs i = [i] := by
  rw [digs_pos h, show i % B = i from Nat.mod_eq_of_lt (by unfold B; omega), show i / B = 0 from Nat.div_eq_of_lt (by unfold B; omega), digs_0]
/-- a small number, as the machine sees it -/
theorem num_st {w : World} {aE : Nat → Addr} (hS : EnvS w w.heap.size aE) {i : Nat} (hi : i < 12) {u : Value} (hu : NumV w w.heap.size (i : Int) u) (hx : NX i u) : ∃ ρ, St [numH i] 2 ρ w ∧ inst ρ (numA i) = some u := by
  obtain ⟨g, c, rfl, h0, h1⟩ := hx
  obtain ⟨⟨g', c', e, hr⟩, _⟩ := hu
  have hee : ∀ b c, EE w w.heap.size (rho1 aE b c) cfg.E := fun b c => (ee hS).ext ⟨(fun id p h => by cases h), rfl⟩
  rcases Nat.eq_zero_or_pos i with rfl | hp
  · obtain ⟨rfl, rfl⟩ := h0 rfl
    refine ⟨rho1 aE 0 0, ⟨fun id it h => ?_, hee 0 0, fun id h => ?_⟩, ?_⟩
    · unfold numH findRO findA at h
      cases h
    · show rat [(1, 0, 0)] id = none
      exact rat_ne (0, 0) [] (by omega)
    · show some (Value.agg #[.bool false, .slice none 0 0]) = some (numV ((0 : Nat) : Int) none 0)
      unfold numV
      rw [show ((0 : Nat) : Int).natAbs = 0 from rfl, digs_0]
      rfl
  · have hd := digs_small hp hi
    have hab : ((i : Int)).natAbs = i := by omega
    obtain ⟨b, e1, e2, e3⟩ := hr.at_ 0 (.int .u32 (i : Int)) (by rw [hab, hd]; rfl)
    unfold numV at e
    rw [hab, hd] at e
    have eg : g = g' ∧ c = c' := by
      injection e with e
      have e4 := congrArg (fun a : Array Value => a.toList) e
      have e5 := List.cons.inj (List.cons.inj e4).2
      cases g with
      | none => cases g' with
        | none => have e6 := e5.1; injection e6 with _ _ e7; exact ⟨rfl, e7⟩
        | some b' => have e6 := e5.1; injection e6 with e7; cases e7
      | some b0 => cases g' with
        | none => have e6 := e5.1; injection e6 with e7; cases e7
        | some b' => have e6 := e5.1; injection e6 with e7 _ e8; injection e7 with e9; injection e9 with e9; exact ⟨by rw [e9], e8⟩
    obtain ⟨rfl, rfl⟩ := eg
    subst e1
    obtain ⟨j, rfl⟩ : ∃ j, i = j + 1 := ⟨i - 1, by omega⟩
    refine ⟨rho1 aE b c, ⟨fun id it h => ?_, hee b c, fun id h => ?_⟩, ?_⟩
    · have hid : id = 1 ∧ it = .row 1 84 1 [.lit (.int .u32 (.ofNat (j + 1)))] := by
        unfold numH at h
        rw [findRO1] at h
        unfold findA at h
        cases hb : Nat.beq 1 id with
        | true => rw [hb] at h; cases h; exact ⟨(Nat.eq_of_beq_eq_true hb).symm, rfl⟩
        | false => rw [hb] at h; unfold findA at h; cases h
      obtain ⟨rfl, rfl⟩ := hid
      refine ⟨(b, c), [.int .u32 (.ofNat (j + 1))], rat_same _ _ _, rfl, e2, fun off u hu => ?_, fun n e s cs hq => ?_⟩
      · cases off with
        | zero => cases hu; exact e3
        | succ k => cases hu
      · cases hq
        exact h1 hp
    · show rat [(1, b, c)] id = none
      exact rat_ne (b, c) [] (by omega)
    · show (Option.map _ _) = _
      unfold numV
      rw [hab, hd]
      have hneg : decide (((j + 1 : Nat) : Int) < 0) = false := decide_eq_false (by omega)
      rw [hneg]
      rfl
theorem text_q {W : World → Prop} [Stab W] {aE : Nat → Addr} (hS : ∀ w, W w → EnvS w w.heap.size aE) {i : Nat} (hi : i < 12) {u : Value} (hu : ∀ w, W w → NumV w w.heap.size (i : Int) u) (hx : NX i u) : FnQ Tryz.prog 17 #[u] W (str (dec i)) := fun w hw => by
  obtain ⟨ρ, h1, h2⟩ := num_st (hS w hw) hi (hu w hw) hx
  obtain ⟨n, h3⟩ := isS_inv (List.all_eq_true.1 runT i (List.mem_range.2 hi))
  exact callL (W := fun w' => w' = w) h3 (lit_eq ρ) (fun w' e => by subst e; exact h1) (instL1 h2) w rfl
theorem repr_q {W : World → Prop} [Stab W] {aE : Nat → Addr} (hS : ∀ w, W w → EnvS w w.heap.size aE) {i : Nat} (hi : i < 12) {v : Value} (hv : ∀ w, W w → VV w w.heap.size (some i) v) : FnQ Tryz.prog 20 #[v] W (str (dec i)) := fun w hw => by
  obtain ⟨u, rfl, hu, hx⟩ := hv w hw
  obtain ⟨ρ, h1, h2⟩ := num_st (hS w hw) hi hu hx
  obtain ⟨n, h3⟩ := isS_inv (List.all_eq_true.1 runR i (List.mem_range.2 hi))
  exact callL (W := fun w' => w' = w) h3 (lit_eq ρ) (fun w' e => by subst e; exact h1) (instL1 (inst_mkI h2)) w rfl
theorem reprS_q {W : World → Prop} [Stab W] {aE : Nat → Addr} (hS : ∀ w, W w → EnvS w w.heap.size aE) {b : Nat} (hb : ∀ w, W w → b < w.heap.size ∧ w.cell? ⟨b, 0, none⟩ = some (.slice none 0 0) ∧ w.cell? ⟨b, 1, none⟩ = some (.slice none 0 0)) : FnQ Tryz.prog 20 #[.iface 109 (.pointer (some ⟨b, 0, none⟩))] W (str [115, 116, 114, 117, 99, 116, 40, 41]) := fun w hw => by
  obtain ⟨h0, h1, h2⟩ := hb w hw
  have hee : EE w w.heap.size (rho1 aE b 0) cfg.E := (ee (hS w hw)).ext ⟨(fun id p h => by cases h), rfl⟩
  have hst : St [stH] 2 (rho1 aE b 0) w := ⟨fun id it h => by
    have hid : id = 1 ∧ it = .obj [.lit (.slice none 0 0), .lit (.slice none 0 0)] 115 := by
      unfold stH at h
      rw [findRO1] at h
      unfold findA at h
      cases hb : Nat.beq 1 id with
      | true => rw [hb] at h; cases h; exact ⟨(Nat.eq_of_beq_eq_true hb).symm, rfl⟩
      | false => rw [hb] at h; unfold findA at h; cases h
    obtain ⟨rfl, rfl⟩ := hid
    refine ⟨(b, 0), [.slice none 0 0, .slice none 0 0], rat_same _ _ _, rfl, h0, fun off u hu => ?_, fun n e s cs hq => by cases hq⟩
    match off, hu with
    | 0, hu => cases hu; exact h1
    | 1, hu => cases hu; exact h2, hee, fun id h => rat_ne (b, 0) [] (by omega)⟩
  obtain ⟨n, h3⟩ := isS_inv runS
  exact callL (W := fun w' => w' = w) h3 (lit_eq (rho1 aE b 0)) (fun w' e => by subst e; exact hst) (us := [.iface 109 (.pointer (some ⟨b, 0, none⟩))]) rfl w rfl
theorem of_n {w0 : World} {base : Nat} {fr : List It} {aE : Nat → Addr} (hS : EnvS w0 base aE) {i : Nat} (hi : i < 12) : FnC Tryz.prog 10 #[.int .i64 (i : Int)] (WA w0 base fr) (fun q : Option Nat × Nat => numV (i : Int) q.1 q.2)
    (fun q w => NX i (numV (i : Int) q.1 q.2) ∧ WA w0 base (.row q.1 q.2 (digs (i : Int).natAbs).length 84 1 (dv (digs (i : Int).natAbs)) :: fr) w) := fun w hw => by
  rcases Nat.eq_zero_or_pos i with rfl | hp
  · have h0 : numV ((0 : Nat) : Int) none 0 = .agg #[.bool false, .slice none 0 0] := by
      unfold numV
      rw [show ((0 : Nat) : Int).natAbs = 0 from rfl, digs_0]
      rfl
    refine (callL (W := WA w0 base fr) runO (ρ := rho aE) (z := .agg #[.bool false, .slice none 0 0]) (fun ρ' u _ h => ?_) (fun w hw => St.start (push hS hw)) rfl w hw).mono fun e w' ⟨he, hb⟩ => ⟨(none, 0), he.trans (congrArg Ending.returned h0.symm), ⟨none, 0, rfl, fun _ => ⟨rfl, rfl⟩, fun h => absurd h (Nat.lt_irrefl _)⟩, ?_⟩
    · cases h; rfl
    · have h1 := (Stab.st (W := WA w0 base fr) w w' hw hb).nilRow 84 1
      rw [show ((0 : Nat) : Int).natAbs = 0 from rfl, digs_0]
      exact h1
  · refine (of_c (fr := fr) (x := (i : Int)) (by omega) w hw).mono fun e w' ⟨q, he, h⟩ => ⟨q, he, ⟨q.1, q.2, rfl, fun h0 => by omega, fun _ => ?_⟩, h⟩
    have h1 := (row_len (h.get (i := 0) rfl)).2
    have hab : ((i : Int)).natAbs = i := by omega
    rw [hab, digs_small hp hi] at h1
    exact h1
end Go.Proofs.YtifanilblkellaaGreatDoor.Bsf
