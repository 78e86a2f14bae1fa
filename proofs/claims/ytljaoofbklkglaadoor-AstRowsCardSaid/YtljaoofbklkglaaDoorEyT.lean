/-
  Proved here: steps of a machine of mine on values that it does not look into: a list's numbers, and names made of them.
-/
import Derived.Test.YtljaoofbklkglaaDoorEyN
namespace Go.EY
open Go.SX Go.EX Go.RowKit
section
variable {P : Program} {w0 : World} {base : Nat} {ρ0 ρ : Rho} {T : HT} {ro : List HT} {nx : Nat} {its : List It} {E : List (Nat × AV)} {af : AF} {l : Fr}
variable {W : World → Prop} {r : AR} {T' : HT} {n' c : Nat} {x y : Operand} {a b v : AV} {t t2 : TypeId} {g pn pm : Nat}
noncomputable def tokK (c lo : Nat) (a : AV) (f : Nat → R) : R :=
  match a with
  | .opq j => bif Nat.ble lo j then bif Nat.blt j (Nat.add lo 60) then f (Nat.sub j lo) else .bad c else .bad c
  | _ => .bad c
theorem tokK_inv {lo : Nat} {f : Nat → R} (h : tokK c lo a f = .ok r T' n') : ∃ i, i < 60 ∧ a = .opq (lo + i) ∧ f i = .ok r T' n' := by
  unfold tokK at h
  split at h
  · rename_i j
    obtain ⟨h1, h⟩ := bif_ok h
    obtain ⟨h2, h⟩ := bif_ok h
    have h1 : lo ≤ j := by simpa using h1
    have h2 : j < lo + 60 := by simpa using h2
    refine ⟨j - lo, by omega, by rw [show lo + (j - lo) = j by omega], h⟩
  · cases h
theorem evtok {j : Nat} (hf : FRel ρ af l) (hx : evalA af x = some (.opq j)) : evl l x = some (ρ.opq j) := by
  obtain ⟨u, h1, h2⟩ := hf.eval hx
  cases h2
  exact h1
theorem inst_tok (j : Nat) : inst ρ (.opq j) = some (ρ.opq j) := rfl
theorem nmI_in (x : Int) : 0 ≤ nmI x ∧ nmI x < 8 := by
  unfold nmI
  have h : -8 < x.tmod 8 := (tmod_in x (q := 8) (by decide)).1
  have h1 : 0 ≤ x.tmod 8 + 8 := by omega
  rw [Int.tmod_eq_emod_of_nonneg h1]
  exact ⟨Int.emod_nonneg _ (by decide), Int.emod_lt_of_pos _ (by decide)⟩
/-- what the last entry tells -/
theorem ST.tok (hS : ST w0 base E ρ0 ρ T ro nx its) (hE : E.getLast? = some (g, .ptr pn pm)) : pn ≤ 60 ∧ ∃ a0 cap z, ρ.opq 90 = .slice a0 (bif Nat.beq pn 0 then pm else pn) cap ∧ TK z pn pm ρ.opq ∧ ∀ i, i < pn → ∃ a : Addr, a0 = some a ∧ ρ.opq (800 + i) = .pointer (some (a.add i)) ∧ (a.add i).block < base ∧ w0.cell? (a.add i) = some (.int .i64 (z i)) := hS.opq.2 g pn pm hE
/-! the list -/
theorem Y.idxA {ad : Addr} {k c e size i : Nat} {kk : IntKind} {ty : TypeId} (ht : P.underlying t = some (.slice e)) (hs : SizeIs P e size) (hx : evl l x = some (.slice (some ad) k c)) (hy : evl l y = some (.int kk (i : Int))) (hi : i < k) :
    Y P l W (.indexAddr t x y) ty (.pointer (some (ad.add (i * size)))) := by
  intro ρ hρ o' ho ht' w hW
  have h1 := run_underlying ht w
  have h2 := hs w
  simp [execOp, ho, hρ _ _ hx, hρ _ _ hy, Instr.indexAt, asIntOf, h1, hi, h2]
noncomputable def lenLK (c pn pm : Nat) (a : AV) (k : AV → R) : R := match a with | .opq 90 => k (.lit (.int .i64 (.ofNat (bif Nat.beq pn 0 then pm else pn)))) | _ => .bad c
theorem V.lenLk {k : AV → R} {ats : Array TypeId} {e : TypeId} (hS : ST w0 base E ρ0 ρ T ro nx its) (hE : E.getLast? = some (g, .ptr pn pm)) (h : lenLK c pn pm a k = .ok r T' n') (hx : evalA af x = some a) (ht : P.underlying t = some (.slice e)) (hat : ats[0]? = some t) :
    ∃ v, k v = .ok r T' n' ∧ VAL P W ρ af (.call { callee := .builtin .len, args := #[x], argTypes := ats }) v := by
  unfold lenLK at h
  split at h
  · obtain ⟨_, a0, cap, z, h0, _⟩ := hS.tok hE
    refine ⟨_, h, VAL.yy fun l hf ty => ?_⟩
    have h1 := evtok hf hx
    rw [h0] at h1
    exact Y.lenSl h1 ht hat
  · cases h
noncomputable def iaTK (c pn : Nat) (a b : AV) (k : AV → R) : R :=
  match a with
  | .opq 90 => natK c b fun i => bif Nat.blt i pn then bif Nat.ble pn 60 then k (.opq (Nat.add 800 i)) else .bad c else .bad c
  | _ => .bad c
theorem V.iaTk {k : AV → R} {e by' : Nat} {z : Value} (hS : ST w0 base E ρ0 ρ T ro nx its) (hE : E.getLast? = some (g, .ptr pn pm)) (h : iaTK c pn a b k = .ok r T' n') (hx : evalA af x = some a) (hy : evalA af y = some b) (he : elemT P t = some (e, 1, by', z)) :
    ∃ v, k v = .ok r T' n' ∧ VAL P W ρ af (.indexAddr t x y) v := by
  unfold iaTK at h
  split at h
  · obtain ⟨kk, i, rfl, g1⟩ := natK_inv h
    obtain ⟨h1, g2⟩ := bif_ok g1
    obtain ⟨h2, g3⟩ := bif_ok g2
    have h1 : i < pn := by simpa using h1
    have h2 : pn ≤ 60 := by simpa using h2
    obtain ⟨_, a0, cap, z, h0, _, h4⟩ := hS.tok hE
    have hp0 : (bif Nat.beq pn 0 then pm else pn) = pn := by
      cases pn with
      | zero => omega
      | succ q => rfl
    rw [hp0] at h0
    obtain ⟨ad, rfl, e1, e2, e3⟩ := h4 i h1
    obtain ⟨hEl, hSz, _⟩ := elemT_ok he
    refine ⟨_, g3, fun l hf ty => ⟨_, inst_tok _, ?_⟩⟩
    have h5 := evtok hf hx
    rw [h0] at h5
    rw [show Nat.add 800 i = 800 + i from rfl, e1]
    have := Y.idxA (P := P) (W := W) (t := t) (ty := ty) hEl.ht hSz h5 (evlit hf hy) h1
    rw [Nat.mul_one] at this
    exact this
  · cases h
noncomputable def ldTK (c pn : Nat) (a : AV) (k : AV → R) : R := tokK c 800 a fun i => bif Nat.blt i pn then bif Nat.ble pn 60 then k (.opq (Nat.add 100 i)) else .bad c else .bad c
theorem V.ldTk {k : AV → R} (hS : ST w0 base E ρ0 ρ T ro nx its) (hE : E.getLast? = some (g, .ptr pn pm)) (h : ldTK c pn a k = .ok r T' n') (hx : evalA af x = some a) (ht : oneT P t = true) (hB : ∀ w, W w → Below base w0 w) : ∃ v, k v = .ok r T' n' ∧ VAL P W ρ af (.load t x) v := by
  obtain ⟨i, hi, rfl, hh⟩ := tokK_inv h
  obtain ⟨h1, hh⟩ := bif_ok hh
  obtain ⟨h2, hh⟩ := bif_ok hh
  have h1 : i < pn := by simpa using h1
  have h2 : pn ≤ 60 := by simpa using h2
  obtain ⟨_, a0, cap, z, h0, hz, h4⟩ := hS.tok hE
  obtain ⟨ad, rfl, e1, e2, e3⟩ := h4 i h1
  refine ⟨_, hh, fun l hf ty => ⟨_, inst_tok _, ?_⟩⟩
  have h5 := evtok hf hx
  rw [e1] at h5
  rw [show Nat.add 100 i = 100 + i from rfl, hz.tl i hi]
  exact Y.load (oneT_ok ht) h5 fun w hw => ((hB w hw).cell e2).trans e3
/-! a name made of a number -/
noncomputable def tAddK (c : Nat) (a : AV) (k : AV → R) : R := tokK c 200 a fun i => k (.opq (Nat.add 300 i))
theorem V.tAdd {k : AV → R} (hS : ST w0 base E ρ0 ρ T ro nx its) (hE : E.getLast? = some (g, .ptr pn pm)) (h : tAddK c a k = .ok r T' n') (hx : evalA af x = some a) : ∃ v, k v = .ok r T' n' ∧ VAL P W ρ af (.binOp .add t x (.const (.int .i64 (.ofNat 1))) t2) v := by
  obtain ⟨i, hi, rfl, hh⟩ := tokK_inv h
  obtain ⟨_, a0, cap, z, h0, hz, _⟩ := hS.tok hE
  refine ⟨_, hh, fun l hf ty => ⟨_, inst_tok _, ?_⟩⟩
  have h5 := evtok hf hx
  rw [hz.tk i hi] at h5
  rw [show Nat.add 300 i = 300 + i from rfl, hz.tk1 i hi]
  have := nmI_in (z i)
  exact Y.add h5 (evlit hf rfl) (by omega)
/-- one more than a number, or than another one -/
noncomputable def tAddOK (P : Program) (t : TypeId) (x y : Operand) (c : Nat) (a b : AV) (k : AV → R) : R := match a with | .opq j => tAddK c (.opq j) k | _ => addK P t x y c a b k
theorem V.tAddO {k : AV → R} (hS : ST w0 base E ρ0 ρ T ro nx its) (hE : E.getLast? = some (g, .ptr pn pm)) (h : tAddOK P t x (.const (.int .i64 (.ofNat 1))) c a b k = .ok r T' n') (hx : evalA af x = some a) (hy : evalA af (.const (.int .i64 (.ofNat 1))) = some b) : ∃ v, k v = .ok r T' n' ∧ VAL P W ρ af (.binOp .add t x (.const (.int .i64 (.ofNat 1))) t2) v := by
  unfold tAddOK at h
  split at h
  · exact V.tAdd hS hE h hx
  · exact V.add h hx hy
noncomputable def tCutK (c : Nat) (a b : AV) (k : AV → R) : R := tokK c 200 a fun i => tokK c 300 b fun j => bif Nat.beq i j then k (.opq (Nat.add 400 i)) else .bad c
theorem letters (q : Int) (h0 : 0 ≤ q) (h8 : q < 8) : (([97, 98, 99, 100, 101, 102, 103, 104] : List UInt8).take (q.toNat + 1)).drop q.toNat = [(97 + q.toNat).toUInt8] := by
  obtain ⟨m, rfl⟩ := Int.eq_ofNat_of_zero_le h0
  have hm : m < 8 := by omega
  match m, hm with
  | 0, _ => rfl
  | 1, _ => rfl
  | 2, _ => rfl
  | 3, _ => rfl
  | 4, _ => rfl
  | 5, _ => rfl
  | 6, _ => rfl
  | 7, _ => rfl
theorem V.tCut {k : AV → R} {z1 : Operand} (hS : ST w0 base E ρ0 ρ T ro nx its) (hE : E.getLast? = some (g, .ptr pn pm)) (h : tCutK c a b k = .ok r T' n') (hx : evalA af y = some a) (hy : evalA af z1 = some b) (ht : P.underlying t = some .string) :
    ∃ v, k v = .ok r T' n' ∧ VAL P W ρ af (.slice t (.const (.string ⟨⟨[97, 98, 99, 100, 101, 102, 103, 104]⟩⟩)) (some y) (some z1) none) v := by
  obtain ⟨i, hi, rfl, g1⟩ := tokK_inv h
  obtain ⟨j, hj, rfl, g2⟩ := tokK_inv g1
  obtain ⟨hb, g3⟩ := bif_ok g2
  obtain rfl := beqT hb
  obtain ⟨_, a0, cap, z, h0, hz, _⟩ := hS.tok hE
  refine ⟨_, g3, fun l hf ty => ⟨_, inst_tok _, ?_⟩⟩
  have h5 := evtok hf hx
  have h6 := evtok hf hy
  rw [hz.tk i hi] at h5
  rw [hz.tk1 i hi] at h6
  rw [show Nat.add 400 i = 400 + i from rfl, hz.tc i hi]
  obtain ⟨q0, q8⟩ := nmI_in (z i)
  unfold letL
  obtain ⟨m, hm⟩ := Int.eq_ofNat_of_zero_le q0
  rw [hm] at h5 h6 q8 ⊢
  have h7 : (Int.ofNat m : Int) + 1 = ((m + 1 : Nat) : Int) := by simp
  have h6' : evl l z1 = some (.int .i64 ((m + 1 : Nat) : Int)) := by rw [h6]; congr 1
  have := Y.slice (P := P) (W := W) (t := t) (ty := ty) (s := [97, 98, 99, 100, 101, 102, 103, 104]) (a := m) (b := m + 1) (x := .const (.string ⟨⟨[97, 98, 99, 100, 101, 102, 103, 104]⟩⟩)) rfl h5 h6' ht (by omega) (by simp; omega)
  rw [show (([97, 98, 99, 100, 101, 102, 103, 104] : List UInt8).take (m + 1)).drop m = [(97 + m).toUInt8] from letters (m : Int) (by omega) q8] at this
  exact this
noncomputable def tCatK (c : Nat) (b : AV) (k : AV → R) : R := tokK c 400 b fun i => k (.opq (Nat.add 500 i))
theorem V.tCat {k : AV → R} (hS : ST w0 base E ρ0 ρ T ro nx its) (hE : E.getLast? = some (g, .ptr pn pm)) (h : tCatK c b k = .ok r T' n') (hy : evalA af y = some b) : ∃ v, k v = .ok r T' n' ∧ VAL P W ρ af (.binOp .add t (.const (.string ⟨⟨[118]⟩⟩)) y t2) v := by
  obtain ⟨i, hi, rfl, hh⟩ := tokK_inv h
  obtain ⟨_, a0, cap, z, h0, hz, _⟩ := hS.tok hE
  refine ⟨_, hh, fun l hf ty => ⟨_, inst_tok _, ?_⟩⟩
  have h5 := evtok hf hy
  rw [hz.tc i hi] at h5
  rw [show Nat.add 500 i = 500 + i from rfl, hz.ts i hi]
  exact Y.addS (a := [118]) (x := .const (.string ⟨⟨[118]⟩⟩)) rfl h5 (by simp [letL])
/-! one name held against itself -/
theorem ST.tokS (hS : ST w0 base E ρ0 ρ T ro nx its) (hE : E.getLast? = some (g, .ptr pn pm)) {j : Nat} (hj : (500 ≤ j ∧ j < 560) ∨ (700 ≤ j ∧ j < 760)) : ∃ s, ρ.opq j = bytV s := by
  obtain ⟨_, a0, cap, z, h0, hz, _⟩ := hS.tok hE
  rcases hj with ⟨h1, h2⟩ | ⟨h1, h2⟩
  · have := hz.ts (j - 500) (by omega)
    rw [show 500 + (j - 500) = j by omega] at this
    exact ⟨_, this⟩
  · obtain ⟨x, hx, _⟩ := hz.td (j - 700) (by omega)
    rw [show 700 + (j - 700) = j by omega] at hx
    exact ⟨_, hx⟩
noncomputable def inS (j : Nat) : Bool := bif Nat.ble 500 j then bif Nat.blt j 560 then true else bif Nat.ble 700 j then Nat.blt j 760 else false else false
theorem inS_ok {j : Nat} (h : inS j = true) : (500 ≤ j ∧ j < 560) ∨ (700 ≤ j ∧ j < 760) := by
  unfold inS at h
  cases h1 : Nat.ble 500 j <;> cases h2 : Nat.blt j 560 <;> cases h3 : Nat.ble 700 j <;> simp [h1, h2, h3] at h <;> simp at h1 h2 h3 <;> omega
noncomputable def neTK (a b : AV) (k : AV → R) (e : R) : R := match a, b with | .opq i, .opq j => bif Nat.beq i j then bif inS i then k (.lit (.bool false)) else e else e | _, _ => e
theorem V.neT {k : AV → R} {e : R} (hS : ST w0 base E ρ0 ρ T ro nx its) (hE : E.getLast? = some (g, .ptr pn pm)) (h : neTK a b k e = .ok r T' n') (hx : evalA af x = some a) (hy : evalA af y = some b)
    (he : e = .ok r T' n' → ∃ v, k v = .ok r T' n' ∧ VAL P W ρ af (.binOp .neq t x y t2) v) : ∃ v, k v = .ok r T' n' ∧ VAL P W ρ af (.binOp .neq t x y t2) v := by
  unfold neTK at h
  split at h
  · rename_i i j
    cases hb : Nat.beq i j with
    | false => rw [hb] at h; exact he h
    | true =>
      obtain rfl := beqT hb
      rw [hb] at h
      cases hi : inS i with
      | false => rw [hi] at h; exact he h
      | true =>
        rw [hi] at h
        obtain ⟨s, hs⟩ := hS.tokS hE (inS_ok hi)
        refine ⟨_, h, VAL.yy fun l hf ty => ?_⟩
        have h5 := evtok hf hx
        have h6 := evtok hf hy
        rw [hs] at h5 h6
        have := Y.neS (P := P) (W := W) (t := t) (ty := ty) (ty2 := t2) h5 h6
        simpa using this
  · exact he h
noncomputable def neTSK (P : Program) (t : TypeId) (x y : Operand) (c : Nat) (a b : AV) (k : AV → R) : R := neTK a b k (neSK P t x y c a b k)
theorem V.neTS {k : AV → R} (hS : ST w0 base E ρ0 ρ T ro nx its) (hE : E.getLast? = some (g, .ptr pn pm)) (h : neTSK P t x y c a b k = .ok r T' n') (hx : evalA af x = some a) (hy : evalA af y = some b) : ∃ v, k v = .ok r T' n' ∧ VAL P W ρ af (.binOp .neq t x y t2) v :=
  V.neT hS hE h hx hy fun h' => V.neS h' hx hy
noncomputable def eqTSK (P : Program) (t : TypeId) (x y : Operand) (c : Nat) (a b : AV) (k : AV → R) : R := match a, b with | .opq i, .opq j => bif Nat.beq i j then bif inS i then k (.lit (.bool true)) else .bad c else .bad c | _, _ => eqSK P t x y c a b k
theorem V.eqTS {k : AV → R} (hS : ST w0 base E ρ0 ρ T ro nx its) (hE : E.getLast? = some (g, .ptr pn pm)) (h : eqTSK P t x y c a b k = .ok r T' n') (hx : evalA af x = some a) (hy : evalA af y = some b) : ∃ v, k v = .ok r T' n' ∧ VAL P W ρ af (.binOp .eql t x y t2) v := by
  unfold eqTSK at h
  split at h
  · rename_i i j
    obtain ⟨hb, h1⟩ := bif_ok h
    obtain ⟨hi, h2⟩ := bif_ok h1
    obtain rfl := beqT hb
    obtain ⟨s, hs⟩ := hS.tokS hE (inS_ok hi)
    refine ⟨_, h2, VAL.yy fun l hf ty => ?_⟩
    have h5 := evtok hf hx
    have h6 := evtok hf hy
    rw [hs] at h5 h6
    have := Y.eqS (P := P) (W := W) (t := t) (ty := ty) (ty2 := t2) h5 h6
    simpa using this
  · exact V.eqS h hx hy
/-- a list of one name -/
noncomputable def bsTK (c : Nat) (T : HT) (nx : Nat) (e : TypeId) (a : AV) (k : AV → HT → Nat → R) : R :=
  tokK c 500 a fun i => vtK [.opq (Nat.add 500 i)] 1 .nil fun vt => T.insK nx (.row 1 e 1 vt) fun T1 => k (.sl nx 0 1 0) T1 (Nat.add nx 1)
theorem LV.bsT {ops : Array Oper} {n d : Nat} {D : List Deferred} {Q : Exit → Act → World → Prop} {rest : List Oper} {o : Oper} {k : AV → HT → Nat → R} {e by' : Nat} {z : Value} {parts : Array (Nat × Operand)} (hS : ST w0 base E ρ0 ρ T ro nx its) (hE : E.getLast? = some (g, .ptr pn pm)) (h : bsTK c T nx e a k = .ok r T' n') (hps : partsA af parts.toList = some [(0, a)]) (ho : o.op = .buildSlice t 1 parts) (he : elemT P t = some (e, 1, by', z))
    (hw : wantA ops af o.guard = some true) (hd : o.dst = some d) (hdn : Nat.blt d n = true)
    (hk : ∀ v T1 n1, k v T1 n1 = .ok r T' n' → After P ops n D Q w0 base E ρ0 ro its T1 n1 ((d, v) :: af) rest) : LV P ops n D (.plain Q) w0 base ρ its af (o :: rest) := fun l hf => by
  obtain ⟨i, hi, rfl, h'⟩ := tokK_inv h
  rw [vtK_eq, HT.insK_eq] at h'
  obtain ⟨hp, hs, hH⟩ := hS.hp
  obtain ⟨us, h1, h2⟩ := partsA_ok hf hps
  obtain ⟨_, a0, cap, zz, h0, hz, _⟩ := hS.tok hE
  have hin : inst ρ (.opq (500 + i)) = some (bytV (nameL (zz i))) := by rw [inst_tok, hz.ts i hi]
  have hu : us = [(0, bytV (nameL (zz i)))] := by
    unfold instP at h2
    rw [hin] at h2
    unfold instP at h2
    cases h2; rfl
  subst hu
  obtain ⟨hEl, _, _⟩ := elemT_ok he
  obtain ⟨inf, z', i1, i2, i3, i4, i5⟩ := hEl.ex
  refine LX.unguard (wantA_ok hf hw) ?_
  have hrun : ∀ w, (Instr.buildSlice t 1 [(0, bytV (nameL (zz i)))].toArray).run P w = .ok (.slice (some ⟨w.heap.size, 0, none⟩) 1 1) (w.alloc (.cells (flat [(0, bytV (nameL (zz i)))]).toArray e)) := fun w => by
    refine run_buildSlice w t e 1 _ (flat [(0, bytV (nameL (zz i)))]).toArray inf z' hEl.ht i1 i2 (by rw [i3]; omega) (by rw [i3]; omega) ?_
    rw [i3]
    have hsz : ((Array.range (1 * 1)).map (z'.cells[· % z'.cells.size]!)).size = 1 * 1 := by simp
    have := Great.fill_whole (s := 1) (by omega) [bytV (nameL (zz i))] ((Array.range (1 * 1)).map (z'.cells[· % z'.cells.size]!)) (fun v hv => by cases List.mem_singleton.1 hv; rfl) (by rw [hsz]; rfl)
    first
      | exact this
      | (simp only [Array.toList_toArray] ; exact this)
      | (rw [List.zipIdx] at this; simpa [flat, Value.cells] using this)
  have hpa : parts.toList.toArray = parts := by simp
  rw [← hpa] at ho
  refine LX.buildSlice (o := { o with guard := none }) (e := e) (size := 1) ho h1 hrun rfl (by omega) rfl hd hdn fun b => ?_
  have hE2 := Ext.add hS.fresh b 1
  have hcs : instL ρ [AV.opq (500 + i)] = some (flat [(0, bytV (nameL (zz i)))]) := by
    unfold instL
    rw [hin]
    rfl
  have hST := hS.new hs hH b 1 (m := .row 1 e 1 (vtOf [.opq (500 + i)] 1 .nil)) ⟨_, rfl, by simpa using vtOf_rel [.opq (500 + i)] [] .nil (VRel.nil _)⟩ (instI_mkrow (rat_add _ _ _ _) (instL_ext hE2 _ _ hcs))
  exact hk _ _ _ h' _ _ hST (fun w hw => hw.drop (List.sublist_cons_self _ _)) _ (FRel.cons (hf.ext hE2) d (by unfold inst; rw [rat_add]; simp))
end
end Go.EY
