/-
  Proved here: lists of operations of a small machine, with deferred calls, and what they come to.
-/
import Derived.Test.YtickdimknfeddaaGreatDoorBa
import Derived.Lib.AppendStr
namespace Go.EB
open Go.SX Go.EX Go.RowKit
abbrev CallB := List AH → FuncId → List AV → AH → Nat → Option (AV × AH × Nat)
def CallBOk (P : Program) (E : List (Nat × AV)) (call : CallB) : Prop :=
  ∀ ro f args hp nx v hp' nx', call ro f args hp nx = some (v, hp', nx') → Enters P f ∧
    ∀ w0 base ρ vs its, RO w0 base ρ ro → EE w0 base ρ E → instH ρ hp = some its → instL ρ args = some vs → Fresh ρ nx →
      ∀ w, WA w0 base its w → Calls P f vs.toArray w fun e w' => ∃ ρ' its', Ext ρ ρ' ∧ Fresh ρ' nx' ∧ instH ρ' hp' = some its' ∧ WA w0 base its' w' ∧ ∃ u, inst ρ' v = some u ∧ e = .returned u
/-- functions that the model itself answers -/
structure ExtF where
  f : FuncId → List Value → Option Value
  m : String → TypeId → Nat → Option FuncId
def ExtOk (P : Program) (ext : ExtF) : Prop := (∀ k vs u, ext.f k vs = some u → ∀ w, (callFunc k vs.toArray).run P w = .ok (.value u) w) ∧
  ∀ name t n g, ext.m name t n = some g → ∀ (u : Value) (us : List Value) (w : World), us.length = n → (invoke (.fn (.method name) #[]) (Value.iface t u :: us).toArray).run P w = .ok (.enter g (u :: us).toArray) w
abbrev DF := List (FuncId × List AV)
def instD (ρ : Rho) : DF → Option (List Deferred)
  | [] => some []
  | (k, ys) :: r => (instL ρ ys).bind fun us => (instD ρ r).map fun D => { target := .fn (.func k) us.toArray, args := #[] } :: D
theorem instD_ext {ρ ρ' : Rho} (h : Ext ρ ρ') : ∀ (df : DF) (D : List Deferred), instD ρ df = some D → instD ρ' df = some D
  | [], D, e => e
  | (k, ys) :: r, D, e => by
    unfold instD at e ⊢
    cases hr : instL ρ ys with
    | none => rw [hr] at e; cases e
    | some p =>
      cases hs : instD ρ r with
      | none => rw [hr, hs] at e; cases e
      | some q => rw [hr, hs] at e; rw [instL_ext h _ _ hr, instD_ext h _ _ hs]; exact e
section
variable {P : Program} {w0 : World} {base : Nat} {ρ : Rho} {hp hp' : AH} {ro : List AH} {nx : Nat} {its : List It} {E : List (Nat × AV)} {af : AF} {l : Fr} {ops : Array Oper} {n : Nat} {D : List Deferred} {Q : Exit → Act → World → Prop} {rest : List Oper} {o : Oper} {d : Nat} {v : AV} {m : SX.Mode} {W : World → Prop} {t : TypeId} {x y : Operand} {ext : ExtF} {call : CallB}
/-! calls that the model answers; appends of nothing -/
def extB (ext : ExtF) (af : AF) (c : Call) : Option AV :=
  match c.callee with
  | .value (.func k) => (evalsA af c.args.toList).bind fun as => (litL as).bind fun vs => (ext.f k vs).map .lit
  | _ => none
theorem extB_ok (hX : ExtOk P ext) (hf : FRel ρ af l) {c : Call} (h : extB ext af c = some v) (W : World → Prop) (ty : TypeId) : ∃ u, inst ρ v = some u ∧ Y P l W (.call c) ty u := by
  unfold extB at h
  split at h
  · rename_i k hc
    obtain ⟨as, h1, h⟩ := Option.bind_eq_some_iff.1 h
    obtain ⟨vs, h2, h⟩ := Option.bind_eq_some_iff.1 h
    cases hu : ext.f k vs with
    | none => rw [hu] at h; cases h
    | some u =>
      rw [hu] at h; cases h
      obtain ⟨us, e1, e2⟩ := evalsA_ok hf h1
      obtain rfl := litL_inst h2 e2
      have hc' : c = { callee := .value (.func k), args := c.args.toList.toArray, argTypes := c.argTypes } := by cases c; simp only at hc ⊢; subst hc; rfl
      refine ⟨u, rfl, ?_⟩
      rw [hc']
      exact Y.ext e1 fun w => hX.1 k _ u hu w
  · cases h
def emptyA : AV → Bool
  | .lit (.slice none 0 0) => true
  | .sl _ _ 0 _ => true
  | _ => false
def app0B (P : Program) (ro : List AH) (hp : AH) (af : AF) (c : Call) : Option AV :=
  match c.callee, c.args.toList, c.argTypes.toList with
  | .builtin .append, [x, y], [t, t'] => match Nat.beq t t', elemT P t with
    | true, some _ => (evalA af x).bind fun vx => (evalA af y).bind fun vy => match emptyA vy with
      | true => match vx with
        | .lit (.slice none 0 0) => some vx
        | .sl id _ q sk => match lookA hp ro id with
          | some (.row m _ _ _) => match Nat.ble (q + sk) m with
            | true => some vx
            | false => none
          | _ => none
        | _ => none
      | false => none
    | _, _ => none
  | _, _, _ => none
theorem app0B_ok (hf : FRel ρ af l) (hH : instH ρ hp = some its) (hR : RO w0 base ρ ro) {c : Call} (h : app0B P ro hp af c = some v) (ty : TypeId) : ∃ u, inst ρ v = some u ∧ Y P l (WA w0 base its) (.call c) ty u := by
  unfold app0B at h
  split at h
  · rename_i x y t t' hc ha hat
    split at h
    · rename_i q hb he
      obtain ⟨e, size, by', z⟩ := q
      obtain ⟨vx, hx, h⟩ := Option.bind_eq_some_iff.1 h
      obtain ⟨vy, hy, h⟩ := Option.bind_eq_some_iff.1 h
      have ht : t = t' := by simpa using hb
      subst ht
      obtain ⟨hEl, _, _⟩ := elemT_ok he
      obtain ⟨inf, _, hinf, _⟩ := hEl.ex
      have hc' : c = { callee := .builtin .append, args := #[x, y], argTypes := #[t, t] } := by
        cases c with
        | mk callee args ats =>
          simp only at hc ha hat ⊢
          subst hc
          obtain rfl : args = #[x, y] := Array.toList_inj.1 ha
          obtain rfl : ats = #[t, t] := Array.toList_inj.1 hat
          rfl
      split at h <;> try (cases h; done)
      rename_i hemp
      obtain ⟨ux, g1, g2⟩ := hf.eval hy
      have hbv : ux = .slice none 0 0 ∨ ∃ ad cp', ux = .slice (some ad) 0 cp' := by
        unfold emptyA at hemp
        split at hemp
        · exact .inl (inst_lit g2)
        · obtain ⟨p, _, rfl⟩ := inst_sl g2
          exact .inr ⟨_, _, rfl⟩
        · cases hemp
      split at h
      · cases h
        refine ⟨_, rfl, fun σ hσ o' ho ht w hw => ?_⟩
        obtain ⟨u, f1, f2⟩ := hf.eval hx
        obtain rfl := inst_lit f2
        have := run_append0 (P := P) hEl.ht ⟨inf, hinf⟩ rfl (g := none) (m := 0) (cp := 0) hbv (Nat.le_refl _) o'.type w
        rw [hc'] at ho
        simp [execOp, ho, resolve, invoke, builtin, hσ _ _ f1, hσ _ _ g1, this]
      · rename_i id off q sk _
        split at h <;> try (cases h; done)
        rename_i m' e' s' cs hl
        split at h <;> try (cases h; done)
        rename_i hb2
        cases h
        have hq : q + sk ≤ m' := by simpa using hb2
        obtain ⟨p, us, e1, _, _, e4⟩ := look_ok hH hR hl
        refine ⟨.slice (some ⟨p.1, off, none⟩) q (p.2 - sk), by unfold inst; rw [e1]; rfl, fun σ hσ o' ho ht w hw => ?_⟩
        have e3 := e4 _ _ _ _ rfl w hw
        obtain ⟨u, f1, f2⟩ := hf.eval hx
        obtain ⟨p', g3, rfl⟩ := inst_sl f2
        rw [e1] at g3; cases g3
        have := run_append0 (P := P) hEl.ht ⟨inf, hinf⟩ rfl (g := some ⟨p.1, off, none⟩) (m := q) (cp := p.2 - sk) hbv (by omega) o'.type w
        rw [hc'] at ho
        simp [execOp, ho, resolve, invoke, builtin, hσ _ _ f1, hσ _ _ g1, this]
      · cases h
    · cases h
  · cases h
def val4A (P : Program) (E : List (Nat × AV)) (ext : ExtF) (ro : List AH) (hp : AH) (af : AF) (o : Op) : Option AV :=
  match val3A P E ro hp af o with
  | some v => some v
  | none => match o with
    | .call c => match extB ext af c with
      | some v => some v
      | none => app0B P ro hp af c
    | _ => none
theorem val4A_ok (hX : ExtOk P ext) (hf : FRel ρ af l) (hH : instH ρ hp = some its) (hR : RO w0 base ρ ro) (hE : EE w0 base ρ E) {o : Op} {v : AV} (h : val4A P E ext ro hp af o = some v) (ty : TypeId) :
    ∃ u, inst ρ v = some u ∧ Y P l (WA w0 base its) o ty u := by
  unfold val4A at h
  cases hv : val3A P E ro hp af o with
  | some v' => rw [hv] at h; cases h; exact val3A_ok hf hH hR hE hv ty
  | none =>
    rw [hv] at h
    dsimp only at h
    split at h
    · rename_i c
      cases hx : extB ext af c with
      | some v' => rw [hx] at h; cases h; exact extB_ok hX hf hx _ ty
      | none => rw [hx] at h; exact app0B_ok hf hH hR h ty
    · cases h
/-! new memory -/
def new0 (P : Program) (hp : AH) (nx : Nat) : Op → Option (AV × AH)
  | .buildSlice t 0 parts => match parts.toList, elemT P t with
    | [], some (e, size, _, _) => some (.sl nx 0 0 0, (nx, .row 0 e size []) :: hp)
    | _, _ => none
  | .makeMap _ none => some (.mp nx, (nx, .mp [] [] [] 0) :: hp)
  | _ => none
theorem new0_ok (hf : FRel ρ af l) (hH : instH ρ hp = some its) (hF : Fresh ρ nx) (h : new0 P hp nx o.op = some (v, hp')) (hg : o.guard = none) (hd : o.dst = some d) (hdn : Nat.blt d n = true)
    (hk : Go.EX.Next P ops n D Q w0 base ρ hp' (nx + 1) v d l rest) : LX P ops n D (.plain Q) l (WA w0 base its) (o :: rest) := by
  unfold new0 at h
  split at h
  · rename_i t parts ho
    split at h
    · rename_i e size by' z hpt he
      cases h
      obtain ⟨hEl, hSz, _⟩ := elemT_ok he
      have hpt' : parts = #[] := Array.toList_inj.1 hpt
      subst hpt'
      refine LX.buildSlice (e := e) (size := size) (k := 0) (parts := []) (vals := []) ho rfl (fun w => ?_) (by simp [flat]) (by omega) hg hd hdn fun b => ?_
      · have h1 := run_underlying hEl.ht w
        have h2 := hSz w
        have h3 : Array.map (fun _ => (default : Value)) (Array.range 0) = #[] := by apply Array.eq_empty_of_size_eq_zero; simp
        simp [Instr.buildSlice, h1, h2, Instr.fill, flat, newRow, h3]
      exact hk _ _ _ (Ext.add hF b 0) (Fresh.add hF b 0) (by unfold inst; rw [rat_add]; rfl) (instH_mk (instI_mkrow (rat_add _ _ _ _) rfl) (instH_ext (Ext.add hF b 0) hH))
    · cases h
  · rename_i t ho
    cases h
    refine LX.effx (τ := Nat) (v := fun b => .map (some b)) (W' := fun b => WA w0 base (.obj b (.map #[] 0) :: its)) (fun σ hσ w hW => ⟨w.heap.size, w.alloc (.map #[] 0), ?_, hW.alloc _⟩) hg hd hdn fun b => ?_
    · simp [execOp, ho, Instr.makeMap, newObj, Sem.run]
    · have hi : instI (ρ.add nx b 0) nx (.mp [] [] [] 0) = some (.obj b (.map #[] 0)) := by
        dsimp only [instI]
        rw [rat_add]; rfl
      exact hk _ _ _ (Ext.add hF b 0) (Fresh.add hF b 0) (by unfold inst; rw [rat_add]; rfl) (instH_mk hi (instH_ext (Ext.add hF b 0) hH))
  · cases h
/-- a row is cut to the slice that something is put behind -/
def shrB (hp : AH) (a : Option AV) : AH :=
  match a with
  | some (.sl id 0 k 0) => match findA hp id 0 with
    | some (_, .row m e s cs) => match Nat.blt k m with
      | true => setH hp id (.row k e s (cs.take (k * s)))
      | false => hp
    | _ => hp
  | _ => hp
theorem shrB_ok (hH : instH ρ hp = some its) (a : Option AV) : ∃ its1, instH ρ (shrB hp a) = some its1 ∧ ∀ w, WA w0 base its w → WA w0 base its1 w := by
  unfold shrB
  split
  · rename_i id k
    split
    · rename_i i m e s cs hfd
      split
      · rename_i hb
        have hk : k < m := by simpa using hb
        obtain ⟨xi, _, hxs, hi⟩ := findA_ok hH hfd
        rw [Nat.sub_zero] at hxs
        obtain ⟨p, us, g1, g2, rfl⟩ := instI_row hi
        have e' := setH_ok hH hfd (instI_mkrow (ρ := ρ) (id := id) (n := k) (e := e) (s := s) g1 (instL_take (k * s) g2))
        rw [Nat.sub_zero] at e'
        exact ⟨_, e', fun w hw => hw.cut hxs (by omega)⟩
      · exact ⟨its, hH, fun _ h => h⟩
    · exact ⟨its, hH, fun _ h => h⟩
  · exact ⟨its, hH, fun _ h => h⟩
/-! a string's bytes put behind a row -/
theorem run_appendS_rv (w : World) (base : Nat) (t u ty e : TypeId) (i : TypeInfo) (ht : P.underlying t = some (.slice e)) (hu : P.underlying u = some .string) (hi : P.info? e = some i) (hz : i.zero = some (.int .u8 0))
    (hsize : i.size = 1) (hby : i.bytes = 1) (g : Option Nat) (k cap : Nat) (xs : List Value) (hown : w.ownsRow base e 1 (rv g k cap) k xs) (s : ByteArray) (h0 : 0 < s.size)
    (h63 : k + s.size ≤ maxLen) (hbytes : k + s.size ≤ 140737488355328) (hbase : base ≤ w.heap.size) :
    ∃ b' cap' w', (Builtin.append_ #[t, u] ty #[rv g k cap, .string s]).run P w = .ok (rv (some b') (k + s.size) cap') w' ∧ w'.ownsRow base e 1 (rv (some b') (k + s.size) cap') (k + s.size) (xs ++ Lib.strCells s) ∧ w.grownBy w' g ∧
      (some b' = g ∨ b' = w.heap.size) := by
  have hsmall : k + s.size ≤ 9223372036854775807 := by simp only [maxLen] at h63; omega
  have hxl : xs.length = k := by simpa using hown.1
  have hlen : (xs ++ Lib.strCells s).length = (k + s.size) * 1 := by rw [List.length_append, hxl, Lib.strCells_length, Nat.mul_one]
  have grown : ∀ (old : Nat), old < k + s.size → ∀ (row : Option Nat),
      (w.drew.alloc (.cells (xs.toArray ++ (Lib.strCells s).toArray ++ Builtin.zeroCells (Value.int .u8 0).cells (grownCap w (k + s.size) old e - (k + s.size))) e)).ownsRow base e 1
        (rv (some w.heap.size) (k + s.size) (grownCap w (k + s.size) old e)) (k + s.size) (xs ++ Lib.strCells s) ∧
      w.grownBy (w.drew.alloc (.cells (xs.toArray ++ (Lib.strCells s).toArray ++ Builtin.zeroCells (Value.int .u8 0).cells (grownCap w (k + s.size) old e - (k + s.size))) e)) row := by
    intro old ho row
    have hge := grownCap_ge w (k + s.size) old e
    have hcm : grownCap w (k + s.size) old e ≤ maxLen := grownCap_le_maxLen w (k + s.size) old e h63
    refine ⟨⟨hlen, .inr ⟨w.heap.size, _, _, rfl, hbase, heap_alloc_new w.drew _, hge, hcm, ?_, ?_⟩⟩, ⟨rfl, rfl, rfl, by simp, fun k hk _ => Below.heap_alloc w.drew _ k hk⟩⟩
    · have hz1 : (Value.int IntKind.u8 0).cells.size = 1 := rfl
      simp only [Array.size_append, List.size_toArray, size_zeroCells, hz1, hxl, Lib.strCells_length]
      omega
    · simp only [Array.toList_append, List.append_assoc]
      rw [← List.append_assoc, ← hlen]
      exact List.take_left
  rcases hown.2 with ⟨hv, hk0⟩ | ⟨b, cap', cur, hv, hbg, hg, hnc, hcm, hcs, htake⟩
  · have hg0 : g = none := by
      cases g with
      | none => rfl
      | some b => simp [rv] at hv
    subst hg0
    have hc0 : cap = 0 := by simpa [rv, hk0] using hv
    subst hc0
    subst hk0
    have hx : xs = [] := List.eq_nil_of_length_eq_zero hxl
    subst hx
    have hr := run_append_nil_string (P := P) w t u ty e i (.int .u8 0) ht hu hi hz s (by omega) (by omega) (by rw [hby]; omega)
    have hgr := grown 0 (by omega) none
    simp only [Nat.zero_add, List.nil_append, Array.empty_append] at hgr ⊢
    have e1 : (s.data.map fun b => Value.int .u8 b.toNat) = (Lib.strCells s).toArray := by
      apply Array.ext'
      simp [Lib.strCells]
    rw [e1] at hr
    exact ⟨w.heap.size, _, _, hr, hgr.1, hgr.2, .inr rfl⟩
  · have hgb : g = some b := by rw [← ownBlock_rv g k cap, hv]; rfl
    subst hgb
    have hcc : cap = cap' := by simpa [rv] using hv
    subst hcc
    by_cases hroom : k + s.size ≤ cap
    · have hcs' : cur.size = cap := by simpa using hcs
      have hr := Lib.run_append_room_string (P := P) w t u ty e i ht hu hi hsize b k cap cur hg s hroom (by omega)
      refine ⟨b, cap, _, hr, ⟨hlen, .inr ⟨b, cap, _, rfl, hbg, setRow_heap w b cur _ e _ hg, hroom, hcm, ?_, ?_⟩⟩, ⟨rfl, rfl, rfl, by simp, fun q _ hq => setRow_other w b q _ (fun e => hq (by rw [e]))⟩, .inl rfl⟩
      · simp only [List.size_toArray, List.length_append, List.length_take, List.length_drop, Array.length_toList, Lib.strCells_length]
        omega
      · have ht' : cur.toList.take k = xs := by simpa using htake
        rw [ht', ← hlen]
        exact List.take_left
    · have holds : ∀ j u, xs[j]? = some u → w.cell? ((⟨b, 0, none⟩ : Addr).add j) = some u := hown.cells (g := b) rfl
      have hr := Lib.run_append_grow_string (P := P) w t u ty e i (.int .u8 0) ht hu hi hz ⟨b, 0, none⟩ k cap xs (by rw [hsize]; simpa using hxl) holds s (by omega) (by omega) (by rw [hby]; exact growslice_fits (by omega) (by omega))
      have hgr := grown cap (by omega) (some b)
      exact ⟨w.heap.size, _, _, hr, hgr.1, hgr.2, .inr rfl⟩
theorem WA.appendS {w : World} (h : WA w0 base its w) {i : Nat} {t u e : Nat} {inf : TypeInfo} (ht : P.underlying t = some (.slice e)) (hu : P.underlying u = some .string) (hinf : P.info? e = some inf) (hz : inf.zero = some (.int .u8 0)) (hsize : inf.size = 1) (hby : inf.bytes = 1)
    {g : Option Nat} {cap k : Nat} {xs : List Value} (hi : its[i]? = some (.row g cap k e 1 xs)) (s : ByteArray) (h0 : 0 < s.size) (hb : k + s.size ≤ 1000000000) (ty : TypeId) :
    ∃ b' cap' w', (Builtin.append_ #[t, u] ty #[rv g k cap, .string s]).run P w = .ok (rv (some b') (k + s.size) cap') w' ∧ WA w0 base (its.set i (.row (some b') cap' (k + s.size) e 1 (xs ++ Lib.strCells s))) w' := by
  obtain ⟨b', cap', w', r1, r2, r3, r4⟩ := run_appendS_rv (P := P) w base t u ty e inf ht hu hinf hz hsize hby g k cap xs (h.get hi) s h0 (by unfold maxLen; omega) (by omega) h.fits
  refine ⟨b', cap', w', r1, h.others hi r3.os r3.tape r3.output r3.size (fun q hq hne => r3.block q hq fun e => hne e.symm) r2 fun q hq => ?_⟩
  rcases r4 with h1 | rfl
  · exact .inl (by rw [← hq]; exact h1.symm)
  · cases hq; exact .inr (Nat.le_refl _)
theorem appendS_go {t u e cap k i : Nat} {g : Option Nat} {xs : List Value} {s : ByteArray} {cs : List AV} {ats : Array TypeId} {hp' : AH} {inf : TypeInfo} (ht : P.underlying t = some (.slice e)) (hu : P.underlying u = some .string) (hinf : P.info? e = some inf) (hz : inf.zero = some (.int .u8 0)) (hsize : inf.size = 1) (hby : inf.bytes = 1)
    (ho : o.op = .call { callee := .builtin .append, args := #[x, y], argTypes := ats }) (hat : ats = #[t, u])
    (hx : evl l x = some (rv g k cap)) (hy : evl l y = some (.string s)) (hi : its[i]? = some (.row g cap k e 1 xs)) (h0 : 0 < s.size) (hb : k + s.size ≤ 1000000000) (hF : Fresh ρ nx) (hcs : ∀ ρ', Ext ρ ρ' → instL ρ' cs = some (xs ++ Lib.strCells s))
    (hH : ∀ b c, instI (ρ.add nx b c) nx (.row (k + s.size) e 1 cs) = some (.row (some b) c (k + s.size) e 1 (xs ++ Lib.strCells s)) → instH (ρ.add nx b c) hp' = some (its.set i (.row (some b) c (k + s.size) e 1 (xs ++ Lib.strCells s))))
    (hg : o.guard = none) (hd : o.dst = some d) (hdn : Nat.blt d n = true)
    (hk : Go.EX.Next P ops n D Q w0 base ρ hp' (nx + 1) (.sl nx 0 (k + s.size) 0) d l rest) : LX P ops n D (.plain Q) l (WA w0 base its) (o :: rest) := by
  refine LX.effx (τ := Nat × Nat) (v := fun p => rv (some p.1) (k + s.size) p.2) (W' := fun p => WA w0 base (its.set i (.row (some p.1) p.2 (k + s.size) e 1 (xs ++ Lib.strCells s)))) (fun σ hσ w hW => ?_) hg hd hdn (fun p => ?_)
  · obtain ⟨b', cap', w', r1, r2⟩ := WA.appendS (P := P) hW ht hu hinf hz hsize hby hi s h0 hb o.type
    refine ⟨(b', cap'), w', ?_, r2⟩
    subst hat
    simp only [execOp, ho, resolve, invoke, builtin, Sem.run_bind, Sem.run_pure, Result.andThen_ok, List.map_toArray, List.map_cons, List.map_nil, hσ _ _ hx, hσ _ _ hy, r1]
  · obtain ⟨b', cap'⟩ := p
    have hE := Ext.add hF b' cap'
    have hI := instI_mkrow (ρ := ρ.add nx b' cap') (id := nx) (n := k + s.size) (e := e) (s := 1) (rat_add _ _ _ _) (hcs _ hE)
    exact hk (ρ.add nx b' cap') _ _ hE (hF.add b' cap') (by unfold inst; rw [rat_add]; rfl) (hH b' cap' hI)
def bytesB (l : List UInt8) : List AV := l.map fun x => .lit (.int .u8 (.ofNat x.toNat))
theorem bytesB_inst (ρ : Rho) : ∀ l : List UInt8, instL ρ (bytesB l) = some (l.map fun b => Value.int .u8 b.toNat)
  | [] => rfl
  | x :: t => by show instL ρ (.lit (.int .u8 (.ofNat x.toNat)) :: bytesB t) = _; unfold instL; rw [bytesB_inst ρ t]; rfl
def isU8z : Value → Bool
  | .int .u8 (.ofNat 0) => true
  | _ => false
theorem isU8z_ok {z : Value} (h : isU8z z = true) : z = .int .u8 0 := by
  unfold isU8z at h
  split at h
  · rfl
  · cases h
def appSB (P : Program) (hp : AH) (nx : Nat) (af : AF) (c : Call) : Option (AV × AH) :=
  match c.callee, c.args.toList, c.argTypes.toList with
  | .builtin .append, [x, y], [t, u] => match elemT P t, P.underlying u with
    | some (e, size, by', z), some .string => match Nat.beq size 1 && (Nat.beq by' 1 && isU8z z) with
      | true => (evalA af x).bind fun vx => match evalA af y with
        | some (.lit (.string s)) => (rowOf hp vx e 1).bind fun r => match Nat.blt 0 s.size && Nat.ble (r.2.1 + s.size) 1000000000 with
          | true => some (.sl nx 0 (r.2.1 + s.size) 0, match r.1 with
            | some id => setK hp id nx (.row (r.2.1 + s.size) e 1 (r.2.2 ++ bytesB s.data.toList))
            | none => (nx, .row (r.2.1 + s.size) e 1 (r.2.2 ++ bytesB s.data.toList)) :: hp)
          | false => none
        | _ => none
      | false => none
    | _, _ => none
  | _, _, _ => none
theorem appSB_ok (hf : FRel ρ af l) (hH : instH ρ hp = some its) (hF : Fresh ρ nx) {c : Call} (ho : o.op = .call c) (h : appSB P hp nx af c = some (v, hp')) (hg : o.guard = none) (hd : o.dst = some d) (hdn : Nat.blt d n = true)
    (hk : Go.EX.Next P ops n D Q w0 base ρ hp' (nx + 1) v d l rest) : LX P ops n D (.plain Q) l (WA w0 base its) (o :: rest) := by
  unfold appSB at h
  split at h
  · rename_i x y t u hc ha hat
    split at h
    · rename_i e size by' z he hu
      split at h
      · rename_i hb0
        simp only [Bool.and_eq_true] at hb0
        have es : size = 1 := by simpa using hb0.1
        have eb : by' = 1 := by simpa using hb0.2.1
        have ez := isU8z_ok hb0.2.2
        subst es eb ez
        obtain ⟨vx, hx, h⟩ := Option.bind_eq_some_iff.1 h
        split at h
        · rename_i s hy
          obtain ⟨r, hr, h⟩ := Option.bind_eq_some_iff.1 h
          split at h
          · rename_i hb
            simp only [Bool.and_eq_true] at hb
            have hj : 0 < s.size := by simpa using hb.1
            have hle : r.2.1 + s.size ≤ 1000000000 := by simpa using hb.2
            obtain ⟨hEl, _, hzz⟩ := elemT_ok he
            obtain ⟨inf, z', i1, i2, i3, i4, i5⟩ := hEl.ex
            have hz' : inf.zero = some (.int .u8 0) := by
              rw [i1] at hzz
              simpa using hzz
            have ho' : o.op = .call { callee := .builtin .append, args := #[x, y], argTypes := c.argTypes } := by
              rw [ho]; congr 1; cases c; simp only at hc ha ⊢; subst hc; congr 1; rw [← ha]
            have hat' : c.argTypes = #[t, u] := by
              rw [← Array.toArray_toList (xs := c.argTypes), hat]
            obtain ⟨ux, h1, h2⟩ := hf.eval hx
            obtain ⟨uy, h3, h4⟩ := hf.eval hy
            have e4 : uy = .string s := by first | exact inst_lit h4 | exact (inst_lit h4).symm
            rw [e4] at h3
            have hbc : ∀ ρ', instL ρ' (bytesB s.data.toList) = some (Lib.strCells s) := fun ρ' => bytesB_inst ρ' _
            unfold rowOf at hr
            split at hr
            · cases hr
              cases h
              obtain rfl := inst_lit h2
              simp only [Nat.zero_add, List.nil_append] at hk hle ⊢
              refine LX.world (W' := WA w0 base (.row none 0 0 e 1 [] :: its)) (fun w hw => hw.nilRow e 1) ?_
              refine appendS_go (hp' := (nx, .row s.size e 1 (bytesB s.data.toList)) :: hp) (i := 0) (k := 0) (g := none) (cap := 0) (xs := []) (cs := bytesB s.data.toList) hEl.ht hu i1 hz' i3 i4 ho' hat' h1 h3 rfl hj (by omega) hF
                (fun ρ' hE => by simpa using hbc ρ') (fun b c hI => ?_) hg hd hdn (by simp only [Nat.zero_add]; exact hk)
              simp only [Nat.zero_add] at hI ⊢
              exact instH_mk hI (instH_ext (Ext.add hF b c) hH)
            · rename_i id n'
              split at hr
              · rename_i i m e' s' cs hfd
                split at hr
                · rename_i hb3
                  cases hr
                  cases h
                  simp only [Bool.and_eq_true] at hb3
                  have hm : m = n' := by simpa using hb3.1
                  have hee : e = e' := by simpa using hb3.2.1
                  have hss : 1 = s' := by simpa using hb3.2.2
                  subst hm; subst hee; subst hss
                  obtain ⟨px, hpx, rfl⟩ := inst_sl h2
                  obtain ⟨x', _, hxs, hi⟩ := findA_ok hH hfd
                  obtain ⟨p2, us2, g1, g2, rfl⟩ := instI_row hi
                  rw [hpx] at g1; cases g1
                  have h1' : evl l x = some (rv (some px.1) m px.2) := h1
                  refine appendS_go (cs := cs ++ bytesB s.data.toList) hEl.ht hu i1 hz' i3 i4 ho' hat' h1' h3 hxs hj hle hF
                    (fun ρ' hE => instL_app (instL_ext hE _ _ g2) (hbc ρ')) (fun b c hI => ?_) hg hd hdn hk
                  exact setK_ok (instH_ext (Ext.add hF b c) hH) hfd hI
                · cases hr
              · cases hr
            · cases hr
          · cases h
        · cases h
      · cases h
    · cases h
  · cases h
def new4A (P : Program) (ro : List AH) (hp : AH) (nx : Nat) (af : AF) (o : Op) : Option (AV × AH) :=
  match new2A P ro hp nx af o with
  | some r => some r
  | none => match o with
    | .call c => match c.callee, c.args.toList with
      | .builtin .append, [x, _] => match appA P ro (shrB hp (evalA af x)) nx af c with
        | some r => some r
        | none => appSB P (shrB hp (evalA af x)) nx af c
      | _, _ => none
    | o => new0 P hp nx o
theorem new4A_ok (hf : FRel ρ af l) (hH : instH ρ hp = some its) (hR : RO w0 base ρ ro) (hF : Fresh ρ nx) (h : new4A P ro hp nx af o.op = some (v, hp')) (hg : o.guard = none) (hd : o.dst = some d) (hdn : Nat.blt d n = true)
    (hk : Go.EX.Next P ops n D Q w0 base ρ hp' (nx + 1) v d l rest) : LX P ops n D (.plain Q) l (WA w0 base its) (o :: rest) := by
  unfold new4A at h
  cases hn : new2A P ro hp nx af o.op with
  | some r => rw [hn] at h; cases h; exact new2A_ok hf hH hR hF hn hg hd hdn hk
  | none =>
    rw [hn] at h
    dsimp only at h
    split at h
    · rename_i c ho
      split at h
      · rename_i x y hc ha
        obtain ⟨its1, h1, h2⟩ := shrB_ok (w0 := w0) (base := base) hH (evalA af x)
        split at h
        · rename_i r hr
          cases h
          exact LX.world h2 (appA_ok hf h1 hR hF ho hr hg hd hdn hk)
        · exact LX.world h2 (appSB_ok hf h1 hF ho h hg hd hdn hk)
      · cases h
    · exact new0_ok hf hH hF h hg hd hdn hk
/-! a slice that is cut to nothing, and its length -/
def cutLenB (P : Program) (ro : List AH) (hp : AH) (n : Nat) (af : AF) (o : Oper) (rest : List Oper) : Option AF :=
  match o.op, o.dst, rest with
  | .slice t x (some y) none none, some d, o2 :: _ => match o2.op, o2.guard, o2.dst with
    | .call c, none, some d2 => match c.callee, c.args.toList, elemT P t with
      | .builtin .len, [.tmp d'], some _ => match evalA af x, evalA af y, (c.argTypes[0]?).bind P.underlying with
        | some (.sl id _ q sk), some (.lit (.int _ (.ofNat j))), some (.slice _) => match lookA hp ro id with
          | some (.row m _ _ _) => match Nat.beq d d' && (Nat.ble (q + sk) m && (Nat.ble j q && (Nat.blt d2 n && (getA (delA af d) d).isNone))) with
            | true => some (putA (delA af d) d2 (.lit (.int .i64 (.ofNat (q - j)))))
            | false => none
          | _ => none
        | _, _, _ => none
      | _, _, _ => none
    | _, _, _ => none
  | _, _, _ => none
theorem cutLenB_ok {af' : AF} (hf : FRel ρ af l) (hH : instH ρ hp = some its) (hR : RO w0 base ρ ro) (h : cutLenB P ro hp n af o rest = some af') (hw : ∀ a, Has n D a l → Region.wanted o (yielded ops a.tmps) = true) (hd : o.dst = some d) (hdn : Nat.blt d n = true) :
    ∃ o2 rest', rest = o2 :: rest' ∧ ((∀ l', FRel ρ af' l' → LX P ops n D (.plain Q) l' (WA w0 base its) rest') → LX P ops n D (.plain Q) l (WA w0 base its) (o :: rest)) := by
  unfold cutLenB at h
  split at h <;> try (cases h; done)
  rename_i t x y d0 o2 rest' ho hd0
  rw [hd] at hd0; cases hd0
  split at h <;> try (cases h; done)
  rename_i c d2 ho2 hg2 hd2
  split at h <;> try (cases h; done)
  rename_i d' q' hc ha he
  obtain ⟨e, size, by', z⟩ := q'
  split at h <;> try (cases h; done)
  rename_i id off q sk kk j e2 hx hy ht2
  split at h <;> try (cases h; done)
  rename_i m' em sm cs hl
  split at h <;> try (cases h; done)
  rename_i hb
  simp only [Bool.and_eq_true] at hb
  obtain ⟨b1, b2, b3, b4, b5⟩ := hb
  cases h
  have hdd : d = d' := by simpa using b1
  subst hdd
  have hq : q + sk ≤ m' := by simpa using b2
  have hj : j ≤ q := by simpa using b3
  obtain ⟨hEl, hSz, _⟩ := elemT_ok he
  obtain ⟨p, us, e1, _, _, e4⟩ := look_ok hH hR hl
  have e5 := e4 _ _ _ _ rfl
  refine ⟨o2, rest', rfl, fun hk => ?_⟩
  obtain ⟨ux, g1, g2⟩ := hf.eval hx
  obtain ⟨p', g3, rfl⟩ := inst_sl g2
  rw [e1] at g3; cases g3
  obtain ⟨uy, g4, g5⟩ := hf.eval hy
  obtain rfl := inst_lit g5
  refine LX.step1 (v := .slice (if p.2 - sk = j then some ⟨p.1, off, none⟩ else some ⟨p.1, off + j * size, none⟩) (q - j) (p.2 - sk - j)) hw ?_ hd hdn ?_
  · rw [ho]
    have h10 := Y.cutLo (W := WA w0 base its) (ty := o.type) hEl.ht hSz g1 g4 hj
    have : (if p.2 - sk = j then some ⟨p.1, off, none⟩ else Option.map (fun a : Addr => a.add (j * size)) (some ⟨p.1, off, none⟩)) = (if p.2 - sk = j then some (⟨p.1, off, none⟩ : Addr) else some ⟨p.1, off + j * size, none⟩) := by
      split <;> simp [Addr.add_lit]
    rw [this] at h10
    exact h10
  · have hc' : c = { callee := .builtin .len, args := #[.tmp d], argTypes := c.argTypes } := by
      cases c; simp only at hc ha ⊢; subst hc
      congr 1
      exact Array.toList_inj.1 ha
    obtain ⟨tt, t1, t2⟩ := Option.bind_eq_some_iff.1 ht2
    refine LX.step1 (v := .int .i64 ((q - j : Nat) : Int)) (fun a ha => wanted_none hg2) ?_ hd2 b4 ?_
    · rw [ho2, hc']
      exact Y.lenSl (l := (d, _) :: l) (x := .tmp d) (get_cons_same d _ l) t2 t1
    · refine hk _ fun i v hi => ?_
      by_cases hi2 : d2 = i
      · subst hi2
        rw [putA, getA_same] at hi
        cases hi
        exact ⟨_, get_cons_same _ _ _, rfl⟩
      · rw [putA, getA_ne _ _ hi2, getA_del _ _ _ hi2] at hi
        by_cases hi3 : d = i
        · subst hi3
          rw [hi] at b5; cases b5
        · rw [getA_del _ _ _ hi3] at hi
          obtain ⟨u', q1, q2⟩ := hf i v hi
          exact ⟨u', by rw [get_cons_ne _ _ hi2, get_cons_ne _ _ hi3]; exact q1, q2⟩
/-! operations in their own order -/
def deferB (af : AF) (c : Call) : Option (FuncId × List AV) :=
  match c.callee, c.args.toList with
  | .value x, [] => match evalA af x with
    | some (.fn (.func k) [] ys) => some (k, ys)
    | _ => none
  | _, _ => none
theorem LX.deferX {k : FuncId} {us : List Value} {c : Call} {fo : Operand} (ho : o.op = .defer c) (hc : c.callee = .value fo) (hca : c.args = #[]) (hv : evl l fo = some (.func (.func k) #[] us.toArray)) (hw : ∀ a, Has n D a l → Region.wanted o (yielded ops a.tmps) = true) (hd : o.dst = none)
    (hk : LX P ops n ({ target := .fn (.func k) us.toArray, args := #[] } :: D) (.plain Q) l W rest) : LX P ops n D (.plain Q) l W (o :: rest) := by
  intro a w ha hW
  unfold wpList
  rw [if_pos (hw a ha)]
  left
  unfold Oper.wp
  have : (execOp a.eval o).run P w = .ok (.defer { target := .fn (.func k) us.toArray, args := #[] }) w := by
    simp [execOp, ho, resolve, hc, hca, ha.eval _ _ hv, Deferred.ofValue]
  rw [this]
  simp only [Oper.upon, hd]
  exact hk _ w ⟨ha.size, by show _ :: a.defers = _; rw [ha.defs], ha.slot⟩ hW
/-- a call's target: a function, or a method by an interface -/
def targetB (ext : ExtF) (af : AF) (o : Op) : Option (FuncId × List AV) :=
  match targetA af o with
  | some q => some q
  | none => match o with
    | .call c => match c.callee with
      | .invoke recv name => match evalA af recv with
        | some (.iface t x) => (evalsA af c.args.toList).bind fun as => (ext.m name t as.length).map fun g => (g, x :: as)
        | _ => none
      | _ => none
    | _ => none
theorem run_invokeB {name : String} {recv : Operand} {us : List Value} {cl : Call} {ur : Value} (ho : o.op = .call cl) (hc : cl.callee = .invoke recv name) {σ : Operand → Value} (hσ : ∀ x u, evl l x = some u → σ x = u)
    (hr : evl l recv = some ur) (ha : evals l cl.args.toList = some us) (w : World) : (execOp σ o).run P w = (invoke (.fn (.method name) #[]) (ur :: us).toArray).run P w := by
  have h1 := hσ _ _ hr
  have h2 : cl.args.map σ = us.toArray := by rw [← evals_map hσ _ _ ha, ← List.map_toArray]
  have h3 : (#[ur] : Array Value) ++ us.toArray = (ur :: us).toArray := by simp
  simp only [execOp, ho, resolve, hc, h1, h2, Sem.run_bind, Sem.run_pure, Result.andThen_ok, h3, pure_bind]
theorem targetB_ok (hX : ExtOk P ext) (hf : FRel ρ af l) {k : FuncId} {as : List AV} (h : targetB ext af o.op = some (k, as)) (hen : Enters P k) : ∃ vs, instL ρ as = some vs ∧ ∀ (σ : Operand → Value), (∀ x u, evl l x = some u → σ x = u) → ∀ w, (execOp σ o).run P w = .ok (.enter k vs.toArray) w := by
  unfold targetB at h
  split at h
  · rename_i q hq
    cases h
    exact targetA_ok hf hq hen
  · split at h
    · rename_i c ho
      split at h
      · rename_i recv name hc
        split at h
        · rename_i t x hx
          obtain ⟨as', ha, h⟩ := Option.bind_eq_some_iff.1 h
          cases hm : ext.m name t as'.length with
          | none => rw [hm] at h; cases h
          | some g =>
            rw [hm] at h
            cases h
            obtain ⟨ur, f1, f2⟩ := hf.eval hx
            obtain ⟨z, f3, rfl⟩ := inst_if f2
            obtain ⟨us, f4, f5⟩ := evalsA_ok hf ha
            exact ⟨z :: us, instL_mk f3 f5, fun σ hσ w => (run_invokeB ho hc hσ f1 f4 w).trans (hX.2 _ _ _ _ hm z us w (instL_len f5))⟩
        · cases h
      · cases h
    · cases h
def opsB (P : Program) (E : List (Nat × AV)) (ext : ExtF) (call : CallB) (n : Nat) (ro : List AH) (all : Array Oper) : List Oper → Bool → AF → DF → AH → Nat → Option (AF × DF × AH × Nat)
  | [], _, af, df, hp, nx => some (af, df, hp, nx)
  | o :: rest, skip, af, df, hp, nx => match skip with
    | true => opsB P E ext call n ro all rest false af df hp nx
    | false => match wantA all af o.guard with
      | none => none
      | some false => match o.dst with
        | some d => match Nat.blt d n with
          | true => opsB P E ext call n ro all rest false (putA af d (.lit (.tuple #[]))) df hp nx
          | false => none
        | none => none
      | some true => match o.dst with
        | some d => match Nat.blt d n with
          | false => none
          | true => match val4A P E ext ro hp af o.op with
            | some v => opsB P E ext call n ro all rest false (putA af d v) df hp nx
            | none => match new4A P ro hp nx af o.op with
              | some (v, hp') => opsB P E ext call n ro all rest false (putA af d v) df hp' (nx + 1)
              | none => match targetB ext af o.op with
                | some (k, as) => match call ro k as hp nx with
                  | some (v, hp', nx') => opsB P E ext call n ro all rest false (putA af d v) df hp' nx'
                  | none => none
                | none => match cutLenB P ro hp n af o rest with
                  | some af' => opsB P E ext call n ro all rest true af' df hp nx
                  | none => none
        | none => match o.op with
          | .store t x y => match storeA P hp af t x y with
            | some hp' => opsB P E ext call n ro all rest false af df hp' nx
            | none => none
          | .mapUpdate t x y z => match updB P hp af t x y z with
            | some hp' => opsB P E ext call n ro all rest false af df hp' nx
            | none => none
          | .defer c => match deferB af c with
            | some q => opsB P E ext call n ro all rest false af (q :: df) hp nx
            | none => none
          | _ => none
/-- what is to be shown where operations end -/
def EndB (n : Nat) (Q : Exit → Act → World → Prop) (w0 : World) (base : Nat) (ρ : Rho) (e : Exit) (af' : AF) (df' : DF) (hp' : AH) (nx' : Nat) : Prop :=
  ∀ ρ' l' its' D', Ext ρ ρ' → Fresh ρ' nx' → FRel ρ' af' l' → instH ρ' hp' = some its' → instD ρ' df' = some D' → PX n D' Q l' (WA w0 base its') e
theorem EndB.up {e : Exit} {af' : AF} {df' : DF} {nx' : Nat} {ρ' : Rho} (h : EndB n Q w0 base ρ e af' df' hp' nx') (he : Ext ρ ρ') : EndB n Q w0 base ρ' e af' df' hp' nx' := fun ρ2 l2 its2 D2 e2 => h ρ2 l2 its2 D2 (he.trans e2)
theorem opsB_ok (hX : ExtOk P ext) (hC : CallBOk P E call) : ∀ (rest : List Oper) {af : AF} {df : DF} {hp : AH} {nx : Nat} {af' : AF} {df' : DF} {hp' : AH} {nx' : Nat} {ρ : Rho} {l : Fr} {its : List It} {D : List Deferred},
    opsB P E ext call n ro ops rest false af df hp nx = some (af', df', hp', nx') → FRel ρ af l → instH ρ hp = some its → instD ρ df = some D → Fresh ρ nx → RO w0 base ρ ro → EE w0 base ρ E → EndB n Q w0 base ρ .normal af' df' hp' nx' →
    LX P ops n D (.plain Q) l (WA w0 base its) rest
  | [], af, df, hp, nx, af', df', hp', nx', ρ, l, its, D, h, hf, hH, hD, hF, hR, hE, hk => by
    cases h
    exact LX.next (hk ρ l its D (Ext.refl _) hF hf hH hD)
  | o :: rest, af, df, hp, nx, af', df', hp', nx', ρ, l, its, D, h, hf, hH, hD, hF, hR, hE, hk => by
    unfold opsB at h
    dsimp only at h
    split at h
    · cases h
    · rename_i hw
      have hw' := wantA_ok (n := n) (D := D) hf hw
      split at h
      · rename_i d hd
        split at h
        · rename_i hdn
          exact LX.skip1 hw' hd hdn (opsB_ok hX hC rest h (hf.put d rfl) hH hD hF hR hE hk)
        · cases h
      · cases h
    · rename_i hw
      have hw' := wantA_ok (n := n) (D := D) hf hw
      split at h
      · rename_i d hd
        split at h
        · cases h
        · rename_i hdn
          split at h
          · rename_i v hv
            obtain ⟨u, h1, h2⟩ := val4A_ok hX hf hH hR hE hv o.type
            exact LX.step1 hw' h2 hd hdn (opsB_ok hX hC rest h (hf.put d h1) hH hD hF hR hE hk)
          · split at h
            · rename_i v hp1 hv
              refine LX.unguard hw' ?_
              refine new4A_ok (o := { o with guard := none }) hf hH hR hF hv rfl hd hdn fun ρ' u its' e1 e2 e3 e4 => ?_
              exact opsB_ok hX hC rest h ((hf.ext e1).put d e3) e4 (instD_ext e1 _ _ hD) e2 (hR.ext e1) (hE.ext e1) (hk.up e1)
            · split at h
              · rename_i k as ht
                split at h
                · rename_i v hp1 nx1 hc
                  obtain ⟨hen, hcc⟩ := hC _ _ _ _ _ _ _ _ hc
                  obtain ⟨vs, h1, h2⟩ := targetB_ok (P := P) hX hf ht hen
                  refine LX.callE hw' h2 hd hdn (fun w hw => hcc w0 base ρ vs its hR hE hH h1 hF w hw) fun e w' he => ?_
                  obtain ⟨ρ', its', e1, e2, e3, e4, u, e5, rfl⟩ := he
                  exact .inl ⟨u, rfl, fun a ha => opsB_ok hX hC rest h ((hf.ext e1).put d e5) e3 (instD_ext e1 _ _ hD) e2 (hR.ext e1) (hE.ext e1) (hk.up e1) a w' ha e4⟩
                · cases h
              · split at h
                · rename_i af1 hcl
                  obtain ⟨o2, rest', rfl, hgo⟩ := cutLenB_ok (P := P) (ops := ops) (Q := Q) hf hH hR hcl hw' hd hdn
                  refine hgo fun l' hl' => ?_
                  unfold opsB at h
                  exact opsB_ok hX hC rest' h hl' hH hD hF hR hE hk
                · cases h
      · rename_i hd
        split at h
        · rename_i t x y ho
          split at h
          · rename_i hp1 hs
            refine LX.unguard hw' ?_
            exact storeA_ok (o := { o with guard := none }) hf hH ho hs rfl hd fun its' e => opsB_ok hX hC rest h hf e hD hF hR hE hk
          · cases h
        · rename_i t x y z ho
          split at h
          · rename_i hp1 hs
            refine LX.unguard hw' ?_
            exact updB_ok (o := { o with guard := none }) hf hH ho hs rfl hd fun its' e => opsB_ok hX hC rest h hf e hD hF hR hE hk
          · cases h
        · rename_i c ho
          split at h
          · rename_i q hq
            unfold deferB at hq
            split at hq <;> try (cases hq; done)
            rename_i fo hc hca
            split at hq <;> try (cases hq; done)
            rename_i k ys hv
            cases hq
            obtain ⟨u, h1, h2⟩ := hf.eval hv
            obtain ⟨xs, us, e1, e2, rfl⟩ := inst_fn h2
            cases e1
            refine LX.deferX ho hc (Array.toList_inj.1 hca) h1 hw' hd (opsB_ok hX hC rest h hf hH ?_ hF hR hE hk)
            unfold instD
            rw [e2, hD]; rfl
          · cases h
        · cases h
/-- operations in whatever order, where none changes what is known -/
def opsQB (P : Program) (E : List (Nat × AV)) (ext : ExtF) (call : CallB) (n : Nat) (ro : List AH) (all : Array Oper) (hp : AH) (nx : Nat) : List Oper → AF → Option AF
  | [], af => some af
  | o :: rest, af =>
    match wantA all af o.guard, o.dst with
    | some false, some d => match Nat.blt d n with
      | true => opsQB P E ext call n ro all hp nx rest (putA af d (.lit (.tuple #[])))
      | false => none
    | some true, some d => match Nat.blt d n with
      | false => none
      | true => match val4A P E ext ro hp af o.op with
        | some v => opsQB P E ext call n ro all hp nx rest (putA af d v)
        | none => match targetB ext af o.op with
          | some (k, as) => match call (hp :: ro) k as [] nx with
            | some (.lit u, _, _) => opsQB P E ext call n ro all hp nx rest (putA af d (.lit u))
            | _ => none
          | none => none
    | _, _ => none
theorem opsQB_ok (hX : ExtOk P ext) (hC : CallBOk P E call) (hH : instH ρ hp = some its) (hF : Fresh ρ nx) (hR : RO w0 base ρ ro) (hE : EE w0 base ρ E) {af' : AF} (hk : ∀ l', FRel ρ af' l' → PX n D Q l' (WA w0 base its) .normal) :
    ∀ (rest : List Oper) {af : AF} {l : Fr}, opsQB P E ext call n ro ops hp nx rest af = some af' → FRel ρ af l → LX P ops n D (.quiet (fun a' => ∀ w', WA w0 base its w' → Q .normal a' w')) l (WA w0 base its) rest
  | [], af, l, h, hf => by
    cases h
    exact LX.nextQ (hk l hf)
  | o :: rest, af, l, h, hf => by
    unfold opsQB at h
    split at h
    · rename_i d hw hd
      split at h
      · rename_i hdn
        exact LX.skip1 (wantA_ok hf hw) hd hdn (opsQB_ok hX hC hH hF hR hE hk rest h (hf.put d rfl))
      · cases h
    · rename_i d hw hd
      split at h
      · cases h
      · rename_i hdn
        split at h
        · rename_i v hv
          obtain ⟨u, h1, h2⟩ := val4A_ok hX hf hH hR hE hv o.type
          exact LX.step1 (wantA_ok hf hw) h2 hd hdn (opsQB_ok hX hC hH hF hR hE hk rest h (hf.put d h1))
        · split at h
          · rename_i k as ht
            split at h
            · rename_i u hp1 nx1 hc
              obtain ⟨hen, hcc⟩ := hC _ _ _ _ _ _ _ _ hc
              obtain ⟨vs, h1, h2⟩ := targetB_ok (P := P) hX hf ht hen
              have hrest := opsQB_ok hX hC hH hF hR hE hk rest h (hf.put d (v := .lit u) rfl)
              intro a ha
              unfold wpQuiet
              rw [if_pos (wantA_ok hf hw a ha)]
              refine ⟨u, fun w hW => ?_, by rw [hd]; exact hrest _ (ha.put hdn u)⟩
              unfold Oper.quietAt
              rw [h2 a.eval ha.eval w]
              refine ⟨rfl, (hcc w w.heap.size ρ vs [] (RO.push hH hR hW) (EE.push hE hW) rfl h1 hF w (WA.start w)).mono fun e w' he => ?_⟩
              obtain ⟨ρ', its', e1, e2, e3, e4, u', e5, rfl⟩ := he
              obtain rfl := inst_lit e5
              exact ⟨rfl, Stab.st w w' hW e4.below⟩
            · cases h
          · cases h
    · cases h
end
end Go.EB
