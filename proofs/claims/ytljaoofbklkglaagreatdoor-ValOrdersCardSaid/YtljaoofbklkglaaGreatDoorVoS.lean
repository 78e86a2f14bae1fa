/-
  Proved here: the statement's values, where they lie in memory; a few more steps of a walk.
-/
import Derived.Test.YtljaoofbklkglaaGreatDoorEyM
import Derived.Test.YtljaoofbklkglaaGreatDoorMk
import Derived.Test.YtljaoofbklkglaaGreatDoorVoP
namespace Go.SX
open Go.RowKit
section
variable {P : Program} {ops : Array Oper} {n d : Nat} {D : List Deferred} {l : Fr} {W : World → Prop} {rest : List Oper} {o : Oper} {u v : Value} {x y : Operand} {t ty : TypeId} {Q : Exit → Act → World → Prop}
theorem Y.field {s f : Nat} (hx : evl l x = some u) (hr : ∀ w, (Instr.field s u f).run P w = .ok v w) : Y P l W (.field s x f) ty v := by
  intro ρ hρ o' ho ht w hW
  simp [execOp, ho, hρ _ _ hx, hr w]
theorem Y.assert1 {k s : TypeId} (hn : NotIface P k) (hx : evl l x = some (.iface k u)) : Y P l W (.typeAssert x s k false) ty u := by
  intro ρ hρ o' ho ht w hW
  obtain ⟨d, hu, hd⟩ := hn.un
  have h1 := run_underlying hu w
  cases d <;> first
    | exact absurd rfl (hd _)
    | simp [execOp, ho, hρ _ _ hx, Instr.typeAssert, h1]
theorem Y.convW {a : Int} {k k' : IntKind} {t' : TypeId} {dd : TypeDesc} (hx : evl l x = some (.int k a)) (h1 : P.underlying t = some dd) (h2 : P.underlying t' = some (.int k')) : Y P l W (.convert t t' x) ty (.int k' (k'.wrap a)) := by
  intro ρ hρ o' ho ht w hW
  have e1 := run_underlying h1 w
  have e2 := run_underlying h2 w
  simp [execOp, ho, hρ _ _ hx, convert, e1, e2, Conv.intToInt]
theorem Y.neg {a : Int} {k : IntKind} (hx : evl l x = some (.int k a)) : Y P l W (.unOp .neg t x) ty (.int k (k.wrap (-a))) := by
  intro ρ hρ o' ho ht w hW; simp [execOp, ho, hρ _ _ hx, Op.unary, Op.intArith]
theorem Y.remK {a b : Nat} {k : IntKind} {ty2 : TypeId} (hx : evl l x = some (.int k (a : Int))) (hy : evl l y = some (.int k (b : Int))) (hb : 0 < b) : Y P l W (.binOp .rem t x y ty2) ty (.int k ((a % b : Nat) : Int)) := by
  refine Y.bin hx hy fun w _ => ?_
  have hb' : b ≠ 0 := by omega
  simp [eqGuard_rem, binOp_rem, Op.intDiv, hb', Int.tmod_eq_emod_of_nonneg]
theorem Y.quoK {a b : Nat} {k : IntKind} {ty2 : TypeId} (hx : evl l x = some (.int k (a : Int))) (hy : evl l y = some (.int k (b : Int))) (hb : 0 < b) (hw : k.wrap ((a / b : Nat) : Int) = ((a / b : Nat) : Int)) : Y P l W (.binOp .quo t x y ty2) ty (.int k ((a / b : Nat) : Int)) := by
  refine Y.bin hx hy fun w _ => ?_
  have hb' : (b : Int) ≠ 0 := by omega
  have e : (a : Int).tdiv b = ((a / b : Nat) : Int) := by rw [Int.tdiv_eq_ediv_of_nonneg (by omega), Int.natCast_ediv]
  simp only [eqGuard_quo, binOp_quo, Op.intDiv, hb', e, hw]
  simp
theorem Y.eqSlNil {e : TypeId} {g : Option Addr} {m c : Nat} {ty2 : TypeId} (h : P.underlying t = some (.slice e)) (hx : evl l x = some (.slice g m c)) : Y P l W (.binOp .eql t x (.const (.slice none 0 0)) ty2) ty (.bool g.isNone) := by
  refine Y.bin2 hx rfl fun w _ => ?_
  have h1 := run_underlying h w
  have h2 : ∀ d : Nat, (Op.equalIn (d + 1) t (.slice g m c) (.slice none 0 0)).run P w = .ok g.isNone w := fun d => by cases g <;> simp [Op.equalIn, h1]
  have e : binOp .eql t (.slice g m c) (.slice none 0 0) = (do pure (.bool (← Op.equalIn 10000 t (.slice g m c) (.slice none 0 0)))) := rfl
  simp [eqGuard, e, h2 9999]
/-- a method by an interface -/
theorem LX.invC {τ : Type} {vv : τ → Value} {W' : τ → World → Prop} {z : Value} {tt : TypeId} {name : String} {recv : Operand} {g : FuncId} {ats : Array TypeId} (hc : FnC P g #[z] W vv W') (hx : evl l recv = some (.iface tt z))
    (hi : ∀ w, (invoke (.fn (.method name) #[]) #[.iface tt z]).run P w = .ok (.enter g #[z]) w)
    (ho : o.op = .call { callee := .invoke recv name, args := #[], argTypes := ats }) (hg : o.guard = none) (hd : o.dst = some d) (hdn : Nat.blt d n = true)
    (h : ∀ q, LX P ops n D (.plain Q) ((d, vv q) :: l) (W' q) rest) : LX P ops n D (.plain Q) l W (o :: rest) := by
  refine Go.EX.LX.callE (k := g) (vs := [z]) (R := fun e w' => ∃ q, e = .returned (vv q) ∧ W' q w') (fun _ _ => wanted_none hg) (fun σ hσ w => ?_) hd hdn (fun w hW => hc w hW) fun e w' he => ?_
  · exact (Go.EY.run_invoke (us := []) ho rfl hσ hx rfl w).trans (hi w)
  · obtain ⟨q, rfl, hw⟩ := he
    exact .inl ⟨vv q, rfl, fun a ha => h q a w' ha hw⟩
theorem Y.idx1 {b k c e i : Nat} {kk : IntKind} (ht : P.underlying t = some (.slice e)) (hs : SizeIs P e 1) (hx : evl l x = some (rv (some b) k c)) (hy : evl l y = some (.int kk (i : Int))) (hi : i < k) :
    Y P l W (.indexAddr t x y) ty (.pointer (some ⟨b, i, none⟩)) := by
  have := Y.idx (W := W) (ty := ty) ht hs (b := b) (off := 0) hx hy hi
  rwa [Nat.mul_one, Nat.zero_add] at this
theorem Y.idxR1 (j : Nat) {w0 : World} {base : Nat} {its : List It} {cap k e i : Nat} {g : Option Nat} {xs : List Value} {kk : IntKind} (ht : P.underlying t = some (.slice e)) (hs : SizeIs P e 1) (hx : evl l x = some (rv g k cap)) (hy : evl l y = some (.int kk (i : Int)))
    (hj : its[j]? = some (.row g cap k e 1 xs)) (hi : i < k) : Y P l (WA w0 base its) (.indexAddr t x y) ty (.pointer (some ⟨g.getD 0, i, none⟩)) := by
  have := Y.idxR j (w0 := w0) (base := base) (ty := ty) ht hs hx hy hj hi
  rwa [Nat.mul_one] at this
/-- a row is laid behind another -/
theorem LX.appendRow (i j : Nat) {w0 : World} {base : Nat} {its : List It} {m C e bytes cap k b : Nat} {g : Option Nat} {xs news : List Value} {ats : Array TypeId} (he : Elem P t e 1 bytes)
    (ho : o.op = .call { callee := .builtin .append, args := #[x, y], argTypes := ats }) (hat : ats = #[t, t])
    (hx : evl l x = some (rv g k cap)) (hy : evl l y = some (rv (some b) m C)) (hi : its[i]? = some (.row g cap k e 1 xs)) (hj : its[j]? = some (.row (some b) C m e 1 news)) (hl : news.length = m) (h1 : news.all (·.oneCell') = true)
    (hbytes : (k + m) * bytes ≤ 140737488355328) (h63 : k + m ≤ 9223372036854775807)
    (hg : o.guard = none) (hd : o.dst = some d) (hdn : Nat.blt d n = true)
    (h : ∀ g' cap', LX P ops n D (.plain Q) ((d, rv g' (k + m) cap') :: l) (WA w0 base (its.set i (.row g' cap' (k + m) e 1 (xs ++ news)))) rest) :
    LX P ops n D (.plain Q) l (WA w0 base its) (o :: rest) := by
  refine LX.append0 i he ho hat hx (a := ⟨b, 0, none⟩) (c := C) hy hi (by rw [hl, Nat.mul_one]) (fun w hW q u hu => ?_) h1 hbytes h63 hg hd hdn h
  have := (hW.rowCell hj hu).1
  rw [Addr.add_lit]
  simpa using this
/-- a call in any class of worlds -/
theorem FnC.re [Stab W] {τ : Type} {f : FuncId} {args : Array Value} {vv : τ → Value} (h : ∀ w, W w → FnC P f args (WA w w.heap.size []) vv (fun _ => WA w w.heap.size [])) : FnC P f args W vv (fun _ => W) :=
  fun w hw => (h w hw w (WA.start w)).mono fun _ w' ⟨q, he, hb⟩ => ⟨q, he, Stab.st w w' hw hb.below⟩
end
end Go.SX
namespace Go.Vo
open Go.SX Go.RowKit
/-! values where they lie -/
structure RowAt (w0 : World) (base : Nat) (g : Option Nat) (xs : List Value) : Prop where
  at_ : ∀ i v, xs[i]? = some v → ∃ b, g = some b ∧ b < base ∧ w0.cell? ⟨b, i, none⟩ = some v
theorem RowAt.push {w0 w : World} {base : Nat} {its : List It} {g : Option Nat} {xs : List Value} (h : RowAt w0 base g xs) (hw : WA w0 base its w) : RowAt w w.heap.size g xs := ⟨fun i v hi => by
  obtain ⟨b, rfl, h1, h2⟩ := h.at_ i v hi
  exact ⟨b, rfl, Nat.lt_of_lt_of_le h1 hw.fits, hw.old h1 h2⟩⟩
def dv (l : List Nat) : List Value := l.map fun (d : Nat) => .int .u32 (d : Int)
theorem dv_at {l : List Nat} {i : Nat} (h : i < l.length) : (dv l)[i]? = some (.int .u32 ((l.getD i 0 : Nat) : Int)) := by
  unfold dv
  rw [List.getElem?_map, List.getElem?_eq_getElem h, List.getD_eq_getElem?_getD, List.getElem?_eq_getElem h]
  rfl
/-- a number -/
@[reducible] def numV (z : Int) (g : Option Nat) (c : Nat) : Value := .agg #[.bool (decide (z < 0)), rv g (digs z.natAbs).length c]
structure NumV (w0 : World) (base : Nat) (z : Int) (v : Value) : Prop where
  ex : ∃ g c, v = numV z g c ∧ RowAt w0 base g (dv (digs z.natAbs))
  small : z.natAbs < 18446744073709551616
theorem NumV.push {w0 w : World} {base : Nat} {its : List It} {z : Int} {v : Value} (h : NumV w0 base z v) (hw : WA w0 base its w) : NumV w w.heap.size z v := by
  obtain ⟨⟨g, c, rfl, h1⟩, h2⟩ := h
  exact ⟨⟨g, c, rfl, h1.push hw⟩, h2⟩
/-- a number, or a text, as a value -/
def ItV (w0 : World) (base : Nat) (t : Bool) (z : Int) (v : Value) : Prop :=
  match t with
  | true => v = .iface 62 (str (txt (nm9 z).toNat))
  | false => ∃ u, v = .iface 58 u ∧ NumV w0 base z u
theorem ItV.push {w0 w : World} {base : Nat} {its : List It} {t : Bool} {z : Int} {v : Value} (h : ItV w0 base t z v) (hw : WA w0 base its w) : ItV w w.heap.size t z v := by
  cases t with
  | true => exact h
  | false => obtain ⟨u, rfl, h1⟩ := h; exact ⟨u, rfl, h1.push hw⟩
/-- a row of them -/
structure ItsV (w0 : World) (base : Nat) (t : Bool) (zs : List Int) (g : Option Nat) : Prop where
  ex : ∃ us, RowAt w0 base g us ∧ us.length = zs.length ∧ ∀ i u, us[i]? = some u → ItV w0 base t (zs.getD i 0) u
theorem ItsV.push {w0 w : World} {base : Nat} {its : List It} {t : Bool} {zs : List Int} {g : Option Nat} (h : ItsV w0 base t zs g) (hw : WA w0 base its w) : ItsV w w.heap.size t zs g := by
  obtain ⟨us, h1, h2, h3⟩ := h
  exact ⟨us, h1.push hw, h2, fun i u hu => (h3 i u hu).push hw⟩
theorem ItsV.at_ {w0 : World} {base : Nat} {t : Bool} {zs : List Int} {g : Option Nat} (h : ItsV w0 base t zs g) {i : Nat} (hi : i < zs.length) : ∃ b u, g = some b ∧ b < base ∧ w0.cell? ⟨b, i, none⟩ = some u ∧ ItV w0 base t (zs.getD i 0) u := by
  obtain ⟨us, h1, h2, h3⟩ := h
  have hu := List.getElem?_eq_getElem (show i < us.length by omega)
  obtain ⟨b, e1, e2, e3⟩ := h1.at_ i _ hu
  exact ⟨b, _, e1, e2, e3, h3 i _ hu⟩
/-- a list of them -/
structure LsV (w0 : World) (base : Nat) (t : Bool) (zs : List Int) (v : Value) : Prop where
  ex : ∃ b g c, v = .iface 44 (.pointer (some ⟨b, 0, none⟩)) ∧ b < base ∧ w0.cell? ⟨b, 0, none⟩ = some (rv g zs.length c) ∧ ItsV w0 base t zs g
theorem LsV.push {w0 w : World} {base : Nat} {its : List It} {t : Bool} {zs : List Int} {v : Value} (h : LsV w0 base t zs v) (hw : WA w0 base its w) : LsV w w.heap.size t zs v := by
  obtain ⟨b, g, c, rfl, h1, h2, h3⟩ := h
  exact ⟨b, g, c, rfl, Nat.lt_of_lt_of_le h1 hw.fits, hw.old h1 h2, h3.push hw⟩
/-- in a world -/
@[reducible] def LsW (t : Bool) (zs : List Int) (v : Value) (w : World) : Prop := LsV w w.heap.size t zs v
@[reducible] def NumW (z : Int) (v : Value) (w : World) : Prop := NumV w w.heap.size z v
theorem WA.from {w w' : World} (h : Below w.heap.size w w') : WA w w.heap.size [] w' := ⟨h, h.size, (fun _ h => by cases h), List.Pairwise.nil⟩
instance {t : Bool} {zs : List Int} {v : Value} : Stab (LsW t zs v) where
  st _ _ h hb := h.push (WA.from hb)
instance {z : Int} {v : Value} : Stab (NumW z v) where
  st _ _ h hb := h.push (WA.from hb)
/-- which is less, by their keys -/
theorem key_lt (t : Bool) (x y : Int) : (match t with | true => Op.bytesLess (txt (nm9 x).toNat) (txt (nm9 y).toNat) | false => decide (cmp3 x y < 0)) = decide (key t x < key t y) := by
  cases t with
  | true =>
    have hx := nm9_in x
    have hy := nm9_in y
    show Op.bytesLess _ _ = decide (nm9 x < nm9 y)
    rw [txt_lt _ (by omega) _ (by omega)]
    exact decide_eq_decide.2 (by omega)
  | false =>
    show decide (cmp3 x y < 0) = decide (x < y)
    refine decide_eq_decide.2 ?_
    unfold cmp3
    split
    · simp_all
    · split <;> simp_all
theorem key_eq (t : Bool) (x y : Int) : (match t with | true => decide (txt (nm9 x).toNat = txt (nm9 y).toNat) | false => decide (cmp3 x y = 0)) = decide (key t x = key t y) := by
  cases t with
  | true =>
    have hx := nm9_in x
    have hy := nm9_in y
    show decide _ = decide (nm9 x = nm9 y)
    rw [txt_inj _ (by omega) _ (by omega)]
    exact decide_eq_decide.2 (by omega)
  | false =>
    show decide (cmp3 x y = 0) = decide (x = y)
    refine decide_eq_decide.2 ?_
    unfold cmp3
    split
    · constructor
      · intro h; cases h
      · omega
    · split
      · constructor
        · intro h; cases h
        · omega
      · simp; omega
theorem min_int (a b : Nat) : (if (b : Int) < (a : Int) then (b : Int) else (a : Int)) = ((min a b : Nat) : Int) := by
  split <;> omega
/-- a list's keys -/
def kk (t : Bool) (zs : List Int) : List Int := zs.map (key t)
theorem kk_len (t : Bool) (zs : List Int) : (kk t zs).length = zs.length := List.length_map _
theorem kk_at (t : Bool) {zs : List Int} {i : Nat} (h : i < zs.length) : (kk t zs).getD i 0 = key t (zs.getD i 0) := by
  unfold kk
  rw [List.getD_eq_getElem?_getD, List.getElem?_map, List.getElem?_eq_getElem h, List.getD_eq_getElem?_getD, List.getElem?_eq_getElem h]
  rfl
theorem wrap_u32 {n : Nat} (h : n < 4294967296) : IntKind.u32.wrap (n : Int) = (n : Int) := by
  simp [IntKind.wrap, IntKind.bits, IntKind.signed]; omega
theorem wrap_u64 {n : Nat} (h : n < 18446744073709551616) : IntKind.u64.wrap (n : Int) = (n : Int) := by
  simp [IntKind.wrap, IntKind.bits, IntKind.signed]; omega
theorem abs_pos {x : Int} (h : ¬x < 0) (h2 : x ≤ 9223372036854775807) : IntKind.u64.wrap x = (x.natAbs : Int) := by
  have := wrap_u64 (n := x.natAbs) (by omega)
  rwa [show ((x.natAbs : Nat) : Int) = x by omega] at this ⊢
theorem abs_neg {x : Int} (h : x < 0) (h2 : -9223372036854775808 ≤ x) : IntKind.u64.wrap (-(IntKind.u64.wrap x)) = (x.natAbs : Int) := by
  simp [IntKind.wrap, IntKind.bits, IntKind.signed]; omega
theorem tmod9 (z : Int) : -9 < z.tmod 9 ∧ z.tmod 9 < 9 := by
  refine ⟨?_, Int.tmod_lt_of_pos _ (by decide)⟩
  rcases Int.le_total 0 z with h | h
  · have := Int.tmod_nonneg 9 h; omega
  · have h1 := Int.tmod_lt_of_pos (-z) (show (0 : Int) < 9 by decide)
    rw [Int.neg_tmod] at h1
    omega
/-- a list of numbers, read where it lies -/
structure IntsAt (w0 : World) (base : Nat) (av : Option Addr) (zs : List Int) : Prop where
  at_ : ∀ i, i < zs.length → ∃ a, av = some a ∧ (a.add (i * 1)).block < base ∧ w0.cell? (a.add (i * 1)) = some (.int .i64 (zs.getD i 0))
  small : ∀ i, -9223372036854775808 ≤ zs.getD i 0 ∧ zs.getD i 0 ≤ 9223372036854775807
theorem IntsAt.push {w0 w : World} {base : Nat} {its : List It} {av : Option Addr} {zs : List Int} (h : IntsAt w0 base av zs) (hw : WA w0 base its w) : IntsAt w w.heap.size av zs := ⟨fun i hi => by
  obtain ⟨a, rfl, h1, h2⟩ := h.at_ i hi
  exact ⟨a, rfl, Nat.lt_of_lt_of_le h1 hw.fits, hw.old h1 h2⟩, h.small⟩
/-- a value that was made, a number's digits in a row of its own -/
def Made (t : Bool) (ds : List It) (z : Int) (u : Value) : Prop :=
  match t with
  | true => u = .iface 62 (str (txt (nm9 z).toNat))
  | false => ∃ g c, u = .iface 58 (numV z g c) ∧ It.row g c (digs z.natAbs).length 60 1 (dv (digs z.natAbs)) ∈ ds
def Own (t : Bool) (zs : List Int) (us : List Value) (ds : List It) : Prop := ∀ k u, us[k]? = some u → Made t ds (zs.getD k 0) u
theorem Own.nil (t : Bool) (zs : List Int) (ds : List It) : Own t zs [] ds := fun k u hu => by cases hu
theorem Made.mono {t : Bool} {ds ds' : List It} {z : Int} {u : Value} (h : Made t ds z u) (hs : ∀ it ∈ ds, it ∈ ds') : Made t ds' z u := by
  cases t with
  | true => exact h
  | false => obtain ⟨g, c, e, hm⟩ := h; exact ⟨g, c, e, hs _ hm⟩
theorem Own.snoc {t : Bool} {zs : List Int} {us : List Value} {ds ds' : List It} {v : Value} (h : Own t zs us ds) (hs : ∀ it ∈ ds, it ∈ ds') (hv : Made t ds' (zs.getD us.length 0) v) : Own t zs (us ++ [v]) ds' := fun k u hu => by
  rcases Nat.lt_or_ge k us.length with hk | hk
  · rw [List.getElem?_append_left hk] at hu; exact (h k u hu).mono hs
  · have : k = us.length := by
      have := (List.getElem?_eq_some_iff.1 hu).1
      simp at this; omega
    subst this
    rw [List.getElem?_append_right (Nat.le_refl _), Nat.sub_self] at hu
    cases hu
    exact hv
theorem row_at {w0 w : World} {base : Nat} {its : List It} {g : Option Nat} {c n e : Nat} {xs : List Value} (hw : WA w0 base its w) (hm : It.row g c n e 1 xs ∈ its) : RowAt w w.heap.size g xs := ⟨fun i v hi => by
  obtain ⟨j, hj⟩ := List.mem_iff_getElem?.1 hm
  obtain ⟨h1, _, h3⟩ := hw.rowCell hj hi
  exact ⟨g.getD 0, h3, World.block_lt_of_cell? _ _ h1, h1⟩⟩
/-- a list that was made -/
theorem ls_of {w0 w : World} {base : Nat} {its ds : List It} {t : Bool} {zs : List Int} {us : List Value} {b T n c e : Nat} {g : Option Nat} {r : List Value} (hw : WA w0 base its w) (h0 : its[0]? = some (blk b (rv g n c :: r) T)) (h1 : It.row g c n e 1 us ∈ its)
    (hn : n = zs.length) (hl : us.length = zs.length) (ho : Own t zs us ds) (hd : ∀ it ∈ ds, it ∈ its) (hz : ∀ i, -9223372036854775808 ≤ zs.getD i 0 ∧ zs.getD i 0 ≤ 9223372036854775807) : LsW t zs (.iface 44 (.pointer (some ⟨b, 0, none⟩))) w := by
  have hb := hw.get h0
  have hc : w.cell? ⟨b, 0, none⟩ = some (rv g n c) := by
    have h2 := hb.2
    simp [World.cell?, h2]
  subst hn
  refine ⟨b, g, c, rfl, World.block_lt_of_cell? _ _ hc, hc, us, row_at hw h1, hl, fun i u hu => ?_⟩
  have := ho i u hu
  cases t with
  | true => exact this
  | false =>
    obtain ⟨g2, c2, rfl, hm⟩ := this
    have hs := hz i
    exact ⟨_, rfl, ⟨g2, c2, rfl, row_at hw (hd _ hm)⟩, by omega⟩
end Go.Vo
