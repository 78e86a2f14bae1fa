/-
  Proved here: plain values where they lie in memory (texts, numbers, records, slices of them), and steps of a walk that read them. No program stands here.
-/
import Derived.Test.YteibddakpedogaaAgg
import Derived.Test.YteibddakpedogaaMk
import Derived.DataElems
import Derived.ChangeArms
namespace Go.SX
open Go.RowKit
theorem add_block (a : Addr) (k : Nat) : (a.add k).block = a.block := by unfold Addr.add; split <;> rfl
theorem add_zero2 (a : Addr) : a.add 0 = a := by simp [Addr.add]
/-- cells that lie at an address, in memory that was there -/
structure Lies (w0 : World) (base : Nat) (a : Addr) (cs : List Value) : Prop where
  at_ : ∀ j u, cs[j]? = some u → a.block < base ∧ w0.cell? (a.add j) = some u
theorem Lies.push {w0 w : World} {base : Nat} {its : List It} {a : Addr} {cs : List Value} (h : Lies w0 base a cs) (hw : WA w0 base its w) : Lies w w.heap.size a cs := ⟨fun j u hj => by
  obtain ⟨h1, h2⟩ := h.at_ j u hj
  exact ⟨Nat.lt_of_lt_of_le h1 hw.fits, hw.old (by rw [add_block]; exact h1) h2⟩⟩
theorem Lies.part {w0 : World} {base : Nat} {a : Addr} {cs : List Value} (h : Lies w0 base a cs) (k n : Nat) : Lies w0 base (a.add k) ((cs.drop k).take n) := ⟨fun j u hj => by
  rw [List.getElem?_take] at hj
  split at hj
  · rw [List.getElem?_drop] at hj
    obtain ⟨h1, h2⟩ := h.at_ _ u hj
    exact ⟨by rw [add_block]; exact h1, by rw [Addr.add_add]; exact h2⟩
  · cases hj⟩
/-- who tells that cells lie at an address -/
abbrev Rd := Addr → List Value → Prop
/-- what a kind of plain value is in cells: it hangs on what is told alone -/
class Kept {α : Type} (A : Rd → List Value → α → Prop) : Prop where
  mono : ∀ {M M' : Rd} {cs : List Value} {x : α}, (∀ a c, M a c → M' a c) → A M cs x → A M' cs x
/-- a slice of them, each of n cells -/
structure SlA {α : Type} (n : Nat) (A : Rd → List Value → α → Prop) (M : Rd) (v : Value) (xs : List α) : Prop where
  ex : ∃ av cap, v = .slice av xs.length cap ∧ (xs.length ≤ 9223372036854775807 ∧ xs.length ≤ cap) ∧ ∀ i x, xs[i]? = some x → ∃ a cs, av = some a ∧ cs.length = n ∧ M (a.add (i * n)) cs ∧ A M cs x
theorem SlA.mono {α : Type} {n : Nat} {A : Rd → List Value → α → Prop} [Kept A] {M M' : Rd} {v : Value} {xs : List α} (hM : ∀ a c, M a c → M' a c) (h : SlA n A M v xs) : SlA n A M' v xs := ⟨by
  obtain ⟨av, cap, e, hb, h1⟩ := h.ex
  refine ⟨av, cap, e, hb, fun i x hx => ?_⟩
  obtain ⟨a, cs, e1, e2, e3, e4⟩ := h1 i x hx
  exact ⟨a, cs, e1, e2, hM _ _ e3, Kept.mono hM e4⟩⟩
/-- a text, a number -/
def strA (_ : Rd) (cs : List Value) (s : List UInt8) : Prop := cs = [.string ⟨s.toArray⟩]
def inI (z : Int) : Prop := -9223372036854775808 ≤ z ∧ z ≤ 9223372036854775807
def intA (_ : Rd) (cs : List Value) (z : Int) : Prop := cs = [.int .i64 z] ∧ inI z
instance : Kept strA := ⟨fun _ h => h⟩
instance : Kept intA := ⟨fun _ h => h⟩
instance {α : Type} {n : Nat} {A : Rd → List Value → α → Prop} [Kept A] : Kept (fun M cs (xs : List α) => ∃ v, cs = [v] ∧ SlA n A M v xs) := ⟨fun hM ⟨v, e, h⟩ => ⟨v, e, h.mono hM⟩⟩
/-- in a row that is owned -/
def InRow (ds : List It) : Rd := fun a cs => ∃ b c n e size ys off, It.row (some b) c n e size ys ∈ ds ∧ a = ⟨b, off, none⟩ ∧ (ys.drop off).take cs.length = cs
/-- in memory that was there, or in a row that is owned -/
def See (w0 : World) (base : Nat) (ds : List It) : Rd := fun a cs => Lies w0 base a cs ∨ InRow ds a cs
theorem See.more {w0 : World} {base : Nat} {ds ds' : List It} (h : ∀ it ∈ ds, it ∈ ds') : ∀ a c, See w0 base ds a c → See w0 base ds' a c := fun a c h1 => h1.elim .inl fun ⟨b, c', n, e, size, ys, off, hm, h2⟩ => .inr ⟨b, c', n, e, size, ys, off, h _ hm, h2⟩
theorem See.old {w0 : World} {base : Nat} {ds : List It} : ∀ a c, Lies w0 base a c → See w0 base ds a c := fun _ _ h => .inl h
theorem See.lies {w0 w : World} {base : Nat} {its : List It} (hw : WA w0 base its w) : ∀ a c, See w0 base its a c → Lies w w.heap.size a c := fun a c h => by
  rcases h with h | ⟨b, c', n, e, size, ys, off, hm, rfl, ht⟩
  · exact h.push hw
  · obtain ⟨j, hj⟩ := List.mem_iff_getElem?.1 hm
    refine ⟨fun k u hk => ?_⟩
    rw [← ht, List.getElem?_take] at hk
    split at hk
    · rw [List.getElem?_drop] at hk
      obtain ⟨h1, _, _⟩ := hw.rowCell hj hk
      rw [Option.getD_some] at h1
      rw [Addr.add_mid]
      have h2 := World.block_lt_of_cell? _ _ h1
      exact ⟨h2, h1⟩
    · cases hk
/-- where a slice's things lie -/
def SlAt {α : Type} (n : Nat) (A : Rd → List Value → α → Prop) (M : Rd) (av : Option Addr) (xs : List α) : Prop := ∀ i x, xs[i]? = some x → ∃ a cs, av = some a ∧ cs.length = n ∧ M (a.add (i * n)) cs ∧ A M cs x
theorem SlAt.mono {α : Type} {n : Nat} {A : Rd → List Value → α → Prop} [Kept A] {M M' : Rd} {av : Option Addr} {xs : List α} (hM : ∀ a c, M a c → M' a c) (h : SlAt n A M av xs) : SlAt n A M' av xs := fun i x hx => by
  obtain ⟨a, cs, e1, e2, e3, e4⟩ := h i x hx
  exact ⟨a, cs, e1, e2, hM _ _ e3, Kept.mono hM e4⟩
theorem SlAt.push {α : Type} {n : Nat} {A : Rd → List Value → α → Prop} [Kept A] {w0 w : World} {base : Nat} {its : List It} {av : Option Addr} {xs : List α} (h : SlAt n A (Lies w0 base) av xs) (hw : WA w0 base its w) : SlAt n A (Lies w w.heap.size) av xs := h.mono fun _ _ q => q.push hw
theorem SlAt.drop {α : Type} {n : Nat} {A : Rd → List Value → α → Prop} {M : Rd} {av : Option Addr} {xs : List α} (h : SlAt n A M av xs) (k : Nat) : SlAt n A M (av.map fun a => a.add (k * n)) (xs.drop k) := fun i x hx => by
  rw [List.getElem?_drop] at hx
  obtain ⟨a, cs, e1, e2, e3, e4⟩ := h _ x hx
  refine ⟨a.add (k * n), cs, by rw [e1]; rfl, e2, ?_, e4⟩
  rw [Addr.add_add, ← Nat.add_mul]; exact e3
theorem SlAt.take {α : Type} {n : Nat} {A : Rd → List Value → α → Prop} {M : Rd} {av : Option Addr} {xs : List α} (h : SlAt n A M av xs) (k : Nat) : SlAt n A M av (xs.take k) := fun i x hx => by
  rw [List.getElem?_take] at hx
  split at hx
  · exact h i x hx
  · cases hx
theorem SlAt.dropV {α : Type} {n : Nat} {A : Rd → List Value → α → Prop} {M : Rd} {av : Option Addr} {xs : List α} (h : SlAt n A M av xs) {c : Nat} (hc : xs.length ≤ c) (k : Nat) : SlAt n A M (if c = k then av else av.map fun a => a.add (k * n)) (xs.drop k) := by
  split
  · intro i x hx
    rw [List.drop_of_length_le (by omega)] at hx
    cases hx
  · exact h.drop k
theorem SlAt.int_at {M : Rd} {ak : Option Addr} {ks : List Int} (h : SlAt 1 intA M ak ks) {j : Nat} (hj : j < ks.length) : ∃ a, ak = some a ∧ M (a.add (j * 1)) [.int .i64 (ks.getD j 0)] ∧ inI (ks.getD j 0) := by
  obtain ⟨a, cs, e1, e2, e3, rfl, e4⟩ := h j _ (List.getElem?_eq_getElem hj)
  have e : ks.getD j 0 = ks[j] := by rw [List.getD_eq_getElem?_getD, List.getElem?_eq_getElem hj]; rfl
  rw [e]
  exact ⟨a, e1, e3, e4⟩
theorem SlA.sl {α : Type} {n : Nat} {A : Rd → List Value → α → Prop} {M : Rd} {v : Value} {xs : List α} (h : SlA n A M v xs) : ∃ av cap, v = .slice av xs.length cap ∧ (xs.length ≤ 9223372036854775807 ∧ xs.length ≤ cap) ∧ SlAt n A M av xs := h.ex
section
variable {P : Program} {ops : Array Oper} {n d : Nat} {D : List Deferred} {l : Fr} {W : World → Prop} {rest : List Oper} {o : Oper} {u v : Value} {x y : Operand} {t ty : TypeId} {Q : Exit → Act → World → Prop} {w0 : World} {base : Nat} {its : List It}
theorem run_loadVarA (w : World) (a : Addr) (ty : TypeId) (cs : List Value) (d : TypeDesc) (hc : ∀ j u, cs[j]? = some u → w.cell? (a.add j) = some u) (hu : P.underlying ty = some d) (hd : d.isRow = true) (hi : (P.info? ty).map (·.size) = some cs.length) :
    (loadVar ty a).run P w = .ok (.agg cs.toArray) w := by
  have hl : (loadCells a cs.length).run P w = .ok cs.toArray w := run_loadCells_list (P := P) w a cs hc
  cases hq : P.info? ty with
  | none => simp [hq] at hi
  | some i =>
    have hs : i.size = cs.length := by simpa [hq] using hi
    have hagg : (isAgg ty).run P w = .ok true w := by
      unfold isAgg
      rw [Sem.run_bind, run_underlying hu w]
      cases d <;> simp_all
    simp [loadVar, Sem.run_bind, hagg, sizeOf, typeInfo, hq, hs, hl]
theorem Y.loadAA {a : Addr} {k : Nat} {vs : List Value} (ht : AggT P t k) (hk : vs.length = k) (hx : evl l x = some (.pointer (some a))) (hc : ∀ w, W w → ∀ j u, vs[j]? = some u → w.cell? (a.add j) = some u) : Y P l W (.load t x) ty (.agg vs.toArray) := by
  intro ρ hρ o' ho ht' w hW
  obtain ⟨d, hu, hd⟩ := ht.un
  have hi := ht.info
  rw [← hk] at hi
  have h3 := run_loadVarA (P := P) w a t vs d (hc w hW) hu hd hi
  simp only [execOp, ho, hρ _ _ hx, Instr.loadAt, Instr.sureAddr, Sem.run_bind, Sem.run_pure, Result.andThen_ok, h3]
/-- what the call sees -/
theorem Y.ldAS {a : Addr} {k : Nat} {cs : List Value} {dl : List It} (ht : AggT P t k) (hx : evl l x = some (.pointer (some a))) (h : See w0 base dl a cs) (hs : ∀ it ∈ dl, it ∈ its) (hk : cs.length = k) : Y P l (WA w0 base its) (.load t x) ty (.agg cs.toArray) :=
  Y.loadAA ht hk hx fun w hw j u hj => ((See.lies hw _ _ (See.more hs _ _ h)).at_ j u hj).2
theorem Y.ldFS {a : Addr} {j : Nat} {cs : List Value} {dl : List It} (ht : One P t) (hx : evl l x = some (.pointer (some (a.add j)))) (h : See w0 base dl a cs) (hs : ∀ it ∈ dl, it ∈ its) (hj : cs[j]? = some v) : Y P l (WA w0 base its) (.load t x) ty v :=
  Y.load ht hx fun w hw => ((See.lies hw _ _ (See.more hs _ _ h)).at_ j v hj).2
theorem Y.ldAO {a : Addr} {k : Nat} {cs : List Value} (ht : AggT P t k) (hx : evl l x = some (.pointer (some a))) (h : Lies w0 base a cs) (hk : cs.length = k) : Y P l (WA w0 base its) (.load t x) ty (.agg cs.toArray) :=
  Y.loadAA ht hk hx fun w hw j u hj => ((h.push hw).at_ j u hj).2
theorem Y.ldFO {a : Addr} {j : Nat} {cs : List Value} (ht : One P t) (hx : evl l x = some (.pointer (some (a.add j)))) (h : Lies w0 base a cs) (hj : cs[j]? = some v) : Y P l (WA w0 base its) (.load t x) ty v :=
  Y.load ht hx fun w hw => ((h.push hw).at_ j v hj).2
/-- the only cell of what lies at an address -/
theorem Y.ldO1 {a : Addr} (ht : One P t) (hx : evl l x = some (.pointer (some a))) (h : Lies w0 base a [v]) : Y P l (WA w0 base its) (.load t x) ty v :=
  Y.load ht hx fun w hw => by have := ((h.push hw).at_ 0 v rfl).2; rwa [add_zero2] at this
/-! bits -/
theorem i64_and1 (n : Int) : Go.bits .and .i64 n 1 = n % 2 := by
  have h1 : (BitVec.ofInt 64 1).toNat = 2 ^ 1 - 1 := by decide
  have key : (BitVec.ofInt 64 n &&& BitVec.ofInt 64 1).toNat = (n % ((2 ^ 64 : Nat) : Int)).toNat % 2 ^ 1 := by
    rw [BitVec.toNat_and, BitVec.toNat_ofInt, h1, Nat.and_two_pow_sub_one_eq_mod]
  show IntKind.i64.wrap ((BitVec.ofInt 64 n &&& BitVec.ofInt 64 1).toNat : Nat) = n % 2
  rw [key, IntKind.wrap_i64]
  omega
theorem Y.and1 {a : Int} {ty2 : TypeId} (hx : evl l x = some (.int .i64 a)) (hy : evl l y = some (.int .i64 1)) : Y P l W (.binOp .and t x y ty2) ty (.int .i64 (a % 2)) := by
  rw [← i64_and1]; exact Y.andI hx hy
theorem Y.shr1 {a : Int} {k : IntKind} {ty2 : TypeId} (hx : evl l x = some (.int .i64 a)) (hy : evl l y = some (.int k 1)) : Y P l W (.binOp .shr t x y ty2) ty (.int .i64 (a / 2)) := by
  refine Y.bin hx hy fun w _ => ?_
  have h1 := shift_shr .i64 k a 1 (by omega) (by simp [IntKind.bits])
  simp only [eqGuard_shr, binOp_shr, h1, pure_bind, Sem.run_pure]
  rfl
/-! what several ways leave in one slot -/
theorem CX.seqSw {c c' : Code} (t : Nat) {y : Bool} (h1 : CX P n D (Exit.then (fun a w => Has n D a ((t, .bool y) :: l) ∧ W w) Q) l W c) (h2 : CX P n D Q ((t, .bool y) :: l) W c') : CX P n D Q l W (.seq c c') :=
  fun a w ha hW => wp_seq (wp_mono (h1 a w ha hW) fun e a' w' h => by
    cases e with
    | normal => exact h2 a' w' h.1 h.2
    | _ => exact h)
theorem PX.sw {l0 : Fr} {t : Nat} {y : Bool} (hs : Sub ((t, .bool y) :: l0) l) : PX n D (Exit.then (fun a w => Has n D a ((t, .bool y) :: l0) ∧ W w) Q) l W .normal := fun _ _ ha hW => ⟨ha.sub hs, hW⟩
theorem CX.seqV {c c' : Code} {l0 : Fr} (t : Nat) (u : Value) (_hs : Sub l0 l) (h1 : CX P n D (Exit.then (fun a w => Has n D a ((t, u) :: l0) ∧ W w) Q) l W c) (h2 : CX P n D Q ((t, u) :: l0) W c') : CX P n D Q l W (.seq c c') :=
  fun a w ha hW => wp_seq (wp_mono (h1 a w ha hW) fun e a' w' h => by
    cases e with
    | normal => exact h2 a' w' h.1 h.2
    | _ => exact h)
theorem PX.val {l0 : Fr} {t : Nat} {u : Value} (hs : Sub ((t, u) :: l0) l) : PX n D (Exit.then (fun a w => Has n D a ((t, u) :: l0) ∧ W w) Q) l W .normal := fun _ _ ha hW => ⟨ha.sub hs, hW⟩
/-- the same, and something that holds on every way -/
theorem CX.seqVF {c c' : Code} {l0 : Fr} (R : Prop) (t : Nat) (u : Value) (_hs : Sub l0 l) (h1 : CX P n D (Exit.then (fun a w => Has n D a ((t, u) :: l0) ∧ R ∧ W w) Q) l W c) (h2 : R → CX P n D Q ((t, u) :: l0) W c') : CX P n D Q l W (.seq c c') :=
  fun a w ha hW => wp_seq (wp_mono (h1 a w ha hW) fun e a' w' h => by
    cases e with
    | normal => exact h2 h.2.1 a' w' h.1 h.2.2
    | _ => exact h)
theorem PX.valF {l0 : Fr} {R : Prop} {t : Nat} {u : Value} (hR : R) (hs : Sub ((t, u) :: l0) l) : PX n D (Exit.then (fun a w => Has n D a ((t, u) :: l0) ∧ R ∧ W w) Q) l W .normal := fun _ _ ha hW => ⟨ha.sub hs, hR, hW⟩
theorem CX.swOr {l0 : Fr} {c : Code} {t : Nat} {b y : Bool} (hx : evl l x = some (.bool b)) (hs : Sub ((t, .bool b) :: l0) l) (h : b = false → CX P n D (Exit.then (fun a w => Has n D a ((t, .bool y) :: l0) ∧ W w) Q) l W c) :
    CX P n D (Exit.then (fun a w => Has n D a ((t, .bool (b || y)) :: l0) ∧ W w) Q) l W (.cond x .skip c) := by
  refine CX.cond hx (fun hb => ?_) (fun hb => ?_)
  · subst hb
    exact CX.skip (PX.sw hs)
  · subst hb
    exact h rfl
theorem CX.swAnd {l0 : Fr} {c : Code} {t : Nat} {b y : Bool} (hx : evl l x = some (.bool b)) (hs : Sub ((t, .bool b) :: l0) l) (h : b = true → CX P n D (Exit.then (fun a w => Has n D a ((t, .bool y) :: l0) ∧ W w) Q) l W c) :
    CX P n D (Exit.then (fun a w => Has n D a ((t, .bool (b && y)) :: l0) ∧ W w) Q) l W (.cond x c .skip) := by
  refine CX.cond hx (fun hb => ?_) (fun hb => ?_)
  · subst hb
    exact h rfl
  · subst hb
    exact CX.skip (PX.sw hs)
/-- a cell of a block that lies there -/
theorem Y.ldB0 {b j : Nat} {cs : List Value} (ht : One P t) (hx : evl l x = some (.pointer (some ⟨b, j, none⟩))) (h : Lies w0 base ⟨b, 0, none⟩ cs) (hj : cs[j]? = some v) : Y P l (WA w0 base its) (.load t x) ty v :=
  Y.load ht hx fun w hw => by have := ((h.push hw).at_ j v hj).2; rwa [Addr.add_mid, Nat.zero_add] at this
/-- a field's address -/
def FieldOffA (P : Program) (s : TypeId) (f off : Nat) : Prop := ∀ (a : Addr) (w : World), (Instr.fieldAt s (.pointer (some a)) f).run P w = .ok (.pointer (some (a.add off))) w
theorem Y.fieldA {s f off : Nat} {a : Addr} (hf : FieldOffA P s f off) (hx : evl l x = some (.pointer (some a))) : Y P l W (.fieldAddr s x f) ty (.pointer (some (a.add off))) := by
  intro ρ hρ o' ho ht w hW; simp [execOp, ho, hρ _ _ hx, hf a w]
/-- the address of an element of a slice that lies somewhere -/
theorem Y.idxZ {av : Option Addr} {a : Addr} {k c e size j : Nat} {z : Int} {kk : IntKind} (ht : P.underlying t = some (.slice e)) (hs : SizeIs P e size) (hx : evl l x = some (.slice av k c)) (hy : evl l y = some (.int kk z)) (hav : av = some a) (hz : z = (j : Int)) (hj : j < k) :
    Y P l W (.indexAddr t x y) ty (.pointer (some (a.add (j * size)))) := by
  subst hav; subst hz
  exact Y.idxA ht hs hx hy hj
theorem Y.idxRZ (j : Nat) {cap k e size i : Nat} {g : Option Nat} {xs : List Value} {z : Int} {kk : IntKind} (ht : P.underlying t = some (.slice e)) (hs : SizeIs P e size) (hx : evl l x = some (rv g k cap)) (hy : evl l y = some (.int kk z)) (hz : z = (i : Int))
    (hj : its[j]? = some (.row g cap k e size xs)) (hi : i < k) : Y P l (WA w0 base its) (.indexAddr t x y) ty (.pointer (some ⟨g.getD 0, i * size, none⟩)) := by
  subst hz
  exact Y.idxR j ht hs hx hy hj hi
theorem FnQ.toC [hst : Stab W] {f : FuncId} {args : Array Value} {v : Value} (h : FnQ P f args W v) : FnC P f args W (fun _ : Unit => v) (fun _ => W) := fun w hw => (h w hw).mono fun _ w' ⟨he, hb⟩ => ⟨(), he, hst.st w w' hw hb⟩
theorem Y.cutHiT {a : Option Addr} {k c e s b m : Nat} {yb : Operand} {kk : IntKind} (ht : P.underlying t = some (.slice e)) (hs : SizeIs P e s) (hx : evl l x = some (.slice a k c)) (hb : evl l yb = some (.int kk (b : Int))) (h : b ≤ c) (hm : m = b) : Y P l W (.slice t x none (some yb) none) ty (.slice a m c) := by
  subst hm; exact Y.cutHi ht hs hx hb h
theorem Y.cutBothT {a' b m : Nat} {a : Option Addr} {k c e s : Nat} {ya yb : Operand} {ka kb : IntKind} (ht : P.underlying t = some (.slice e)) (hs : SizeIs P e s) (hx : evl l x = some (.slice a k c)) (ha : evl l ya = some (.int ka (a' : Int))) (hb : evl l yb = some (.int kb (b : Int))) (h1 : a' ≤ b) (h2 : b ≤ c) (hm : m = b - a') :
    Y P l W (.slice t x (some ya) (some yb) none) ty (.slice (if c = a' then a else a.map fun q => q.add (a' * s)) m (c - a')) := by
  subst hm; exact Y.cutBoth ht hs hx ha hb h1 h2
theorem Y.cutLoT {a : Option Addr} {k c e s b m : Nat} {yb : Operand} {kk : IntKind} (ht : P.underlying t = some (.slice e)) (hs : SizeIs P e s) (hx : evl l x = some (.slice a k c)) (hb : evl l yb = some (.int kk (b : Int))) (h : b ≤ k) (hm : m = k - b) : Y P l W (.slice t x (some yb) none none) ty (.slice (if c = b then a else a.map fun q => q.add (b * s)) m (c - b)) := by
  subst hm; exact Y.cutLo ht hs hx hb h
/-- both ways on from a truth value, each to the end -/
theorem LX.caseB {m : Mode} {s : Nat} {b : Bool} (_hs : get l s = some (.bool b)) (hT : b = true → LX P ops n D m l W rest) (hF : b = false → LX P ops n D m l W rest) : LX P ops n D m l W rest := by
  cases b
  · exact hF rfl
  · exact hT rfl
theorem Y.mkFunc {g : Go.Fn} {ps qs : List Operand} {vs us : List Value} (hp : evals l ps = some vs) (hq : evals l qs = some us) : Y P l W (.makeFunc g ps.toArray qs.toArray) ty (.func g vs.toArray us.toArray) := by
  intro ρ hρ o' ho ht w hW
  have h1 : (ps.toArray.map ρ) = vs.toArray := by rw [List.map_toArray, evals_map hρ ps vs hp]
  have h2 : (qs.toArray.map ρ) = us.toArray := by rw [List.map_toArray, evals_map hρ qs us hq]
  simp [execOp, ho, h1, h2, Instr.makeFunc]
/-- a closure is called -/
theorem LX.callV {τ : Type} {v : τ → Value} {W' : τ → World → Prop} {f : FuncId} {ps : List Operand} {vs : List Value} {fst cap : Array Value} {ats : Array TypeId} (hc : FnC P f (fst ++ vs.toArray ++ cap) W v W') (hen : Enters P f)
    (ho : o.op = .call { callee := .value x, args := ps.toArray, argTypes := ats }) (hx : evl l x = some (.func (.func f) fst cap)) (hp : evals l ps = some vs) (hg : o.guard = none) (hd : o.dst = some d) (hdn : Nat.blt d n = true)
    (h : ∀ q, LX P ops n D (.plain Q) ((d, v q) :: l) (W' q) rest) : LX P ops n D (.plain Q) l W (o :: rest) := by
  intro a w ha hW
  have hr : (execOp a.eval o).run P w = .ok (.enter f (fst ++ vs.toArray ++ cap)) w := by
    have h1 : a.eval x = .func (.func f) fst cap := ha.eval _ _ hx
    have h2 : (ps.toArray.map a.eval) = vs.toArray := by rw [List.map_toArray, evals_map ha.eval ps vs hp]
    have h3 := hen (fst ++ vs.toArray ++ cap) w
    simp only [execOp, ho, resolve, h1, h2, Deferred.ofValue, invoke, Sem.run_bind, Sem.run_pure, Result.andThen_ok]
    simpa using h3
  unfold wpList
  rw [if_pos (wanted_none hg)]
  left
  unfold Oper.wp
  rw [hr]
  simp only [Oper.upon]
  refine (hc w hW).mono ?_
  rintro e' w' ⟨q, rfl, hq⟩
  simp only [hd]
  exact h q _ _ (ha.put hdn _) hq
/-- a call in any class of worlds -/
theorem FnC.re [Stab W] {τ : Type} {f : FuncId} {args : Array Value} {vv : τ → Value} (h : ∀ w, W w → FnC P f args (WA w w.heap.size []) vv (fun _ => WA w w.heap.size [])) : FnC P f args W vv (fun _ => W) :=
  fun w hw => (h w hw w (WA.start w)).mono fun _ w' ⟨q, he, hb⟩ => ⟨q, he, Stab.st w w' hw hb.below⟩
/-- one whose value is told of, too -/
theorem FnC.reO [Stab W] {τ : Type} {f : FuncId} {args : Array Value} {vv : τ → Value} {T : τ → World → Prop} (h : ∀ w, W w → FnC P f args (WA w w.heap.size []) vv (fun q w' => T q w' ∧ WA w w.heap.size [] w')) : FnC P f args W vv (fun q w' => T q w' ∧ W w') :=
  fun w hw => (h w hw w (WA.start w)).mono fun _ w' ⟨q, he, ht, hb⟩ => ⟨q, he, ht, Stab.st w w' hw hb.below⟩
/-- a function that only looks, as a call in any region -/
theorem FnC.quiet [Stab W] {f : FuncId} {args : Array Value} {v : Value} (h : ∀ w, W w → FnC P f args (WA w w.heap.size []) (fun _ : Unit => v) (fun _ => WA w w.heap.size [])) : FnQ P f args W v :=
  fun w hw => (h w hw w (WA.start w)).mono fun _ w' ⟨_, he, hb⟩ => ⟨he, hb.below⟩
theorem row_none2 {w : World} {base e size n cap : Nat} {xs : List Value} (h : w.ownsRow base e size (rv none n cap) n xs) : n = 0 ∧ cap = 0 := by
  rcases h.2 with ⟨hv, h0⟩ | ⟨b, cap', cur, hv, _⟩
  · injection hv with _ h1 h2
    exact ⟨h0, h2⟩
  · cases hv
theorem run_appendNil {e : TypeId} {ats : Array TypeId} {g : Option Addr} {m cp : Nat} {inf : TypeInfo} (he : P.underlying t = some (.slice e)) (hinf : P.info? e = some inf) (hat : ats = #[t, t]) (hm : m ≤ cp) (ty : TypeId) (w : World) :
    (Builtin.append_ ats ty #[.slice g m cp, .slice none 0 0]).run P w = .ok (.slice g m cp) w := by
  have e1 := run_underlying he w
  subst hat
  cases g <;> simp [Builtin.append_, e1, sizeOf, typeInfo, hinf, Builtin.lenOf, hm, Builtin.firstCells, loadCells, loadCellsFrom, storeCells]
/-- a row is laid behind another, or nothing is -/
theorem LX.appendRows (i j : Nat) {m C e size bytes cap k : Nat} {g g2 : Option Nat} {xs news : List Value} {ats : Array TypeId} (he : Elem P t e size bytes)
    (ho : o.op = .call { callee := .builtin .append, args := #[x, y], argTypes := ats }) (hat : ats = #[t, t])
    (hx : evl l x = some (rv g k cap)) (hy : evl l y = some (rv g2 m C)) (hi : its[i]? = some (.row g cap k e size xs)) (hj : its[j]? = some (.row g2 C m e size news)) (h1 : news.all (·.oneCell') = true)
    (hbytes : (k + m) * bytes ≤ 140737488355328) (h63 : k + m ≤ 9223372036854775807)
    (hg : o.guard = none) (hd : o.dst = some d) (hdn : Nat.blt d n = true)
    (h : ∀ g' cap', LX P ops n D (.plain Q) ((d, rv g' (k + m) cap') :: l) (WA w0 base (its.set i (.row g' cap' (k + m) e size (xs ++ news)))) rest) :
    LX P ops n D (.plain Q) l (WA w0 base its) (o :: rest) := by
  refine LX.effx (τ := Option Nat × Nat) (v := fun p => rv p.1 (k + m) p.2) (W' := fun p => WA w0 base (its.set i (.row p.1 p.2 (k + m) e size (xs ++ news)))) (fun ρ hρ w hW => ?_) hg hd hdn (fun p => h p.1 p.2)
  subst hat
  cases g2 with
  | none =>
    obtain ⟨rfl, rfl⟩ := row_none2 (hW.get hj)
    have hl := (row_len (hW.get hj)).1
    have hn : news = [] := List.eq_nil_of_length_eq_zero (by simpa using hl)
    subst hn
    obtain ⟨inf, z, e1, _⟩ := he.ex
    have hkc := (row_len (hW.get hi)).2
    have r1 := run_appendNil (P := P) (g := g.map fun b => ⟨b, 0, none⟩) he.ht e1 rfl hkc o.type w
    have hset : its.set i (.row g cap (k + 0) e size (xs ++ [])) = its := by
      rw [List.append_nil]
      have hlt : i < its.length := (List.getElem?_eq_some_iff.1 hi).1
      have hget : its[i] = .row g cap k e size xs := (List.getElem?_eq_some_iff.1 hi).2
      rw [Nat.add_zero, ← hget]; exact List.set_getElem_self hlt
    refine ⟨(g, cap), w, ?_, by show WA w0 base (its.set i (.row g cap (k + 0) e size (xs ++ []))) w; rw [hset]; exact hW⟩
    have r2 : (Builtin.append_ #[t, t] o.type #[rv g k cap, rv none 0 0]).run P w = .ok (rv g k cap) w := r1
    simp only [execOp, ho, resolve, invoke, builtin, Sem.run_bind, Sem.run_pure, Result.andThen_ok, List.map_toArray, List.map_cons, List.map_nil, hρ _ _ hx, hρ _ _ hy, r2]
    rfl
  | some b =>
    have hl := (row_len (hW.get hj)).1
    obtain ⟨g', cap', w', r1, r2⟩ := hW.append he hi ⟨b, 0, none⟩ m C news hl (fun q u hu => by have := (hW.rowCell hj hu).1; rw [Addr.add_mid, Nat.zero_add]; simpa using this) (List.all_eq_true.1 h1) hbytes (by unfold maxLen; omega) o.type
    refine ⟨(g', cap'), w', ?_, r2⟩
    have r3 : (Builtin.append_ #[t, t] o.type #[rv g k cap, rv (some b) m C]).run P w = .ok (rv g' (k + m) cap') w' := r1
    simp only [execOp, ho, resolve, invoke, builtin, Sem.run_bind, Sem.run_pure, Result.andThen_ok, List.map_toArray, List.map_cons, List.map_nil, hρ _ _ hx, hρ _ _ hy, r3]
theorem WA.rot3 {a b c e : It} {r : List It} {w : World} (hw : WA w0 base (e :: a :: b :: c :: r) w) : WA w0 base (a :: b :: c :: e :: r) w := hw.perm (List.perm_append_comm_assoc [a, b, c] [e] r)
theorem WA.nilRow3 {a b : It} {r : List It} {w : World} (hw : WA w0 base (a :: b :: r) w) (e size : Nat) : WA w0 base (a :: b :: .row none 0 0 e size [] :: r) w := (hw.nilRow e size).perm (List.perm_append_comm_assoc [a, b] [.row none 0 0 e size []] r)
/-- numbers in a row -/
def iv (z : Int) : Value := .int .i64 z
theorem made_iv (n : Nat) : (madeCells (Value.int .i64 0).cells (n * 1)).toList = (List.replicate n 0).map iv := by
  rw [Nat.mul_one]
  refine List.ext_getElem (by simp [madeCells]) fun i h1 h2 => ?_
  simp [madeCells, Value.cells, iv, Nat.mod_one]
theorem iv_set (H : List Int) (k : Nat) (z : Int) : (H.map iv).set k (iv z) = (H.set k z).map iv := by rw [List.map_set]
theorem iv_at {H : List Int} {k : Nat} {z : Int} (h : H[k]? = some z) : (H.map iv)[k * 1]? = some (iv z) := by rw [Nat.mul_one, List.getElem?_map, h]; rfl
/-- a row that was made, as a slice of plain values -/
theorem row_sl {α : Type} {size : Nat} {A : Rd → List Value → α → Prop} {M : Rd} {ds : List It} {g : Option Nat} {c e : Nat} {ys : List Value} {xs : List α} (hm : It.row g c xs.length e size ys ∈ ds) (hl : ys.length = xs.length * size) (hg : 0 < xs.length → g.isSome = true) (hM : ∀ a c, InRow ds a c → M a c) (hbn : xs.length ≤ 9223372036854775807 ∧ xs.length ≤ c)
    (hA : ∀ i z, xs[i]? = some z → A M ((ys.drop (i * size)).take size) z) : SlA size A M (rv g xs.length c) xs := ⟨by
  refine ⟨_, c, rfl, hbn, fun i z hz => ?_⟩
  have hi : i < xs.length := (List.getElem?_eq_some_iff.1 hz).1
  have hle : (i + 1) * size ≤ ys.length := by rw [hl]; exact Nat.mul_le_mul_right _ hi
  rw [Nat.add_mul, Nat.one_mul] at hle
  obtain ⟨b, rfl⟩ := Option.isSome_iff_exists.1 (hg (by omega))
  have hln : ((ys.drop (i * size)).take size).length = size := by rw [List.length_take, List.length_drop]; omega
  exact ⟨⟨b, 0, none⟩, (ys.drop (i * size)).take size, rfl, hln, hM _ _ ⟨b, c, _, e, size, ys, i * size, hm, by rw [Addr.add_mid, Nat.zero_add], by rw [hln]⟩, hA i z hz⟩⟩
end
section
variable {H : Type} {enc : TypeId × Value → H} {P : Program} {w : World} {spare : Nat → Bool} {held : Bool}
theorem exists_list {α : Type} {R : Nat → α → Prop} : ∀ n, (∀ i, i < n → ∃ x, R i x) → ∃ xs : List α, xs.length = n ∧ ∀ i x, xs[i]? = some x → R i x
  | 0, _ => ⟨[], rfl, fun i x h => by cases h⟩
  | n + 1, h => by
    obtain ⟨xs, h1, h2⟩ := exists_list n (fun i hi => h i (by omega))
    obtain ⟨y, hy⟩ := h n (by omega)
    refine ⟨xs ++ [y], by simp [h1], fun i x hx => ?_⟩
    rcases Nat.lt_or_ge i xs.length with hi | hi
    · rw [List.getElem?_append_left hi] at hx
      exact h2 i x hx
    · rw [List.getElem?_append_right hi] at hx
      have hz : i - xs.length = 0 := by
        have := (List.getElem?_eq_some_iff.1 hx).1
        simpa using this
      rw [hz] at hx
      cases hx
      have : i = n := by omega
      subst this
      exact hy
/-- what an argument that is a slice reads as -/
theorem slA_of_trod {α : Type} {A : Rd → List Value → α → Prop} {t e n : Nat} {fuel : Nat} {v : Value} {z : DataW H × List MemPlace} (hu : P.underlying t = some (.slice e)) (hn : P.cellsOf e = n) (hn0 : 0 < n)
    (hA : ∀ fuel cs y, cs.length = n → DataW.trod enc P w 0 spare held fuel e cs = some y → ∃ x, A (Lies w w.heap.size) cs x) (h : DataW.trod enc P w 0 spare held fuel t [v] = some z) : ∃ xs, SlA n A (Lies w w.heap.size) v xs := by
  rcases DataW.trod_slice hu h with ⟨hv, _⟩ | ⟨a, len, cap, elems, rest, m, _, hv, _, _, hl, hmx, hlen, hel, _⟩
  · cases hv
    exact ⟨[], ⟨none, 0, rfl, ⟨by simp, Nat.le_refl _⟩, fun i x hx => by cases hx⟩⟩
  · cases hv
    rw [hn] at hel
    have key : ∀ i, i < len → ∃ cs x, cs.length = n ∧ Lies w w.heap.size (a.add (i * n)) cs ∧ A (Lies w w.heap.size) cs x := by
      intro i hi
      have h1 := hel i hi
      rw [List.getElem?_eq_getElem (by omega)] at h1
      obtain ⟨cs, hcs, htr⟩ := Option.bind_eq_some_iff.1 h1
      have hc := hcs
      unfold World.cells? at hc
      rw [if_pos (Nat.zero_le _)] at hc
      have hlen' : cs.length = n := by have := mapM_some_length hc; simpa using this
      obtain ⟨x, hx⟩ := hA _ _ _ hlen' htr
      refine ⟨cs, x, hlen', ⟨fun j u hj => ?_⟩, hx⟩
      have hj' : j < n := by have := (List.getElem?_eq_some_iff.1 hj).1; omega
      have h2 := mapM_some_get hc j j (by simp [hj'])
      rw [hj] at h2
      exact ⟨by have := World.block_lt_of_cell? _ _ h2; rwa [add_block] at this, h2⟩
    obtain ⟨xs, hxl, hxs⟩ := exists_list (R := fun i x => ∃ cs, cs.length = n ∧ Lies w w.heap.size (a.add (i * n)) cs ∧ A (Lies w w.heap.size) cs x) len (fun i hi => by
      obtain ⟨cs, x, h1, h2, h3⟩ := key i hi
      exact ⟨x, cs, h1, h2, h3⟩)
    subst hxl
    refine ⟨xs, ⟨some a, cap, rfl, ⟨by unfold maxLen at hmx; omega, hl⟩, fun i x hx => ?_⟩⟩
    obtain ⟨cs, h1, h2, h3⟩ := hxs i x hx
    exact ⟨a, cs, rfl, h1, h2, h3⟩
end
end Go.SX
