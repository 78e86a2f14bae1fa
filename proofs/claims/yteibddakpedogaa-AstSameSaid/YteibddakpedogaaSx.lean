/-
  Proved here: rules for walking a Go function in the model: frames as lists of slots, assertions on memory that a call owns, one rule for each kind of operation, for calls, branches, loops and returns. Nothing of any one program stands here.
-/
import Derived.WalkKit
import Derived.WalkLawsBesides
import Derived.WalkSpells
import Derived.Deep.Quiet
import Derived.Below
import Derived.OrdersHeld
import Derived.Laws.BytesArg
import Derived.Lib.Bytealg
namespace Go.SX
open Go.RowKit

/-! frames -/
abbrev Fr := List (Nat × Value)
def get : Fr → Nat → Option Value
  | [], _ => none
  | (k, v) :: t, i => match Nat.beq k i with | true => some v | false => get t i
theorem get_cons_same (d : Nat) (v : Value) (l : Fr) : get ((d, v) :: l) d = some v := by simp [get]
theorem get_cons_ne {d i : Nat} (v : Value) (l : Fr) (h : d ≠ i) : get ((d, v) :: l) i = get l i := by
  have : Nat.beq d i = false := by simpa [← Bool.not_eq_true] using h
  simp [get, this]
structure Has (n : Nat) (D : List Deferred) (a : Act) (l : Fr) : Prop where
  size : a.tmps.size = n
  defs : a.defers = D
  slot : ∀ i v, get l i = some v → a.tmps[i]? = some v
def evl (l : Fr) : Operand → Option Value
  | .tmp t => get l t
  | .const v => some v
  | .global g => some (.pointer (some ⟨g, 0, none⟩))
  | .func f => some (.func (.func f) #[] #[])
theorem Has.eval {n : Nat} {D : List Deferred} {a : Act} {l : Fr} (h : Has n D a l) : ∀ x u, evl l x = some u → a.eval x = u := by
  intro x u hx
  cases x with
  | tmp t =>
    have := h.slot t u hx
    simp [Act.eval, this]
  | const v => simpa [evl, Act.eval] using hx
  | global g => simpa [evl, Act.eval] using hx
  | func f => simpa [evl, Act.eval] using hx
theorem Has.put {n : Nat} {D : List Deferred} {a : Act} {l : Fr} (h : Has n D a l) {d : Nat} (hd : Nat.blt d n = true) (v : Value) :
    Has n D (a.put (some d) v) ((d, v) :: l) := by
  have hd' : d < n := by simpa using hd
  refine ⟨by simp [Act.put, h.size], by simp [Act.put, h.defs], fun i u hu => ?_⟩
  by_cases hi : d = i
  · subst hi
    rw [get_cons_same] at hu
    cases hu
    simp [Act.put, h.size, hd']
  · rw [get_cons_ne _ _ hi] at hu
    have := h.slot i u hu
    simp [Act.put, hi, this]
def Sub : Fr → Fr → Prop
  | [], _ => True
  | (k, v) :: t, l => get l k = some v ∧ Sub t l
theorem Sub.get {l' l : Fr} (h : Sub l' l) : ∀ i v, get l' i = some v → get l i = some v := by
  induction l' with
  | nil => intro i v hi; cases hi
  | cons p t ih =>
    intro i v hi
    unfold Go.SX.get at hi
    split at hi
    · rename_i hb
      have : p.1 = i := by simpa using hb
      cases hi
      rw [← this]; exact h.1
    · exact ih h.2 i v hi
theorem Has.sub {n : Nat} {D : List Deferred} {a : Act} {l l' : Fr} (h : Has n D a l) (hs : Sub l' l) : Has n D a l' :=
  ⟨h.size, h.defs, fun i v hi => h.slot i v (hs.get i v hi)⟩
theorem Has.yielded {n : Nat} {D : List Deferred} {a : Act} {l : Fr} {ops : Array Oper} {j s : Nat} {b : Bool} (h : Has n D a l)
    (hj : (ops[j]?).bind (·.dst) = some s) (hs : Go.SX.get l s = some (.bool b)) : yielded ops a.tmps j = some b := by
  unfold Go.yielded
  rw [hj]
  simp [h.slot s _ hs]

/-! the world's classes -/
class Stab (W : World → Prop) : Prop where
  st : ∀ w w', W w → Below w.heap.size w w' → W w'
theorem Stab.drew {W : World → Prop} [s : Stab W] {w : World} (h : W w) : W w.drew := s.st w w.drew h ((Below.refl _ _).drew)

/-! lists of operations -/
inductive Mode where
  | plain (Q : Exit → Act → World → Prop)
  | quiet (R : Act → Prop)
variable {P : Program} {ops : Array Oper} {n : Nat} {D : List Deferred} {m : Mode} {l l' : Fr} {W W' : World → Prop} {rest : List Oper} {o : Oper} {d : Nat} {v : Value}
def LX (P : Program) (ops : Array Oper) (n : Nat) (D : List Deferred) : Mode → Fr → (World → Prop) → List Oper → Prop
  | .plain Q, l, W, rest => ∀ a w, Has n D a l → W w → wpList P ops Q rest a w
  | .quiet R, l, W, rest => ∀ a, Has n D a l → wpQuiet P ops W R rest a
/-- An operation that only computes or reads: its value. -/
def Y (P : Program) (l : Fr) (W : World → Prop) (o : Op) (ty : TypeId) (v : Value) : Prop :=
  ∀ (ρ : Operand → Value), (∀ x u, evl l x = some u → ρ x = u) → ∀ (o' : Oper), o'.op = o → o'.type = ty → ∀ w, W w → (execOp ρ o').run P w = .ok (.value v) w
theorem wanted_none {y : Nat → Option Bool} (hg : o.guard = none) : Region.wanted o y = true := by simp [Region.wanted, hg]
theorem LX.step1 (hw : ∀ a, Has n D a l → Region.wanted o (yielded ops a.tmps) = true) (hy : Y P l W o.op o.type v) (hd : o.dst = some d) (hdn : Nat.blt d n = true)
    (h : LX P ops n D m ((d, v) :: l) W rest) : LX P ops n D m l W (o :: rest) := by
  cases m with
  | plain Q =>
    intro a w ha hW
    unfold wpList
    rw [if_pos (hw a ha)]
    left
    unfold Oper.wp
    rw [hy a.eval ha.eval o rfl rfl w hW]
    simp only [Oper.upon, hd]
    exact h _ _ (ha.put hdn v) hW
  | quiet R =>
    intro a ha
    unfold wpQuiet
    rw [if_pos (hw a ha)]
    refine ⟨v, fun w hW => ?_, ?_⟩
    · unfold Oper.quietAt
      rw [hy a.eval ha.eval o rfl rfl w hW]
      exact ⟨rfl, rfl⟩
    · rw [hd]; exact h _ (ha.put hdn v)
theorem LX.pure (hy : Y P l W o.op o.type v) (hg : o.guard = none) (hd : o.dst = some d) (hdn : Nat.blt d n = true)
    (h : LX P ops n D m ((d, v) :: l) W rest) : LX P ops n D m l W (o :: rest) := LX.step1 (fun _ _ => wanted_none hg) hy hd hdn h
/-- A guarded operation whose guard holds. -/
theorem LX.gT {j s : Nat} {b want : Bool} (hg : o.guard = some (j, want)) (hj : (ops[j]?).bind (·.dst) = some s) (hs : get l s = some (.bool b)) (hb : b = want)
    (hy : Y P l W o.op o.type v) (hd : o.dst = some d) (hdn : Nat.blt d n = true)
    (h : LX P ops n D m ((d, v) :: l) W rest) : LX P ops n D m l W (o :: rest) :=
  LX.step1 (fun a ha => by simp [Region.wanted, hg, ha.yielded hj hs, hb]) hy hd hdn h
/-- A guarded operation whose guard fails. -/
theorem LX.gF {j s : Nat} {b want : Bool} (hg : o.guard = some (j, want)) (hj : (ops[j]?).bind (·.dst) = some s) (hs : get l s = some (.bool b)) (hb : b = !want)
    (hd : o.dst = some d) (hdn : Nat.blt d n = true)
    (h : LX P ops n D m ((d, undef) :: l) W rest) : LX P ops n D m l W (o :: rest) := by
  have hw : ∀ a, Has n D a l → Region.wanted o (yielded ops a.tmps) = false := fun a ha => by
    simp only [Region.wanted, hg, ha.yielded hj hs, hb]
    cases want <;> rfl
  cases m with
  | plain Q =>
    intro a w ha hW
    unfold wpList
    rw [if_neg (by simp [hw a ha]), hd]
    exact h _ _ (ha.put hdn _) hW
  | quiet R =>
    intro a ha
    unfold wpQuiet
    rw [if_neg (by simp [hw a ha]), hd]
    exact h _ (ha.put hdn _)
/-- A guarded operation whose guard was not carried out. -/
theorem LX.gU {j s : Nat} {want : Bool} (hg : o.guard = some (j, want)) (hj : (ops[j]?).bind (·.dst) = some s) (hs : get l s = some undef)
    (hd : o.dst = some d) (hdn : Nat.blt d n = true)
    (h : LX P ops n D m ((d, undef) :: l) W rest) : LX P ops n D m l W (o :: rest) := by
  have hw : ∀ a, Has n D a l → Region.wanted o (yielded ops a.tmps) = false := fun a ha => by
    have := ha.slot s _ hs
    simp [Region.wanted, hg, Go.yielded, hj, this, undef]
  cases m with
  | plain Q =>
    intro a w ha hW
    unfold wpList
    rw [if_neg (by simp [hw a ha]), hd]
    exact h _ _ (ha.put hdn _) hW
  | quiet R =>
    intro a ha
    unfold wpQuiet
    rw [if_neg (by simp [hw a ha]), hd]
    exact h _ (ha.put hdn _)
theorem LX.sub (hs : Sub l' l) (h : LX P ops n D m l' W rest) : LX P ops n D m l W rest := by
  cases m with
  | plain Q => exact fun a w ha hW => h a w (ha.sub hs) hW
  | quiet R => exact fun a ha => h a (ha.sub hs)
theorem LX.world {Q : Exit → Act → World → Prop} (hw : ∀ w, W w → W' w) (h : LX P ops n D (.plain Q) l W' rest) : LX P ops n D (.plain Q) l W rest :=
  fun a w ha hW => h a w ha (hw w hW)
theorem LX.have {Q : Exit → Act → World → Prop} {R : Prop} (h : R → LX P ops n D (.plain Q) l W rest) : LX P ops n D (.plain Q) l (fun w => R ∧ W w) rest :=
  fun a w ha hW => h hW.1 a w ha hW.2

/-! monotony and appending -/
theorem Oper.upon_mono {o : Oper} {a : Act} {next next' : Act → World → Prop} {Q Q' : Exit → Act → World → Prop} (hn : ∀ a w, next a w → next' a w)
    (hq : ∀ e a w, e ≠ .normal → Q e a w → Q' e a w) {r : Result Next} (h : o.upon P a next Q r) : o.upon P a next' Q' r := by
  unfold Oper.upon at *
  split at h
  · exact hn _ _ h
  · exact hn _ _ h
  · exact hn _ _ h
  · exact h.mono fun e w' he => by
      cases e with
      | returned v => exact hn _ _ he
      | panicked c => exact hq _ _ _ (by simp) he
      | outgrown => obtain ⟨a, w, h⟩ := he; exact ⟨a, w, hq _ _ _ (by simp) h⟩
  · exact h.mono fun v w' hv => hn _ _ hv
  · exact hq _ _ _ (by simp) h
  · exact h
theorem wpList_append {Q Q' : Exit → Act → World → Prop} (rest : List Oper) : ∀ (seg : List Oper) (a : Act) (w : World), wpList P ops Q seg a w →
    (∀ a w, Q .normal a w → wpList P ops Q' rest a w) → (∀ e a w, e ≠ .normal → Q e a w → Q' e a w) → wpList P ops Q' (seg ++ rest) a w
  | [], a, w, h, hr, _ => hr a w h
  | o :: seg, a, w, h, hr, hq => by
    simp only [List.cons_append]
    unfold wpList at h ⊢
    split at h
    · rename_i hw
      rw [if_pos hw]
      rcases h with h | ⟨h1, a0, w0, h2⟩
      · left
        exact Oper.upon_mono (fun a w h => wpList_append rest seg a w h hr hq) hq h
      · right
        exact ⟨h1, a0, w0, hq _ _ _ (by simp) h2⟩
    · rename_i hw
      rw [if_neg hw]
      exact wpList_append rest seg _ _ h hr hq
theorem wpQuiet_append {C : World → Prop} {R : Act → Prop} (rest : List Oper) : ∀ (seg : List Oper) (a : Act), wpQuiet P ops C (fun a => wpQuiet P ops C R rest a) seg a → wpQuiet P ops C R (seg ++ rest) a
  | [], _, h => h
  | o :: seg, a, h => by
    simp only [List.cons_append]
    unfold wpQuiet at h ⊢
    split at h
    · rename_i hw
      rw [if_pos hw]
      exact Oper.quiet_mono (fun a h => wpQuiet_append rest seg a h) h
    · rename_i hw
      rw [if_neg hw]
      exact wpQuiet_append rest seg _ h
/-- the mode in which a piece leaves a frame -/
def Mode.leaves (n : Nat) (D : List Deferred) (l' : Fr) (W : World → Prop) : Mode → Mode
  | .plain _ => .plain (fun e a w => e = .normal ∧ Has n D a l' ∧ W w)
  | .quiet _ => .quiet (fun a => Has n D a l')
theorem LX.cut {seg rest : List Oper} (h1 : LX P ops n D (m.leaves n D l' W) l W seg) (h2 : LX P ops n D m l' W rest) : LX P ops n D m l W (seg ++ rest) := by
  cases m with
  | plain Q =>
    intro a w ha hW
    refine wpList_append rest seg a w (h1 a w ha hW) (fun a w h => h2 a w h.2.1 h.2.2) (fun e a w he h => absurd h.1 he)
  | quiet R =>
    intro a ha
    refine wpQuiet_append rest seg a ?_
    have h := h1 a ha
    exact wpQuiet_mono (fun a h => h2 a h) seg a h
where
  wpQuiet_mono {C : World → Prop} {R R' : Act → Prop} (hr : ∀ a, R a → R' a) : ∀ (seg : List Oper) (a : Act), wpQuiet P ops C R seg a → wpQuiet P ops C R' seg a
    | [], a, h => hr a h
    | o :: seg, a, h => by
      unfold wpQuiet at h ⊢
      split at h
      · rename_i hw
        rw [if_pos hw]
        exact Oper.quiet_mono (fun a h => wpQuiet_mono hr seg a h) h
      · rename_i hw
        rw [if_neg hw]
        exact wpQuiet_mono hr seg _ h
theorem LX.left (hs : Sub l' l) : LX P ops n D (m.leaves n D l' W) l W [] := by
  cases m with
  | plain Q => exact fun a w ha hW => ⟨rfl, ha.sub hs, hW⟩
  | quiet R => exact fun a ha => ha.sub hs
/-- Two ways through guarded operations that meet again ('&&', '||'): what they leave in slot r is a Bool. -/
theorem LX.joinAnd (k r s : Nat) {b y : Bool} {all : List Oper} (_hs : get l s = some (.bool b))
    (hT : b = true → LX P ops n D (m.leaves n D ((r, .bool y) :: l) W) l W (all.take k))
    (hF : b = false → LX P ops n D (m.leaves n D ((r, .bool false) :: l) W) l W (all.take k))
    (h : LX P ops n D m ((r, .bool (b && y)) :: l) W (all.drop k)) : LX P ops n D m l W all := by
  rw [← List.take_append_drop k all]
  refine LX.cut (l' := (r, .bool (b && y)) :: l) ?_ h
  cases b
  · exact hF rfl
  · exact hT rfl
theorem LX.joinOr (k r s : Nat) {b y : Bool} {all : List Oper} (_hs : get l s = some (.bool b))
    (hT : b = true → LX P ops n D (m.leaves n D ((r, .bool true) :: l) W) l W (all.take k))
    (hF : b = false → LX P ops n D (m.leaves n D ((r, .bool y) :: l) W) l W (all.take k))
    (h : LX P ops n D m ((r, .bool (b || y)) :: l) W (all.drop k)) : LX P ops n D m l W all := by
  rw [← List.take_append_drop k all]
  refine LX.cut (l' := (r, .bool (b || y)) :: l) ?_ h
  cases b
  · exact hF rfl
  · exact hT rfl
end Go.SX
namespace Go.SX
open Go.RowKit
variable {P : Program} {l : Fr} {W : World → Prop} {ty t : TypeId} {v u : Value} {x y : Operand}
/-! operations that compute -/
theorem Y.move (hx : evl l x = some v) : Y P l W (.move x) ty v := by
  intro ρ hρ o' ho ht w hW; simp [execOp, ho, hρ _ _ hx]
theorem Y.assign (hx : evl l x = some v) : Y P l W (.assign x) ty v := by
  intro ρ hρ o' ho ht w hW; simp [execOp, ho, hρ _ _ hx]
theorem Y.pickT {c : Operand} {b : Bool} (hc : evl l c = some (.bool b)) (hb : b = true) (hx : evl l x = some v) : Y P l W (.pick c x y) ty v := by
  intro ρ hρ o' ho ht w hW; subst hb; simp [execOp, ho, hρ _ _ hx, hρ _ _ hc, asBool]
theorem Y.pickF {c : Operand} {b : Bool} (hc : evl l c = some (.bool b)) (hb : b = false) (hy : evl l y = some v) : Y P l W (.pick c x y) ty v := by
  intro ρ hρ o' ho ht w hW; subst hb; simp [execOp, ho, hρ _ _ hy, hρ _ _ hc, asBool]
theorem Y.pickB {c : Operand} {b p q : Bool} (hc : evl l c = some (.bool b)) (hx : evl l x = some (.bool p)) (hy : evl l y = some (.bool q)) : Y P l W (.pick c x y) ty (.bool (cond b p q)) := by
  intro ρ hρ o' ho ht w hW; cases b <;> simp [execOp, ho, hρ _ _ hx, hρ _ _ hy, hρ _ _ hc, asBool]
theorem Y.nilCheck {a : Addr} (hx : evl l x = some (.pointer (some a))) : Y P l W (.nilCheck x) ty (.pointer (some a)) := by
  intro ρ hρ o' ho ht w hW; simp [execOp, ho, hρ _ _ hx]
/-- where a field lies -/
def FieldOff (P : Program) (s : TypeId) (f off : Nat) : Prop := ∀ (b o : Nat) (w : World), (Instr.fieldAt s (.pointer (some ⟨b, o, none⟩)) f).run P w = .ok (.pointer (some ⟨b, o + off, none⟩)) w
theorem Y.fieldAddr {s f off b o : Nat} (hf : FieldOff P s f off) (hx : evl l x = some (.pointer (some ⟨b, o, none⟩))) : Y P l W (.fieldAddr s x f) ty (.pointer (some ⟨b, o + off, none⟩)) := by
  intro ρ hρ o' ho ht w hW; simp [execOp, ho, hρ _ _ hx, hf b o w]
theorem Y.fieldAddr0 {s f off b : Nat} (hf : FieldOff P s f off) (hx : evl l x = some (.pointer (some ⟨b, 0, none⟩))) : Y P l W (.fieldAddr s x f) ty (.pointer (some ⟨b, off, none⟩)) := by
  have := Y.fieldAddr (W := W) (ty := ty) hf hx
  rwa [Nat.zero_add] at this
/-- a type of one cell -/
def One (P : Program) (t : TypeId) : Prop := ∀ (w : World), (isAgg t).run P w = .ok false w
theorem Y.load {a : Addr} (ht1 : One P t) (hx : evl l x = some (.pointer (some a))) (hc : ∀ w, W w → w.cell? a = some v) : Y P l W (.load t x) ty v := by
  intro ρ hρ o' ho ht w hW
  have h1 := ht1 w
  have h2 := hc w hW
  simp [execOp, ho, hρ _ _ hx, Instr.loadAt, Instr.sureAddr, loadVar, h1, h2]
theorem Y.extract {vs : Array Value} {k : Nat} (hx : evl l x = some (.tuple vs)) (hk : vs[k]? = some v) : Y P l W (.extract x k) ty v := by
  intro ρ hρ o' ho ht w hW; simp [execOp, ho, hρ _ _ hx, Instr.extract, hk]
theorem Y.not {b : Bool} (hx : evl l x = some (.bool b)) : Y P l W (.unOp .not t x) ty (.bool (!b)) := by
  intro ρ hρ o' ho ht w hW; simp [execOp, ho, hρ _ _ hx, Op.unary]
section ints
variable {k : IntKind} {a b : Int} {ty2 : TypeId}
theorem Y.bin {op : BinOp} (hx : evl l x = some u) (hy : evl l y = some v) {r : Value} (hr : ∀ w, W w → ((do eqGuard op t x y u v; binOp op t u v) : Sem Value).run P w = .ok r w) : Y P l W (.binOp op t x y ty2) ty r := by
  intro ρ hρ o' ho ht w hW
  have := hr w hW
  simp only [execOp, ho, hρ _ _ hx, hρ _ _ hy]
  rw [Sem.run_bind, this]
  simp
theorem Y.bin2 {op : BinOp} (hx : evl l x = some u) (hy : evl l y = some v) {r : Value} (hr : ∀ w, W w → ((do eqGuard op t x y u v; binOp op t u v) : Sem Value).run P w = .ok r w) : Y P l W (.binOp op t x y ty2) ty r := Y.bin hx hy hr
theorem Y.add (hx : evl l x = some (.int .i64 a)) (hy : evl l y = some (.int .i64 b)) (h : -9223372036854775808 ≤ a + b ∧ a + b ≤ 9223372036854775807) : Y P l W (.binOp .add t x y ty2) ty (.int .i64 (a + b)) := by
  refine Y.bin hx hy fun w _ => ?_
  simp [eqGuard_add, binOp_add, Op.intArith, IntWalk.i64_in _ h]
theorem Y.sub (hx : evl l x = some (.int .i64 a)) (hy : evl l y = some (.int .i64 b)) (h : -9223372036854775808 ≤ a - b ∧ a - b ≤ 9223372036854775807) : Y P l W (.binOp .sub t x y ty2) ty (.int .i64 (a - b)) := by
  refine Y.bin hx hy fun w _ => ?_
  simp [eqGuard_sub, binOp_sub, Op.intArith, IntWalk.i64_in _ h]
theorem Y.mul (hx : evl l x = some (.int .i64 a)) (hy : evl l y = some (.int .i64 b)) (h : -9223372036854775808 ≤ a * b ∧ a * b ≤ 9223372036854775807) : Y P l W (.binOp .mul t x y ty2) ty (.int .i64 (a * b)) := by
  refine Y.bin hx hy fun w _ => ?_
  simp [eqGuard_mul, binOp_mul, Op.intArith, IntWalk.i64_in _ h]
theorem Y.arith {op : BinOp} (hop : op = .add ∨ op = .sub ∨ op = .mul) (hx : evl l x = some (.int k a)) (hy : evl l y = some (.int k b)) : Y P l W (.binOp op t x y ty2) ty (.int k (k.wrap (match op with | .add => a + b | .sub => a - b | _ => a * b))) := by
  refine Y.bin hx hy fun w _ => ?_
  rcases hop with rfl | rfl | rfl <;> simp [eqGuard_add, eqGuard_sub, eqGuard_mul, binOp_add, binOp_sub, binOp_mul, Op.intArith]
theorem Y.eqI (hx : evl l x = some (.int k a)) (hy : evl l y = some (.int k b)) : Y P l W (.binOp .eql t x y ty2) ty (.bool (decide (a = b))) := by
  refine Y.bin hx hy fun w _ => ?_
  simp [eqGuard_at_int, binOp_eql]; rfl
theorem Y.neI (hx : evl l x = some (.int k a)) (hy : evl l y = some (.int k b)) : Y P l W (.binOp .neq t x y ty2) ty (.bool (!decide (a = b))) := by
  refine Y.bin hx hy fun w _ => ?_
  simp [eqGuard_at_int, binOp_neq, bne]; rfl
theorem Y.ltI (hx : evl l x = some (.int k a)) (hy : evl l y = some (.int k b)) : Y P l W (.binOp .lss t x y ty2) ty (.bool (decide (a < b))) := by
  refine Y.bin hx hy fun w _ => ?_
  simp [eqGuard_at_int, binOp_lss]
theorem Y.leI (hx : evl l x = some (.int k a)) (hy : evl l y = some (.int k b)) : Y P l W (.binOp .leq t x y ty2) ty (.bool (decide (a ≤ b))) := by
  refine Y.bin hx hy fun w _ => ?_
  simp [eqGuard_at_int, binOp_leq]
theorem Y.gtI (hx : evl l x = some (.int k a)) (hy : evl l y = some (.int k b)) : Y P l W (.binOp .gtr t x y ty2) ty (.bool (decide (b < a))) := by
  refine Y.bin hx hy fun w _ => ?_
  simp [eqGuard_at_int, binOp_gtr]
theorem Y.geI (hx : evl l x = some (.int k a)) (hy : evl l y = some (.int k b)) : Y P l W (.binOp .geq t x y ty2) ty (.bool (decide (b ≤ a))) := by
  refine Y.bin hx hy fun w _ => ?_
  simp [eqGuard_at_int, binOp_geq]
theorem Y.rem (hx : evl l x = some (.int .i64 a)) (hy : evl l y = some (.int .i64 b)) (hb : b ≠ 0) : Y P l W (.binOp .rem t x y ty2) ty (.int .i64 (a.tmod b)) := by
  refine Y.bin hx hy fun w _ => ?_
  simp [eqGuard_rem, binOp_rem, Op.intDiv, hb]
theorem Y.quo (hx : evl l x = some (.int .i64 a)) (hy : evl l y = some (.int .i64 b)) (hb : b ≠ 0) (h : -9223372036854775808 ≤ a.tdiv b ∧ a.tdiv b ≤ 9223372036854775807) : Y P l W (.binOp .quo t x y ty2) ty (.int .i64 (a.tdiv b)) := by
  refine Y.bin hx hy fun w _ => ?_
  simp [eqGuard_quo, binOp_quo, Op.intDiv, hb, IntWalk.i64_in _ h]
end ints
section others
variable {ty2 : TypeId}
def str (l : List UInt8) : Value := .string ⟨l.toArray⟩
theorem decide_cast (a b : Nat) : decide ((a : Int) = (b : Int)) = decide (a = b) := decide_eq_decide.2 Int.ofNat_inj
/-- byte i of a text, as a number -/
def bt (s : List UInt8) (i : Nat) : Nat := (s.getD i 0).toNat
section nats
variable {k : IntKind} {a b : Nat}
theorem Y.addN (hx : evl l x = some (.int .i64 (a : Int))) (hy : evl l y = some (.int .i64 (b : Int))) (h : a + b ≤ 9223372036854775807) : Y P l W (.binOp .add t x y ty2) ty (.int .i64 ((a + b : Nat) : Int)) := by
  have := Y.add (P := P) (W := W) (t := t) (ty := ty) (ty2 := ty2) hx hy (by omega)
  simpa using this
theorem Y.subN (hx : evl l x = some (.int .i64 (a : Int))) (hy : evl l y = some (.int .i64 (b : Int))) (h : b ≤ a) (h2 : a ≤ 9223372036854775807) : Y P l W (.binOp .sub t x y ty2) ty (.int .i64 ((a - b : Nat) : Int)) := by
  have := Y.sub (P := P) (W := W) (t := t) (ty := ty) (ty2 := ty2) hx hy (by omega)
  rwa [show (a : Int) - (b : Int) = ((a - b : Nat) : Int) by omega] at this
theorem Y.mulN (hx : evl l x = some (.int .i64 (a : Int))) (hy : evl l y = some (.int .i64 (b : Int))) (h : a * b ≤ 9223372036854775807) : Y P l W (.binOp .mul t x y ty2) ty (.int .i64 ((a * b : Nat) : Int)) := by
  have := Y.mul (P := P) (W := W) (t := t) (ty := ty) (ty2 := ty2) hx hy (by rw [← Int.natCast_mul]; omega)
  simpa using this
theorem Y.quoN (hx : evl l x = some (.int .i64 (a : Int))) (hy : evl l y = some (.int .i64 (b : Int))) (h : 0 < b) (h2 : a ≤ 9223372036854775807) : Y P l W (.binOp .quo t x y ty2) ty (.int .i64 ((a / b : Nat) : Int)) := by
  have h3 : a / b ≤ a := Nat.div_le_self _ _
  have h4 : ((a / b : Nat) : Int) ≤ a := by exact_mod_cast h3
  have h5 : (0 : Int) ≤ ((a / b : Nat) : Int) := Int.natCast_nonneg _
  have := Y.quo (P := P) (W := W) (t := t) (ty := ty) (ty2 := ty2) hx hy (by omega) (by rw [Int.tdiv_eq_ediv_of_nonneg (by omega), ← Int.natCast_ediv]; generalize ((a / b : Nat) : Int) = q at *; omega)
  rwa [Int.tdiv_eq_ediv_of_nonneg (by omega), ← Int.natCast_ediv] at this
theorem Y.remN (hx : evl l x = some (.int .i64 (a : Int))) (hy : evl l y = some (.int .i64 (b : Int))) (h : 0 < b) : Y P l W (.binOp .rem t x y ty2) ty (.int .i64 ((a % b : Nat) : Int)) := by
  have := Y.rem (P := P) (W := W) (t := t) (ty := ty) (ty2 := ty2) hx hy (by omega)
  rwa [Int.tmod_eq_emod_of_nonneg (by omega), ← Int.natCast_emod] at this
theorem Y.eqN (hx : evl l x = some (.int k (a : Int))) (hy : evl l y = some (.int k (b : Int))) : Y P l W (.binOp .eql t x y ty2) ty (.bool (decide (a = b))) := by
  have := Y.eqI (P := P) (W := W) (t := t) (ty := ty) (ty2 := ty2) hx hy
  rwa [decide_cast] at this
theorem Y.neN (hx : evl l x = some (.int k (a : Int))) (hy : evl l y = some (.int k (b : Int))) : Y P l W (.binOp .neq t x y ty2) ty (.bool (!decide (a = b))) := by
  have := Y.neI (P := P) (W := W) (t := t) (ty := ty) (ty2 := ty2) hx hy
  rwa [decide_cast] at this
theorem Y.ltN (hx : evl l x = some (.int k (a : Int))) (hy : evl l y = some (.int k (b : Int))) : Y P l W (.binOp .lss t x y ty2) ty (.bool (decide (a < b))) := by
  have := Y.ltI (P := P) (W := W) (t := t) (ty := ty) (ty2 := ty2) hx hy
  simpa using this
theorem Y.leN (hx : evl l x = some (.int k (a : Int))) (hy : evl l y = some (.int k (b : Int))) : Y P l W (.binOp .leq t x y ty2) ty (.bool (decide (a ≤ b))) := by
  have := Y.leI (P := P) (W := W) (t := t) (ty := ty) (ty2 := ty2) hx hy
  simpa using this
theorem Y.gtN (hx : evl l x = some (.int k (a : Int))) (hy : evl l y = some (.int k (b : Int))) : Y P l W (.binOp .gtr t x y ty2) ty (.bool (decide (b < a))) := by
  have := Y.gtI (P := P) (W := W) (t := t) (ty := ty) (ty2 := ty2) hx hy
  simpa using this
theorem Y.geN (hx : evl l x = some (.int k (a : Int))) (hy : evl l y = some (.int k (b : Int))) : Y P l W (.binOp .geq t x y ty2) ty (.bool (decide (b ≤ a))) := by
  have := Y.geI (P := P) (W := W) (t := t) (ty := ty) (ty2 := ty2) hx hy
  simpa using this
end nats
section bytes
variable {a b : Nat}
theorem wrap_u8 {n : Nat} (h : n < 256) : IntKind.u8.wrap (n : Int) = (n : Int) := by
  simp [IntKind.wrap, IntKind.bits, IntKind.signed]; omega
theorem bits8 {op : BinOp} (h : op = .or ∨ op = .and ∨ op = .xor) (ha : a < 256) (hb : b < 256) : Go.bits op .u8 (a : Int) (b : Int) = ((match op with | .or => a ||| b | .and => a &&& b | _ => a ^^^ b : Nat) : Int) := by
  have ea : BitVec.ofInt 8 (a : Int) = BitVec.ofNat 8 a := by simp
  have eb : BitVec.ofInt 8 (b : Int) = BitVec.ofNat 8 b := by simp
  have h8 : (256 : Nat) = 2 ^ 8 := rfl
  have o1 : a ||| b < 256 := by rw [h8]; exact Nat.or_lt_two_pow (by omega) (by omega)
  have o2 : a &&& b < 256 := by rw [h8]; exact Nat.and_lt_two_pow a (by omega)
  have o3 : a ^^^ b < 256 := by rw [h8]; exact Nat.xor_lt_two_pow (by omega) (by omega)
  have ma : a % 256 = a := Nat.mod_eq_of_lt ha
  have mb : b % 256 = b := Nat.mod_eq_of_lt hb
  rcases h with rfl | rfl | rfl
  · have t : (BitVec.ofNat 8 a ||| BitVec.ofNat 8 b).toNat = a ||| b := by
      rw [BitVec.toNat_or, BitVec.toNat_ofNat, BitVec.toNat_ofNat]
      simp only [Nat.reducePow, ma, mb]
    show IntKind.u8.wrap (((BitVec.ofInt 8 (a : Int) ||| BitVec.ofInt 8 (b : Int)).toNat : Nat) : Int) = _
    rw [ea, eb, t]
    exact wrap_u8 o1
  · have t : (BitVec.ofNat 8 a &&& BitVec.ofNat 8 b).toNat = a &&& b := by
      rw [BitVec.toNat_and, BitVec.toNat_ofNat, BitVec.toNat_ofNat]
      simp only [Nat.reducePow, ma, mb]
    show IntKind.u8.wrap (((BitVec.ofInt 8 (a : Int) &&& BitVec.ofInt 8 (b : Int)).toNat : Nat) : Int) = _
    rw [ea, eb, t]
    exact wrap_u8 o2
  · have t : (BitVec.ofNat 8 a ^^^ BitVec.ofNat 8 b).toNat = a ^^^ b := by
      rw [BitVec.toNat_xor, BitVec.toNat_ofNat, BitVec.toNat_ofNat]
      simp only [Nat.reducePow, ma, mb]
    show IntKind.u8.wrap (((BitVec.ofInt 8 (a : Int) ^^^ BitVec.ofInt 8 (b : Int)).toNat : Nat) : Int) = _
    rw [ea, eb, t]
    exact wrap_u8 o3
theorem Y.or8 (hx : evl l x = some (.int .u8 (a : Int))) (hy : evl l y = some (.int .u8 (b : Int))) (ha : a < 256) (hb : b < 256) : Y P l W (.binOp .or t x y ty2) ty (.int .u8 ((a ||| b : Nat) : Int)) := by
  refine Y.bin hx hy fun w _ => ?_
  have := bits8 (op := .or) (.inl rfl) ha hb
  simp [eqGuard_or, binOp_or, intBits_or, this]
theorem Y.and8 (hx : evl l x = some (.int .u8 (a : Int))) (hy : evl l y = some (.int .u8 (b : Int))) (ha : a < 256) (hb : b < 256) : Y P l W (.binOp .and t x y ty2) ty (.int .u8 ((a &&& b : Nat) : Int)) := by
  refine Y.bin hx hy fun w _ => ?_
  have := bits8 (op := .and) (.inr (.inl rfl)) ha hb
  simp [eqGuard_and, binOp_and, intBits_and, this]
theorem Y.shl8 {k : IntKind} (hx : evl l x = some (.int .u8 (a : Int))) (hy : evl l y = some (.int k (b : Int))) (hb : b ≤ 8) : Y P l W (.binOp .shl t x y ty2) ty (.int .u8 (((a * 2 ^ b) % 256 : Nat) : Int)) := by
  refine Y.bin hx hy fun w _ => ?_
  have h1 := shift_shl .u8 k (a : Int) (b : Int) (by omega) (by simp [IntKind.bits]; omega)
  have h2 : IntKind.u8.wrap ((a : Int) * 2 ^ (b : Int).toNat) = (((a * 2 ^ b) % 256 : Nat) : Int) := by
    simp [IntKind.wrap, IntKind.bits, IntKind.signed]
  simp only [eqGuard_shl, binOp_shl, h1, h2, pure_bind, Sem.run_pure]
theorem Y.shr8 {k : IntKind} (hx : evl l x = some (.int .u8 (a : Int))) (hy : evl l y = some (.int k (b : Int))) (hb : b ≤ 8) : Y P l W (.binOp .shr t x y ty2) ty (.int .u8 ((a / 2 ^ b : Nat) : Int)) := by
  refine Y.bin hx hy fun w _ => ?_
  have h1 := shift_shr .u8 k (a : Int) (b : Int) (by omega) (by simp [IntKind.bits]; omega)
  have h2 : (a : Int) / 2 ^ (b : Int).toNat = ((a / 2 ^ b : Nat) : Int) := by simp
  simp only [eqGuard_shr, binOp_shr, h1, h2, pure_bind, Sem.run_pure]
end bytes
theorem run_equalIn_bool (d : Nat) (ht2 : P.underlying t = some .bool) (a b : Bool) (w : World) : (Op.equalIn (d + 1) t (.bool a) (.bool b)).run P w = .ok (a == b) w := by
  simp [Op.equalIn, run_underlying ht2]
theorem run_equal_bool (ht2 : P.underlying t = some .bool) (a b : Bool) (w : World) : (Op.equal t (.bool a) (.bool b)).run P w = .ok (a == b) w := run_equalIn_bool 9999 ht2 a b w
theorem Y.eqB {a b : Bool} (hx : evl l x = some (.bool a)) (hy : evl l y = some (.bool b)) (ht2 : P.underlying t = some .bool) : Y P l W (.binOp .eql t x y ty2) ty (.bool (a == b)) := by
  refine Y.bin hx hy fun w _ => ?_
  have := run_equal_bool ht2 a b w
  have e : binOp .eql t (.bool a) (.bool b) = (do pure (.bool (← Op.equal t (.bool a) (.bool b)))) := rfl
  simp only [eqGuard_at_bool, e, Sem.run_bind, Sem.run_pure, Result.andThen_ok, this]
theorem Y.neB {a b : Bool} (hx : evl l x = some (.bool a)) (hy : evl l y = some (.bool b)) (ht2 : P.underlying t = some .bool) : Y P l W (.binOp .neq t x y ty2) ty (.bool (!(a == b))) := by
  refine Y.bin hx hy fun w _ => ?_
  have := run_equal_bool ht2 a b w
  have e : binOp .neq t (.bool a) (.bool b) = (do pure (.bool (!(← Op.equal t (.bool a) (.bool b))))) := rfl
  simp only [eqGuard_at_bool, e, Sem.run_bind, Sem.run_pure, Result.andThen_ok, this]
theorem beq_decide (a b : List UInt8) : (a == b) = decide (a = b) := by
  rw [Bool.eq_iff_iff]; simp
theorem Y.eqS {a b : List UInt8} (hx : evl l x = some (str a)) (hy : evl l y = some (str b)) : Y P l W (.binOp .eql t x y ty2) ty (.bool (decide (a = b))) := by
  refine Y.bin hx hy fun w _ => ?_
  simp only [str, eqGuard_at_string, binOp_string_eql, ByteArray.toList_mk, beq_decide, pure_bind, Sem.run_pure]
theorem Y.neS {a b : List UInt8} (hx : evl l x = some (str a)) (hy : evl l y = some (str b)) : Y P l W (.binOp .neq t x y ty2) ty (.bool (!decide (a = b))) := by
  refine Y.bin hx hy fun w _ => ?_
  simp only [str, eqGuard_at_string, binOp_string_neq, ByteArray.toList_mk, beq_decide, pure_bind, Sem.run_pure]
theorem Y.ltS {a b : List UInt8} (hx : evl l x = some (str a)) (hy : evl l y = some (str b)) : Y P l W (.binOp .lss t x y ty2) ty (.bool (Op.bytesLess a b)) := by
  refine Y.bin hx hy fun w _ => ?_
  simp only [str, eqGuard_at_string, binOp_string_lss, ByteArray.toList_mk, pure_bind, Sem.run_pure]
theorem Y.addS {a b : List UInt8} (hx : evl l x = some (str a)) (hy : evl l y = some (str b)) (h : a.length + b.length ≤ 9223372036854775807) : Y P l W (.binOp .add t x y ty2) ty (str (a ++ b)) := by
  refine Y.bin hx hy fun w _ => ?_
  have e : binOp .add t (str a) (str b) = Op.stringOp .add ⟨a.toArray⟩ ⟨b.toArray⟩ := rfl
  have hs : ∀ c : List UInt8, (ByteArray.mk c.toArray).size = c.length := fun c => by simp [ByteArray.size]
  have h2 : ¬ (((a.length + b.length : Nat) : Int) > 9223372036854775807) := by omega
  have h3 : (ByteArray.mk a.toArray) ++ (ByteArray.mk b.toArray) = ⟨(a ++ b).toArray⟩ := by
    ext1; simp
  rw [e]
  simp only [str, eqGuard_at_string, Op.stringOp, IntKind.max_i64, hs, if_neg h2, pure_bind, Sem.run_pure, h3]
/-! lengths, indexes, slices -/
theorem size_mk (c : List UInt8) : (ByteArray.mk c.toArray).size = c.length := by simp [ByteArray.size]
theorem Y.lenStr {s : List UInt8} (hx : evl l x = some (str s)) (ht2 : P.underlying t = some .string) {ats : Array TypeId} (hat : ats[0]? = some t) : Y P l W (.call { callee := .builtin .len, args := #[x], argTypes := ats }) ty (.int .i64 (s.length : Int)) := by
  intro ρ hρ o' ho ht w hW
  simp [execOp, ho, hρ _ _ hx, resolve, invoke, builtin, Builtin.len_, hat, run_underlying ht2, str, goInt, size_mk]
theorem Y.lenSl {a : Option Addr} {n c : Nat} {e : TypeId} (hx : evl l x = some (.slice a n c)) (ht2 : P.underlying t = some (.slice e)) {ats : Array TypeId} (hat : ats[0]? = some t) : Y P l W (.call { callee := .builtin .len, args := #[x], argTypes := ats }) ty (.int .i64 (n : Int)) := by
  intro ρ hρ o' ho ht w hW
  simp [execOp, ho, hρ _ _ hx, resolve, invoke, builtin, Builtin.len_, hat, run_underlying ht2, goInt]
theorem Y.max2 {k k' : IntKind} {a b : Int} (hx : evl l x = some (.int k a)) (hy : evl l y = some (.int k' b)) {ats : Array TypeId} : Y P l W (.call { callee := .builtin .max, args := #[x, y], argTypes := ats }) ty (.int k (if b > a then b else a)) := by
  intro ρ hρ o' ho ht w hW
  simp [execOp, ho, hρ _ _ hx, hρ _ _ hy, resolve, invoke, builtin, Builtin.max_, Builtin.max2]
theorem Y.min2 {k k' : IntKind} {a b : Int} (hx : evl l x = some (.int k a)) (hy : evl l y = some (.int k' b)) {ats : Array TypeId} : Y P l W (.call { callee := .builtin .min, args := #[x, y], argTypes := ats }) ty (.int k (if b < a then b else a)) := by
  intro ρ hρ o' ho ht w hW
  simp [execOp, ho, hρ _ _ hx, hρ _ _ hy, resolve, invoke, builtin, Builtin.min_, Builtin.min2]
theorem Y.index {s : List UInt8} {i : Nat} {k : IntKind} (hx : evl l x = some (str s)) (hy : evl l y = some (.int k (i : Int))) (ht2 : P.underlying t = some .string) (hi : i < s.length) : Y P l W (.index t x y) ty (.int .u8 (bt s i : Int)) := by
  intro ρ hρ o' ho ht w hW
  have h1 : (ByteArray.mk s.toArray)[i]? = some (s.getD i 0) := by
    rw [getElem?_pos _ i (by rw [size_mk]; exact hi)]
    simp [ByteArray.getElem_eq_getElem_data, List.getD, hi]
  simp [execOp, ho, hρ _ _ hx, hρ _ _ hy, Instr.index, asIntOf, run_underlying ht2, str, h1, bt]
theorem extract_mk (s : List UInt8) (a b : Nat) : (ByteArray.mk s.toArray).extract a b = ⟨((s.take b).drop a).toArray⟩ := by
  ext1; simp [List.extract_eq_take_drop, List.drop_take]
theorem Y.slice {s : List UInt8} {a b : Nat} {ya yb : Operand} {ka kb : IntKind} (hx : evl l x = some (str s)) (ha : evl l ya = some (.int ka (a : Int))) (hb : evl l yb = some (.int kb (b : Int))) (ht2 : P.underlying t = some .string) (h1 : a ≤ b) (h2 : b ≤ s.length) :
    Y P l W (.slice t x (some ya) (some yb) none) ty (str ((s.take b).drop a)) := by
  intro ρ hρ o' ho ht w hW
  have hu : (underlying t).run P w = .ok .string w := run_underlying ht2 w
  have e1 : ((0:Int) ≤ (a:Int) ∧ (a:Int) ≤ (b:Int)) := by omega
  have e2 : ((0:Int) ≤ (b:Int) ∧ (b:Int) ≤ (s.length:Int)) := by omega
  simp [execOp, ho, hρ _ _ hx, hρ _ _ ha, hρ _ _ hb, Instr.sliceAt, Instr.slice, hu, str, Instr.sliceBounds, Instr.sliceBound, asIntOf, size_mk, h1, h2, extract_mk]
theorem Y.sliceLo {s : List UInt8} {a : Nat} {ya : Operand} {ka : IntKind} (hx : evl l x = some (str s)) (ha : evl l ya = some (.int ka (a : Int))) (ht2 : P.underlying t = some .string) (h1 : a ≤ s.length) :
    Y P l W (.slice t x (some ya) none none) ty (str (s.drop a)) := by
  intro ρ hρ o' ho ht w hW
  have hu : (underlying t).run P w = .ok .string w := run_underlying ht2 w
  simp [execOp, ho, hρ _ _ hx, hρ _ _ ha, Instr.sliceAt, Instr.slice, hu, str, Instr.sliceBounds, Instr.sliceBound, asIntOf, size_mk, h1, extract_mk]
theorem Y.sliceHi {s : List UInt8} {b : Nat} {yb : Operand} {kb : IntKind} (hx : evl l x = some (str s)) (hb : evl l yb = some (.int kb (b : Int))) (ht2 : P.underlying t = some .string) (h2 : b ≤ s.length) :
    Y P l W (.slice t x none (some yb) none) ty (str (s.take b)) := by
  intro ρ hρ o' ho ht w hW
  have hu : (underlying t).run P w = .ok .string w := run_underlying ht2 w
  simp [execOp, ho, hρ _ _ hx, hρ _ _ hb, Instr.sliceAt, Instr.slice, hu, str, Instr.sliceBounds, Instr.sliceBound, asIntOf, size_mk, h2, extract_mk]
end others
end Go.SX
namespace Go.SX
open Go.RowKit
/-! memory that a call owns -/
inductive It where
  | obj (b : Nat) (o : Obj)
  | row (g : Option Nat) (cap n : Nat) (e : TypeId) (size : Nat) (xs : List Value)
/-- the value of a slice that stands at the head of a block (or is nil) -/
@[reducible] def rv (g : Option Nat) (n cap : Nat) : Value := .slice (g.map fun b => ⟨b, 0, none⟩) n cap
theorem ownBlock_rv (g : Option Nat) (n cap : Nat) : (rv g n cap).ownBlock = g := by cases g <;> rfl
@[reducible] def blk (b : Nat) (cs : List Value) (T : TypeId) : It := .obj b (.cells cs.toArray T (0, 0))
def It.own : It → Option Nat
  | .obj b _ => some b
  | .row g _ _ _ _ _ => g
def It.holds (base : Nat) (w : World) : It → Prop
  | .obj b o => base ≤ b ∧ w.heap[b]? = some o
  | .row g cap n e size xs => w.ownsRow base e size (rv g n cap) n xs
def It.apart (a b : It) : Prop := ∀ k, a.own = some k → b.own ≠ some k
theorem It.apart.symm {a b : It} (h : a.apart b) : b.apart a := fun k hk h' => h k h' hk
/-- From block 'base' on the call owns these, each in a block of its own; below 'base' the world is as w0. -/
structure WA (w0 : World) (base : Nat) (its : List It) (w : World) : Prop where
  below : Below base w0 w
  fits : base ≤ w.heap.size
  all : ∀ it ∈ its, it.holds base w
  apart : its.Pairwise It.apart
theorem It.holds.lt {it : It} {base : Nat} {w : World} (h : it.holds base w) : ∀ k, it.own = some k → base ≤ k ∧ k < w.heap.size := by
  intro k hk
  cases it with
  | obj b o => cases hk; exact ⟨h.1, (Array.getElem?_eq_some_iff.1 h.2).1⟩
  | row g cap n e size xs => exact World.ownsRow.lt h k (by rw [ownBlock_rv]; exact hk)
/-- An item stands where its block does. -/
theorem It.holds.same {it : It} {base : Nat} {w w' : World} (h : it.holds base w) (hb : ∀ k, it.own = some k → w'.heap[k]? = w.heap[k]?) : it.holds base w' := by
  cases it with
  | obj b o => exact ⟨h.1, (hb b rfl).trans h.2⟩
  | row g cap n e size xs =>
    refine ⟨h.1, ?_⟩
    rcases h.2 with hn | ⟨b, cap', cur, hv, hg, hh, r⟩
    · exact .inl hn
    · refine .inr ⟨b, cap', cur, hv, hg, (hb b ?_).trans hh, r⟩
      have := ownBlock_rv g n cap
      rw [hv] at this
      exact this.symm
instance WA.stab {w0 : World} {base : Nat} {its : List It} : Stab (WA w0 base its) where
  st _ _ h hb := ⟨h.below.trans (hb.mono h.fits), Nat.le_trans h.fits hb.size, fun it hi => (h.all it hi).same fun k hk => hb.block k ((h.all it hi).lt k hk).2, h.apart⟩
theorem WA.start (w : World) : WA w w.heap.size [] w := ⟨Below.refl _ _, Nat.le_refl _, (fun _ h => by cases h), List.Pairwise.nil⟩
theorem WA.drop {w0 : World} {base : Nat} {its its' : List It} {w : World} (h : WA w0 base its w) (hs : its'.Sublist its) : WA w0 base its' w :=
  ⟨h.below, h.fits, fun it hi => h.all it (hs.subset hi), h.apart.sublist hs⟩
theorem WA.perm {w0 : World} {base : Nat} {its its' : List It} {w : World} (h : WA w0 base its w) (hp : its'.Perm its) : WA w0 base its' w :=
  ⟨h.below, h.fits, fun it hi => h.all it (hp.subset hi), (hp.pairwise_iff (fun h => h.symm)).2 h.apart⟩
theorem WA.get {w0 : World} {base : Nat} {its : List It} {w : World} (h : WA w0 base its w) {i : Nat} {it : It} (hi : its[i]? = some it) : it.holds base w :=
  h.all it (List.mem_of_getElem? hi)
/-- all the others, when item i's block is written -/
theorem WA.others {w0 : World} {base : Nat} {its : List It} {w w' : World} (h : WA w0 base its w) {i : Nat} {it it' : It} (hi : its[i]? = some it)
    (hos : w'.os = w.os) (htape : w'.tape = w.tape) (hout : w'.output = w.output) (hsize : w.heap.size ≤ w'.heap.size)
    (hblk : ∀ k, k < w.heap.size → it.own ≠ some k → w'.heap[k]? = w.heap[k]?)
    (hnew : it'.holds base w') (hown : ∀ k, it'.own = some k → it.own = some k ∨ w.heap.size ≤ k) : WA w0 base (its.set i it') w' := by
  have hlt : i < its.length := (List.getElem?_eq_some_iff.1 hi).1
  have hget : its[i] = it := (List.getElem?_eq_some_iff.1 hi).2
  have hit := h.get hi
  have hpw := List.pairwise_iff_getElem.1 h.apart
  have key : ∀ (j : Nat) (hj : j < its.length), j ≠ i → it.apart its[j] := by
    intro j hj hji
    rcases Nat.lt_or_gt_of_ne hji with h1 | h1
    · have := (hpw j i hj hlt h1).symm
      rwa [hget] at this
    · have := hpw i j hlt hj h1
      rwa [hget] at this
  have key' : ∀ (j : Nat) (hj : j < its.length), j ≠ i → it'.apart its[j] := by
    intro j hj hji k hk hk'
    rcases hown k hk with h1 | h1
    · exact key j hj hji k h1 hk'
    · have := ((h.all its[j] (List.getElem_mem hj)).lt k hk').2
      omega
  refine ⟨h.below.trans ⟨hos, htape, hout, hsize, fun k hk => hblk k (Nat.lt_of_lt_of_le hk h.fits) fun e => ?_⟩, Nat.le_trans h.fits hsize, fun x hx => ?_, ?_⟩
  · have := (hit.lt k e).1; omega
  · obtain ⟨j, hj, hxj⟩ := List.mem_iff_getElem.1 hx
    rw [List.length_set] at hj
    by_cases hji : j = i
    · subst hji
      rw [List.getElem_set_self] at hxj
      subst hxj; exact hnew
    · rw [List.getElem_set_ne (by omega)] at hxj
      subst hxj
      exact (h.all _ (List.getElem_mem hj)).same fun k hk => hblk k ((h.all _ (List.getElem_mem hj)).lt k hk).2 fun e => key j hj hji k e hk
  · rw [List.pairwise_iff_getElem]
    intro j1 j2 h1 h2 h12
    have h1' : j1 < its.length := by simpa using h1
    have h2' : j2 < its.length := by simpa using h2
    by_cases e1 : j1 = i
    · subst e1
      rw [List.getElem_set_self, List.getElem_set_ne (by omega)]
      exact key' j2 h2' (by omega)
    · by_cases e2 : j2 = i
      · subst e2
        rw [List.getElem_set_self, List.getElem_set_ne (by omega)]
        exact (key' j1 h1' (by omega)).symm
      · rw [List.getElem_set_ne (by omega), List.getElem_set_ne (by omega)]
        exact hpw j1 j2 h1' h2' h12
/-- A new item in memory that is new. -/
theorem WA.cons {w0 : World} {base : Nat} {its : List It} {w w' : World} (h : WA w0 base its w) (hb : Below w.heap.size w w') {it : It} (hnew : it.holds base w') (hown : ∀ k, it.own = some k → w.heap.size ≤ k) : WA w0 base (it :: its) w' := by
  have h' := Stab.st w w' h hb
  refine ⟨h'.below, h'.fits, fun x hx => ?_, List.pairwise_cons.2 ⟨fun x hx k hk hk' => ?_, h.apart⟩⟩
  · rcases List.mem_cons.1 hx with rfl | hx
    · exact hnew
    · exact h'.all x hx
  · have := ((h.all x hx).lt k hk').2
    have := hown k hk
    omega
theorem WA.alloc {w0 : World} {base : Nat} {its : List It} {w : World} (h : WA w0 base its w) (o : Obj) : WA w0 base (.obj w.heap.size o :: its) (w.alloc o) :=
  h.cons ((Below.refl _ _).alloc (Nat.le_refl _) _) ⟨h.fits, heap_alloc_new w o⟩ fun k hk => by cases hk; exact Nat.le_refl _
theorem WA.setCell {w0 : World} {base : Nat} {its : List It} {w : World} (h : WA w0 base its w) {i b off : Nat} {cs : List Value} {T : TypeId} (hi : its[i]? = some (blk b cs T)) (v : Value) :
    WA w0 base (its.set i (blk b (cs.set off v) T)) (w.setCell ⟨b, off, none⟩ v) := by
  have hit := h.get hi
  refine h.others hi rfl rfl rfl (by simp [World.setCell]) (fun k hk hne => Below.heap_setCell w ⟨b, off, none⟩ v k (fun e => hne (by rw [e]; rfl))) ⟨hit.1, ?_⟩ (fun k hk => .inl hk)
  have := heap_setCell_same w b off cs.toArray T v hit.2
  rw [this]
  simp
theorem WA.cell {w0 : World} {base : Nat} {its : List It} {w : World} (h : WA w0 base its w) {i b off : Nat} {cs : List Value} {T : TypeId} {v : Value} (hi : its[i]? = some (blk b cs T)) (hc : cs[off]? = some v) : w.cell? ⟨b, off, none⟩ = some v := by
  have hit := h.get hi
  rw [cell_of_row w b off _ T (0, 0) hit.2]
  simpa using hc
theorem WA.frozen {w0 : World} {base : Nat} {its : List It} {w : World} (h : WA w0 base its w) {i b off : Nat} {cs : List Value} {T : TypeId} (hi : its[i]? = some (blk b cs T)) : w.frozen? ⟨b, off, none⟩ = false :=
  frozen_of_row w b off _ T (h.get hi).2
theorem WA.old {w0 : World} {base : Nat} {its : List It} {w : World} (h : WA w0 base its w) {a : Addr} {v : Value} (hb : a.block < base) (hc : w0.cell? a = some v) : w.cell? a = some v :=
  (h.below.cell hb).trans hc

/-- a row that holds something lies in a block -/
theorem row_some {w : World} {base e size n cap : Nat} {g : Option Nat} {xs : List Value} (h : w.ownsRow base e size (rv g n cap) n xs) (hn : 0 < n) : ∃ b cur, g = some b ∧ base ≤ b ∧ w.heap[b]? = some (.cells cur e (0, 0)) ∧ n ≤ cap ∧ cap ≤ maxLen ∧ cur.size = cap * size ∧ cur.toList.take (n * size) = xs := by
  rcases h.2 with ⟨_, h0⟩ | ⟨b, cap', cur, hv, r⟩
  · omega
  · have hg : g = some b := by rw [← ownBlock_rv g n cap, hv]; rfl
    subst hg
    injection hv with _ _ hc
    subst hc
    exact ⟨b, cur, rfl, r⟩
theorem row_len {w : World} {base e size n cap : Nat} {g : Option Nat} {xs : List Value} (h : w.ownsRow base e size (rv g n cap) n xs) : xs.length = n * size ∧ n ≤ cap := by
  refine ⟨h.1, ?_⟩
  by_cases hn : 0 < n
  · obtain ⟨b, cur, _, _, _, hc, _⟩ := row_some h hn
    exact hc
  · omega
theorem WA.rowCell {w0 : World} {base : Nat} {its : List It} {w : World} (h : WA w0 base its w) {i off : Nat} {g : Option Nat} {cap n e size : Nat} {xs : List Value} {v : Value} (hi : its[i]? = some (.row g cap n e size xs)) (hc : xs[off]? = some v) :
    w.cell? ⟨g.getD 0, off, none⟩ = some v ∧ w.frozen? ⟨g.getD 0, off, none⟩ = false ∧ g = some (g.getD 0) := by
  have hit := h.get hi
  have hlt : off < xs.length := (List.getElem?_eq_some_iff.1 hc).1
  have hn : 0 < n := by
    rcases Nat.eq_zero_or_pos n with h0 | h0
    · have := hit.1; subst h0; simp at this; subst this; simp at hlt
    · exact h0
  obtain ⟨b, cur, rfl, _, hh, _, _, _, htake⟩ := row_some hit hn
  refine ⟨?_, ?_, rfl⟩
  · simp only [Option.getD_some]
    rw [cell_of_row w b off cur e (0, 0) hh]
    rw [← htake, List.getElem?_take] at hc
    split at hc
    · simpa using hc
    · cases hc
  · exact frozen_of_row w b off cur e hh
theorem WA.setRowCell {w0 : World} {base : Nat} {its : List It} {w : World} (h : WA w0 base its w) {i off : Nat} {g : Option Nat} {cap n e size : Nat} {xs : List Value} (hi : its[i]? = some (.row g cap n e size xs)) (hoff : off < xs.length) (v : Value) :
    WA w0 base (its.set i (.row g cap n e size (xs.set off v))) (w.setCell ⟨g.getD 0, off, none⟩ v) := by
  have hit := h.get hi
  have hn : 0 < n := by
    rcases Nat.eq_zero_or_pos n with h0 | h0
    · have := hit.1; subst h0; simp at this; subst this; simp at hoff
    · exact h0
  have hlen := hit.1
  obtain ⟨b, cur, rfl, hb, hh, h1, h2, h3, htake⟩ := row_some hit hn
  refine h.others hi rfl rfl rfl (by simp [World.setCell]) (fun k hk hne => Below.heap_setCell w ⟨b, off, none⟩ v k (fun e => hne (by rw [e]; rfl))) ?_ (fun k hk => .inl hk)
  refine ⟨by simpa using hlen, .inr ⟨b, cap, cur.setIfInBounds off v, rfl, hb, heap_setCell_same w b off cur e v hh, h1, h2, by simpa using h3, ?_⟩⟩
  rw [Array.toList_setIfInBounds, List.take_set, htake]
/-- a row is cut at its end: the spare cells are its own still -/
theorem WA.cut {w0 : World} {base : Nat} {its : List It} {w : World} (h : WA w0 base its w) {i : Nat} {g : Option Nat} {cap n e size : Nat} {xs : List Value} (hi : its[i]? = some (.row g cap n e size xs)) {k : Nat} (hk : k ≤ n) :
    WA w0 base (its.set i (.row g cap k e size (xs.take (k * size)))) w := by
  have hit := h.get hi
  refine h.others hi rfl rfl rfl (Nat.le_refl _) (fun _ _ _ => rfl) ?_ (fun k hk => .inl hk)
  have hl : (xs.take (k * size)).length = k * size := by
    rw [List.length_take, hit.1]
    exact Nat.min_eq_left (Nat.mul_le_mul_right _ hk)
  by_cases hn : 0 < n
  · obtain ⟨b, cur, rfl, hb, hh, h1, h2, h3, htake⟩ := row_some hit hn
    refine ⟨hl, .inr ⟨b, cap, cur, rfl, hb, hh, by omega, h2, h3, ?_⟩⟩
    rw [← htake, List.take_take, Nat.min_eq_left (Nat.mul_le_mul_right _ hk)]
  · have h0 : k = n := by omega
    subst h0
    rcases hit.2 with h2 | h2
    · exact ⟨hl, .inl h2⟩
    · obtain ⟨b, cap', cur, hv, r1, r2, r3, r4, r5, r6⟩ := h2
      refine ⟨hl, .inr ⟨b, cap', cur, hv, r1, r2, r3, r4, r5, ?_⟩⟩
      rw [r6]; exact (List.take_of_length_le (by rw [hit.1]; exact Nat.le_refl _)).symm
/-- a nil slice is a row that owns nothing -/
theorem WA.nilRow {w0 : World} {base : Nat} {its : List It} {w : World} (h : WA w0 base its w) (e size : Nat) : WA w0 base (.row none 0 0 e size [] :: its) w :=
  h.cons (Below.refl _ _) (World.ownsRow_nil w base e size) (fun k hk => by cases hk)
end Go.SX
namespace Go.SX
open Go.RowKit
variable {P : Program} {ops : Array Oper} {n : Nat} {D : List Deferred} {m : Mode} {l l' : Fr} {W W' : World → Prop} {rest : List Oper} {o : Oper} {d : Nat} {u v : Value}
  {x y : Operand} {t ty : TypeId} {w0 : World} {base : Nat} {its : List It} {Q : Exit → Act → World → Prop}
/-! types' sizes -/
def SizeIs (P : Program) (t : TypeId) (s : Nat) : Prop := ∀ (w : World), (sizeOf t).run P w = .ok s w
/-! reads out of what is owned -/
theorem Y.ldB (i : Nat) {b off T : Nat} {cs : List Value} (ht : One P t) (hx : evl l x = some (.pointer (some ⟨b, off, none⟩))) (hi : its[i]? = some (blk b cs T)) (hc : cs[off]? = some v) :
    Y P l (WA w0 base its) (.load t x) ty v := Y.load ht hx fun _ h => h.cell hi hc
theorem Y.ldR (i : Nat) {off cap k e size : Nat} {g : Option Nat} {xs : List Value} (ht : One P t) (hx : evl l x = some (.pointer (some ⟨g.getD 0, off, none⟩))) (hi : its[i]? = some (.row g cap k e size xs)) (hc : xs[off]? = some v) :
    Y P l (WA w0 base its) (.load t x) ty v := Y.load ht hx fun _ h => (h.rowCell hi hc).1
theorem Y.ldO {a : Addr} (ht : One P t) (hx : evl l x = some (.pointer (some a))) (hc : w0.cell? a = some v) (hb : a.block < base) :
    Y P l (WA w0 base its) (.load t x) ty v := Y.load ht hx fun _ h => h.old hb hc
/-- the address of an element: a slice that came in -/
theorem Y.idx {b off k c e size i : Nat} {kk : IntKind} (ht : P.underlying t = some (.slice e)) (hs : SizeIs P e size) (hx : evl l x = some (.slice (some ⟨b, off, none⟩) k c)) (hy : evl l y = some (.int kk (i : Int))) (hi : i < k) :
    Y P l W (.indexAddr t x y) ty (.pointer (some ⟨b, off + i * size, none⟩)) := by
  intro ρ hρ o' ho ht' w hW
  have h1 := run_underlying ht w
  have h2 := hs w
  simp [execOp, ho, hρ _ _ hx, hρ _ _ hy, Instr.indexAt, asIntOf, h1, hi, h2, Addr.add_lit]
theorem Y.idxA {a : Addr} {k c e size i : Nat} {kk : IntKind} (ht : P.underlying t = some (.slice e)) (hs : SizeIs P e size) (hx : evl l x = some (.slice (some a) k c)) (hy : evl l y = some (.int kk (i : Int))) (hi : i < k) :
    Y P l W (.indexAddr t x y) ty (.pointer (some (a.add (i * size)))) := by
  intro ρ hρ o' ho ht' w hW
  have h1 := run_underlying ht w
  have h2 := hs w
  simp [execOp, ho, hρ _ _ hx, hρ _ _ hy, Instr.indexAt, asIntOf, h1, hi, h2]
theorem run_idxRow {b k c e size i : Nat} {kk : IntKind} (ht : P.underlying t = some (.slice e)) (hs : SizeIs P e size) (hi : i < k) (w : World) :
    (Instr.indexAt t (.slice (some ⟨b, 0, none⟩) k c) (.int kk (i : Int))).run P w = .ok (.pointer (some ⟨b, i * size, none⟩)) w := by
  have h1 := run_underlying ht w
  have h2 := hs w
  simp [Instr.indexAt, asIntOf, h1, hi, h2, Addr.add_lit]
theorem Y.idxR (j : Nat) {cap k e size i : Nat} {g : Option Nat} {xs : List Value} {kk : IntKind} (ht : P.underlying t = some (.slice e)) (hs : SizeIs P e size) (hx : evl l x = some (rv g k cap)) (hy : evl l y = some (.int kk (i : Int)))
    (hj : its[j]? = some (.row g cap k e size xs)) (hi : i < k) :
    Y P l (WA w0 base its) (.indexAddr t x y) ty (.pointer (some ⟨g.getD 0, i * size, none⟩)) := by
  intro ρ hρ o' ho ht' w hW
  obtain ⟨b, cur, rfl, _⟩ := row_some (hW.get hj) (by omega)
  have h3 := run_idxRow (P := P) (b := b) (k := k) (c := cap) (i := i) (kk := kk) ht hs hi w
  simp only [execOp, ho, hρ _ _ hx, hρ _ _ hy, rv, Option.map_some, Option.getD_some]
  rw [Sem.run_bind, h3]
  simp
/-- a slice cut at its end -/
theorem Y.cutHi {b : Nat} {a : Option Addr} {k c e s : Nat} {yb : Operand} {kk : IntKind} (ht : P.underlying t = some (.slice e)) (hs : SizeIs P e s) (hx : evl l x = some (.slice a k c)) (hb : evl l yb = some (.int kk (b : Int))) (h : b ≤ c) :
    Y P l W (.slice t x none (some yb) none) ty (.slice a b c) := by
  intro ρ hρ o' ho ht' w hW
  have h1 := run_underlying ht w
  have h2 := hs w
  have hz : ∀ a : Option Addr, (if c = 0 then a else a.map fun y => y.add 0) = a := by intro a; split <;> simp [Addr.add]
  have hz' : (a.map fun y : Addr => y.add 0) = a := by simp [Addr.add]
  simp [execOp, ho, hρ _ _ hx, hρ _ _ hb, Instr.sliceAt, Instr.slice, h1, h2, Instr.sliceBounds, Instr.sliceBound, asIntOf, h, hz']
theorem Y.cutR (j : Nat) {b cap k e s e' size : Nat} {g : Option Nat} {xs : List Value} {yb : Operand} {kk : IntKind} (ht : P.underlying t = some (.slice e)) (hs : SizeIs P e s) (hx : evl l x = some (rv g k cap)) (hb : evl l yb = some (.int kk (b : Int)))
    (hj : its[j]? = some (.row g cap k e' size xs)) (h : b ≤ k) : Y P l (WA w0 base its) (.slice t x none (some yb) none) ty (rv g b cap) := by
  intro ρ hρ o' ho ht' w hW
  exact Y.cutHi (W := WA w0 base its) ht hs hx hb (Nat.le_trans h (row_len (hW.get hj)).2) ρ hρ o' ho ht' w hW
theorem Y.cutLo {b : Nat} {a : Option Addr} {k c e s : Nat} {yb : Operand} {kk : IntKind} (ht : P.underlying t = some (.slice e)) (hs : SizeIs P e s) (hx : evl l x = some (.slice a k c)) (hb : evl l yb = some (.int kk (b : Int))) (h : b ≤ k) :
    Y P l W (.slice t x (some yb) none none) ty (.slice (if c = b then a else a.map (·.add (b * s))) (k - b) (c - b)) := by
  intro ρ hρ o' ho ht' w hW
  have h1 := run_underlying ht w
  have h2 := hs w
  simp [execOp, ho, hρ _ _ hx, hρ _ _ hb, Instr.sliceAt, Instr.slice, h1, h2, Instr.sliceBounds, Instr.sliceBound, asIntOf, h]
theorem Y.cutBoth {a' b : Nat} {a : Option Addr} {k c e s : Nat} {ya yb : Operand} {ka kb : IntKind} (ht : P.underlying t = some (.slice e)) (hs : SizeIs P e s) (hx : evl l x = some (.slice a k c)) (ha : evl l ya = some (.int ka (a' : Int))) (hb : evl l yb = some (.int kb (b : Int))) (h1 : a' ≤ b) (h2 : b ≤ c) :
    Y P l W (.slice t x (some ya) (some yb) none) ty (.slice (if c = a' then a else a.map (·.add (a' * s))) (b - a') (c - a')) := by
  intro ρ hρ o' ho ht' w hW
  have h3 := run_underlying ht w
  have h4 := hs w
  simp [execOp, ho, hρ _ _ hx, hρ _ _ ha, hρ _ _ hb, Instr.sliceAt, Instr.slice, h3, h4, Instr.sliceBounds, Instr.sliceBound, asIntOf, h1, h2]
/-! bytes to a string -/
def b8 (c : UInt8) : Value := .int .u8 (c.toNat : Int)
theorem WA.str {w : World} (h : WA w0 base its w) {j : Nat} {g : Option Nat} {cap k e src : Nat} {bs : List UInt8} (hj : its[j]? = some (.row g cap k e 1 (bs.map b8))) (hs : P.underlying src = some (.slice e)) (he : P.underlying e = some (.int .u8)) (dst : TypeId) (hd : P.underlying dst = some .string) :
    (convert src dst (rv g k cap)).run P w = .ok (str bs) w := by
  have hit := h.get hj
  have hlen : (bs.map fun c => ((c.toNat : Nat) : Int)).length = k := by
    have := hit.1
    simpa using this
  have hbs : bs.length = k := by simpa using hlen
  rcases hit.2 with ⟨hv, h0⟩ | ⟨b, cap', cur, hv, _, hh, _, _, _, htake⟩
  · subst h0
    have hb : bs = [] := List.eq_nil_of_length_eq_zero hbs
    subst hb
    rw [hv, run_convert_bytes_nil w src e hs he 0 0 dst hd]; rfl
  · rw [hv, run_convert_bytes_arg w src e hs he b 0 k cap' (bs.map fun c => ((c.toNat : Nat) : Int)) hlen (fun q hq => ?_) dst hd]
    · congr 2
      simp only [strOfNums, List.map_map]
      congr 2
      rw [List.map_congr_left (g := id) (by intro c _; simp)]
      simp
    · rw [Nat.zero_add, cell_of_row w b q cur e (0, 0) hh]
      have h1 : (cur.toList.take (k * 1))[q]? = some (b8 (bs[q]'(by omega))) := by rw [htake]; simp [hbs, hq]
      rw [List.getElem?_take] at h1
      split at h1
      · have hq' : q < bs.length := by omega
        simpa [b8, List.getD, hq'] using h1
      · cases h1
theorem Y.str (j : Nat) {g : Option Nat} {cap k e : Nat} {bs : List UInt8} {t' : TypeId} (hx : evl l x = some (rv g k cap)) (hj : its[j]? = some (.row g cap k e 1 (bs.map b8))) (hs : P.underlying t = some (.slice e)) (he : P.underlying e = some (.int .u8)) (hd : P.underlying t' = some .string) :
    Y P l (WA w0 base its) (.convert t t' x) ty (str bs) := by
  intro ρ hρ o' ho ht w hW
  have h1 := hW.str hj hs he t' hd
  simp only [execOp, ho, hρ _ _ hx]
  rw [Sem.run_bind, h1]
  simp
/-! interface values -/
def NoIface (P : Program) (t : TypeId) : Prop := ∀ (w : World) (v : Value), (Instr.makeInterface t v).run P w = .ok (.iface t v) w
theorem Y.mkI (h : NoIface P t) (hx : evl l x = some v) : Y P l W (.makeInterface t x) ty (.iface t v) := by
  intro ρ hρ o' ho ht w hW
  have := h w v
  simp [execOp, ho, hρ _ _ hx, this]
theorem Y.convN {a : Nat} {k k' : IntKind} {t' : TypeId} {d : TypeDesc} (hx : evl l x = some (.int k (a : Int))) (h1 : P.underlying t = some d) (h2 : P.underlying t' = some (.int k')) (hw : k'.wrap (a : Int) = (a : Int)) : Y P l W (.convert t t' x) ty (.int k' (a : Int)) := by
  intro ρ hρ o' ho ht w hW
  have e1 := run_underlying h1 w
  have e2 := run_underlying h2 w
  simp [execOp, ho, hρ _ _ hx, convert, e1, e2, Conv.intToInt, hw]
/-! nil -/
theorem run_ifaceNil (d : Nat) {ms : Array (String × TypeId)} (h : P.underlying t = some (.interface ms)) (k : TypeId) (u : Value) (w : World) : (Op.equalIn (d + 1) t (.iface k u) .nilIface).run P w = .ok false w := by
  simp [Op.equalIn, run_underlying h]
theorem run_nilNil (d : Nat) {ms : Array (String × TypeId)} (h : P.underlying t = some (.interface ms)) (w : World) : (Op.equalIn (d + 1) t .nilIface .nilIface).run P w = .ok true w := by
  simp [Op.equalIn, run_underlying h]
theorem Y.neNil {ms : Array (String × TypeId)} (h : P.underlying t = some (.interface ms)) {k : TypeId} {ty2 : TypeId} (hx : evl l x = some (.iface k u)) (hy : evl l y = some .nilIface) : Y P l W (.binOp .neq t x y ty2) ty (.bool true) := by
  refine Y.bin hx hy fun w _ => ?_
  have := run_ifaceNil (P := P) 9999 h k u w
  have e : binOp .neq t (.iface k u) .nilIface = (do pure (.bool (!(← Op.equalIn 10000 t (.iface k u) .nilIface)))) := rfl
  simp only [eqGuard_at_iface, e, Sem.run_bind, Sem.run_pure, Result.andThen_ok, this, Bool.not_false]
theorem Y.eqNil {ms : Array (String × TypeId)} (h : P.underlying t = some (.interface ms)) {k : TypeId} {ty2 : TypeId} (hx : evl l x = some (.iface k u)) (hy : evl l y = some .nilIface) : Y P l W (.binOp .eql t x y ty2) ty (.bool false) := by
  refine Y.bin hx hy fun w _ => ?_
  have := run_ifaceNil (P := P) 9999 h k u w
  have e : binOp .eql t (.iface k u) .nilIface = (do pure (.bool (← Op.equalIn 10000 t (.iface k u) .nilIface))) := rfl
  simp only [eqGuard_at_iface, e, Sem.run_bind, Sem.run_pure, Result.andThen_ok, this]
theorem Y.neNilNil {ms : Array (String × TypeId)} (h : P.underlying t = some (.interface ms)) {ty2 : TypeId} (hx : evl l x = some .nilIface) : Y P l W (.binOp .neq t x (.const .nilIface) ty2) ty (.bool false) := by
  refine Y.bin2 hx rfl fun w _ => ?_
  have := run_nilNil (P := P) 9999 h w
  have e : binOp .neq t .nilIface .nilIface = (do pure (.bool (!(← Op.equalIn 10000 t .nilIface .nilIface)))) := rfl
  simp only [eqGuard_nil_constR, e, Sem.run_bind, Sem.run_pure, Result.andThen_ok, this, Bool.not_true]
theorem Y.eqNilNil {ms : Array (String × TypeId)} (h : P.underlying t = some (.interface ms)) {ty2 : TypeId} (hx : evl l x = some .nilIface) : Y P l W (.binOp .eql t x (.const .nilIface) ty2) ty (.bool true) := by
  refine Y.bin2 hx rfl fun w _ => ?_
  have := run_nilNil (P := P) 9999 h w
  have e : binOp .eql t .nilIface .nilIface = (do pure (.bool (← Op.equalIn 10000 t .nilIface .nilIface))) := rfl
  simp only [eqGuard_nil_constR, e, Sem.run_bind, Sem.run_pure, Result.andThen_ok, this]
/-! steps that change the world -/
theorem LX.eff {W' : World → Prop} {v : Value} (hr : ∀ (ρ : Operand → Value), (∀ x u, evl l x = some u → ρ x = u) → ∀ w, W w → ∃ w', (execOp ρ o).run P w = .ok (.value v) w' ∧ W' w')
    (hg : o.guard = none) (hd : o.dst = some d) (hdn : Nat.blt d n = true) (h : LX P ops n D (.plain Q) ((d, v) :: l) W' rest) : LX P ops n D (.plain Q) l W (o :: rest) := by
  intro a w ha hW
  obtain ⟨w', h1, h2⟩ := hr a.eval ha.eval w hW
  unfold wpList
  rw [if_pos (wanted_none hg)]
  left
  unfold Oper.wp
  rw [h1]
  simp only [Oper.upon, hd]
  exact h _ _ (ha.put hdn v) h2
/-- with a value that is known only when it is made -/
theorem LX.effx {τ : Type} {v : τ → Value} {W' : τ → World → Prop} (hr : ∀ (ρ : Operand → Value), (∀ x u, evl l x = some u → ρ x = u) → ∀ w, W w → ∃ x w', (execOp ρ o).run P w = .ok (.value (v x)) w' ∧ W' x w')
    (hg : o.guard = none) (hd : o.dst = some d) (hdn : Nat.blt d n = true) (h : ∀ x, LX P ops n D (.plain Q) ((d, v x) :: l) (W' x) rest) : LX P ops n D (.plain Q) l W (o :: rest) := by
  intro a w ha hW
  obtain ⟨x, w', h1, h2⟩ := hr a.eval ha.eval w hW
  unfold wpList
  rw [if_pos (wanted_none hg)]
  left
  unfold Oper.wp
  rw [h1]
  simp only [Oper.upon, hd]
  exact h x _ _ (ha.put hdn _) h2
theorem run_storeAt (hs : SizeIs P t 1) {b off : Nat} {u v : Value} (hv : v.oneCell' = true) {w : World} (hc : w.cell? ⟨b, off, none⟩ = some u) (hf : w.frozen? ⟨b, off, none⟩ = false) :
    (Instr.storeAt t (.pointer (some ⟨b, off, none⟩)) v).run P w = .ok () (w.setCell ⟨b, off, none⟩ v) := by
  have h2 := hs w
  cases v with
  | agg _ => cases hv
  | tuple _ => cases hv
  | _ =>
    simp [Instr.storeAt, Instr.sureAddr, storeVar, h2, Value.cells, storeCells, Addr.add_zero']
    rw [run_store P w _ _ _ rfl]
    simp [hc, hf]
theorem LX.store0 (hs : SizeIs P t 1) {b off : Nat} (ho : o.op = .store t x y) (hx : evl l x = some (.pointer (some ⟨b, off, none⟩))) (hy : evl l y = some v) (hv : v.oneCell' = true)
    (hc : ∀ w, W w → (∃ u, w.cell? ⟨b, off, none⟩ = some u) ∧ w.frozen? ⟨b, off, none⟩ = false ∧ W' (w.setCell ⟨b, off, none⟩ v))
    (hg : o.guard = none) (hd : o.dst = none) (h : LX P ops n D (.plain Q) l W' rest) : LX P ops n D (.plain Q) l W (o :: rest) := by
  intro a w ha hW
  obtain ⟨⟨u, h1⟩, h2, h3⟩ := hc w hW
  have h4 := run_storeAt (P := P) hs hv h1 h2
  unfold wpList
  rw [if_pos (wanted_none hg)]
  left
  unfold Oper.wp
  have : (execOp a.eval o).run P w = .ok .skip (w.setCell ⟨b, off, none⟩ v) := by
    simp [execOp, ho, ha.eval _ _ hx, ha.eval _ _ hy, h4]
  rw [this]
  simp only [Oper.upon, hd]
  exact h _ _ ha h3
theorem LX.storeB (i : Nat) {b off T : Nat} {cs : List Value} (hs : SizeIs P t 1) (ho : o.op = .store t x y) (hx : evl l x = some (.pointer (some ⟨b, off, none⟩))) (hy : evl l y = some v) (hv : v.oneCell' = true)
    (hi : its[i]? = some (blk b cs T)) (hoff : cs[off]? = some u) (hg : o.guard = none) (hd : o.dst = none) (h : LX P ops n D (.plain Q) l (WA w0 base (its.set i (blk b (cs.set off v) T))) rest) :
    LX P ops n D (.plain Q) l (WA w0 base its) (o :: rest) :=
  LX.store0 hs ho hx hy hv (fun _ h => ⟨⟨u, h.cell hi hoff⟩, h.frozen hi, h.setCell hi v⟩) hg hd h
theorem LX.storeR (i : Nat) {off cap k e size : Nat} {g : Option Nat} {xs : List Value} (hs : SizeIs P t 1) (ho : o.op = .store t x y) (hx : evl l x = some (.pointer (some ⟨g.getD 0, off, none⟩))) (hy : evl l y = some v) (hv : v.oneCell' = true)
    (hi : its[i]? = some (.row g cap k e size xs)) (hoff : off < xs.length) (hg : o.guard = none) (hd : o.dst = none) (h : LX P ops n D (.plain Q) l (WA w0 base (its.set i (.row g cap k e size (xs.set off v)))) rest) :
    LX P ops n D (.plain Q) l (WA w0 base its) (o :: rest) :=
  LX.store0 hs ho hx hy hv (fun _ h => by
    have := h.rowCell hi (List.getElem?_eq_getElem hoff)
    exact ⟨⟨_, this.1⟩, this.2.1, h.setRowCell hi hoff v⟩) hg hd h
theorem LX.alloc {z : Value} (ho : o.op = .alloc t) (hz : ∀ w, (zeroValue t).run P w = .ok z w) (hg : o.guard = none) (hd : o.dst = some d) (hdn : Nat.blt d n = true)
    (h : ∀ b, LX P ops n D (.plain Q) ((d, .pointer (some ⟨b, 0, none⟩)) :: l) (WA w0 base (blk b z.cells.toList t :: its)) rest) : LX P ops n D (.plain Q) l (WA w0 base its) (o :: rest) := by
  refine LX.effx (τ := Nat) (v := fun b => .pointer (some ⟨b, 0, none⟩)) (W' := fun b => WA w0 base (blk b z.cells.toList t :: its)) (fun ρ hρ w hW => ⟨w.heap.size, w.alloc (.cells z.cells t), ?_, ?_⟩) hg hd hdn h
  · have := hz w
    simp [execOp, ho, Instr.alloc, this, newVar, newRow, newObj, Sem.run]
  · simpa using hW.alloc (.cells z.cells t)
theorem LX.box (ho : o.op = .box t x) (hx : evl l x = some v) (hg : o.guard = none) (hd : o.dst = some d) (hdn : Nat.blt d n = true)
    (h : ∀ b, LX P ops n D (.plain Q) ((d, .pointer (some ⟨b, 0, none⟩)) :: l) (WA w0 base (blk b v.cells.toList t :: its)) rest) : LX P ops n D (.plain Q) l (WA w0 base its) (o :: rest) := by
  refine LX.effx (τ := Nat) (v := fun b => .pointer (some ⟨b, 0, none⟩)) (W' := fun b => WA w0 base (blk b v.cells.toList t :: its)) (fun ρ hρ w hW => ⟨w.heap.size, w.alloc (.cells v.cells t), ?_, ?_⟩) hg hd hdn h
  · simp [execOp, ho, hρ _ _ hx, Instr.box, newVar, newRow, newObj, Sem.run]
  · simpa using hW.alloc (.cells v.cells t)

/-! a row of cells that is made; append -/
theorem row_grow {w : World} {base e size k cap' : Nat} {z : Value} {all : List Value} (hb : base ≤ w.heap.size) (hl : all.length = k * size) (hk : k ≤ cap') (hm : cap' ≤ maxLen) (hz : z.cells.size = size) :
    (w.drew.alloc (.cells (all.toArray ++ Builtin.zeroCells z.cells (cap' - k)) e)).ownsRow base e size (rv (some w.heap.size) k cap') k all := by
  refine ⟨hl, .inr ⟨w.heap.size, cap', _, rfl, hb, heap_alloc_new w.drew _, hk, hm, ?_, ?_⟩⟩
  · simp only [Array.size_append, List.size_toArray, size_zeroCells, hz, hl, ← Nat.add_mul]
    congr 1
    omega
  · simp only [Array.toList_append]
    rw [← hl]
    exact List.take_left
/-- append to an owned row: it stays in its block, or moves to new memory. -/
theorem run_append_rv (w : World) (base : Nat) (t ty e : TypeId) (i : TypeInfo) (z : Value) (size bytes : Nat) (ht : P.underlying t = some (.slice e)) (hi : P.info? e = some i) (hz : i.zero = some z)
    (hsize : i.size = size) (hby : i.bytes = bytes) (hzs : z.cells.size = size)
    (g : Option Nat) (k cap : Nat) (xs : List Value) (hown : w.ownsRow base e size (rv g k cap) k xs)
    (a : Addr) (j c : Nat) (news : List Value) (hl : news.length = j * size) (hnews : ∀ q u, news[q]? = some u → w.cell? (a.add q) = some u) (h1 : ∀ u ∈ news, u.oneCell' = true)
    (h63 : k + j ≤ maxLen) (hbytes : (k + j) * bytes ≤ 140737488355328) (hbase : base ≤ w.heap.size) :
    ∃ g' cap' w', (Builtin.append_ #[t, t] ty #[rv g k cap, .slice (some a) j c]).run P w = .ok (rv g' (k + j) cap') w' ∧ w'.ownsRow base e size (rv g' (k + j) cap') (k + j) (xs ++ news) ∧ w.grownBy w' g ∧
      (g' = g ∨ g' = some w.heap.size) := by
  subst hsize
  subst hby
  have hsmall : k + j ≤ 9223372036854775807 := by simp only [maxLen] at h63; omega
  have hlen : (xs ++ news).length = (k + j) * i.size := by rw [List.length_append, hown.1, hl, Nat.add_mul]
  have grown : ∀ (old : Nat), old < k + j → ∀ (row : Option Nat),
      (w.drew.alloc (.cells (xs.toArray ++ news.toArray ++ Builtin.zeroCells z.cells (grownCap w (k + j) old e - (k + j))) e)).ownsRow base e i.size (rv (some w.heap.size) (k + j) (grownCap w (k + j) old e)) (k + j) (xs ++ news) ∧
      w.grownBy (w.drew.alloc (.cells (xs.toArray ++ news.toArray ++ Builtin.zeroCells z.cells (grownCap w (k + j) old e - (k + j))) e)) row := by
    intro old ho row
    have hge := grownCap_ge w (k + j) old e
    have hcm : grownCap w (k + j) old e ≤ maxLen := grownCap_le_maxLen w (k + j) old e h63
    have hr := row_grow (w := w) (base := base) (e := e) (size := i.size) (k := k + j) (cap' := grownCap w (k + j) old e) (z := z) (all := xs ++ news) hbase hlen hge hcm hzs
    have he : (xs ++ news).toArray = xs.toArray ++ news.toArray := by simp
    rw [he] at hr
    exact ⟨hr, ⟨rfl, rfl, rfl, by simp, fun k hk _ => Below.heap_alloc w.drew _ k hk⟩⟩
  rcases hown.2 with ⟨hv, h0⟩ | ⟨b, cap', cur, hv, hbg, hg, hnc, hcm, hcs, htake⟩
  · have hg0 : g = none := by
      cases g with
      | none => rfl
      | some b => simp [rv] at hv
    subst hg0
    have hc0 : cap = 0 := by simpa [rv, h0] using hv
    subst hc0
    have hx : xs = [] := List.eq_nil_of_length_eq_zero (by rw [hown.1, h0, Nat.zero_mul])
    subst hx
    subst h0
    by_cases hj : j = 0
    · subst hj
      have hn : news = [] := List.eq_nil_of_length_eq_zero (by rw [hl, Nat.zero_mul])
      subst hn
      refine ⟨none, 0, w, ?_, World.ownsRow_nil w base e i.size, ⟨rfl, rfl, rfl, Nat.le_refl _, fun _ _ _ => rfl⟩, .inl rfl⟩
      simp [rv, Builtin.append_, run_underlying ht, sizeOf, typeInfo, hi, Builtin.lenOf, Builtin.firstCells, loadCells, loadCellsFrom]
    · have hr := run_append_nil (P := P) w t ty e i z ht hi hz a j c news hl hnews (by omega) (by omega) (by have hb := hbytes; simp only [Nat.zero_add] at hb; omega)
      have hgr := grown 0 (by omega) none
      simp only [Nat.zero_add, List.nil_append, Array.empty_append] at hgr ⊢
      exact ⟨some w.heap.size, _, _, hr, hgr.1, hgr.2, .inr rfl⟩
  · have hgb : g = some b := by rw [← ownBlock_rv g k cap, hv]; rfl
    subst hgb
    have hcc : cap = cap' := by simpa [rv] using hv
    subst hcc
    by_cases hroom : k + j ≤ cap
    · have hfit : k * i.size + news.length ≤ cur.size := by rw [hl, hcs, ← Nat.add_mul]; exact Nat.mul_le_mul_right _ hroom
      have hr := run_append_room (P := P) w t ty e i ht hi b k cap cur hg a j c news hl hnews h1 hroom hfit
      refine ⟨some b, cap, _, hr, ⟨hlen, .inr ⟨b, cap, _, rfl, hbg, setRow_heap w b cur _ e _ hg, hroom, hcm, ?_, ?_⟩⟩, ⟨rfl, rfl, rfl, by simp, fun q _ hq => setRow_other w b q _ (fun e => hq (by rw [e]))⟩, .inl rfl⟩
      · simp only [List.size_toArray, List.length_append, List.length_take, List.length_drop, Array.length_toList]
        omega
      · rw [htake, ← hlen]
        exact List.take_left
    · have holds : ∀ q u, xs[q]? = some u → w.cell? ((⟨b, 0, none⟩ : Addr).add q) = some u := hown.cells (g := b) rfl
      have hr := run_append_grow (P := P) w t ty e i z ht hi hz ⟨b, 0, none⟩ k cap xs hown.1 holds a j c news hl hnews (by omega) (by omega) (growslice_fits (by omega) hbytes)
      have hgr := grown cap (by omega) (some b)
      exact ⟨some w.heap.size, _, _, hr, hgr.1, hgr.2, .inr rfl⟩
/-- what is known of an element type -/
structure Elem (P : Program) (t e : TypeId) (size bytes : Nat) : Prop where
  ht : P.underlying t = some (.slice e)
  ex : ∃ i z, P.info? e = some i ∧ i.zero = some z ∧ i.size = size ∧ i.bytes = bytes ∧ z.cells.size = size
theorem Elem.of {t e size bytes : Nat} {z : Value} (ht : P.underlying t = some (.slice e)) (h : (P.info? e).map (fun i => (i.zero, i.size, i.bytes)) = some (some z, size, bytes)) (hz : z.cells.size = size) : Elem P t e size bytes := by
  refine ⟨ht, ?_⟩
  cases hi : P.info? e with
  | none => rw [hi] at h; cases h
  | some i =>
    rw [hi] at h
    simp only [Option.map_some, Option.some.injEq, Prod.mk.injEq] at h
    exact ⟨i, z, rfl, h.1, h.2.1, h.2.2, hz⟩
theorem WA.append {w : World} (h : WA w0 base its w) {i : Nat} {t e size bytes : Nat} (he : Elem P t e size bytes) {g : Option Nat} {cap k : Nat} {xs : List Value} (hi : its[i]? = some (.row g cap k e size xs))
    (a : Addr) (j c : Nat) (news : List Value) (hl : news.length = j * size) (hnews : ∀ q u, news[q]? = some u → w.cell? (a.add q) = some u) (h1 : ∀ u ∈ news, u.oneCell' = true)
    (hbytes : (k + j) * bytes ≤ 140737488355328) (h63 : k + j ≤ maxLen) (ty : TypeId) :
    ∃ g' cap' w', (Builtin.append_ #[t, t] ty #[rv g k cap, .slice (some a) j c]).run P w = .ok (rv g' (k + j) cap') w' ∧ WA w0 base (its.set i (.row g' cap' (k + j) e size (xs ++ news))) w' := by
  obtain ⟨inf, z, e1, e2, e3, e4, e5⟩ := he.ex
  obtain ⟨g', cap', w', r1, r2, r3, r4⟩ := run_append_rv (P := P) w base t ty e inf z size bytes he.ht e1 e2 e3 e4 e5 g k cap xs (h.get hi) a j c news hl hnews h1 h63 hbytes h.fits
  refine ⟨g', cap', w', r1, h.others hi r3.os r3.tape r3.output r3.size (fun q hq hne => r3.block q hq fun e => hne e.symm) r2 fun q hq => ?_⟩
  rcases r4 with rfl | rfl
  · exact .inl hq
  · cases hq; exact .inr (Nat.le_refl _)
/-- append of a slice's cells that are known -/
theorem LX.append0 (i : Nat) {j c e size bytes cap k : Nat} {g : Option Nat} {xs news : List Value} {a : Addr} {ats : Array TypeId} (he : Elem P t e size bytes)
    (ho : o.op = .call { callee := .builtin .append, args := #[x, y], argTypes := ats }) (hat : ats = #[t, t])
    (hx : evl l x = some (rv g k cap)) (hy : evl l y = some (.slice (some a) j c)) (hi : its[i]? = some (.row g cap k e size xs))
    (hl : news.length = j * size) (hnews : ∀ w, WA w0 base its w → ∀ q u, news[q]? = some u → w.cell? (a.add q) = some u) (h1 : news.all (·.oneCell') = true)
    (hbytes : (k + j) * bytes ≤ 140737488355328) (h63 : k + j ≤ 9223372036854775807)
    (hg : o.guard = none) (hd : o.dst = some d) (hdn : Nat.blt d n = true)
    (h : ∀ g' cap', LX P ops n D (.plain Q) ((d, rv g' (k + j) cap') :: l) (WA w0 base (its.set i (.row g' cap' (k + j) e size (xs ++ news)))) rest) :
    LX P ops n D (.plain Q) l (WA w0 base its) (o :: rest) := by
  refine LX.effx (τ := Option Nat × Nat) (v := fun p => rv p.1 (k + j) p.2) (W' := fun p => WA w0 base (its.set i (.row p.1 p.2 (k + j) e size (xs ++ news)))) (fun ρ hρ w hW => ?_) hg hd hdn (fun p => h p.1 p.2)
  obtain ⟨g', cap', w', r1, r2⟩ := hW.append he hi a j c news hl (hnews w hW) (List.all_eq_true.1 h1) hbytes (by unfold maxLen; omega) o.type
  refine ⟨(g', cap'), w', ?_, r2⟩
  subst hat
  simp only [execOp, ho, resolve, invoke, builtin, Sem.run_bind, Sem.run_pure, Result.andThen_ok, List.map_toArray, List.map_cons, List.map_nil, hρ _ _ hx, hρ _ _ hy, r1]
/-- 'append(x, v, ..)': the values lie in a row of their own, item 0, that is dropped then -/
theorem LX.appendT (i : Nat) {j c e size bytes cap k b : Nat} {g : Option Nat} {xs news : List Value} {ats : Array TypeId} (he : Elem P t e size bytes)
    (ho : o.op = .call { callee := .builtin .append, args := #[x, y], argTypes := ats }) (hat : ats = #[t, t])
    (hx : evl l x = some (rv g k cap)) (hy : evl l y = some (.slice (some ⟨b, 0, none⟩) j c)) (hi : its[i]? = some (.row g cap k e size xs))
    (hl : news.length = j * size) (h1 : news.all (·.oneCell') = true)
    (hbytes : (k + j) * bytes ≤ 140737488355328) (h63 : k + j ≤ 9223372036854775807)
    (hg : o.guard = none) (hd : o.dst = some d) (hdn : Nat.blt d n = true)
    (h : ∀ g' cap', LX P ops n D (.plain Q) ((d, rv g' (k + j) cap') :: l) (WA w0 base (its.set i (.row g' cap' (k + j) e size (xs ++ news)))) rest) :
    LX P ops n D (.plain Q) l (WA w0 base (.row (some b) c j e size news :: its)) (o :: rest) := by
  refine LX.append0 (i + 1) he ho hat hx hy (by simpa using hi) hl (fun w hW q u hu => ?_) h1 hbytes h63 hg hd hdn (fun g' cap' => LX.world (fun w hw => hw.drop (List.sublist_cons_self _ _)) (h g' cap'))
  have := (hW.rowCell (i := 0) rfl hu).1
  rw [Addr.add_lit]
  simpa using this
/-- the cells of a literal's elements -/
def flat (vals : List (Nat × Value)) : List Value := vals.flatMap (·.2.cells.toList)
def evps (l : Fr) : List (Nat × Operand) → Option (List (Nat × Value))
  | [] => some []
  | p :: r => match evl l p.2, evps l r with
    | some v, some vs => some ((p.1, v) :: vs)
    | _, _ => none
theorem evps_map {ρ : Operand → Value} (hρ : ∀ x u, evl l x = some u → ρ x = u) : ∀ (ps : List (Nat × Operand)) (vs : List (Nat × Value)), evps l ps = some vs → ps.map (fun p => (p.1, ρ p.2)) = vs
  | [], vs, h => by simpa [evps] using h.symm
  | p :: r, vs, h => by
    unfold evps at h
    split at h
    · rename_i v vs' h1 h2
      cases h
      simp [hρ _ _ h1, evps_map hρ r vs' h2]
    · cases h
/-- a slice literal: new memory -/
theorem LX.buildSlice {k e size : Nat} {parts : List (Nat × Operand)} {vals : List (Nat × Value)} (ho : o.op = .buildSlice t k parts.toArray) (hp : evps l parts = some vals)
    (hr : ∀ w, (Instr.buildSlice t k vals.toArray).run P w = .ok (.slice (some ⟨w.heap.size, 0, none⟩) k k) (w.alloc (.cells (flat vals).toArray e))) (hl : (flat vals).length = k * size) (hk : k ≤ 9223372036854775807)
    (hg : o.guard = none) (hd : o.dst = some d) (hdn : Nat.blt d n = true)
    (h : ∀ b, LX P ops n D (.plain Q) ((d, .slice (some ⟨b, 0, none⟩) k k) :: l) (WA w0 base (.row (some b) k k e size (flat vals) :: its)) rest) : LX P ops n D (.plain Q) l (WA w0 base its) (o :: rest) := by
  refine LX.effx (τ := Nat) (v := fun b => .slice (some ⟨b, 0, none⟩) k k) (W' := fun b => WA w0 base (.row (some b) k k e size (flat vals) :: its)) (fun ρ hρ w hW => ⟨w.heap.size, w.alloc (.cells (flat vals).toArray e), ?_, ?_⟩) hg hd hdn h
  · have h2 : (parts.toArray.map fun x => match x with | (i, x) => (i, ρ x)) = vals.toArray := by
      rw [List.map_toArray, ← evps_map hρ parts vals hp]
    simp [execOp, ho, h2, hr w]
  · refine hW.cons ((Below.refl _ _).alloc (Nat.le_refl _) _) ⟨hl, .inr ⟨w.heap.size, k, (flat vals).toArray, rfl, hW.fits, heap_alloc_new w _, Nat.le_refl _, by unfold maxLen; omega, by simpa using hl, ?_⟩⟩ fun q hq => by cases hq; exact Nat.le_refl _
    simp [← hl]
theorem Y.build {parts : List (Nat × Operand)} {vals : List (Nat × Value)} (hp : evps l parts = some vals) (hr : ∀ w, (Instr.build t vals.toArray).run P w = .ok v w) : Y P l W (.build t parts.toArray) ty v := by
  intro ρ hρ o' ho ht' w hW
  have h2 : (parts.toArray.map fun x => match x with | (i, x) => (i, ρ x)) = vals.toArray := by
    rw [List.map_toArray, ← evps_map hρ parts vals hp]
  simp [execOp, ho, h2, hr w]
end Go.SX
namespace Go.SX
open Go.RowKit
variable {P : Program} {ops : Array Oper} {n : Nat} {D : List Deferred} {m : Mode} {l l' : Fr} {W W' : World → Prop} {rest : List Oper} {o : Oper} {d : Nat} {u v : Value}
  {x y : Operand} {t ty : TypeId} {w0 : World} {base : Nat} {its : List It} {Q : Exit → Act → World → Prop} {c c' : Code} {id id' : Nat} {K : Act → World → Prop} {e : Exit}
/-! code -/
def CX (P : Program) (n : Nat) (D : List Deferred) (Q : Exit → Act → World → Prop) (l : Fr) (W : World → Prop) (c : Code) : Prop := ∀ a w, Has n D a l → W w → c.wp P Q a w
/-- what is to be shown where code ends so -/
def PX (n : Nat) (D : List Deferred) (Q : Exit → Act → World → Prop) (l : Fr) (W : World → Prop) (e : Exit) : Prop := ∀ a w, Has n D a l → W w → Q e a w
theorem CX.world (hw : ∀ w, W w → W' w) (h : CX P n D Q l W' c) : CX P n D Q l W c := fun a w ha hW => h a w ha (hw w hW)
theorem CX.sub (hs : Sub l' l) (h : CX P n D Q l' W c) : CX P n D Q l W c := fun a w ha hW => h a w (ha.sub hs) hW
theorem CX.have {R : Prop} (h : R → CX P n D Q l W c) : CX P n D Q l (fun w => R ∧ W w) c := fun a w ha hW => h hW.1 a w ha hW.2
theorem CX.ex {τ : Type} {WW : τ → World → Prop} (h : ∀ i, CX P n D Q l (WW i) c) : CX P n D Q l (fun w => ∃ i, WW i w) c := fun a w ha ⟨i, hW⟩ => h i a w ha hW
theorem PX.world (hw : ∀ w, W w → W' w) (h : PX n D Q l W' e) : PX n D Q l W e := fun a w ha hW => h a w ha (hw w hW)
theorem PX.sub (hs : Sub l' l) (h : PX n D Q l' W e) : PX n D Q l W e := fun a w ha hW => h a w (ha.sub hs) hW
theorem LX.never (h : ∀ w, W w → False) : LX P ops n D (.plain Q) l W rest := fun _ w _ hW => (h w hW).elim
theorem CX.never (h : ∀ w, W w → False) : CX P n D Q l W c := fun _ w _ hW => (h w hW).elim
theorem LX.ex {τ : Type} {WW : τ → World → Prop} (h : ∀ i, LX P ops n D (.plain Q) l (WW i) rest) : LX P ops n D (.plain Q) l (fun w => ∃ i, WW i w) rest := fun a w ha ⟨i, hW⟩ => h i a w ha hW
theorem CX.seq (h : CX P n D (Exit.then (fun a w => c'.wp P Q a w) Q) l W c) : CX P n D Q l W (.seq c c') := fun a w ha hW => wp_seq (h a w ha hW)
/-- a seam: what is known between two parts of the code -/
theorem CX.seqM {τ : Type} (L : τ → Fr) (WW : τ → World → Prop) (h1 : CX P n D (Exit.then (fun a w => ∃ i, Has n D a (L i) ∧ WW i w) Q) l W c) (h2 : ∀ i, CX P n D Q (L i) (WW i) c') : CX P n D Q l W (.seq c c') :=
  fun a w ha hW => wp_seq (wp_mono (h1 a w ha hW) fun e a' w' h => by
    cases e with
    | normal => obtain ⟨i, hi, hw⟩ := h; exact h2 i a' w' hi hw
    | _ => exact h)
theorem PX.seam {τ : Type} {L : τ → Fr} {WW : τ → World → Prop} (i : τ) (hs : Sub (L i) l) (hw : ∀ w, W w → WW i w) : PX n D (Exit.then (fun a w => ∃ i, Has n D a (L i) ∧ WW i w) Q) l W .normal :=
  fun _ w ha hW => ⟨i, ha.sub hs, hw w hW⟩
theorem CX.region {lo : List Oper} (h : LX P lo.toArray n D (.plain Q) l W lo) : CX P n D Q l W (.region id lo.toArray false) := fun a w ha hW => wp_region_lit (h a w ha hW)
theorem CX.regionQ [hst : Stab W] {lo : List Oper} (hm : P.follows .mixedOrders = true) (hB : Region.lexB .any lo.toArray = true)
    (h : LX P lo.toArray n D (.quiet (fun a' => ∀ w', W w' → Q .normal a' w')) l W lo) : CX P n D Q l W (.region id lo.toArray true) :=
  fun a w ha hW => wp_region_quiet (C := W) hm hB (Stab.drew hW) (by simpa using h a ha)
theorem LX.next (h : PX n D Q l W .normal) : LX P ops n D (.plain Q) l W [] := fun a w ha hW => h a w ha hW
theorem LX.nextQ (h : PX n D Q l W .normal) : LX P ops n D (.quiet (fun a' => ∀ w', W w' → Q .normal a' w')) l W [] := fun a ha w hW => h a w ha hW
theorem CX.cond {b : Bool} {xo : Operand} (hb : evl l xo = some (.bool b)) (hT : b = true → CX P n D Q l W c) (hF : b = false → CX P n D Q l W c') : CX P n D Q l W (.cond xo c c') :=
  fun a w ha hW => wp_cond_split (ha.eval _ _ hb) (fun h => hT h a w ha hW) (fun h => hF h a w ha hW)
theorem CX.block (h : CX P n D (Exit.inBlock id Q) l W c) : CX P n D Q l W (.block id c) := fun a w ha hW => wp_block (h a w ha hW)
theorem CX.skip (h : PX n D Q l W .normal) : CX P n D Q l W .skip := fun a w ha hW => wp_skip (h a w ha hW)
theorem CX.exit (h : PX n D Q l W (.exit id)) : CX P n D Q l W (.exit id) := fun a w ha hW => wp_exit (h a w ha hW)
theorem CX.ret (h : PX n D Q l W .ret) : CX P n D Q l W .ret := fun a w ha hW => wp_ret (h a w ha hW)
theorem PX.thenN (h : CX P n D Q l W c) : PX n D (Exit.then (fun a w => c.wp P Q a w) Q) l W .normal := h
theorem PX.thenE (h : PX n D Q l W (.exit id)) : PX n D (Exit.then K Q) l W (.exit id) := h
theorem PX.thenR (h : PX n D Q l W .ret) : PX n D (Exit.then K Q) l W .ret := h
theorem PX.blockN (h : PX n D Q l W .normal) : PX n D (Exit.inBlock id Q) l W .normal := h
theorem PX.blockR (h : PX n D Q l W .ret) : PX n D (Exit.inBlock id Q) l W .ret := h
theorem PX.blockE (h : PX n D Q l W .normal) : PX n D (Exit.inBlock id Q) l W (.exit id) := fun a w ha hW => by
  simp only [Exit.inBlock, ↓reduceIte]; exact h a w ha hW
theorem PX.blockO (hne : Nat.beq id' id = false) (h : PX n D Q l W (.exit id')) : PX n D (Exit.inBlock id Q) l W (.exit id') := fun a w ha hW => by
  have : id' ≠ id := by rintro rfl; simp at hne
  simp only [Exit.inBlock, this, ↓reduceIte]; exact h a w ha hW
/-- a loop: its state is described by a ghost -/
theorem CX.loop {τ : Type} (L : τ → Fr) (WW : τ → World → Prop) (μ : τ → Nat) (i0 : τ) (hs : Sub (L i0) l) (hW : ∀ w, W w → WW i0 w)
    (round : ∀ i, CX P n D (Exit.then (fun a w => ∃ j, μ j < μ i ∧ Has n D a (L j) ∧ WW j w) Q) (L i) (WW i) c) : CX P n D Q l W (.loop c) := by
  intro a w ha hw b k cs
  have key : ∀ q i, μ i = q → ∀ a w, Has n D a (L i) → WW i w →
      ∃ e a' w', Q e a' w' ∧ Arrives P (lone (b.at a (.code c :: .inLoop c :: k)) cs w) b k cs e a' w' := by
    intro q
    induction q using Nat.strongRecOn with
    | _ q ih =>
      intro i hi a w ha hw
      obtain ⟨e, a₁, w₁, hq, harr⟩ := round i a w ha hw b (.inLoop c :: k) cs
      cases e with
      | normal =>
        obtain ⟨j, hlt, ha₁, hw₁⟩ := hq
        obtain ⟨e₂, a₂, w₂, hq₂, harr₂⟩ := ih (μ j) (hi ▸ hlt) j rfl a₁ w₁ ha₁ hw₁
        exact ⟨e₂, a₂, w₂, hq₂, .of_steps (Steps.trans harr (.one step_inLoop)) harr₂⟩
      | exit id => exact ⟨_, a₁, w₁, hq, .pass (x := .inLoop c) rfl (fun _ _ => .inl (by simp)) harr⟩
      | goto l => exact ⟨_, a₁, w₁, hq, .pass (x := .inLoop c) rfl (fun _ _ => .inl (by simp)) harr⟩
      | ret => exact ⟨_, a₁, w₁, hq, .pass (x := .inLoop c) rfl (fun _ _ => .inl (by simp)) harr⟩
      | panic ch => exact ⟨_, a₁, w₁, hq, .pass (x := .inLoop c) rfl (fun _ _ => .inl (by simp)) harr⟩
      | outgrown => exact ⟨_, a₁, w₁, hq, .pass (x := .inLoop c) rfl (fun _ _ => .inl (by simp)) harr⟩
  obtain ⟨e, a', w', hq, harr⟩ := key _ i0 rfl a w (ha.sub hs) (hW w hw)
  exact ⟨e, a', w', hq, .of_steps (.one step_loop) harr⟩
theorem PX.again {τ : Type} {L : τ → Fr} {WW : τ → World → Prop} {μ : τ → Nat} {i : τ} (j : τ) (hμ : μ j < μ i) (hs : Sub (L j) l) (hw : ∀ w, W w → WW j w) :
    PX n D (Exit.then (fun a w => ∃ j, μ j < μ i ∧ Has n D a (L j) ∧ WW j w) Q) l W .normal := fun _ w ha hW => ⟨j, hμ, ha.sub hs, hw w hW⟩
/-! functions -/
/-- Called in a world of W it returns, for some x, the value v x, in a world of W' x. -/
def FnC (P : Program) (f : FuncId) (args : Array Value) (W : World → Prop) {τ : Type} (v : τ → Value) (W' : τ → World → Prop) : Prop :=
  ∀ w, W w → Calls P f args w fun e w' => ∃ x, e = .returned (v x) ∧ W' x w'
def argFr : Nat → List Value → Fr
  | _, [] => []
  | k, a :: r => (k, a) :: argFr (k + 1) r
theorem get_argFr : ∀ (args : List Value) (k i : Nat) (v : Value), get (argFr k args) i = some v → k ≤ i ∧ args[i - k]? = some v
  | [], _, _, _, h => by cases h
  | a :: r, k, i, v, h => by
    unfold argFr at h
    by_cases hk : k = i
    · subst hk
      rw [get_cons_same] at h
      simpa using h
    · rw [get_cons_ne _ _ hk] at h
      obtain ⟨h1, h2⟩ := get_argFr r (k + 1) i v h
      refine ⟨by omega, ?_⟩
      rw [show i - k = (i - (k + 1)) + 1 by omega]
      simpa using h2
def FPost {τ : Type} (v : τ → Value) (W' : τ → World → Prop) (e : Ending) (w : World) : Prop := ∃ x, e = .returned (v x) ∧ W' x w
theorem FnC.of_body {τ : Type} {v : τ → Value} {W' : τ → World → Prop} {f : FuncId} {fn : Func} {args : List Value} (l0 : Fr) (hf : P.funcs[f]? = some fn) (hb : fn.body = some c) (hn : fn.ntmps = n) (ha : Nat.ble args.length n = true) (hs : Sub l0 (argFr 0 args))
    (h : CX P n [] (bodyPost P fn (FPost v W')) l0 W c) : FnC P f args.toArray W v W' := by
  intro w hW
  refine calls_of_wp hf hb (h _ w ?_ hW)
  have ha' : args.length ≤ n := by simpa using ha
  refine Has.sub ⟨?_, rfl, fun i v hi => ?_⟩ hs
  · simp only [Array.size_append, Array.size_replicate, List.size_toArray, hn]; omega
  · obtain ⟨_, h2⟩ := get_argFr args 0 i v hi
    have hlt : i < args.length := (List.getElem?_eq_some_iff.1 h2).1
    rw [Array.getElem?_append_left (by simpa using hlt)]
    simpa using h2
theorem PX.ret0 {R : Ending → World → Prop} {fn : Func} (he : e = .ret ∨ e = .normal) (hr : fn.results = #[]) (h : ∀ w, W w → R (.returned (.tuple #[])) w) : PX n [] (bodyPost P fn R) l W e := by
  intro a w ha hW
  have := results_none hr a.tmps P w
  rcases he with rfl | rfl
  · exact ⟨ha.defs, _, this, h w hW⟩
  · exact ⟨ha.defs, _, this, h w hW⟩
theorem getD_of {a : Act} {r : Nat} {v : Value} (ha : Has n D a l) (hv : get l r = some v) : a.tmps.getD r undef = v := by
  have := ha.slot r v hv
  simp [this]
theorem PX.ret1 {R : Ending → World → Prop} {fn : Func} {r : Nat} (he : e = .ret ∨ e = .normal) (hr : fn.results = #[.tmp r]) (hv : get l r = some v) (h : ∀ w, W w → R (.returned v) w) : PX n [] (bodyPost P fn R) l W e := by
  intro a w ha hW
  have := results_tmp hr a.tmps P w
  rw [getD_of ha hv] at this
  rcases he with rfl | rfl
  · exact ⟨ha.defs, _, this, h w hW⟩
  · exact ⟨ha.defs, _, this, h w hW⟩
theorem PX.ret2 {R : Ending → World → Prop} {fn : Func} {r s : Nat} (he : e = .ret ∨ e = .normal) (hr : fn.results = #[.tmp r, .tmp s]) (hv : get l r = some v) (hu : get l s = some u) (h : ∀ w, W w → R (.returned (.tuple #[v, u])) w) : PX n [] (bodyPost P fn R) l W e := by
  intro a w ha hW
  have := results_tmp2 hr a.tmps P w
  rw [getD_of ha hv, getD_of ha hu] at this
  rcases he with rfl | rfl
  · exact ⟨ha.defs, _, this, h w hW⟩
  · exact ⟨ha.defs, _, this, h w hW⟩
/-- the function is entered: it has a body -/
def Enters (P : Program) (f : FuncId) : Prop := ∀ args w, (callFunc f args).run P w = .ok (.enter f args) w
theorem Enters.of {f : FuncId} {fn : Func} (hf : P.funcs[f]? = some fn) (hn : (fn.name == "runtime.NumGoroutine") = false) (hb : fn.body.isNone = false) : Enters P f := by
  intro args w
  have hn' : fn.name ≠ "runtime.NumGoroutine" := by simpa using hn
  have hb' : fn.body ≠ none := by intro h; rw [h] at hb; cases hb
  simp [callFunc, program, Sem.run, hf, hn', hb']
def evals (l : Fr) : List Operand → Option (List Value)
  | [] => some []
  | p :: r => match evl l p, evals l r with
    | some v, some vs => some (v :: vs)
    | _, _ => none
theorem evals_map {ρ : Operand → Value} (hρ : ∀ x u, evl l x = some u → ρ x = u) : ∀ (ps : List Operand) (vs : List Value), evals l ps = some vs → ps.map ρ = vs
  | [], vs, h => by simpa [evals] using h.symm
  | p :: r, vs, h => by
    unfold evals at h
    split at h
    · rename_i v vs' h1 h2
      cases h
      simp [hρ _ _ h1, evals_map hρ r vs' h2]
    · cases h
theorem run_call {f : FuncId} {ps : List Operand} {vs : List Value} {ats : Array TypeId} (hen : Enters P f) (ho : o.op = .call { callee := .value (.func f), args := ps.toArray, argTypes := ats }) (hp : evals l ps = some vs)
    {ρ : Operand → Value} (hρ : ∀ x u, evl l x = some u → ρ x = u) (w : World) : (execOp ρ o).run P w = .ok (.enter f vs.toArray) w := by
  have h1 : ρ (.func f) = .func (.func f) #[] #[] := hρ _ _ rfl
  have h2 : (ps.toArray.map ρ) = vs.toArray := by rw [List.map_toArray, evals_map hρ ps vs hp]
  have h3 := hen vs.toArray w
  simp [execOp, ho, resolve, h1, h2, Deferred.ofValue, invoke, h3]
/-- a call of a function that the model itself answers, and that only computes -/
theorem Y.ext {f : FuncId} {ps : List Operand} {vs : List Value} {ats : Array TypeId} (hp : evals l ps = some vs) (hr : ∀ w, (callFunc f vs.toArray).run P w = .ok (.value v) w) :
    Y P l W (.call { callee := .value (.func f), args := ps.toArray, argTypes := ats }) ty v := by
  intro ρ hρ o' ho ht w hW
  have h1 : ρ (.func f) = .func (.func f) #[] #[] := hρ _ _ rfl
  have h2 : (ps.toArray.map ρ) = vs.toArray := by rw [List.map_toArray, evals_map hρ ps vs hp]
  simp [execOp, ho, resolve, h1, h2, Deferred.ofValue, invoke, hr w]
theorem LX.call {τ : Type} {v : τ → Value} {W' : τ → World → Prop} {f : FuncId} {ps : List Operand} {vs : List Value} {ats : Array TypeId} (hc : FnC P f vs.toArray W v W') (hen : Enters P f)
    (ho : o.op = .call { callee := .value (.func f), args := ps.toArray, argTypes := ats }) (hp : evals l ps = some vs) (hg : o.guard = none) (hd : o.dst = some d) (hdn : Nat.blt d n = true)
    (h : ∀ x, LX P ops n D (.plain Q) ((d, v x) :: l) (W' x) rest) : LX P ops n D (.plain Q) l W (o :: rest) := by
  intro a w ha hW
  unfold wpList
  rw [if_pos (wanted_none hg)]
  left
  unfold Oper.wp
  rw [run_call hen ho hp ha.eval w]
  simp only [Oper.upon]
  refine (hc w hW).mono ?_
  rintro e' w' ⟨x, rfl, hx⟩
  simp only [hd]
  exact h x _ _ (ha.put hdn _) hx
/-- a call that leaves all that is known as it was, and whose value is known: in any region -/
theorem LX.callQ0 {v : Value} {f : FuncId} {ps : List Operand} {vs : List Value} {ats : Array TypeId} (hc : ∀ w, W w → Calls P f vs.toArray w fun e w' => e = .returned v ∧ W w') (hen : Enters P f)
    (ho : o.op = .call { callee := .value (.func f), args := ps.toArray, argTypes := ats }) (hp : evals l ps = some vs) (hw : ∀ a, Has n D a l → Region.wanted o (yielded ops a.tmps) = true) (hd : o.dst = some d) (hdn : Nat.blt d n = true)
    (h : LX P ops n D m ((d, v) :: l) W rest) : LX P ops n D m l W (o :: rest) := by
  cases m with
  | plain Q =>
    intro a w ha hW
    unfold wpList
    rw [if_pos (hw a ha)]
    left
    unfold Oper.wp
    rw [run_call hen ho hp ha.eval w]
    simp only [Oper.upon]
    refine (hc w hW).mono ?_
    rintro e' w' ⟨rfl, hx⟩
    simp only [hd]
    exact h _ _ (ha.put hdn _) hx
  | quiet R =>
    intro a ha
    unfold wpQuiet
    rw [if_pos (hw a ha)]
    refine ⟨v, fun w hW => ?_, by rw [hd]; exact h _ (ha.put hdn v)⟩
    unfold Oper.quietAt
    rw [run_call hen ho hp ha.eval w]
    exact ⟨rfl, hc w hW⟩
/-- a function that changes nothing that was there: its value is known in each world of W -/
def FnQ (P : Program) (f : FuncId) (args : Array Value) (W : World → Prop) (v : Value) : Prop := ∀ w, W w → Calls P f args w fun e w' => e = .returned v ∧ Below w.heap.size w w'
theorem LX.callQ [hst : Stab W] {v : Value} {f : FuncId} {ps : List Operand} {vs : List Value} {ats : Array TypeId} (hc : FnQ P f vs.toArray W v) (hen : Enters P f)
    (ho : o.op = .call { callee := .value (.func f), args := ps.toArray, argTypes := ats }) (hp : evals l ps = some vs) (hg : o.guard = none) (hd : o.dst = some d) (hdn : Nat.blt d n = true)
    (h : LX P ops n D m ((d, v) :: l) W rest) : LX P ops n D m l W (o :: rest) :=
  LX.callQ0 (fun w hW => (hc w hW).mono fun _ w' ⟨he, hb⟩ => ⟨he, Stab.st w w' hW hb⟩) hen ho hp (fun _ _ => wanted_none hg) hd hdn h
theorem LX.callQT [hst : Stab W] {j s : Nat} {b want : Bool} {v : Value} {f : FuncId} {ps : List Operand} {vs : List Value} {ats : Array TypeId} (hg : o.guard = some (j, want)) (hj : (ops[j]?).bind (·.dst) = some s) (hs : get l s = some (.bool b)) (hb : b = want)
    (hc : FnQ P f vs.toArray W v) (hen : Enters P f)
    (ho : o.op = .call { callee := .value (.func f), args := ps.toArray, argTypes := ats }) (hp : evals l ps = some vs) (hd : o.dst = some d) (hdn : Nat.blt d n = true)
    (h : LX P ops n D m ((d, v) :: l) W rest) : LX P ops n D m l W (o :: rest) :=
  LX.callQ0 (fun w hW => (hc w hW).mono fun _ w' ⟨he, hb⟩ => ⟨he, Stab.st w w' hW hb⟩) hen ho hp (fun a ha => by simp [Region.wanted, hg, ha.yielded hj hs, hb]) hd hdn h
/-! stable facts -/
/-- cells that hold these -/
def Cells (b off : Nat) (vs : List Value) (w : World) : Prop := ∀ i v, vs[i]? = some v → w.cell? ⟨b, off + i, none⟩ = some v
instance {b off : Nat} {vs : List Value} : Stab (Cells b off vs) where
  st w _ h hb i v hi := by
    have h1 := h i v hi
    rw [hb.cell (p := ⟨b, off + i, none⟩) (World.block_lt_of_cell? w _ h1)]; exact h1
instance {W1 W2 : World → Prop} [Stab W1] [Stab W2] : Stab (fun w => W1 w ∧ W2 w) where
  st w w' h hb := ⟨Stab.st w w' h.1 hb, Stab.st w w' h.2 hb⟩
instance {w1 : World} : Stab (Below w1.heap.size w1) where
  st _ _ h hb := h.trans (hb.mono h.size)
instance {τ : Type} {WW : τ → World → Prop} [∀ i, Stab (WW i)] : Stab (fun w => ∃ i, WW i w) where
  st w w' h hb := h.elim fun i hi => ⟨i, Stab.st w w' hi hb⟩
instance {R : Prop} : Stab (fun _ => R) where
  st _ _ h _ := h
/-- shown for every class of worlds, a function is quiet -/
theorem FnQ.all [Stab W] {f : FuncId} {args : Array Value} {u : Value} (h : ∀ (W' : World → Prop) [Stab W'], (∀ w, W' w → W w) → FnC P f args W' (fun _ : Unit => u) (fun _ => W')) : FnQ P f args W u :=
  fun w hW => ((h (fun w' => W w' ∧ Below w.heap.size w w') (fun _ h => h.1)) w ⟨hW, Below.refl _ _⟩).mono fun _ _ ⟨_, he, hw⟩ => ⟨he, hw.2⟩
theorem FnQ.mono {f : FuncId} {args : Array Value} {u : Value} (h : FnQ P f args W' u) (hw : ∀ w, W w → W' w) : FnQ P f args W u := fun w hW => h w (hw w hW)
theorem Below.cells (w : World) (vs : List Value) (T : TypeId) : Cells w.heap.size 0 vs (w.alloc (.cells vs.toArray T)) := by
  intro i v hi
  rw [Nat.zero_add, World.cell?_alloc_at _ _ _ _ rfl]
  simpa using hi
/-- a slice literal in any class: its cells are known from there on -/
theorem LX.buildSliceW [Stab W] {k e : Nat} {parts : List (Nat × Operand)} {vals : List (Nat × Value)} (ho : o.op = .buildSlice t k parts.toArray) (hp : evps l parts = some vals)
    (hr : ∀ w, (Instr.buildSlice t k vals.toArray).run P w = .ok (.slice (some ⟨w.heap.size, 0, none⟩) k k) (w.alloc (.cells (flat vals).toArray e)))
    (hg : o.guard = none) (hd : o.dst = some d) (hdn : Nat.blt d n = true)
    (h : ∀ b, LX P ops n D (.plain Q) ((d, .slice (some ⟨b, 0, none⟩) k k) :: l) (fun w => W w ∧ Cells b 0 (flat vals) w) rest) : LX P ops n D (.plain Q) l W (o :: rest) := by
  refine LX.effx (τ := Nat) (v := fun b => .slice (some ⟨b, 0, none⟩) k k) (W' := fun b w => W w ∧ Cells b 0 (flat vals) w) (fun ρ hρ w hW => ⟨w.heap.size, w.alloc (.cells (flat vals).toArray e), ?_, ?_⟩) hg hd hdn h
  · have h2 : (parts.toArray.map fun x => match x with | (i, x) => (i, ρ x)) = vals.toArray := by
      rw [List.map_toArray, ← evps_map hρ parts vals hp]
    simp [execOp, ho, h2, hr w]
  · exact ⟨Stab.st w _ hW ((Below.refl _ _).alloc (Nat.le_refl _) _), Below.cells w _ e⟩
/-- a function whose proof is by WA over nothing is quiet -/
theorem FnQ.of {τ : Type} {f : FuncId} {args : Array Value} {v : τ → Value} {u : Value} {W' : τ → World → Prop} (hc : ∀ w, W w → FnC P f args (WA w w.heap.size []) v (fun x w' => W' x w' ∧ WA w w.heap.size [] w')) (hv : ∀ x w', W' x w' → v x = u) : FnQ P f args W u :=
  fun w hW => (hc w hW w (WA.start w)).mono fun _ w' ⟨x, he, h1, h2⟩ => ⟨by rw [he, hv x w' h1], h2.below⟩
end Go.SX
namespace Go.SX
open Go.RowKit
/-! regions that draw their order and change the world: some operations are taken first, the others come up one at a time -/
section
variable {P : Program} {ops : Array Oper} {Q : Exit → Act → World → Prop} {md : Region.Mode} {S : World → Prop}
/-- those of 'pend' that operation j does not wait for -/
def still (ops : Array Oper) (md : Region.Mode) (pend : List Nat) (j : Nat) : List Nat := pend.filter fun p => !((ops[j]?).map fun o => o.after.any fun e => Region.binds md e && e.on == p).getD false
/-- Whatever order is picked from here on, and S holds as long as one of 'pend' may be open. -/
def wpAnyM (P : Program) (md : Region.Mode) (ops : Array Oper) (Q : Exit → Act → World → Prop) (S : World → Prop) : Nat → Array Bool → List Nat → Act → World → Prop
  | 0, listed, _, a, w => Region.ready md ops listed = [] ∧ Q .normal a w
  | fuel + 1, listed, pend, a, w =>
    (Region.ready md ops listed = [] → Q .normal a w) ∧
    ∀ i ∈ Region.ready md ops listed, wpOp P ops Q i (fun a' w' => (still ops md pend i ≠ [] → S w') ∧ wpAnyM P md ops Q S fuel (listed.setIfInBounds i true) (still ops md pend i) a' w') a w
theorem wpAny_of_M : ∀ (fuel : Nat) (listed : Array Bool) (pend : List Nat) (a : Act) (w : World), wpAnyM P md ops Q S fuel listed pend a w → wpAny P md ops Q fuel listed a w
  | 0, _, _, _, _, h => h
  | fuel + 1, _, _, _, _, h => ⟨h.1, fun i hi => wpOp_mono (fun a' w' h' => wpAny_of_M fuel _ _ a' w' h'.2) (h.2 i hi)⟩
theorem still_sub {pend pend' : List Nat} (h : ∀ p ∈ pend, p ∈ pend') (j : Nat) : ∀ p ∈ still ops md pend j, p ∈ still ops md pend' j := by
  intro p hp
  unfold still at *
  rw [List.mem_filter] at *
  exact ⟨h p hp.1, hp.2⟩
theorem ne_nil_of {l l' : List Nat} (h : ∀ p ∈ l, p ∈ l') (hn : l ≠ []) : l' ≠ [] := by
  cases l with
  | nil => exact absurd rfl hn
  | cons x t => intro e; have := h x (by simp); rw [e] at this; cases this
theorem wpAnyM_mono : ∀ (fuel : Nat) (listed : Array Bool) (pend pend' : List Nat) (a : Act) (w : World), (∀ p ∈ pend, p ∈ pend') → wpAnyM P md ops Q S fuel listed pend' a w → wpAnyM P md ops Q S fuel listed pend a w
  | 0, _, _, _, _, _, _, h => h
  | fuel + 1, _, _, _, _, _, hp, h => ⟨h.1, fun i hi => wpOp_mono (fun a' w' h' => ⟨fun hn => h'.1 (ne_nil_of (still_sub hp i) hn), wpAnyM_mono fuel _ _ _ a' w' (still_sub hp i) h'.2⟩) (h.2 i hi)⟩
theorem still_comm (pend : List Nat) (i j : Nat) : still ops md (still ops md pend i) j = still ops md (still ops md pend j) i := by
  unfold still
  rw [List.filter_filter, List.filter_filter]
  congr 1
  funext p
  exact Bool.and_comm _ _
/-- An operation that yields its value wherever S holds may be taken first: S is asked for until one that waits for it comes up; those that it waits for are done when it is. -/
theorem wpAnyM_first {i : Nat} {oi : Oper} {v : Value} (hi : ops[i]? = some oi) (hsel : ∀ (j : Nat) (o : Oper) cs b, ops[j]? = some o → o.op ≠ .select cs b)
    (hQ : ∀ c a w, Q (.panic c) (a.put oi.dst v) w → Q (.panic c) a w) :
    ∀ (fuel : Nat) (listed : Array Bool) (pend : List Nat) (a : Act) (w : World),
      (∀ j oj, ops[j]? = some oj → j ≠ i → listed.getD j true = false → (∀ e ∈ oj.after, Region.binds md e = true → e.on ≠ i) → oi.apart ops oj = true) →
      i ∈ Region.ready md ops listed → YieldsIf P ops S oi v a → S w →
      wpAnyM P md ops Q S fuel (listed.setIfInBounds i true) (i :: still ops md pend i) (a.put oi.dst v) w → wpAnyM P md ops Q S (fuel + 1) listed pend a w := by
  intro fuel
  induction fuel with
  | zero =>
    intro listed pend a w _ hr hy hS H
    refine ⟨fun h => (by rw [h] at hr; cases hr), fun j hj => ?_⟩
    by_cases hji : j = i
    · subst hji; exact hy.wpOp hi hS ⟨fun _ => hS, H⟩
    · have := ready_mono hj hji
      rw [H.1] at this
      cases this
  | succ fuel ih =>
    intro listed pend a w hfree hr hy hS H
    refine ⟨fun h => (by rw [h] at hr; cases hr), fun j hj => ?_⟩
    by_cases hji : j = i
    · subst hji
      exact hy.wpOp hi hS ⟨fun _ => hS, wpAnyM_mono _ _ _ _ _ _ (fun p hp => List.mem_cons_of_mem _ hp) H⟩
    · have h1 := H.2 j (ready_mono hj hji)
      obtain ⟨hjun, oj, hoj, hall⟩ := mem_ready.1 hj
      have hnot : ∀ e ∈ oj.after, Region.binds md e = true → e.on ≠ i := fun e he hb heq => by
        have h1 := hall e he hb
        have h0 := (mem_ready.1 hr).1
        rw [heq] at h1
        rcases Nat.lt_or_ge i listed.size with h' | h'
        · simp [h'] at h0 h1; rw [h0] at h1; cases h1
        · simp [Array.getElem?_eq_none h'] at h1
      have hst : still ops md (i :: still ops md pend i) j = i :: still ops md (still ops md pend j) i := by
        rw [still_comm]
        unfold still
        rw [List.filter_cons_of_pos]
        simp only [hoj, Option.map_some, Option.getD_some, Bool.not_eq_true', Array.any_eq_false', Bool.and_eq_true, beq_iff_eq, not_and]
        intro e he hb
        exact hnot e he hb
      have h2 := wpOp_putIf hoj (hfree j oj hoj hji hjun hnot) (fun cs b => hsel i oi cs b hi) (fun cs b => hsel j oj cs b hoj) hQ hy h1
      have hfree' : ∀ k ok, ops[k]? = some ok → k ≠ i → (listed.setIfInBounds j true).getD k true = false →
          (∀ e ∈ ok.after, Region.binds md e = true → e.on ≠ i) → oi.apart ops ok = true := fun k ok hk hki hun hno => by
        refine hfree k ok hk hki ?_ hno
        by_cases hjk : j = k
        · subst hjk; exact hjun
        · rw [getD_set_ne true hjk] at hun; exact hun
      refine wpOp_mono (fun a' w' h3 => ?_) h2
      rw [hst] at h3
      refine ⟨fun _ => h3.2.1 (by simp), ih (listed.setIfInBounds j true) _ a' w' hfree' (ready_mono hr (Ne.symm hji)) h3.1 (h3.2.1 (by simp)) ?_⟩
      rw [Array.setIfInBounds_comm _ _ hji]
      exact h3.2.2
/-- One that yields its value in whatever world. -/
theorem wpAnyM_firstP {i : Nat} {oi : Oper} {v : Value} (hi : ops[i]? = some oi) (hsel : ∀ (j : Nat) (o : Oper) cs b, ops[j]? = some o → o.op ≠ .select cs b)
    (hQ : ∀ c a w, Q (.panic c) (a.put oi.dst v) w → Q (.panic c) a w) :
    ∀ (fuel : Nat) (listed : Array Bool) (pend : List Nat) (a : Act) (w : World),
      (∀ j oj, ops[j]? = some oj → j ≠ i → listed.getD j true = false → (∀ e ∈ oj.after, Region.binds md e = true → e.on ≠ i) → oi.apart ops oj = true) →
      i ∈ Region.ready md ops listed → Yields P ops oi v a → (pend ≠ [] → S w) →
      wpAnyM P md ops Q S fuel (listed.setIfInBounds i true) pend (a.put oi.dst v) w → wpAnyM P md ops Q S (fuel + 1) listed pend a w := by
  intro fuel
  induction fuel with
  | zero =>
    intro listed pend a w _ hr hy hS H
    refine ⟨fun h => (by rw [h] at hr; cases hr), fun j hj => ?_⟩
    by_cases hji : j = i
    · subst hji; exact hy.wpOp hi ⟨fun hn => hS (ne_nil_of (fun p hp => by unfold still at hp; exact (List.mem_filter.1 hp).1) hn), H⟩
    · have := ready_mono hj hji
      rw [H.1] at this
      cases this
  | succ fuel ih =>
    intro listed pend a w hfree hr hy hS H
    refine ⟨fun h => (by rw [h] at hr; cases hr), fun j hj => ?_⟩
    by_cases hji : j = i
    · subst hji
      have hsub : ∀ p ∈ still ops md pend j, p ∈ pend := fun p hp => by unfold still at hp; exact (List.mem_filter.1 hp).1
      exact hy.wpOp hi ⟨fun hn => hS (ne_nil_of hsub hn), wpAnyM_mono _ _ _ _ _ _ hsub H⟩
    · have h1 := H.2 j (ready_mono hj hji)
      obtain ⟨hjun, oj, hoj, hall⟩ := mem_ready.1 hj
      have hnot : ∀ e ∈ oj.after, Region.binds md e = true → e.on ≠ i := fun e he hb heq => by
        have h1 := hall e he hb
        have h0 := (mem_ready.1 hr).1
        rw [heq] at h1
        rcases Nat.lt_or_ge i listed.size with h' | h'
        · simp [h'] at h0 h1; rw [h0] at h1; cases h1
        · simp [Array.getElem?_eq_none h'] at h1
      have h2 := wpOp_put hoj (hfree j oj hoj hji hjun hnot) (fun cs b => hsel i oi cs b hi) (fun cs b => hsel j oj cs b hoj) hQ hy h1
      have hfree' : ∀ k ok, ops[k]? = some ok → k ≠ i → (listed.setIfInBounds j true).getD k true = false →
          (∀ e ∈ ok.after, Region.binds md e = true → e.on ≠ i) → oi.apart ops ok = true := fun k ok hk hki hun hno => by
        refine hfree k ok hk hki ?_ hno
        by_cases hjk : j = k
        · subst hjk; exact hjun
        · rw [getD_set_ne true hjk] at hun; exact hun
      refine wpOp_mono (fun a' w' h3 => ⟨h3.2.1, ih (listed.setIfInBounds j true) _ a' w' hfree' (ready_mono hr (Ne.symm hji)) h3.1 h3.2.1 ?_⟩) h2
      rw [Array.setIfInBounds_comm _ _ hji]
      exact h3.2.2
/-- how an operation of a plan is taken: first, in whatever world; first, where S holds; as the only one that may come up -/
inductive Kd where
  | anywhere
  | held
  | alone
def planOk (md : Region.Mode) (ops : Array Oper) : List (Nat × Kd) → Array Bool → Bool
  | [], listed => Region.ready md ops listed == []
  | p :: r, listed => (match p.2 with
    | .alone => Region.ready md ops listed == [p.1]
    | _ => (Region.ready md ops listed).contains p.1 && Region.free md ops listed p.1) && planOk md ops r (listed.setIfInBounds p.1 true)
def wpPlan (P : Program) (md : Region.Mode) (ops : Array Oper) (Q : Exit → Act → World → Prop) (S : World → Prop) : List (Nat × Kd) → List Nat → Act → World → Prop
  | [], _, a, w => Q .normal a w
  | (i, .alone) :: r, pend, a, w => wpOp P ops Q i (fun a' w' => (still ops md pend i ≠ [] → S w') ∧ wpPlan P md ops Q S r (still ops md pend i) a' w') a w
  | (i, .anywhere) :: r, pend, a, w => ∃ o v, ops[i]? = some o ∧ Yields P ops o v a ∧ wpPlan P md ops Q S r pend (a.put o.dst v) w
  | (i, .held) :: r, pend, a, w => S w ∧ ∃ o v, ops[i]? = some o ∧ YieldsIf P ops S o v a ∧ wpPlan P md ops Q S r (i :: still ops md pend i) (a.put o.dst v) w
theorem wpAnyM_plan (hs : Region.noSelect ops = true) (hQ : ∀ c a w d v, Q (.panic c) (a.put d v) w → Q (.panic c) a w) : ∀ (plan : List (Nat × Kd)) (listed : Array Bool) (pend : List Nat) (a : Act) (w : World),
    planOk md ops plan listed = true → (pend ≠ [] → S w) → wpPlan P md ops Q S plan pend a w → wpAnyM P md ops Q S plan.length listed pend a w
  | [], listed, pend, a, w, hc, _, h => ⟨by simpa [planOk] using hc, h⟩
  | (i, .alone) :: r, listed, pend, a, w, hc, hS, h => by
    simp only [planOk, Bool.and_eq_true, beq_iff_eq] at hc
    refine ⟨(fun h0 => by rw [hc.1] at h0; cases h0), fun j hj => ?_⟩
    rw [hc.1] at hj
    have hj' : j = i := by simpa using hj
    subst hj'
    exact wpOp_mono (fun a' w' h' => ⟨h'.1, wpAnyM_plan hs hQ r _ _ a' w' hc.2 h'.1 h'.2⟩) h
  | (i, .anywhere) :: r, listed, pend, a, w, hc, hS, h => by
    simp only [planOk, Bool.and_eq_true] at hc
    obtain ⟨o, v, ho, hy, h⟩ := h
    exact wpAnyM_firstP ho (Region.noSelect_spec hs) (fun c a w => hQ c a w _ _) r.length listed pend a w (Region.free_spec ho hc.1.2) (by simpa using hc.1.1) hy hS
      (wpAnyM_plan hs hQ r _ _ _ w hc.2 hS h)
  | (i, .held) :: r, listed, pend, a, w, hc, hS, h => by
    simp only [planOk, Bool.and_eq_true] at hc
    obtain ⟨hSw, o, v, ho, hy, h⟩ := h
    exact wpAnyM_first ho (Region.noSelect_spec hs) (fun c a w => hQ c a w _ _) r.length listed pend a w (Region.free_spec ho hc.1.2) (by simpa using hc.1.1) hy hSw
      (wpAnyM_plan hs hQ r _ _ _ w hc.2 (fun _ => hSw) h)
end
section
variable {P : Program} {ops : Array Oper} {n : Nat} {D : List Deferred} {l l' : Fr} {W W' S : World → Prop} {o : Oper} {d : Nat} {v : Value} {Q : Exit → Act → World → Prop} {r : List (Nat × Kd)} {pend : List Nat} {i : Nat}
/-- what ends in a panic is not asked what the frame holds -/
def noPanic (Q : Exit → Act → World → Prop) : Exit → Act → World → Prop
  | .panic _, _, _ => False
  | e, a, w => Q e a w
theorem noPanic_imp : ∀ e a w, noPanic Q e a w → Q e a w := fun e a w h => by
  cases e <;> first | exact h | exact h.elim
def MX (P : Program) (ops : Array Oper) (n : Nat) (D : List Deferred) (Q : Exit → Act → World → Prop) (S : World → Prop) (l : Fr) (W : World → Prop) (plan : List (Nat × Kd)) (pend : List Nat) : Prop :=
  ∀ a w, Has n D a l → W w → wpPlan P .any ops (noPanic Q) S plan pend a w
theorem CX.regionM [hst : Stab W] {id : Nat} {lo : List Oper} (plan : List (Nat × Kd)) (hm : P.follows .mixedOrders = true) (hB : (Region.noSelect lo.toArray && planOk .any lo.toArray plan (Array.replicate lo.toArray.size false) && (plan.length == lo.toArray.size)) = true)
    (h : MX P lo.toArray n D Q W l W plan []) : CX P n D Q l W (.region id lo.toArray true) := by
  intro a w ha hW
  simp only [Bool.and_eq_true, beq_iff_eq] at hB
  refine wp_mono ?_ (noPanic_imp (Q := Q))
  refine wp_region_any hm (wpAny_of_M (S := W) _ _ [] _ _ ?_)
  have h1 := wpAnyM_plan (Q := noPanic Q) (S := W) hB.1.1 (fun _ _ _ _ _ h => h) plan _ [] a _ hB.1.2 (fun h => absurd rfl h) (h a _ ha (Stab.drew hW))
  rw [hB.2] at h1
  exact h1
theorem MX.lift0 (hi : ops[i]? = some o) (hy : Y P l (fun _ => True) o.op o.type v) (hg : o.guard = none) (hd : o.dst = some d) (hdn : Nat.blt d n = true)
    (h : MX P ops n D Q S ((d, v) :: l) W r pend) : MX P ops n D Q S l W ((i, .anywhere) :: r) pend := by
  intro a w ha hW
  refine ⟨o, v, hi, .inl ⟨wanted_none hg, fun w => hy a.eval ha.eval o rfl rfl w trivial⟩, ?_⟩
  rw [hd]; exact h _ _ (ha.put hdn v) hW
theorem MX.lift1 (hi : ops[i]? = some o) (hWS : ∀ w, W w → S w) (hy : Y P l S o.op o.type v) (hg : o.guard = none) (hd : o.dst = some d) (hdn : Nat.blt d n = true)
    (pend' : List Nat) (hp : still ops .any pend i = pend') (h : MX P ops n D Q S ((d, v) :: l) W r (i :: pend')) : MX P ops n D Q S l W ((i, .held) :: r) pend := by
  intro a w ha hW
  subst hp
  refine ⟨hWS w hW, o, v, hi, .inl ⟨wanted_none hg, fun w hw => hy a.eval ha.eval o rfl rfl w hw⟩, ?_⟩
  rw [hd]; exact h _ _ (ha.put hdn v) hW
theorem MX.force (hi : ops[i]? = some o)
    (h : LX P ops n D (.plain (Exit.then (fun a w => (still ops .any pend i ≠ [] → S w) ∧ wpPlan P .any ops (noPanic Q) S r (still ops .any pend i) a w) (noPanic Q))) l W [o]) : MX P ops n D Q S l W ((i, .alone) :: r) pend := by
  intro a w ha hW
  have := h a w ha hW
  unfold wpList at this
  show wpOp P ops (noPanic Q) i _ a w
  unfold wpOp
  simp only [hi]
  split at this
  · rename_i hw
    rw [if_pos hw]
    rcases this with h1 | ⟨h1, a0, w0, h2⟩
    · exact .inl (Oper.upon_mono (fun a w h => h) (fun e a w he h => by cases e <;> first | exact absurd rfl he | exact h) h1)
    · exact .inr ⟨h1, a0, w0, h2⟩
  · rename_i hw
    rw [if_neg hw]
    exact this
theorem LX.nextM (pend' : List Nat) (hp : still ops .any pend i = pend') (hS : pend' ≠ [] → ∀ w, W w → S w) (h : MX P ops n D Q S l W r pend') :
    LX P ops n D (.plain (Exit.then (fun a w => (still ops .any pend i ≠ [] → S w) ∧ wpPlan P .any ops (noPanic Q) S r (still ops .any pend i) a w) (noPanic Q))) l W [] := by
  intro a w ha hW
  subst hp
  exact ⟨fun hn => hS hn w hW, h a w ha hW⟩
theorem MX.done (h : PX n D Q l W .normal) : MX P ops n D Q S l W [] pend := fun a w ha hW => h a w ha hW
theorem MX.sub (hs : Sub l' l) (h : MX P ops n D Q S l' W r pend) : MX P ops n D Q S l W r pend := fun a w ha hW => h a w (ha.sub hs) hW
end
end Go.SX
