/-
  Proved here: a small machine's operations that compute or read: what they yield is what the model's do.
-/
import Derived.Test.YtickdimknfeddaaGreatDoorExA
namespace Go.EX
open Go.SX Go.RowKit
/-- a computation that asks the world nothing -/
def pureRun {α : Type} (P : Program) : Sem α → Option α
  | .pure a => some a
  | .program k => pureRun P (k P)
  | .mark _ k => pureRun P k
  | .choose q k => match q.forced with | true => pureRun P (k 0) | false => none
  | _ => none
theorem pureRun_ok {α : Type} {P : Program} : ∀ (m : Sem α) {a : α}, pureRun P m = some a → ∀ w, m.run P w = .ok a w
  | .pure _, a, h, w => by cases h; rfl
  | .program k, a, h, w => by
    unfold Sem.run
    exact pureRun_ok (k P) h w
  | .mark _ k, a, h, w => by
    unfold Sem.run
    exact pureRun_ok k h w
  | .choose q k, a, h, w => by
    unfold pureRun at h
    unfold Sem.run
    cases hq : q.forced with
    | true => rw [hq] at h; simp only [↓reduceIte]; exact pureRun_ok (k 0) h w
    | false => rw [hq] at h; cases h
  | .load .., a, h, w => by cases h
  | .store .., a, h, w => by cases h
  | .new .., a, h, w => by cases h
  | .shape .., a, h, w => by cases h
  | .freeze .., a, h, w => by cases h
  | .frozen .., a, h, w => by cases h
  | .getObj .., a, h, w => by cases h
  | .setObj .., a, h, w => by cases h
  | .sys .., a, h, w => by cases h
  | .halt .., a, h, w => by cases h
/-- a type of one cell -/
def oneT (P : Program) (t : TypeId) : Bool :=
  match P.underlying t with
  | some (.struct _) | some (.array _ _) | none => false
  | some _ => true
theorem oneT_ok {P : Program} {t : TypeId} (h : oneT P t = true) : One P t := by
  intro w
  unfold oneT at h
  cases hu : P.underlying t with
  | none => rw [hu] at h; cases h
  | some d =>
    have := run_underlying hu w
    cases d <;> first | (rw [hu] at h; cases h; done) | simp [isAgg, this]
/-- a type of cells, and how many -/
def aggT (P : Program) (t : TypeId) : Option Nat :=
  match P.underlying t with
  | some (.struct _) | some (.array _ _) => (P.info? t).map (·.size)
  | _ => none
theorem aggT_ok {P : Program} {t : TypeId} {n : Nat} (h : aggT P t = some n) : AggT P t n := by
  unfold aggT at h
  cases hu : P.underlying t with
  | none => rw [hu] at h; cases h
  | some d =>
    refine AggT.of ?_ (by rw [hu] at h; cases d <;> first | exact h | cases h)
    rw [hu] at h ⊢
    cases d <;> first | rfl | cases h
def fieldOff (P : Program) (s f : Nat) : Option Nat :=
  match P.underlying s with
  | some (.struct fs) => match fs[f]? with
    | some fd => match (P.info? fd.type).map (·.size) with
      | some (_ + 1) => some fd.offset
      | _ => none
    | none => none
  | _ => none
theorem fieldOff_ok {P : Program} {s f d : Nat} (h : fieldOff P s f = some d) : FieldOff P s f d := by
  intro b o w
  unfold fieldOff at h
  cases hu : P.underlying s with
  | none => rw [hu] at h; cases h
  | some ds =>
    rw [hu] at h
    cases ds <;> first | (cases h; done) | skip
    rename_i fs
    simp only at h
    cases hf : fs[f]? with
    | none => rw [hf] at h; cases h
    | some fd =>
      rw [hf] at h
      simp only at h
      cases hi : P.info? fd.type with
      | none => rw [hi] at h; cases h
      | some inf =>
        rw [hi] at h
        simp only [Option.map_some] at h
        cases hz : inf.size with
        | zero => rw [hz] at h; cases h
        | succ k =>
          rw [hz] at h
          cases h
          have h1 := run_underlying hu w
          have h2 : (sizeOf fd.type).run P w = .ok inf.size w := by simp [sizeOf, typeInfo, hi]
          simp [Instr.fieldAt, h1, hf, Instr.sureAddr, fieldPlace, h2, hz, Addr.add_lit]
def sizeT (P : Program) (t : TypeId) : Option Nat := (P.info? t).map (·.size)
theorem sizeT_ok {P : Program} {t : TypeId} {n : Nat} (h : sizeT P t = some n) : SizeIs P t n := by
  intro w
  unfold sizeT at h
  cases hi : P.info? t with
  | none => rw [hi] at h; cases h
  | some inf => rw [hi] at h; cases h; simp [sizeOf, typeInfo, hi]
/-- a slice's element type, its cells and bytes, its zero -/
def elemT (P : Program) (t : TypeId) : Option (TypeId × Nat × Nat × Value) :=
  match P.underlying t with
  | some (.slice e) => match P.info? e with
    | some i => match i.zero with
      | some z => match Nat.beq z.cells.size i.size with
        | true => some (e, i.size, i.bytes, z)
        | false => none
      | none => none
    | none => none
  | _ => none
theorem elemT_ok {P : Program} {t e size bytes : Nat} {z : Value} (h : elemT P t = some (e, size, bytes, z)) : Elem P t e size bytes ∧ SizeIs P e size ∧ (P.info? e).map (·.zero) = some (some z) := by
  unfold elemT at h
  cases hu : P.underlying t with
  | none => rw [hu] at h; cases h
  | some d =>
    rw [hu] at h
    cases d <;> first | (cases h; done) | skip
    rename_i e'
    simp only at h
    cases hi : P.info? e' with
    | none => rw [hi] at h; cases h
    | some i =>
      rw [hi] at h
      simp only at h
      cases hz : i.zero with
      | none => rw [hz] at h; cases h
      | some z' =>
        rw [hz] at h
        simp only at h
        cases hb : Nat.beq z'.cells.size i.size with
        | false => rw [hb] at h; cases h
        | true =>
          rw [hb] at h
          cases h
          refine ⟨⟨hu, i, _, hi, hz, rfl, rfl, by simpa using hb⟩, fun w => by simp [sizeOf, typeInfo, hi], by rw [hi]; simp [hz]⟩
def isIface (P : Program) (t : TypeId) : Bool := match P.underlying t with | some (.interface _) => true | _ => false
theorem isIface_ok {P : Program} {t : TypeId} (h : isIface P t = true) : ∃ ms, P.underlying t = some (.interface ms) := by
  unfold isIface at h
  cases hu : P.underlying t with
  | none => rw [hu] at h; cases h
  | some d =>
    rw [hu] at h
    cases d <;> first | (cases h; done) | exact ⟨_, rfl⟩
def noIface (P : Program) (t : TypeId) : Bool := match P.underlying t with | some (.interface _) | none => false | _ => true
theorem noIface_ok {P : Program} {t : TypeId} (h : noIface P t = true) : NoIface P t ∧ NotIface P t := by
  unfold noIface at h
  cases hu : P.underlying t with
  | none => rw [hu] at h; cases h
  | some d =>
    rw [hu] at h
    refine ⟨fun w v => ?_, ⟨d, hu, fun ms hd => by subst hd; cases h⟩⟩
    have := run_underlying hu w
    cases d <;> first | (cases h; done) | simp [Instr.makeInterface, this]
def isPtr (P : Program) (t : TypeId) : Bool := match P.underlying t with | some (.pointer _) => true | _ => false
theorem isPtr_ok {P : Program} {t : TypeId} (h : isPtr P t = true) : ∃ e, P.underlying t = some (.pointer e) := by
  unfold isPtr at h
  cases hu : P.underlying t with
  | none => rw [hu] at h; cases h
  | some d =>
    rw [hu] at h
    cases d <;> first | (cases h; done) | exact ⟨_, rfl⟩
def litL : List AV → Option (List Value)
  | [] => some []
  | .lit v :: r => (litL r).map fun vs => v :: vs
  | _ :: _ => none
theorem litL_ok {ρ : Rho} : ∀ {l : List AV} {vs : List Value}, litL l = some vs → instL ρ l = some vs
  | [], vs, h => by cases h; rfl
  | .lit v :: r, vs, h => by
    unfold litL at h
    cases hr : litL r with
    | none => rw [hr] at h; cases h
    | some us => rw [hr] at h; cases h; exact instL_mk rfl (litL_ok hr)
  | .ptr .. :: r, vs, h => by cases h
  | .sl .. :: r, vs, h => by cases h
  | .opq .. :: r, vs, h => by cases h
  | .agg .. :: r, vs, h => by cases h
  | .tup .. :: r, vs, h => by cases h
  | .iface .. :: r, vs, h => by cases h
  | .fn .. :: r, vs, h => by cases h
def evalsA (af : AF) : List Operand → Option (List AV)
  | [] => some []
  | x :: r => (evalA af x).bind fun v => (evalsA af r).map fun vs => v :: vs
theorem evalsA_ok {ρ : Rho} {af : AF} {l : Fr} (h : FRel ρ af l) : ∀ {xs : List Operand} {vs : List AV}, evalsA af xs = some vs → ∃ us, evals l xs = some us ∧ instL ρ vs = some us
  | [], vs, e => by cases e; exact ⟨[], rfl, rfl⟩
  | x :: r, vs, e => by
    unfold evalsA at e
    cases hx : evalA af x with
    | none => rw [hx] at e; cases e
    | some v =>
      cases hr : evalsA af r with
      | none => rw [hx, hr] at e; cases e
      | some vs' =>
        rw [hx, hr] at e
        cases e
        obtain ⟨u, h1, h2⟩ := h.eval hx
        obtain ⟨us, h3, h4⟩ := evalsA_ok h hr
        exact ⟨u :: us, by unfold evals; rw [h1, h3], instL_mk h2 h4⟩
theorem inst_lit {ρ : Rho} {v u : Value} (h : inst ρ (.lit v) = some u) : u = v := by cases h; rfl
theorem inst_ptr {ρ : Rho} {id off : Nat} {u : Value} (h : inst ρ (.ptr id off) = some u) : ∃ p, rat ρ.blk id = some p ∧ u = .pointer (some ⟨p.1, off, none⟩) := by
  unfold inst at h
  cases hr : rat ρ.blk id with
  | none => rw [hr] at h; cases h
  | some p => rw [hr] at h; cases h; exact ⟨p, rfl, rfl⟩
theorem inst_sl {ρ : Rho} {id off n k : Nat} {u : Value} (h : inst ρ (.sl id off n k) = some u) : ∃ p, rat ρ.blk id = some p ∧ u = .slice (some ⟨p.1, off, none⟩) n (p.2 - k) := by
  unfold inst at h
  cases hr : rat ρ.blk id with
  | none => rw [hr] at h; cases h
  | some p => rw [hr] at h; cases h; exact ⟨p, rfl, rfl⟩
theorem inst_tup {ρ : Rho} {cs : List AV} {u : Value} (h : inst ρ (.tup cs) = some u) : ∃ us, instL ρ cs = some us ∧ u = .tuple us.toArray := by
  unfold inst at h
  cases hr : instL ρ cs with
  | none => rw [hr] at h; cases h
  | some p => rw [hr] at h; cases h; exact ⟨p, rfl, rfl⟩
theorem inst_agg {ρ : Rho} {cs : List AV} {u : Value} (h : inst ρ (.agg cs) = some u) : ∃ us, instL ρ cs = some us ∧ u = .agg us.toArray := by
  unfold inst at h
  cases hr : instL ρ cs with
  | none => rw [hr] at h; cases h
  | some p => rw [hr] at h; cases h; exact ⟨p, rfl, rfl⟩
theorem inst_if {ρ : Rho} {t : TypeId} {v : AV} {u : Value} (h : inst ρ (.iface t v) = some u) : ∃ x, inst ρ v = some x ∧ u = .iface t x := by
  unfold inst at h
  cases hr : inst ρ v with
  | none => rw [hr] at h; cases h
  | some p => rw [hr] at h; cases h; exact ⟨p, rfl, rfl⟩
theorem inst_fn {ρ : Rho} {f : Fn} {a b : List AV} {u : Value} (h : inst ρ (.fn f a b) = some u) : ∃ x y, instL ρ a = some x ∧ instL ρ b = some y ∧ u = .func f x.toArray y.toArray := by
  unfold inst at h
  cases hr : instL ρ a with
  | none => rw [hr] at h; cases h
  | some p =>
    cases hs : instL ρ b with
    | none => rw [hr, hs] at h; cases h
    | some q => rw [hr, hs] at h; cases h; exact ⟨p, q, rfl, rfl, rfl⟩
/-- two values held against each other; only where one is nil -/
def eqNilA (P : Program) (t : TypeId) (y : Operand) (v w : AV) : Option Bool :=
  match v, w, y with
  | .iface _ _, .lit .nilIface, _ => match isIface P t with | true => some false | false => none
  | .lit .nilIface, .lit .nilIface, .const .nilIface => match isIface P t with | true => some true | false => none
  | .ptr _ _, .lit (.pointer none), .const (.pointer none) => match isPtr P t with | true => some false | false => none
  | _, _, _ => none
def nilA (P : Program) (op : BinOp) (t : TypeId) (y : Operand) (v w : AV) : Option AV :=
  match op with
  | .eql => (eqNilA P t y v w).map fun b => .lit (.bool b)
  | .neq => (eqNilA P t y v w).map fun b => .lit (.bool !b)
  | _ => none
def orLit (o : Option Value) (e : Option AV) : Option AV :=
  match o with
  | some r => some (.lit r)
  | none => e
def binA (P : Program) (op : BinOp) (t : TypeId) (x y : Operand) (v w : AV) : Option AV :=
  match v with
  | .lit a => match w with
    | .lit b => orLit (pureRun P (do eqGuard op t x y a b; binOp op t a b)) (nilA P op t y (.lit a) (.lit b))
    | w => nilA P op t y (.lit a) w
  | v => nilA P op t y v w
theorem Y.nePtrNil {P : Program} {l : Fr} {W : World → Prop} {t ty ty2 e : TypeId} {x : Operand} {a : Addr} (h : P.underlying t = some (.pointer e)) (hx : evl l x = some (.pointer (some a))) : Y P l W (.binOp .neq t x (.const (.pointer none)) ty2) ty (.bool true) := by
  refine Y.bin hx rfl fun w _ => ?_
  have e1 : (Op.equalIn 10000 t (.pointer (some a)) (.pointer none)).run P w = .ok false w := by
    have h1 := run_underlying h w
    have h2 : ∀ d : Nat, (Op.equalIn (d + 1) t (.pointer (some a)) (.pointer none)).run P w = .ok false w := fun d => by simp [Op.equalIn, h1]
    exact h2 9999
  have e2 : binOp .neq t (.pointer (some a)) (.pointer none) = (do pure (.bool (!(← Op.equalIn 10000 t (.pointer (some a)) (.pointer none))))) := rfl
  have e3 : eqGuard .neq t x (.const (.pointer none)) (.pointer (some a)) (.pointer none) = pure () := rfl
  simp only [e3, e2, pure_bind, Sem.run_bind, Sem.run_pure, Result.andThen_ok, e1, Bool.not_false]
theorem eqNil_both {P : Program} {t ty2 ty : TypeId} {x y : Operand} {l : Fr} {W : World → Prop} {b : Bool} {v w : AV} {ρ : Rho} {u u' : Value} (h : eqNilA P t y v w = some b) (hx : evl l x = some u) (hy : evl l y = some u') (hv : inst ρ v = some u) (hw : inst ρ w = some u') :
    Y P l W (.binOp .eql t x y ty2) ty (.bool b) ∧ Y P l W (.binOp .neq t x y ty2) ty (.bool !b) := by
  unfold eqNilA at h
  split at h
  · split at h
    · rename_i hi
      cases h
      obtain ⟨ms, hm⟩ := isIface_ok hi
      obtain rfl := inst_lit hw
      obtain ⟨z, _, rfl⟩ := inst_if hv
      exact ⟨Y.eqNil hm hx hy, Y.neNil hm hx hy⟩
    · cases h
  · split at h
    · rename_i hi
      cases h
      obtain ⟨ms, hm⟩ := isIface_ok hi
      obtain rfl := inst_lit hv
      exact ⟨Y.eqNilNil hm hx, Y.neNilNil hm hx⟩
    · cases h
  · split at h
    · rename_i hi
      cases h
      obtain ⟨e, he⟩ := isPtr_ok hi
      obtain ⟨p, _, rfl⟩ := inst_ptr hv
      exact ⟨SX.Y.eqPtrNil he hx, Y.nePtrNil he hx⟩
    · cases h
  · cases h
theorem nilA_ok {P : Program} {op : BinOp} {t ty2 ty : TypeId} {x y : Operand} {l : Fr} {W : World → Prop} {v w r : AV} {ρ : Rho} {u u' : Value} (h : nilA P op t y v w = some r) (hx : evl l x = some u) (hy : evl l y = some u') (hv : inst ρ v = some u) (hw : inst ρ w = some u') :
    ∃ z, inst ρ r = some z ∧ Y P l W (.binOp op t x y ty2) ty z := by
  unfold nilA at h
  cases hb : eqNilA P t y v w with
  | none => rw [hb] at h; cases op <;> cases h
  | some b =>
    rw [hb] at h
    cases op <;> first | (cases h; done) | skip
    · cases h; exact ⟨_, rfl, (eqNil_both hb hx hy hv hw).1⟩
    · cases h; exact ⟨_, rfl, (eqNil_both hb hx hy hv hw).2⟩
theorem binA_ok {P : Program} {op : BinOp} {t ty2 ty : TypeId} {x y : Operand} {l : Fr} {W : World → Prop} {v w r : AV} {ρ : Rho} {u u' : Value} (h : binA P op t x y v w = some r) (hx : evl l x = some u) (hy : evl l y = some u') (hv : inst ρ v = some u) (hw : inst ρ w = some u') :
    ∃ z, inst ρ r = some z ∧ Y P l W (.binOp op t x y ty2) ty z := by
  cases v with
  | lit a =>
    cases w with
    | lit b =>
      dsimp only [binA] at h
      cases hr : pureRun P (do eqGuard op t x y a b; binOp op t a b) with
      | some r' =>
        rw [hr] at h
        cases h
        obtain rfl := inst_lit hv
        obtain rfl := inst_lit hw
        exact ⟨r', rfl, Y.bin hx hy fun w _ => pureRun_ok _ hr w⟩
      | none => rw [hr] at h; exact nilA_ok h hx hy hv hw
    | _ => exact nilA_ok h hx hy hv hw
  | _ => exact nilA_ok h hx hy hv hw
def pickA (af : AF) (c x y : Operand) : Option AV :=
  match evalA af c with
  | some (.lit (.bool true)) => evalA af x
  | some (.lit (.bool false)) => evalA af y
  | _ => none
def nilckA (af : AF) (x : Operand) : Option AV :=
  match evalA af x with
  | some (.ptr id off) => some (.ptr id off)
  | _ => none
def extrA (af : AF) (x : Operand) (k : Nat) : Option AV :=
  match evalA af x with
  | some (.tup vs) => vs[k]?
  | _ => none
def fieldA (P : Program) (af : AF) (s : TypeId) (x : Operand) (f : Nat) : Option AV :=
  match evalA af x, fieldOff P s f with
  | some (.ptr id off), some d => some (.ptr id (off + d))
  | _, _ => none
def lit1 (P : Program) (af : AF) (x : Operand) (f : Value → Sem Value) : Option AV :=
  match evalA af x with
  | some (.lit v) => (pureRun P (f v)).map .lit
  | _ => none
def lit2 (P : Program) (af : AF) (x y : Operand) (f : Value → Value → Sem Value) : Option AV :=
  match evalA af x, evalA af y with
  | some (.lit u), some (.lit v) => (pureRun P (f u v)).map .lit
  | _, _ => none
def idxA (P : Program) (af : AF) (t : TypeId) (x y : Operand) : Option AV :=
  match evalA af x, evalA af y, elemT P t with
  | some (.sl id off len _), some (.lit (.int _ (.ofNat i))), some (_, size, _, _) => match Nat.blt i len with
    | true => some (.ptr id (off + i * size))
    | false => none
  | _, _, _ => none
def mkIA (P : Program) (af : AF) (t : TypeId) (x : Operand) : Option AV :=
  match noIface P t with
  | true => (evalA af x).map fun v => .iface t v
  | false => none
def zeroA (P : Program) (k : TypeId) : Option AV := ((P.info? k).bind (·.zero)).map fun z => .tup [.lit z, .lit (.bool false)]
def assertA (P : Program) (af : AF) (x : Operand) (k : TypeId) : Option AV :=
  match noIface P k, evalA af x with
  | true, some (.iface t v) => match Nat.beq t k with
    | true => some (.tup [v, .lit (.bool true)])
    | false => zeroA P k
  | true, some (.lit .nilIface) => zeroA P k
  | _, _ => none
def sliceLit (P : Program) (af : AF) (t : TypeId) (x : Operand) (lo hi : Option Operand) : Option AV :=
  match lo, hi with
  | some a, none => lit2 P af x a fun v a => Instr.sliceAt t v (some a) none none
  | none, some b => lit2 P af x b fun v b => Instr.sliceAt t v none (some b) none
  | some a, some b => match evalA af a with
    | some (.lit u) => lit2 P af x b fun v b => Instr.sliceAt t v (some u) (some b) none
    | _ => none
  | _, _ => none
def lenA (P : Program) (af : AF) (x : Operand) (t : Option TypeId) : Option AV :=
  match evalA af x, t.bind P.underlying with
  | some (.sl _ _ n _), some (.slice _) => some (.lit (.int .i64 n))
  | some (.lit (.slice _ n _)), some (.slice _) => some (.lit (.int .i64 n))
  | some (.lit (.string s)), some .string => some (.lit (.int .i64 s.size))
  | _, _ => none
def mmA (af : AF) (x y : Operand) (mx : Bool) : Option AV :=
  match evalA af x, evalA af y with
  | some (.lit (.int k a)), some (.lit (.int _ b)) => some (.lit (.int k (match mx with | true => if b > a then b else a | false => if b < a then b else a)))
  | _, _ => none
def builtA (P : Program) (af : AF) (b : Builtin) (args : List Operand) (ats : Array TypeId) : Option AV :=
  match b with
  | .len => match args with
    | [x] => lenA P af x ats[0]?
    | _ => none
  | .max => match args with
    | [x, y] => mmA af x y true
    | _ => none
  | .min => match args with
    | [x, y] => mmA af x y false
    | _ => none
  | _ => none
def callPure (P : Program) (af : AF) (c : Call) : Option AV :=
  match c.callee with
  | .builtin b => builtA P af b c.args.toList c.argTypes
  | _ => none
/-- the values of operations that ask neither memory nor the world -/
def pureA (P : Program) (af : AF) (o : Op) : Option AV :=
  match o with
  | .move x => evalA af x
  | .assign x => evalA af x
  | .pick c x y => pickA af c x y
  | .nilCheck x => nilckA af x
  | .extract x k => extrA af x k
  | .fieldAddr s x f => fieldA P af s x f
  | .binOp op t x y _ => (evalA af x).bind fun v => (evalA af y).bind fun w => binA P op t x y v w
  | .unOp op _ x => lit1 P af x fun v => Op.unary op v
  | .convert s d x => lit1 P af x fun v => Go.convert s d v
  | .index t x y => lit2 P af x y fun u v => Instr.index t u v
  | .indexAddr t x y => idxA P af t x y
  | .makeInterface t x => mkIA P af t x
  | .makeFunc f a b => (evalsA af a.toList).bind fun x => (evalsA af b.toList).map fun y => .fn f x y
  | .typeAssert x _ k ok => match ok with
    | true => assertA P af x k
    | false => none
  | .slice t x lo hi mx => match mx with
    | none => sliceLit P af t x lo hi
    | some _ => none
  | .call c => callPure P af c
  | _ => none
theorem run_bindv {P : Program} {s : Sem Value} {v : Value} {w : World} (h : s.run P w = .ok v w) : ((do pure (.value (← s))) : Sem Next).run P w = .ok (.value v) w := by
  rw [Sem.run_bind, h]; rfl
theorem Y.of1 {P : Program} {l : Fr} {W : World → Prop} {ty : TypeId} {o : Op} {v : Value} (h : ∀ (ρ : Operand → Value), (∀ x u, evl l x = some u → ρ x = u) → ∀ (o' : Oper), o'.op = o → o'.type = ty → ∀ w, (execOp ρ o').run P w = .ok (.value v) w) : Y P l W o ty v := fun ρ hρ o' ho ht w _ => h ρ hρ o' ho ht w
theorem zero_run {P : Program} {k : TypeId} {z : Value} (h : (P.info? k).bind (·.zero) = some z) (w : World) : (zeroValue k).run P w = .ok z w := by
  cases hi : P.info? k with
  | none => rw [hi] at h; cases h
  | some i =>
    rw [hi] at h
    have : i.zero = some z := h
    simp [zeroValue, typeInfo, hi, this]
theorem litL_inst {ρ : Rho} {as : List AV} {vs us : List Value} (h : litL as = some vs) (h' : instL ρ as = some us) : us = vs := by
  rw [litL_ok h] at h'; cases h'; rfl
section
variable {P : Program} {ρ : Rho} {af : AF} {l : Fr}
theorem lit1_ok (hf : FRel ρ af l) {x : Operand} {f : Value → Sem Value} {v : AV} (h : lit1 P af x f = some v) : ∃ u r, evl l x = some u ∧ v = .lit r ∧ ∀ w, (f u).run P w = .ok r w := by
  unfold lit1 at h
  split at h
  · rename_i v' hx
    obtain ⟨u, h1, h2⟩ := hf.eval hx
    obtain rfl := inst_lit h2
    cases hr : pureRun P (f u) with
    | none => rw [hr] at h; cases h
    | some r => rw [hr] at h; cases h; exact ⟨u, r, h1, rfl, fun w => pureRun_ok _ hr w⟩
  · cases h
theorem lit2_ok (hf : FRel ρ af l) {x y : Operand} {f : Value → Value → Sem Value} {v : AV} (h : lit2 P af x y f = some v) : ∃ u u' r, evl l x = some u ∧ evl l y = some u' ∧ v = .lit r ∧ ∀ w, (f u u').run P w = .ok r w := by
  unfold lit2 at h
  split at h
  · rename_i a b hx hy
    obtain ⟨u, h1, h2⟩ := hf.eval hx
    obtain rfl := inst_lit h2
    obtain ⟨u', h3, h4⟩ := hf.eval hy
    obtain rfl := inst_lit h4
    cases hr : pureRun P (f u u') with
    | none => rw [hr] at h; cases h
    | some r => rw [hr] at h; cases h; exact ⟨u, u', r, h1, h3, rfl, fun w => pureRun_ok _ hr w⟩
  · cases h
theorem lenA_ok (hf : FRel ρ af l) {x : Operand} {c : Call} {v : AV} (h : lenA P af x c.argTypes[0]? = some v) (hc : c.callee = .builtin .len) (ha : c.args.toList = [x]) (W : World → Prop) (ty : TypeId) : ∃ u, inst ρ v = some u ∧ Y P l W (.call c) ty u := by
  have hc' : c = { callee := .builtin .len, args := #[x], argTypes := c.argTypes } := by
    cases c; simp only at hc ha ⊢; subst hc; congr 1; rw [← ha]
  unfold lenA at h
  split at h
  · rename_i hx hu
    cases h
    obtain ⟨u, h1, h2⟩ := hf.eval hx
    obtain ⟨p, hp, rfl⟩ := inst_sl h2
    obtain ⟨t, ht, hu'⟩ := Option.bind_eq_some_iff.1 hu
    exact ⟨_, rfl, by rw [hc']; exact Y.lenSl h1 hu' ht⟩
  · rename_i hx hu
    cases h
    obtain ⟨u, h1, h2⟩ := hf.eval hx
    obtain rfl := inst_lit h2
    obtain ⟨t, ht, hu'⟩ := Option.bind_eq_some_iff.1 hu
    exact ⟨_, rfl, by rw [hc']; exact Y.lenSl h1 hu' ht⟩
  · rename_i s hx hu
    cases h
    obtain ⟨u, h1, h2⟩ := hf.eval hx
    obtain rfl := inst_lit h2
    obtain ⟨t, ht, hu'⟩ := Option.bind_eq_some_iff.1 hu
    refine ⟨_, rfl, Y.of1 fun σ hσ o' ho _ w => ?_⟩
    rw [hc'] at ho
    simp [execOp, ho, hσ _ _ h1, resolve, invoke, builtin, Builtin.len_, ht, run_underlying hu', goInt]
  · cases h
theorem zeroA_ok {k : TypeId} {v : AV} (h : zeroA P k = some v) : ∃ z, (∀ w, (zeroValue k).run P w = .ok z w) ∧ inst ρ v = some (.tuple #[z, .bool false]) := by
  unfold zeroA at h
  cases hz : (P.info? k).bind (·.zero) with
  | none => rw [hz] at h; cases h
  | some z => rw [hz] at h; cases h; exact ⟨z, zero_run hz, by unfold inst; rw [instL_mk rfl (instL_mk rfl rfl)]; rfl⟩
theorem pureA_ok (hf : FRel ρ af l) {o : Op} {v : AV} (h : pureA P af o = some v) (W : World → Prop) (ty : TypeId) : ∃ u, inst ρ v = some u ∧ Y P l W o ty u := by
  cases o with
  | move x =>
    obtain ⟨u, h1, h2⟩ := hf.eval (x := x) h
    exact ⟨u, h2, Y.move h1⟩
  | assign x =>
    obtain ⟨u, h1, h2⟩ := hf.eval (x := x) h
    exact ⟨u, h2, Y.assign h1⟩
  | pick c x y =>
    dsimp only [pureA] at h
    unfold pickA at h
    split at h
    · rename_i hc
      obtain ⟨c, h1, h2⟩ := hf.eval hc
      obtain rfl := inst_lit h2
      obtain ⟨u, h3, h4⟩ := hf.eval h
      exact ⟨u, h4, Y.pickT h1 rfl h3⟩
    · rename_i hc
      obtain ⟨c, h1, h2⟩ := hf.eval hc
      obtain rfl := inst_lit h2
      obtain ⟨u, h3, h4⟩ := hf.eval h
      exact ⟨u, h4, Y.pickF h1 rfl h3⟩
    · cases h
  | nilCheck x =>
    dsimp only [pureA] at h
    unfold nilckA at h
    split at h
    · rename_i hx
      cases h
      obtain ⟨u, h1, h2⟩ := hf.eval hx
      refine ⟨u, h2, ?_⟩
      obtain ⟨p, _, rfl⟩ := inst_ptr h2
      exact Y.nilCheck h1
    · cases h
  | extract x k =>
    dsimp only [pureA] at h
    unfold extrA at h
    split at h
    · rename_i vs hx
      obtain ⟨u, h1, h2⟩ := hf.eval hx
      obtain ⟨us, h3, rfl⟩ := inst_tup h2
      obtain ⟨z, h4, h5⟩ := instL_get h3 h
      exact ⟨z, h5, Y.extract h1 (by simpa using h4)⟩
    · cases h
  | fieldAddr s x f =>
    dsimp only [pureA] at h
    unfold fieldA at h
    split at h
    · rename_i hx hd
      cases h
      obtain ⟨u, h1, h2⟩ := hf.eval hx
      obtain ⟨p, hp, rfl⟩ := inst_ptr h2
      exact ⟨_, by unfold inst; rw [hp]; rfl, Y.fieldAddr (fieldOff_ok hd) h1⟩
    · cases h
  | binOp op t x y ty2 =>
    dsimp only [pureA] at h
    obtain ⟨a, hx, h⟩ := Option.bind_eq_some_iff.1 h
    obtain ⟨b, hy, h⟩ := Option.bind_eq_some_iff.1 h
    obtain ⟨u, h1, h2⟩ := hf.eval hx
    obtain ⟨u', h3, h4⟩ := hf.eval hy
    exact binA_ok h h1 h3 h2 h4
  | unOp op t x =>
    obtain ⟨u, r, h1, rfl, h2⟩ := lit1_ok hf h
    refine ⟨r, rfl, Y.of1 fun σ hσ o' ho _ w => ?_⟩
    simp only [execOp, ho, hσ _ _ h1]
    exact run_bindv (h2 w)
  | convert s d x =>
    obtain ⟨u, r, h1, rfl, h2⟩ := lit1_ok hf h
    refine ⟨r, rfl, Y.of1 fun σ hσ o' ho _ w => ?_⟩
    simp only [execOp, ho, hσ _ _ h1]
    exact run_bindv (h2 w)
  | index t x y =>
    obtain ⟨u, u', r, h1, h3, rfl, h2⟩ := lit2_ok hf h
    refine ⟨r, rfl, Y.of1 fun σ hσ o' ho _ w => ?_⟩
    simp only [execOp, ho, hσ _ _ h1, hσ _ _ h3]
    exact run_bindv (h2 w)
  | indexAddr t x y =>
    dsimp only [pureA] at h
    unfold idxA at h
    split at h
    · rename_i id off len sk kk i e size by' z hx hy he
      split at h
      · rename_i hlt
        cases h
        obtain ⟨u, h1, h2⟩ := hf.eval hx
        obtain ⟨p, hp, rfl⟩ := inst_sl h2
        obtain ⟨u', h3, h4⟩ := hf.eval hy
        obtain rfl := inst_lit h4
        obtain ⟨hE, hS, _⟩ := elemT_ok he
        exact ⟨_, by unfold inst; rw [hp]; rfl, Y.idx hE.ht hS h1 h3 (by simpa using hlt)⟩
      · cases h
    · cases h
  | makeInterface t x =>
    dsimp only [pureA] at h
    unfold mkIA at h
    split at h
    · rename_i hn
      cases hx : evalA af x with
      | none => rw [hx] at h; cases h
      | some a =>
        rw [hx] at h; cases h
        obtain ⟨u, h1, h2⟩ := hf.eval hx
        exact ⟨_, by unfold inst; rw [h2]; rfl, Y.mkI (noIface_ok hn).1 h1⟩
    · cases h
  | makeFunc f a b =>
    dsimp only [pureA] at h
    obtain ⟨xs, hx, h⟩ := Option.bind_eq_some_iff.1 h
    cases hy : evalsA af b.toList with
    | none => rw [hy] at h; cases h
    | some ys =>
      rw [hy] at h; cases h
      obtain ⟨us, h1, h2⟩ := evalsA_ok hf hx
      obtain ⟨us', h3, h4⟩ := evalsA_ok hf hy
      refine ⟨.func f us.toArray us'.toArray, by unfold inst; rw [h2, h4]; rfl, Y.of1 fun σ hσ o' ho _ w => ?_⟩
      have e1 : a.map σ = us.toArray := by
        have := evals_map hσ _ _ h1
        rw [← this, ← List.map_toArray]
      have e2 : b.map σ = us'.toArray := by
        have := evals_map hσ _ _ h3
        rw [← this, ← List.map_toArray]
      simp only [execOp, ho, e1, e2, Instr.makeFunc]
      rfl
  | typeAssert x s k ok =>
    dsimp only [pureA] at h
    cases ok with
    | false => cases h
    | true =>
      simp only at h
      unfold assertA at h
      split at h
      · rename_i t v' hn hx
        obtain ⟨u, h1, h2⟩ := hf.eval hx
        obtain ⟨z, h3, rfl⟩ := inst_if h2
        split at h
        · rename_i hb
          cases h
          have : t = k := by simpa using hb
          subst this
          exact ⟨_, by unfold inst; rw [instL_mk h3 (instL_mk rfl rfl)]; rfl, Y.assertYes (noIface_ok hn).2 h1⟩
        · rename_i hb
          obtain ⟨zz, e1, e2⟩ := zeroA_ok (ρ := ρ) h
          exact ⟨_, e2, Y.assertNo (noIface_ok hn).2 h1 (fun he => by subst he; simp at hb) e1⟩
      · rename_i hn hx
        obtain ⟨u, h1, h2⟩ := hf.eval hx
        obtain rfl := inst_lit h2
        obtain ⟨zz, e1, e2⟩ := zeroA_ok (ρ := ρ) h
        refine ⟨_, e2, Y.of1 fun σ hσ o' ho _ w => ?_⟩
        obtain ⟨d, hd, hne⟩ := (noIface_ok hn).2
        have e3 := run_underlying hd w
        have e4 := e1 w
        simp only [execOp, ho, hσ _ _ h1]
        refine run_bindv ?_
        cases d <;> first | exact absurd rfl (hne _) | simp [Instr.typeAssert, e3, e4]
      · cases h
  | slice t x lo hi mx =>
    dsimp only [pureA] at h
    cases mx with
    | some m => cases h
    | none =>
      simp only at h
      unfold sliceLit at h
      split at h
      · obtain ⟨u, u', r, h1, h3, rfl, h2⟩ := lit2_ok hf h
        refine ⟨r, rfl, Y.of1 fun σ hσ o' ho _ w => ?_⟩
        simp only [execOp, ho, hσ _ _ h1, Option.map_some, Option.map_none, hσ _ _ h3]
        exact run_bindv (h2 w)
      · obtain ⟨u, u', r, h1, h3, rfl, h2⟩ := lit2_ok hf h
        refine ⟨r, rfl, Y.of1 fun σ hσ o' ho _ w => ?_⟩
        simp only [execOp, ho, hσ _ _ h1, Option.map_some, Option.map_none, hσ _ _ h3]
        exact run_bindv (h2 w)
      · split at h
        · rename_i ha
          obtain ⟨ua, h5, h6⟩ := hf.eval ha
          obtain rfl := inst_lit h6
          obtain ⟨u, u', r, h1, h3, rfl, h2⟩ := lit2_ok hf h
          refine ⟨r, rfl, Y.of1 fun σ hσ o' ho _ w => ?_⟩
          simp only [execOp, ho, hσ _ _ h1, Option.map_some, Option.map_none, hσ _ _ h3, hσ _ _ h5]
          exact run_bindv (h2 w)
        · cases h
      · cases h
  | call c =>
    dsimp only [pureA] at h
    unfold callPure at h
    cases hc : c.callee with
    | value f => rw [hc] at h; cases h
    | invoke r m => rw [hc] at h; cases h
    | builtin b =>
      rw [hc] at h
      dsimp only at h
      have mm : ∀ {x y : Operand} {mx : Bool}, mmA af x y mx = some v → ∃ k k' a b', evl l x = some (.int k a) ∧ evl l y = some (.int k' b') ∧ v = .lit (.int k (match mx with | true => if b' > a then b' else a | false => if b' < a then b' else a)) := by
        intro x y mx h
        unfold mmA at h
        split at h
        · rename_i hx hy
          cases h
          obtain ⟨u, h1, h2⟩ := hf.eval hx
          obtain rfl := inst_lit h2
          obtain ⟨u', h3, h4⟩ := hf.eval hy
          obtain rfl := inst_lit h4
          exact ⟨_, _, _, _, h1, h3, rfl⟩
        · cases h
      cases b with
      | len =>
        dsimp only [builtA] at h
        split at h
        · rename_i x ha
          exact lenA_ok hf h hc ha W ty
        · cases h
      | max =>
        dsimp only [builtA] at h
        split at h
        · rename_i x y ha
          obtain ⟨k, k', a, b', h1, h2, rfl⟩ := mm h
          have hc' : c = { callee := .builtin .max, args := #[x, y], argTypes := c.argTypes } := by
            cases c; simp only at hc ha ⊢; subst hc; congr 1; rw [← ha]
          exact ⟨_, rfl, by rw [hc']; exact Y.max2 h1 h2⟩
        · cases h
      | min =>
        dsimp only [builtA] at h
        split at h
        · rename_i x y ha
          obtain ⟨k, k', a, b', h1, h2, rfl⟩ := mm h
          have hc' : c = { callee := .builtin .min, args := #[x, y], argTypes := c.argTypes } := by
            cases c; simp only at hc ha ⊢; subst hc; congr 1; rw [← ha]
          exact ⟨_, rfl, by rw [hc']; exact Y.min2 h1 h2⟩
        · cases h
      | _ => cases h
  | _ => cases h
end
end Go.EX
