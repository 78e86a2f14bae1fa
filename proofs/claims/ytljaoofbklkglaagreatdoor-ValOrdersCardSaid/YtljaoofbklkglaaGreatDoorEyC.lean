/-
  Proved here: more steps of a machine of mine that yield values, and what they come to.
-/
import Derived.Test.YtljaoofbklkglaaGreatDoorEyB
namespace Go.EY
open Go.SX Go.EX Go.RowKit
section
variable {P : Program} {w0 : World} {base : Nat} {ρ0 ρ : Rho} {T : HT} {ro : List HT} {nx : Nat} {its : List It} {E : List (Nat × AV)} {af : AF} {l : Fr}
variable {W : World → Prop} {r : AR} {T' : HT} {n' c : Nat} {k : AV → R} {x y : Operand} {a b : AV} {t t2 : TypeId}
/-! pointers -/
noncomputable def ptrK (c : Nat) (a : AV) (f : Nat → Nat → R) : R :=
  AV.rec (motive_1 := fun _ => R) (motive_2 := fun _ => Unit) (fun _ => .bad c) (fun id off => f id off) (fun _ _ _ _ => .bad c) (fun _ => .bad c) (fun _ _ => .bad c) (fun _ _ => .bad c) (fun _ _ _ => .bad c) (fun _ _ _ _ _ => .bad c) (fun _ => .bad c) () (fun _ _ _ _ => ()) a
theorem ptrK_inv {f : Nat → Nat → R} (h : ptrK c a f = .ok r T' n') : ∃ id off, a = .ptr id off ∧ f id off = .ok r T' n' := by
  cases a with
  | ptr id off => exact ⟨_, _, rfl, h⟩
  | _ => exact bad_ok h
noncomputable def ncK (c : Nat) (a : AV) (k : AV → R) : R := ptrK c a fun id off => k (.ptr id off)
theorem V.nc (h : ncK c a k = .ok r T' n') (hx : evalA af x = some a) : ∃ v, k v = .ok r T' n' ∧ VAL P W ρ af (.nilCheck x) v := by
  obtain ⟨id, off, rfl, h2⟩ := ptrK_inv h
  exact ⟨_, h2, VAL.pure (by show nilckA af x = _; unfold nilckA; rw [hx])⟩
noncomputable def faK (c : Nat) (a : AV) (d : Nat) (k : AV → R) : R := ptrK c a fun id off => k (.ptr id (Nat.add off d))
theorem V.fa {s f d : Nat} (h : faK c a d k = .ok r T' n') (hx : evalA af x = some a) (hd : fieldOff P s f = some d) : ∃ v, k v = .ok r T' n' ∧ VAL P W ρ af (.fieldAddr s x f) v := by
  obtain ⟨id, off, rfl, h2⟩ := ptrK_inv h
  exact ⟨_, h2, VAL.pure (by show fieldA P af s x f = _; unfold fieldA; rw [hx, hd]; rfl)⟩
noncomputable def exK (c : Nat) (a : AV) (i : Nat) (k : AV → R) : R :=
  match a with
  | .tup cs => lgetK cs k (.bad c) i
  | _ => .bad c
theorem V.ex {i : Nat} (h : exK c a i k = .ok r T' n') (hx : evalA af x = some a) : ∃ v, k v = .ok r T' n' ∧ VAL P W ρ af (.extract x i) v := by
  unfold exK at h
  split at h
  · obtain ⟨v, h1, h2⟩ := lgetK_inv h
    exact ⟨v, h2, VAL.pure (by show extrA af x i = _; unfold extrA; rw [hx]; exact h1)⟩
  · cases h
/-! lengths -/
noncomputable def lenSK (c : Nat) (a : AV) (k : AV → R) : R :=
  match a with
  | .sl _ _ n _ => k (.lit (.int .i64 (.ofNat n)))
  | .lit (.slice _ n _) => k (.lit (.int .i64 (.ofNat n)))
  | _ => .bad c
theorem V.lenS {ats : Array TypeId} {e : TypeId} (h : lenSK c a k = .ok r T' n') (hx : evalA af x = some a) (ht : (ats[0]?).bind P.underlying = some (.slice e)) : ∃ v, k v = .ok r T' n' ∧ VAL P W ρ af (.call { callee := .builtin .len, args := #[x], argTypes := ats }) v := by
  unfold lenSK at h
  split at h
  · exact ⟨_, h, VAL.pure (by show lenA P af x ats[0]? = _; unfold lenA; rw [hx, ht]; rfl)⟩
  · exact ⟨_, h, VAL.pure (by show lenA P af x ats[0]? = _; unfold lenA; rw [hx, ht]; rfl)⟩
  · cases h
noncomputable def llen (l : List UInt8) : Nat := List.rec (motive := fun _ => Nat) 0 (fun _ _ ih => Nat.succ ih) l
theorem llen_eq : ∀ l : List UInt8, llen l = l.length := by
  intro l
  induction l with
  | nil => rfl
  | cons x t ih => show Nat.succ (llen t) = _; rw [ih]; rfl
theorem str_eta (s : ByteArray) : Value.string s = str s.data.toList := by
  cases s; simp [str]
/-! truth -/
noncomputable def notK (c : Nat) (a : AV) (k : AV → R) : R :=
  match a with
  | .lit (.bool true) => k (.lit (.bool false))
  | .lit (.bool false) => k (.lit (.bool true))
  | _ => .bad c
theorem V.not (h : notK c a k = .ok r T' n') (hx : evalA af x = some a) : ∃ v, k v = .ok r T' n' ∧ VAL P W ρ af (.unOp .not t x) v := by
  unfold notK at h
  split at h
  · exact ⟨_, h, VAL.yy fun l hf ty => Y.not (b := true) (evlit hf hx)⟩
  · exact ⟨_, h, VAL.yy fun l hf ty => Y.not (b := false) (evlit hf hx)⟩
  · cases h
theorem VAL.mkI (hx : evalA af x = some a) (hn : noIface P t = true) : VAL P W ρ af (.makeInterface t x) (.iface t a) :=
  VAL.pure (by show mkIA P af t x = _; unfold mkIA; rw [hn, hx]; rfl)
noncomputable def asK (c : Nat) (a : AV) (kk : TypeId) (z : AV) (k : AV → R) : R :=
  match a with
  | .iface t u => bif Nat.beq t kk then k (.tup [u, .lit (.bool true)]) else k z
  | .lit .nilIface => k z
  | _ => .bad c
theorem V.as {kk s : TypeId} {z : AV} (h : asK c a kk z k = .ok r T' n') (hx : evalA af x = some a) (hn : noIface P kk = true) (hz : zeroA P kk = some z) : ∃ v, k v = .ok r T' n' ∧ VAL P W ρ af (.typeAssert x s kk true) v := by
  unfold asK at h
  split at h
  · rename_i t u
    cases hb : Nat.beq t kk with
    | true =>
      rw [hb] at h
      exact ⟨_, h, VAL.pure (by show assertA P af x kk = _; unfold assertA; rw [hn, hx]; dsimp only; rw [hb])⟩
    | false =>
      rw [hb] at h
      exact ⟨_, h, VAL.pure (by show assertA P af x kk = _; unfold assertA; rw [hn, hx]; dsimp only; rw [hb]; exact hz)⟩
  · exact ⟨_, h, VAL.pure (by show assertA P af x kk = _; unfold assertA; rw [hn, hx]; exact hz)⟩
  · cases h
def mmV (a b : AV) (mx : Bool) : Option AV :=
  match a, b with
  | .lit (.int k a), .lit (.int _ b) => some (.lit (.int k (match mx with | true => if b > a then b else a | false => if b < a then b else a)))
  | _, _ => none
theorem V.max {ats : Array TypeId} (h : optK c (mmV a b true) k = .ok r T' n') (hx : evalA af x = some a) (hy : evalA af y = some b) : ∃ v, k v = .ok r T' n' ∧ VAL P W ρ af (.call { callee := .builtin .max, args := #[x, y], argTypes := ats }) v := by
  obtain ⟨u, h1, h2⟩ := optK_inv h
  unfold mmV at h1
  split at h1
  · cases h1
    exact ⟨_, h2, VAL.pure (by show mmA af x y true = _; unfold mmA; rw [hx, hy])⟩
  · cases h1
theorem V.min {ats : Array TypeId} (h : optK c (mmV a b false) k = .ok r T' n') (hx : evalA af x = some a) (hy : evalA af y = some b) : ∃ v, k v = .ok r T' n' ∧ VAL P W ρ af (.call { callee := .builtin .min, args := #[x, y], argTypes := ats }) v := by
  obtain ⟨u, h1, h2⟩ := optK_inv h
  unfold mmV at h1
  split at h1
  · cases h1
    exact ⟨_, h2, VAL.pure (by show mmA af x y false = _; unfold mmA; rw [hx, hy])⟩
  · cases h1
/-! strings -/
noncomputable def beqB (l : List UInt8) : List UInt8 → Bool :=
  List.rec (motive := fun _ => List UInt8 → Bool) (fun m => List.rec true (fun _ _ _ => false) m) (fun x _ ih m => List.rec false (fun y t _ => bif Nat.beq x.toNat y.toNat then ih t else false) m) l
theorem beqB_eq : ∀ (l m : List UInt8), beqB l m = decide (l = m) := by
  intro l
  induction l with
  | nil => intro m; cases m <;> simp [beqB]
  | cons x l ih =>
    intro m
    cases m with
    | nil => simp [beqB]
    | cons y m =>
      show (bif Nat.beq x.toNat y.toNat then beqB l m else false) = _
      cases hb : Nat.beq x.toNat y.toNat with
      | true =>
        have : x = y := UInt8.toNat_inj.1 (beqT hb)
        subst this
        simp [ih]
      | false =>
        have : x ≠ y := fun e => beqF hb (by rw [e])
        simp [this]
noncomputable def strV (a : AV) : Option ByteArray :=
  AV.rec (motive_1 := fun _ => Option ByteArray) (motive_2 := fun _ => Unit) (fun v => Value.rec (motive_1 := fun _ => Option ByteArray) (motive_2 := fun _ => Unit) (motive_3 := fun _ => Unit) (fun _ => none) (fun _ _ => none) (fun _ _ => none) (fun _ _ _ => none) (fun s => some s) (fun _ => none) (fun _ _ _ => none) (fun _ => none) (fun _ => none) (fun _ _ _ _ _ => none) none (fun _ _ _ => none) none (fun _ _ => none) (fun _ _ => none) (fun _ _ => ()) () (fun _ _ _ _ => ()) v) (fun _ _ => none) (fun _ _ _ _ => none) (fun _ => none) (fun _ _ => none) (fun _ _ => none) (fun _ _ _ => none) (fun _ _ _ _ _ => none) (fun _ => none) () (fun _ _ _ _ => ()) a
theorem strV_ok {s : ByteArray} (h : strV a = some s) : a = .lit (.string s) := by
  cases a with
  | lit v => cases v with
    | string s => cases (h : some _ = some _); rfl
    | _ => cases (h : (none : Option ByteArray) = some _)
  | _ => cases (h : (none : Option ByteArray) = some _)
noncomputable def str2 (a b : AV) (f : ByteArray → ByteArray → R) (e : R) : R :=
  Option.rec (motive := fun _ => R) e (fun i => Option.rec (motive := fun _ => R) e (fun j => f i j) (strV b)) (strV a)
theorem str2_inv {f : ByteArray → ByteArray → R} {e X : R} (h : str2 a b f e = X) : (∃ s s', a = .lit (.string s) ∧ b = .lit (.string s') ∧ f s s' = X) ∨ e = X := by
  unfold str2 at h
  cases ha : strV a with
  | none => rw [ha] at h; exact .inr h
  | some i =>
    rw [ha] at h
    cases hb : strV b with
    | none => rw [hb] at h; exact .inr h
    | some j => rw [hb] at h; exact .inl ⟨i, j, strV_ok ha, strV_ok hb, h⟩
noncomputable def eqSK (P : Program) (t : TypeId) (x y : Operand) (c : Nat) (a b : AV) (k : AV → R) : R :=
  str2 a b (fun s s' => Bool.rec (motive := fun _ => R) (k (.lit (.bool false))) (k (.lit (.bool true))) (beqB s.data.toList s'.data.toList)) (bin0 P .eql t x y c a b k)
theorem V.eqS (h : eqSK P t x y c a b k = .ok r T' n') (hx : evalA af x = some a) (hy : evalA af y = some b) : ∃ v, k v = .ok r T' n' ∧ VAL P W ρ af (.binOp .eql t x y t2) v := by
  rcases str2_inv h with ⟨s, s', rfl, rfl, h'⟩ | h'
  · refine ⟨_, bifk h', VAL.yy fun l hf ty => ?_⟩
    have h1 := evlit hf hx
    have h2 := evlit hf hy
    rw [str_eta] at h1 h2
    rw [beqB_eq]
    exact Y.eqS h1 h2
  · exact V.bin0 h' hx hy
noncomputable def neSK (P : Program) (t : TypeId) (x y : Operand) (c : Nat) (a b : AV) (k : AV → R) : R :=
  str2 a b (fun s s' => Bool.rec (motive := fun _ => R) (k (.lit (.bool false))) (k (.lit (.bool true))) (not (beqB s.data.toList s'.data.toList))) (bin0 P .neq t x y c a b k)
theorem V.neS (h : neSK P t x y c a b k = .ok r T' n') (hx : evalA af x = some a) (hy : evalA af y = some b) : ∃ v, k v = .ok r T' n' ∧ VAL P W ρ af (.binOp .neq t x y t2) v := by
  rcases str2_inv h with ⟨s, s', rfl, rfl, h'⟩ | h'
  · refine ⟨_, bifk h', VAL.yy fun l hf ty => ?_⟩
    have h1 := evlit hf hx
    have h2 := evlit hf hy
    rw [str_eta] at h1 h2
    rw [beqB_eq]
    exact Y.neS h1 h2
  · exact V.bin0 h' hx hy
noncomputable def lapp (l m : List UInt8) : List UInt8 := List.rec m (fun x _ ih => x :: ih) l
theorem lapp_eq : ∀ l m : List UInt8, lapp l m = l ++ m := by
  intro l m
  induction l with
  | nil => rfl
  | cons x t ih => show x :: lapp t m = _; rw [ih]; rfl
noncomputable def addSK (P : Program) (t : TypeId) (x y : Operand) (c : Nat) (a b : AV) (k : AV → R) : R :=
  str2 a b (fun s s' => bif Nat.ble (Nat.add (llen s.data.toList) (llen s'.data.toList)) 1000000 then k (.lit (.string ⟨⟨lapp s.data.toList s'.data.toList⟩⟩)) else .bad c) (bin0 P .add t x y c a b k)
theorem V.addS (h : addSK P t x y c a b k = .ok r T' n') (hx : evalA af x = some a) (hy : evalA af y = some b) : ∃ v, k v = .ok r T' n' ∧ VAL P W ρ af (.binOp .add t x y t2) v := by
  rcases str2_inv h with ⟨s, s', rfl, rfl, h'⟩ | h'
  · cases hb : Nat.ble (Nat.add (llen s.data.toList) (llen s'.data.toList)) 1000000 with
    | false => rw [hb, cond_false] at h'; cases h'
    | true =>
      rw [hb, cond_true] at h'
      refine ⟨_, h', VAL.yy fun l hf ty => ?_⟩
      have h1 := evlit hf hx
      have h2 := evlit hf hy
      rw [str_eta] at h1 h2
      have h3 : llen s.data.toList + llen s'.data.toList ≤ 1000000 := by simpa using hb
      rw [llen_eq, llen_eq] at h3
      have := Y.addS (P := P) (W := W) (t := t) (ty := ty) (ty2 := t2) h1 h2 (by omega)
      rw [lapp_eq]
      exact this
  · exact V.bin0 h' hx hy
/-- behind eight bytes -/
noncomputable def tl8K (l : List UInt8) (k : List UInt8 → R) (e : R) : R := List.rec (motive := fun _ => R) e (fun _ t _ => List.rec (motive := fun _ => R) e (fun _ t _ => List.rec (motive := fun _ => R) e (fun _ t _ => List.rec (motive := fun _ => R) e (fun _ t _ => List.rec (motive := fun _ => R) e (fun _ t _ => List.rec (motive := fun _ => R) e (fun _ t _ => List.rec (motive := fun _ => R) e (fun _ t _ => List.rec (motive := fun _ => R) e (fun _ t _ => k t) t) t) t) t) t) t) t) l
theorem tl8K_inv {l : List UInt8} {k : List UInt8 → R} (h : tl8K l k (.bad c) = .ok r T' n') : k (l.drop 8) = .ok r T' n' := by
  unfold tl8K at h
  iterate 8
    rcases l with _ | ⟨_, l⟩
    · cases h
  exact h
noncomputable def bjK (n : Nat) (e : R) : List UInt8 → (List UInt8 → R) → R := Nat.rec (motive := fun _ => List UInt8 → (List UInt8 → R) → R) (fun l k => k l) (fun _ ih l k => tl8K l (fun t => ih t k) e) n
theorem bjK_inv : ∀ {n : Nat} {l : List UInt8} {k : List UInt8 → R}, bjK n (.bad c) l k = .ok r T' n' → k (l.drop (8 * n)) = .ok r T' n' := by
  intro n
  induction n with
  | zero => intro l k h; exact h
  | succ n ih =>
    intro l k h
    have := ih (tl8K_inv (h : tl8K l (fun t => bjK n (.bad c) t k) (.bad c) = _))
    rw [List.drop_drop] at this
    rw [show 8 * (n + 1) = 8 + 8 * n by omega]
    exact this
/-- so many bytes further -/
noncomputable def bdropK (l : List UInt8) (e : R) (k : List UInt8 → R) (i : Nat) : R :=
  bjK (Nat.div i 8) e l fun t => Nat.rec (motive := fun _ => List UInt8 → R) k (fun _ ih t => List.rec (motive := fun _ => R) e (fun _ t _ => ih t) t) (Nat.mod i 8) t
theorem bdropK_inv {l : List UInt8} {k : List UInt8 → R} {i : Nat} (h : bdropK l (.bad c) k i = .ok r T' n') : k (l.drop i) = .ok r T' n' := by
  have h1 := bjK_inv h
  have key : ∀ (n : Nat) (t : List UInt8), Nat.rec (motive := fun _ => List UInt8 → R) k (fun _ ih t => List.rec (motive := fun _ => R) (.bad c) (fun _ t _ => ih t) t) n t = .ok r T' n' → k (t.drop n) = .ok r T' n' := by
    intro n
    induction n with
    | zero => intro t h; exact h
    | succ n ih =>
      intro t h
      cases t with
      | nil => cases h
      | cons x t => exact ih t h
  have h2 := key _ _ h1
  rw [List.drop_drop] at h2
  have : 8 * Nat.div i 8 + Nat.mod i 8 = i := Nat.div_add_mod i 8
  rw [this] at h2
  exact h2
noncomputable def bgetK (l : List UInt8) (k : UInt8 → R) (e : R) (i : Nat) : R := bdropK l e (fun t => List.rec (motive := fun _ => R) e (fun x _ _ => k x) t) i
theorem bgetK_inv {k : UInt8 → R} {l : List UInt8} {i : Nat} (h : bgetK l k (.bad c) i = .ok r T' n') : ∃ v, l[i]? = some v ∧ k v = .ok r T' n' := by
  have h1 := bdropK_inv h
  cases hd : l.drop i with
  | nil => rw [hd] at h1; cases h1
  | cons x t =>
    rw [hd] at h1
    refine ⟨x, ?_, h1⟩
    have : (l.drop i)[0]? = some x := by rw [hd]; rfl
    simpa using this
noncomputable def natK (c : Nat) (a : AV) (f : Nat → R) : R :=
  AV.rec (motive_1 := fun _ => R) (motive_2 := fun _ => Unit) (fun v => Value.rec (motive_1 := fun _ => R) (motive_2 := fun _ => Unit) (motive_3 := fun _ => Unit) (fun _ => .bad c) (fun kk z => Int.rec (motive := fun _ => R) (fun i => f i) (fun _ => .bad c) z) (fun _ _ => .bad c) (fun _ _ _ => .bad c) (fun _ => .bad c) (fun _ => .bad c) (fun _ _ _ => .bad c) (fun _ => .bad c) (fun _ => .bad c) (fun _ _ _ _ _ => .bad c) (.bad c) (fun _ _ _ => .bad c) (.bad c) (fun _ _ => .bad c) (fun _ _ => .bad c) (fun _ _ => ()) () (fun _ _ _ _ => ()) v) (fun _ _ => .bad c) (fun _ _ _ _ => .bad c) (fun _ => .bad c) (fun _ _ => .bad c) (fun _ _ => .bad c) (fun _ _ _ => .bad c) (fun _ _ _ _ _ => .bad c) (fun _ => .bad c) () (fun _ _ _ _ => ()) a
theorem natK_inv {f : Nat → R} (h : natK c a f = .ok r T' n') : ∃ kk i, a = .lit (.int kk (.ofNat i)) ∧ f i = .ok r T' n' := by
  cases a with
  | lit v => cases v with
    | int kk z => cases z with
      | ofNat i => exact ⟨_, _, rfl, h⟩
      | negSucc i => exact bad_ok h
    | _ => exact bad_ok h
  | _ => exact bad_ok h
noncomputable def strK (c : Nat) (a : AV) (f : ByteArray → R) : R :=
  AV.rec (motive_1 := fun _ => R) (motive_2 := fun _ => Unit) (fun v => Value.rec (motive_1 := fun _ => R) (motive_2 := fun _ => Unit) (motive_3 := fun _ => Unit) (fun _ => .bad c) (fun _ _ => .bad c) (fun _ _ => .bad c) (fun _ _ _ => .bad c) (fun s => f s) (fun _ => .bad c) (fun _ _ _ => .bad c) (fun _ => .bad c) (fun _ => .bad c) (fun _ _ _ _ _ => .bad c) (.bad c) (fun _ _ _ => .bad c) (.bad c) (fun _ _ => .bad c) (fun _ _ => .bad c) (fun _ _ => ()) () (fun _ _ _ _ => ()) v) (fun _ _ => .bad c) (fun _ _ _ _ => .bad c) (fun _ => .bad c) (fun _ _ => .bad c) (fun _ _ => .bad c) (fun _ _ _ => .bad c) (fun _ _ _ _ _ => .bad c) (fun _ => .bad c) () (fun _ _ _ _ => ()) a
theorem strK_inv {f : ByteArray → R} (h : strK c a f = .ok r T' n') : ∃ s, a = .lit (.string s) ∧ f s = .ok r T' n' := by
  cases a with
  | lit v => cases v with
    | string s => exact ⟨_, rfl, h⟩
    | _ => exact bad_ok h
  | _ => exact bad_ok h
noncomputable def lenTK (c : Nat) (a : AV) (k : AV → R) : R := strK c a fun s => k (.lit (.int .i64 (.ofNat (llen s.data.toList))))
theorem V.lenT {ats : Array TypeId} (h : lenTK c a k = .ok r T' n') (hx : evalA af x = some a) (ht : (ats[0]?).bind P.underlying = some .string) : ∃ v, k v = .ok r T' n' ∧ VAL P W ρ af (.call { callee := .builtin .len, args := #[x], argTypes := ats }) v := by
  obtain ⟨s, rfl, hA⟩ := strK_inv h
  refine ⟨_, hA, VAL.yy fun l hf ty => ?_⟩
  have h1 := evlit hf hx
  rw [str_eta] at h1
  obtain ⟨t0, ht0, hu⟩ := Option.bind_eq_some_iff.1 ht
  rw [llen_eq]
  exact Y.lenStr h1 hu ht0
noncomputable def ixK (c : Nat) (a b : AV) (k : AV → R) : R :=
  strK c a fun s => natK c b fun i => bgetK s.data.toList (fun u => k (.lit (.int .u8 (.ofNat u.toNat)))) (.bad c) i
theorem V.ix (h : ixK c a b k = .ok r T' n') (hx : evalA af x = some a) (hy : evalA af y = some b) (ht : P.underlying t = some .string) : ∃ v, k v = .ok r T' n' ∧ VAL P W ρ af (.index t x y) v := by
  obtain ⟨s, rfl, hA⟩ := strK_inv h
  obtain ⟨kk, i, rfl, hB⟩ := natK_inv hA
  obtain ⟨u, h1, h2⟩ := bgetK_inv hB
  refine ⟨_, h2, VAL.yy fun l hf ty => ?_⟩
  have e1 := evlit hf hx
  have e2 := evlit hf hy
  rw [str_eta] at e1
  have hlt := (List.getElem?_eq_some_iff.1 h1).1
  have := Y.index (P := P) (W := W) (ty := ty) e1 e2 ht hlt
  have hb : bt s.data.toList i = u.toNat := by simp only [bt, List.getD, h1, Option.getD_some]
  rw [hb] at this
  exact this
noncomputable def ltake (l : List UInt8) : Nat → List UInt8 := List.rec (motive := fun _ => Nat → List UInt8) (fun _ => []) (fun x _ ih n => bif Nat.beq n 0 then [] else x :: ih (Nat.pred n)) l
theorem ltake_eq : ∀ (l : List UInt8) (n : Nat), ltake l n = l.take n := by
  intro l
  induction l with
  | nil => intro n; simp [ltake]
  | cons x t ih =>
    intro n
    show (bif Nat.beq n 0 then [] else x :: ltake t (Nat.pred n)) = _
    cases n with
    | zero => rfl
    | succ n => show x :: ltake t n = _; rw [ih]; rfl
noncomputable def ldrop (l : List UInt8) : Nat → List UInt8 := List.rec (motive := fun _ => Nat → List UInt8) (fun _ => []) (fun x t ih n => bif Nat.beq n 0 then x :: t else ih (Nat.pred n)) l
theorem ldrop_eq : ∀ (l : List UInt8) (n : Nat), ldrop l n = l.drop n := by
  intro l
  induction l with
  | nil => intro n; simp [ldrop]
  | cons x t ih =>
    intro n
    show (bif Nat.beq n 0 then x :: t else ldrop t (Nat.pred n)) = _
    cases n with
    | zero => rfl
    | succ n => show ldrop t n = _; rw [ih]; rfl
noncomputable def sliceK (c : Nat) (a : AV) (lo hi : Option AV) (k : AV → R) : R :=
  match a with
  | .lit (.string s) => match lo with
    | none => match hi with
      | some (.lit (.int _ (.ofNat j))) => bif Nat.ble j (llen s.data.toList) then k (.lit (.string ⟨⟨ltake s.data.toList j⟩⟩)) else .bad c
      | _ => .bad c
    | some (.lit (.int _ (.ofNat i))) => match hi with
      | none => bif Nat.ble i (llen s.data.toList) then k (.lit (.string ⟨⟨ldrop s.data.toList i⟩⟩)) else .bad c
      | some (.lit (.int _ (.ofNat j))) => bif Nat.ble i j then bif Nat.ble j (llen s.data.toList) then k (.lit (.string ⟨⟨ldrop (ltake s.data.toList j) i⟩⟩)) else .bad c else .bad c
      | _ => .bad c
    | _ => .bad c
  | _ => .bad c
/-- so many bytes -/
noncomputable def btakeK (l : List UInt8) (e : R) : Nat → (List UInt8 → R) → R :=
  List.rec (motive := fun _ => Nat → (List UInt8 → R) → R) (fun n k => Bool.rec (motive := fun _ => R) e (k []) (Nat.beq n 0)) (fun x _ ih n k => Bool.rec (motive := fun _ => R) (ih (Nat.pred n) fun o => k (x :: o)) (k []) (Nat.beq n 0)) l
theorem btakeK_inv : ∀ {l : List UInt8} {n : Nat} {k : List UInt8 → R}, btakeK l (.bad c) n k = .ok r T' n' → n ≤ l.length ∧ k (l.take n) = .ok r T' n' := by
  intro l
  induction l with
  | nil =>
    intro n k h
    cases n with
    | zero => exact ⟨Nat.le_refl _, h⟩
    | succ n => cases h
  | cons x t ih =>
    intro n k h
    cases n with
    | zero => exact ⟨Nat.zero_le _, h⟩
    | succ n =>
      obtain ⟨h1, h2⟩ := ih (n := n) (k := fun o => k (x :: o)) h
      exact ⟨by simp; omega, h2⟩
noncomputable def sliceF (c : Nat) (a : AV) (lo hi : Option AV) (k : AV → R) : R :=
  strK c a fun s => Option.rec (motive := fun _ => R)
    (Option.rec (motive := fun _ => R) (.bad c) (fun hj => natK c hj fun j => btakeK s.data.toList (.bad c) j fun o => k (.lit (.string ⟨⟨o⟩⟩))) hi)
    (fun li => natK c li fun i => Option.rec (motive := fun _ => R) (bdropK s.data.toList (.bad c) (fun o => Bool.rec (motive := fun _ => R) (.bad c) (k (.lit (.string ⟨⟨o⟩⟩))) (Nat.ble i (llen s.data.toList))) i)
      (fun hj => natK c hj fun j => Bool.rec (motive := fun _ => R) (.bad c) (Bool.rec (motive := fun _ => R) (.bad c) (bdropK s.data.toList (.bad c) (fun d => btakeK d (.bad c) (Nat.sub j i) fun o => k (.lit (.string ⟨⟨o⟩⟩))) i) (Nat.ble j (llen s.data.toList))) (Nat.ble i j)) hi) lo
theorem sliceF_ok {lo hi : Option AV} (h : sliceF c a lo hi k = .ok r T' n') : sliceK c a lo hi k = .ok r T' n' := by
  obtain ⟨s, rfl, hA⟩ := strK_inv h
  cases lo with
  | none =>
    cases hi with
    | none => exact bad_ok hA
    | some hj =>
      obtain ⟨kk, j, rfl, hB⟩ := natK_inv hA
      obtain ⟨h1, h2⟩ := btakeK_inv hB
      show (bif Nat.ble j (llen s.data.toList) then k (.lit (.string ⟨⟨ltake s.data.toList j⟩⟩)) else .bad c) = _
      rw [llen_eq, ltake_eq, show Nat.ble j s.data.toList.length = true by simpa using h1]
      exact h2
  | some li =>
    obtain ⟨kk, i, rfl, hB⟩ := natK_inv hA
    cases hi with
    | none =>
      have h2 := bdropK_inv hB
      show (bif Nat.ble i (llen s.data.toList) then k (.lit (.string ⟨⟨ldrop s.data.toList i⟩⟩)) else .bad c) = _
      cases hb : Nat.ble i (llen s.data.toList) with
      | false => rw [hb] at h2; exact bad_ok h2
      | true => rw [hb] at h2; rw [ldrop_eq]; exact h2
    | some hj =>
      obtain ⟨kk2, j, rfl, hC⟩ := natK_inv hB
      show (bif Nat.ble i j then bif Nat.ble j (llen s.data.toList) then k (.lit (.string ⟨⟨ldrop (ltake s.data.toList j) i⟩⟩)) else .bad c else .bad c) = _
      cases hb : Nat.ble i j with
      | false => rw [hb] at hC; exact bad_ok hC
      | true =>
        rw [hb] at hC
        cases hb2 : Nat.ble j (llen s.data.toList) with
        | false => rw [hb2] at hC; exact bad_ok hC
        | true =>
          rw [hb2] at hC
          obtain ⟨_, h3⟩ := btakeK_inv (bdropK_inv hC)
          rw [ldrop_eq, ltake_eq, List.drop_take]
          exact h3
theorem recb_ok {p : Bool} {X : R} (h : Bool.rec (motive := fun _ => R) (.bad c) X p = .ok r T' n') : p = true ∧ X = .ok r T' n' := by
  cases p with
  | true => exact ⟨rfl, h⟩
  | false => exact bad_ok h
theorem bif_ok {p : Bool} {X : R} (h : (bif p then X else .bad c) = .ok r T' n') : p = true ∧ X = .ok r T' n' := by
  cases p with
  | true => exact ⟨rfl, h⟩
  | false => cases h
theorem V.slHi {j : AV} (h : sliceK c a none (some j) k = .ok r T' n') (hx : evalA af x = some a) (hy : evalA af y = some j) (ht : P.underlying t = some .string) : ∃ v, k v = .ok r T' n' ∧ VAL P W ρ af (.slice t x none (some y) none) v := by
  unfold sliceK at h
  split at h
  · rename_i s
    dsimp only at h
    split at h
    · rename_i kk j' heq
      cases heq
      obtain ⟨hb, h⟩ := bif_ok h
      refine ⟨_, h, VAL.yy fun l hf ty => ?_⟩
      have e1 := evlit hf hx
      rw [str_eta] at e1
      have e3 : j' ≤ llen s.data.toList := by simpa using hb
      rw [llen_eq] at e3
      rw [ltake_eq]
      exact Y.sliceHi e1 (evlit hf hy) ht e3
    · cases h
  · cases h
theorem V.slLo {i : AV} (h : sliceK c a (some i) none k = .ok r T' n') (hx : evalA af x = some a) (hy : evalA af y = some i) (ht : P.underlying t = some .string) : ∃ v, k v = .ok r T' n' ∧ VAL P W ρ af (.slice t x (some y) none none) v := by
  unfold sliceK at h
  split at h
  · rename_i s
    dsimp only at h
    split at h
    · rename_i heq; cases heq
    · rename_i kk i' heq
      cases heq
      obtain ⟨hb, h⟩ := bif_ok h
      refine ⟨_, h, VAL.yy fun l hf ty => ?_⟩
      have e1 := evlit hf hx
      rw [str_eta] at e1
      have e3 : i' ≤ llen s.data.toList := by simpa using hb
      rw [llen_eq] at e3
      rw [ldrop_eq]
      exact Y.sliceLo e1 (evlit hf hy) ht e3
    · cases h
  · cases h
theorem V.slBo {z : Operand} {i j : AV} (h : sliceK c a (some i) (some j) k = .ok r T' n') (hx : evalA af x = some a) (hy : evalA af y = some i) (hz : evalA af z = some j) (ht : P.underlying t = some .string) : ∃ v, k v = .ok r T' n' ∧ VAL P W ρ af (.slice t x (some y) (some z) none) v := by
  unfold sliceK at h
  split at h
  · rename_i s
    split at h
    · rename_i heq; cases heq
    · rename_i kk i' heq
      cases heq
      split at h
      · rename_i heq; cases heq
      · rename_i kk2 j' heq
        cases heq
        obtain ⟨hb, h⟩ := bif_ok h
        obtain ⟨hb2, h⟩ := bif_ok h
        refine ⟨_, h, VAL.yy fun l hf ty => ?_⟩
        have e1 := evlit hf hx
        rw [str_eta] at e1
        have e3 : j' ≤ llen s.data.toList := by simpa using hb2
        rw [llen_eq] at e3
        have e4 : i' ≤ j' := by simpa using hb
        rw [ldrop_eq, ltake_eq]
        exact Y.slice e1 (evlit hf hy) (evlit hf hz) ht e4 e3
      · cases h
    · cases h
  · cases h
/-- a conversion that asks no memory -/
def convV (P : Program) (s d : TypeId) (a : AV) : Option AV :=
  match a with
  | .lit v => (pureRun P (Go.convert s d v)).map .lit
  | _ => none
theorem V.conv {s d : TypeId} (h : optK c (convV P s d a) k = .ok r T' n') (hx : evalA af x = some a) : ∃ v, k v = .ok r T' n' ∧ VAL P W ρ af (.convert s d x) v := by
  obtain ⟨u, h1, h2⟩ := optK_inv h
  exact ⟨u, h2, VAL.pure (by show lit1 P af x (fun v => Go.convert s d v) = _; unfold lit1; rw [hx]; rw [← h1]; unfold convV; cases a <;> rfl)⟩
def unV (P : Program) (op : UnOp) (a : AV) : Option AV :=
  match a with
  | .lit v => (pureRun P (Op.unary op v)).map .lit
  | _ => none
theorem V.un {op : UnOp} (h : optK c (unV P op a) k = .ok r T' n') (hx : evalA af x = some a) : ∃ v, k v = .ok r T' n' ∧ VAL P W ρ af (.unOp op t x) v := by
  obtain ⟨u, h1, h2⟩ := optK_inv h
  exact ⟨u, h2, VAL.pure (by show lit1 P af x (fun v => Op.unary op v) = _; unfold lit1; rw [hx]; rw [← h1]; unfold unV; cases a <;> rfl)⟩
/-! memory that is read -/
noncomputable def ldK (c : Nat) (T : HT) (ro : List HT) (a : AV) (k : AV → R) : R := ptrK c a fun id off => lookK T ro id (fun m => m.cellK c off k) (.bad c)
theorem V.ld (hS : ST w0 base E ρ0 ρ T ro nx its) (h : ldK c T ro a k = .ok r T' n') (hx : evalA af x = some a) (ht : oneT P t = true) : ∃ v, k v = .ok r T' n' ∧ VAL P (WA w0 base its) ρ af (.load t x) v := by
  obtain ⟨id, off, rfl, h2⟩ := ptrK_inv h
  obtain ⟨m, h3, h4⟩ := lookK_inv h2
  obtain ⟨v, h5, h6⟩ := MI.cellK_inv h4
  refine ⟨v, h6, fun l hf ty => ?_⟩
  obtain ⟨p, it, us, e1, e2, e3, e4, _⟩ := hS.look h3
  obtain ⟨u, g1, g2⟩ := hf.eval hx
  obtain ⟨p', g3, rfl⟩ := inst_ptr g2
  rw [e1] at g3; cases g3
  obtain ⟨z, q1, q2⟩ := instL_get e3 (e2.cell h5)
  exact ⟨z, q2, Y.load (oneT_ok ht) g1 fun w hw => e4 w hw _ _ q1⟩
noncomputable def ldAK (c : Nat) (T : HT) (ro : List HT) (a : AV) (n : Nat) (k : AV → R) : R := ptrK c a fun id off => lookK T ro id (fun m => m.cellsK c n off fun l => k (.agg l)) (.bad c)
theorem V.ldA {n : Nat} (hS : ST w0 base E ρ0 ρ T ro nx its) (h : ldAK c T ro a n k = .ok r T' n') (hx : evalA af x = some a) (ht : aggT P t = some n) : ∃ v, k v = .ok r T' n' ∧ VAL P (WA w0 base its) ρ af (.load t x) v := by
  obtain ⟨id, off, rfl, h2⟩ := ptrK_inv h
  obtain ⟨m, h3, h4⟩ := lookK_inv h2
  obtain ⟨cs, h5, h6⟩ := MI.cellsK_inv h4
  refine ⟨_, h6, fun l hf ty => ?_⟩
  obtain ⟨p, it, us, e1, e2, e3, e4, _⟩ := hS.look h3
  obtain ⟨u, g1, g2⟩ := hf.eval hx
  obtain ⟨p', g3, rfl⟩ := inst_ptr g2
  rw [e1] at g3; cases g3
  obtain ⟨q1, q2⟩ := MI.cells_it e2 h5
  have q3 := instL_take n (instL_drop off e3)
  rw [q1] at q3
  have hlen : ((us.drop off).take n).length = n := by rw [instL_len q3]; exact q2
  refine ⟨_, by unfold inst; rw [q3]; rfl, Y.loadA (aggT_ok ht) hlen g1 fun w hw j u hj => e4 w hw _ _ ?_⟩
  rw [List.getElem?_take] at hj
  split at hj
  · rw [List.getElem?_drop] at hj; exact hj
  · cases hj
theorem VAL.ldG {g : Nat} {v : AV} (hS : ST w0 base E ρ0 ρ T ro nx its) (hg : lookE E g = some v) (ht : oneT P t = true) : VAL P (WA w0 base its) ρ af (.load t (.global g)) v := fun l hf ty => by
  obtain ⟨z, h3, h4, h5⟩ := hS.env g v hg
  obtain ⟨u, h1, h2⟩ := hf.eval (x := .global g) rfl
  obtain rfl := inst_lit h2
  exact ⟨z, h3, Y.ldO (oneT_ok ht) h1 h4 h5⟩
/-! errors held against each other -/
noncomputable def opq2 (tp : TypeId) (a b : AV) (f : Nat → Nat → R) (e : R) : R :=
  match a with
  | .iface ta (.opq i) => match b with
    | .iface tb (.opq j) => bif Nat.beq ta tp then bif Nat.beq tb tp then f i j else e else e
    | _ => e
  | _ => e
theorem opq2_inv {tp : TypeId} {f : Nat → Nat → R} {e X : R} (h : opq2 tp a b f e = X) : (∃ i j, a = .iface tp (.opq i) ∧ b = .iface tp (.opq j) ∧ f i j = X) ∨ e = X := by
  unfold opq2 at h
  split at h
  · split at h
    · rename_i ta i bb tb j
      cases h1 : Nat.beq ta tp with
      | false => rw [h1] at h; exact .inr h
      | true =>
        cases h2 : Nat.beq tb tp with
        | false => rw [h1, h2] at h; exact .inr h
        | true =>
          rw [h1, h2] at h
          exact .inl ⟨i, j, by rw [beqT h1], by rw [beqT h2], h⟩
    · exact .inr h
  · exact .inr h
noncomputable def eeK (P : Program) (tp : TypeId) (t : TypeId) (x y : Operand) (c : Nat) (a b : AV) (k : AV → R) : R :=
  opq2 tp a b (fun i j => Bool.rec (motive := fun _ => R) (.bad c) (Bool.rec (motive := fun _ => R) (.bad c) (Bool.rec (motive := fun _ => R) (k (.lit (.bool false))) (k (.lit (.bool true))) (Nat.beq i j)) (Nat.blt j 17)) (Nat.blt i 17)) (bin0 P .eql t x y c a b k)
theorem V.ee {tp te : TypeId} (hS : ST w0 base E ρ0 ρ T ro nx its) (h : eeK P tp t x y c a b k = .ok r T' n') (hx : evalA af x = some a) (hy : evalA af y = some b) (hi : isIface P t = true) (hc : CmpT P tp te) : ∃ v, k v = .ok r T' n' ∧ VAL P (WA w0 base its) ρ af (.binOp .eql t x y t2) v := by
  rcases opq2_inv h with ⟨i, j, rfl, rfl, h'⟩ | h'
  · obtain ⟨h1, h'⟩ := recb_ok h'
    obtain ⟨h2, h'⟩ := recb_ok h'
    refine ⟨_, bifk h', fun l hf ty => ⟨_, rfl, ?_⟩⟩
    obtain ⟨ms, hm⟩ := isIface_ok hi
    obtain ⟨aE, e1, e2, e3⟩ := hS.opq.1
    have hi' : i < 17 := by simpa using h1
    have hj' : j < 17 := by simpa using h2
    obtain ⟨u, g1, g2⟩ := hf.eval hx
    obtain ⟨z, g3, rfl⟩ := inst_if g2
    cases g3
    obtain ⟨u', g4, g5⟩ := hf.eval hy
    obtain ⟨z', g6, rfl⟩ := inst_if g5
    cases g6
    rw [e1 i hi'] at g1
    rw [e1 j hj'] at g4
    cases hb : Nat.beq i j with
    | true =>
      obtain rfl := beqT hb
      exact Y.eqSame hm hc g1 g4
    | false =>
      have hne := e3 i j hi' hj' (beqF hb)
      refine Y.eqOther hm hc hne (fun w hw => ?_) (fun w hw => ?_) g1 g4
      · obtain ⟨q1, cc, tt, q2⟩ := e2 i hi'
        exact ⟨cc, tt, (hw.below.block _ q1).trans q2⟩
      · obtain ⟨q1, cc, tt, q2⟩ := e2 j hj'
        exact ⟨cc, tt, (hw.below.block _ q1).trans q2⟩
  · exact V.bin0 h' hx hy
/-! slices that are cut -/
noncomputable def slcK (c : Nat) (a : AV) (f : Nat → Nat → Nat → Nat → R) : R :=
  AV.rec (motive_1 := fun _ => R) (motive_2 := fun _ => Unit) (fun _ => .bad c) (fun _ _ => .bad c) (fun id off n sk => f id off n sk) (fun _ => .bad c) (fun _ _ => .bad c) (fun _ _ => .bad c) (fun _ _ _ => .bad c) (fun _ _ _ _ _ => .bad c) (fun _ => .bad c) () (fun _ _ _ _ => ()) a
theorem slcK_inv {f : Nat → Nat → Nat → Nat → R} (h : slcK c a f = .ok r T' n') : ∃ id off n sk, a = .sl id off n sk ∧ f id off n sk = .ok r T' n' := by
  cases a with
  | sl id off n sk => exact ⟨_, _, _, _, rfl, h⟩
  | _ => exact bad_ok h
noncomputable def iaK (c : Nat) (a b : AV) (size : Nat) (k : AV → R) : R :=
  slcK c a fun id off len _ => natK c b fun i => Bool.rec (motive := fun _ => R) (.bad c) (k (.ptr id (Nat.add off (Nat.mul i size)))) (Nat.blt i len)
theorem V.ia {e size by' : Nat} {z : Value} (h : iaK c a b size k = .ok r T' n') (hx : evalA af x = some a) (hy : evalA af y = some b) (he : elemT P t = some (e, size, by', z)) : ∃ v, k v = .ok r T' n' ∧ VAL P W ρ af (.indexAddr t x y) v := by
  obtain ⟨id, off, len, sk, rfl, hA⟩ := slcK_inv h
  obtain ⟨kk, i, rfl, hB⟩ := natK_inv hA
  cases hb : Nat.blt i len with
  | false => rw [hb] at hB; exact bad_ok hB
  | true =>
    rw [hb] at hB
    exact ⟨_, hB, VAL.pure (by show idxA P af t x y = _; unfold idxA; rw [hx, hy, he]; dsimp only; rw [hb]; rfl)⟩
noncomputable def rowK (c : Nat) (m : MI) (f : Nat → TypeId → Nat → VT → R) : R :=
  MI.rec (motive := fun _ => R) (fun _ _ => .bad c) (fun n e s vt => f n e s vt) (fun _ _ _ _ => .bad c) m
theorem rowK_inv {m : MI} {f : Nat → TypeId → Nat → VT → R} (h : rowK c m f = .ok r T' n') : ∃ n e s vt, m = .row n e s vt ∧ f n e s vt = .ok r T' n' := by
  cases m with
  | row n e s vt => exact ⟨_, _, _, _, rfl, h⟩
  | _ => exact bad_ok h
theorem ST.room (hS : ST w0 base E ρ0 ρ T ro nx its) {id n e s : Nat} {vt : VT} (h : lookT T ro id = some (.row n e s vt)) : ∃ p, rat ρ.blk id = some p ∧ ∀ w, WA w0 base its w → n ≤ p.2 := by
  obtain ⟨p, it, us, e1, e2, _, _, e5, _⟩ := hS.look h
  obtain ⟨cs, rfl, _⟩ := e2
  exact ⟨p, e1, fun w hw => e5 _ _ _ _ rfl w hw⟩
noncomputable def cutHiK (c : Nat) (T : HT) (ro : List HT) (a b : AV) (k : AV → R) : R :=
  slcK c a fun id off n sk => natK c b fun j => bif Nat.ble j n then lookK T ro id (fun m => rowK c m fun q _ _ _ => bif Nat.ble (Nat.add n sk) q then k (.sl id off j sk) else .bad c) (.bad c) else .bad c
theorem V.cutHi {e size by' : Nat} {z : Value} (hS : ST w0 base E ρ0 ρ T ro nx its) (h : cutHiK c T ro a b k = .ok r T' n') (hx : evalA af x = some a) (hy : evalA af y = some b) (he : elemT P t = some (e, size, by', z)) : ∃ v, k v = .ok r T' n' ∧ VAL P (WA w0 base its) ρ af (.slice t x none (some y) none) v := by
  obtain ⟨id, off, n, sk, rfl, h2⟩ := slcK_inv h
  obtain ⟨kk, j, rfl, h3⟩ := natK_inv h2
  obtain ⟨hb, h4⟩ := bif_ok h3
  obtain ⟨m, h5, h6⟩ := lookK_inv h4
  obtain ⟨q, e', s', vt, rfl, h7⟩ := rowK_inv h6
  obtain ⟨hb2, h8⟩ := bif_ok h7
  refine ⟨_, h8, fun l hf ty => ?_⟩
  obtain ⟨p, e1, e2⟩ := hS.room h5
  obtain ⟨u, g1, g2⟩ := hf.eval hx
  obtain ⟨p', g3, rfl⟩ := inst_sl g2
  rw [e1] at g3; cases g3
  obtain ⟨hEl, hSz, _⟩ := elemT_ok he
  have hj : j ≤ n := by simpa using hb
  have hq : n + sk ≤ q := by simpa using hb2
  refine ⟨_, by unfold inst; rw [e1]; rfl, fun σ hσ o' ho ht w hw => ?_⟩
  have := e2 w hw
  exact Y.cutHi (W := WA w0 base its) hEl.ht hSz g1 (evlit hf hy) (by omega) σ hσ o' ho ht w hw
noncomputable def cutLoK (c : Nat) (T : HT) (ro : List HT) (a b : AV) (size : Nat) (k : AV → R) : R :=
  slcK c a fun id off n sk => natK c b fun j => bif Nat.blt j n then lookK T ro id (fun m => rowK c m fun q _ _ _ => bif Nat.ble (Nat.add n sk) q then k (.sl id (Nat.add off (Nat.mul j size)) (Nat.sub n j) (Nat.add sk j)) else .bad c) (.bad c) else .bad c
theorem V.cutLo {e size by' : Nat} {z : Value} (hS : ST w0 base E ρ0 ρ T ro nx its) (h : cutLoK c T ro a b size k = .ok r T' n') (hx : evalA af x = some a) (hy : evalA af y = some b) (he : elemT P t = some (e, size, by', z)) : ∃ v, k v = .ok r T' n' ∧ VAL P (WA w0 base its) ρ af (.slice t x (some y) none none) v := by
  obtain ⟨id, off, n, sk, rfl, h2⟩ := slcK_inv h
  obtain ⟨kk, j, rfl, h3⟩ := natK_inv h2
  obtain ⟨hb, h4⟩ := bif_ok h3
  obtain ⟨m, h5, h6⟩ := lookK_inv h4
  obtain ⟨q, e', s', vt, rfl, h7⟩ := rowK_inv h6
  obtain ⟨hb2, h8⟩ := bif_ok h7
  refine ⟨_, h8, fun l hf ty => ?_⟩
  obtain ⟨p, e1, e2⟩ := hS.room h5
  obtain ⟨u, g1, g2⟩ := hf.eval hx
  obtain ⟨p', g3, rfl⟩ := inst_sl g2
  rw [e1] at g3; cases g3
  obtain ⟨hEl, hSz, _⟩ := elemT_ok he
  have hj : j < n := by simpa using hb
  have hq : n + sk ≤ q := by simpa using hb2
  refine ⟨.slice (some ⟨p.1, off + j * size, none⟩) (n - j) (p.2 - (sk + j)), by unfold inst; rw [e1]; rfl, fun σ hσ o' ho ht w hw => ?_⟩
  have h9 := e2 w hw
  have h10 := Y.cutLo (W := WA w0 base its) (ty := ty) hEl.ht hSz g1 (evlit hf hy) (by omega) σ hσ o' ho ht w hw
  rw [if_neg (by omega)] at h10
  simpa [Addr.add_lit, Nat.sub_sub] using h10
end
end Go.EY
