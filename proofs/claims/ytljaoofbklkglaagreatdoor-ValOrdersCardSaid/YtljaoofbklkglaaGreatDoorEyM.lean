/-
  Proved here: more steps of a machine of mine: maps (made, asked, set, taken out), methods called by an interface, assertions.
-/
import Derived.Test.YtljaoofbklkglaaGreatDoorEyL
import Derived.MapKept
namespace Go.EY
open Go.SX Go.EX Go.RowKit
/-! entries -/
theorem mkEs_nil2 (us : List Value) (bs : List Nat) : mkEs us [] bs = [] := by cases us <;> cases bs <;> rfl
theorem mkEs_nil3 (us xs : List Value) : mkEs us xs [] = [] := by cases us <;> cases xs <;> rfl
theorem mkEs_set (key u' : Value) : ∀ (us xs : List Value) (bs : List Nat) (j : Nat), us[j]? = some key → (mkEs us xs bs).modify j (fun e => { e with key := key, val := u' }) = mkEs us (xs.set j u') bs
  | [], xs, bs, j, h => by cases h
  | u :: us, [], bs, j, _ => by rw [mkEs_nil2]; cases j <;> (show _ = mkEs (u :: us) [] bs; rw [mkEs_nil2]; rfl)
  | u :: us, x :: xs, [], j, _ => by rw [mkEs_nil3, mkEs_nil3]; cases j <;> rfl
  | u :: us, x :: xs, b :: bs, 0, h => by cases h; rfl
  | u :: us, x :: xs, b :: bs, j + 1, h => by
    have := mkEs_set key u' us xs bs j (by simpa using h)
    simp only [mkEs, List.modify_succ_cons, List.set_cons_succ, this]
theorem mkEs_push (k v : Value) (b : Nat) : ∀ (us xs : List Value) (bs : List Nat), us.length = xs.length → us.length = bs.length → mkEs us xs bs ++ [⟨k, v, b⟩] = mkEs (us ++ [k]) (xs ++ [v]) (bs ++ [b])
  | [], [], [], _, _ => rfl
  | [], _ :: _, _, h, _ => by cases h
  | [], [], _ :: _, _, h => by cases h
  | _ :: _, [], _, h, _ => by cases h
  | _ :: _, _ :: _, [], _, h => by cases h
  | u :: us, x :: xs, q :: bs, h, h' => by
    have := mkEs_push k v b us xs bs (by simpa using h) (by simpa using h')
    simp only [mkEs, List.cons_append, this]
section
variable {P : Program} {w0 : World} {base : Nat} {ρ0 ρ : Rho} {T : HT} {ro : List HT} {nx : Nat} {its : List It} {E : List (Nat × AV)} {af : AF} {l : Fr}
variable {ops : Array Oper} {n : Nat} {D : List Deferred} {Q : Exit → Act → World → Prop} {rest : List Oper} {o : Oper} {d : Nat} {W : World → Prop}
variable {r : AR} {T' : HT} {n' c : Nat} {x y : Operand} {a b v : AV} {t t2 : TypeId}
/-! keys held against keys -/
def EqR (P : Program) (W : World → Prop) (kt : TypeId) (a b : Value) (q : Bool) : Prop := ∀ w, W w → (Op.equal kt a b).run P w = .ok q w
def Fnd (P : Program) (W : World → Prop) (kt : TypeId) (key : Value) (es : List MapEntry) (i : Nat) (q : Option (Nat × Value)) : Prop := ∀ w, W w → (Instr.findAsking kt key es i).run P w = .ok q w
theorem Fnd.nil {kt : TypeId} {key : Value} {i : Nat} : Fnd P W kt key [] i none := fun w _ => rfl
theorem Fnd.yes {kt : TypeId} {key : Value} {i : Nat} {e : MapEntry} {es : List MapEntry} (h : EqR P W kt key e.key true) : Fnd P W kt key (e :: es) i (some (i, e.val)) := fun w hw => by
  have := h w hw
  simp [Instr.findAsking, this]
theorem Fnd.no {kt : TypeId} {key : Value} {i : Nat} {e : MapEntry} {es : List MapEntry} {q : Option (Nat × Value)} (h : EqR P W kt key e.key false) (h2 : Fnd P W kt key es (i + 1) q) : Fnd P W kt key (e :: es) i q := fun w hw => by
  have := h w hw
  have := h2 w hw
  simp [Instr.findAsking, *]
theorem bytes_eq (s s' : ByteArray) : (s == s') = decide (s.data.toList = s'.data.toList) := by
  show (s.data == s'.data) = _
  rw [Bool.eq_iff_iff]; simp [Array.toList_inj]
theorem same_equalIn {kt : TypeId} {kd : TypeDesc} (hkd : P.underlying kt = some kd) {a b : Value} {q : Bool} (h : Instr.sameNow kd a b = some q) (w : World) (dd : Nat) : (Op.equalIn (dd + 1) kt a b).run P w = .ok q w := by
  unfold Instr.sameNow at h
  split at h
  · split at h
    · rename_i hk
      cases h
      subst hk
      simp [Op.equalIn, run_underlying hkd]
    · cases h
  · cases h; simp [Op.equalIn, run_underlying hkd]
  · cases h; simp [Op.equalIn, run_underlying hkd]
  · cases h
theorem same_equal {kt : TypeId} {kd : TypeDesc} (hkd : P.underlying kt = some kd) {a b : Value} {q : Bool} (h : Instr.sameNow kd a b = some q) (w : World) : (Op.equal kt a b).run P w = .ok q w := same_equalIn hkd h w 9999
theorem now_asking {kt : TypeId} {kd : TypeDesc} (hkd : P.underlying kt = some kd) {key : Value} (w : World) : ∀ {es : List MapEntry} {i : Nat} {q : Option (Nat × Value)}, Instr.findNow kd key es i = some q → (Instr.findAsking kt key es i).run P w = .ok q w
  | [], i, q, h => by cases h; rfl
  | e :: es, i, q, h => by
    unfold Instr.findNow at h
    split at h
    · rename_i hs
      cases h
      have := same_equal hkd hs w
      simp [Instr.findAsking, this]
    · rename_i hs
      have := same_equal hkd hs w
      have := now_asking hkd w h
      simp [Instr.findAsking, *]
    · cases h
theorem Fnd.run {kt : TypeId} {kd : TypeDesc} (hkd : P.underlying kt = some kd) {key : Value} {es : List MapEntry} {q : Option (Nat × Value)} (h : Fnd P W kt key es 0 q) {w : World} (hw : W w) : (Instr.findKey kt key es).run P w = .ok q w := by
  have h1 := h w hw
  cases hn : Instr.findNow kd key es 0 with
  | none => simp [Instr.findKey, run_underlying hkd, hn, h1]
  | some r =>
    have h2 := now_asking hkd w hn
    rw [h1] at h2
    injection h2 with h2 _
    subst h2
    simp [Instr.findKey, run_underlying hkd, hn]
/-! what a map's value leads to -/
noncomputable def mpK (c : Nat) (a : AV) (f : Nat → R) : R :=
  AV.rec (motive_1 := fun _ => R) (motive_2 := fun _ => Unit) (fun _ => .bad c) (fun _ _ => .bad c) (fun _ _ _ _ => .bad c) (fun _ => .bad c) (fun _ _ => .bad c) (fun _ _ => .bad c) (fun _ _ _ => .bad c) (fun _ _ _ _ _ => .bad c) (fun id => f id) () (fun _ _ _ _ => ()) a
theorem mpK_inv {f : Nat → R} (h : mpK c a f = .ok r T' n') : ∃ id, a = .mp id ∧ f id = .ok r T' n' := by
  cases a with
  | mp id => exact ⟨id, rfl, h⟩
  | _ => exact bad_ok h
noncomputable def mapK (c : Nat) (m : MI) (f : List AV → List AV → List Nat → Nat → R) : R :=
  MI.rec (motive := fun _ => R) (fun _ _ => .bad c) (fun _ _ _ _ => .bad c) (fun ks vs bs ck => f ks vs bs ck) m
theorem mapK_inv {m : MI} {f : List AV → List AV → List Nat → Nat → R} (h : mapK c m f = .ok r T' n') : ∃ ks vs bs ck, m = .mp ks vs bs ck ∧ f ks vs bs ck = .ok r T' n' := by
  cases m with
  | mp ks vs bs ck => exact ⟨_, _, _, _, rfl, h⟩
  | _ => exact bad_ok h
theorem inst_mp {id : Nat} {u : Value} (h : inst ρ (.mp id) = some u) : ∃ p, rat ρ.blk id = some p ∧ u = .map (some p.1) := by
  unfold inst at h
  cases hr : rat ρ.blk id with
  | none => rw [hr] at h; cases h
  | some p => rw [hr] at h; cases h; exact ⟨p, rfl, rfl⟩
/-! a key among keys -/
noncomputable def mfindK (c : Nat) (test : AV → R → R → R) (found : Nat → AV → R) (nf : R) (ks : List AV) : List AV → List Nat → Nat → R :=
  List.rec (motive := fun _ => List AV → List Nat → Nat → R) (fun vs bs _ => List.rec (motive := fun _ => R) (List.rec (motive := fun _ => R) nf (fun _ _ _ => .bad c) bs) (fun _ _ _ => .bad c) vs)
    (fun k _ ih vs bs i => List.rec (motive := fun _ => R) (.bad c) (fun v vs' _ => List.rec (motive := fun _ => R) (.bad c) (fun _ bs' _ => test k (found i v) (ih vs' bs' (Nat.add i 1))) bs) vs) ks
theorem mfindK_inv {kt : TypeId} {key : Value} {test : AV → R → R → R} {found : Nat → AV → R} {nf : R}
    (ht : ∀ k X Z, test k X Z = .ok r T' n' → (X = .ok r T' n' ∧ ∀ u, inst ρ k = some u → u = key ∧ EqR P W kt key u true) ∨ (Z = .ok r T' n' ∧ ∀ u, inst ρ k = some u → EqR P W kt key u false)) :
    ∀ {ks vs : List AV} {bs : List Nat} {i : Nat} {us xs : List Value}, mfindK c test found nf ks vs bs i = .ok r T' n' → instL ρ ks = some us → instL ρ vs = some xs →
      (∃ j v u, found (i + j) v = .ok r T' n' ∧ vs[j]? = some v ∧ inst ρ v = some u ∧ us[j]? = some key ∧ ((mkEs us xs bs)[j]?).map (·.key) = some key ∧ Fnd P W kt key (mkEs us xs bs) i (some (i + j, u))) ∨
      (nf = .ok r T' n' ∧ Fnd P W kt key (mkEs us xs bs) i none ∧ us.length = xs.length ∧ us.length = bs.length) := by
  intro ks
  induction ks with
  | nil =>
    intro vs bs i us xs h hu hx
    cases hu
    cases vs with
    | cons v vs => exact bad_ok h
    | nil =>
      cases hx
      cases bs with
      | cons q bs => exact bad_ok h
      | nil => exact .inr ⟨h, Fnd.nil, rfl, rfl⟩
  | cons k ks ih =>
    intro vs bs i us xs h hu hx
    cases vs with
    | nil => exact bad_ok h
    | cons v vs =>
      cases bs with
      | nil => exact bad_ok h
      | cons q bs =>
        obtain ⟨u, us', rfl, g1, g2⟩ := instL_cons hu
        obtain ⟨z, xs', rfl, g3, g4⟩ := instL_cons hx
        rcases ht k (found i v) (mfindK c test found nf ks vs bs (i + 1)) h with ⟨h1, h2⟩ | ⟨h1, h2⟩
        · obtain ⟨rfl, h3⟩ := h2 u g1
          exact .inl ⟨0, v, z, h1, rfl, g3, rfl, rfl, Fnd.yes (e := ⟨u, z, q⟩) h3⟩
        · have h3 := h2 u g1
          rcases ih h1 g2 g4 with ⟨j, v', u', e1, e2, e3, e4, e6, e5⟩ | ⟨e1, e2, e3, e4⟩
          · refine .inl ⟨j + 1, v', u', by rw [show i + (j + 1) = i + 1 + j by omega]; exact e1, by simpa using e2, e3, by simpa using e4, by simpa [mkEs] using e6, ?_⟩
            rw [show i + (j + 1) = i + 1 + j by omega]
            exact Fnd.no (e := ⟨u, z, q⟩) h3 e5
          · exact .inr ⟨e1, Fnd.no (e := ⟨u, z, q⟩) h3 e2, by simp [e3], by simp [e4]⟩
/-- a key that is a text, or a number -/
noncomputable def tstS (c : Nat) (s : ByteArray) (k : AV) (X Z : R) : R := strK c k fun s' => Bool.rec (motive := fun _ => R) Z X (beqB s.data.toList s'.data.toList)
theorem tstS_inv {kt : TypeId} (hkd : P.underlying kt = some .string) {s : ByteArray} (k : AV) (X Z : R) (h : tstS c s k X Z = .ok r T' n') : (X = .ok r T' n' ∧ ∀ u, inst ρ k = some u → u = .string s ∧ EqR P W kt (.string s) u true) ∨ (Z = .ok r T' n' ∧ ∀ u, inst ρ k = some u → EqR P W kt (.string s) u false) := by
  obtain ⟨s', rfl, h1⟩ := strK_inv h
  have he := beqB_eq s.data.toList s'.data.toList
  cases hb : beqB s.data.toList s'.data.toList with
  | true =>
    rw [hb] at he h1
    have e1 : s.data.toList = s'.data.toList := by simpa using he.symm
    have e2 : s = s' := by
      have : s.data = s'.data := Array.toList_inj.1 e1
      cases s; cases s'; simp_all
    subst e2
    exact .inl ⟨h1, fun u hu => by cases hu; exact ⟨rfl, fun w _ => same_equal hkd (by simp [Instr.sameNow, bytes_eq]) w⟩⟩
  | false =>
    rw [hb] at he h1
    have e1 : ¬ s.data.toList = s'.data.toList := by simpa using he.symm
    have e2 : (s == s') = false := by rw [bytes_eq]; simpa using e1
    exact .inr ⟨h1, fun u hu => by cases hu; exact fun w _ => same_equal hkd (by simp [Instr.sameNow, e2]) w⟩
theorem run_check_str' {kt : TypeId} (h : P.underlying kt = some .string) (e : Bool) (s : ByteArray) (w : World) (dd : Nat) : (Instr.checkKey e (dd + 1) kt (.string s)).run P w = .ok () w := by
  simp [Instr.checkKey, run_underlying h]
theorem run_check_str {kt : TypeId} (h : P.underlying kt = some .string) (e : Bool) (s : ByteArray) (w : World) : (Instr.checkKey e 10000 kt (.string s)).run P w = .ok () w := run_check_str' h e s w 9999
/-! making -/
noncomputable def mkmK (T : HT) (nx : Nat) (k : AV → HT → Nat → R) : R := T.insK nx (.mp [] [] [] 0) fun T1 => k (.mp nx) T1 (Nat.add nx 1)
theorem LV.mkm {k : AV → HT → Nat → R} (hS : ST w0 base E ρ0 ρ T ro nx its) (h : mkmK T nx k = .ok r T' n') (ho : o.op = .makeMap t none)
    (hw : wantA ops af o.guard = some true) (hd : o.dst = some d) (hdn : Nat.blt d n = true)
    (hk : ∀ v T1 n1, k v T1 n1 = .ok r T' n' → After P ops n D Q w0 base E ρ0 ro its T1 n1 ((d, v) :: af) rest) : LV P ops n D (.plain Q) w0 base ρ its af (o :: rest) := fun l hf => by
  unfold mkmK at h
  rw [HT.insK_eq] at h
  refine LX.unguard (wantA_ok hf hw) ?_
  obtain ⟨hp, hs, hH⟩ := hS.hp
  refine LX.effx (o := { o with guard := none }) (τ := Nat) (v := fun b => .map (some b)) (W' := fun b => WA w0 base (.obj b (.map #[] 0) :: its)) (fun σ hσ w hW => ⟨w.heap.size, w.alloc (.map #[] 0), ?_, hW.alloc _⟩) rfl hd hdn fun b => ?_
  · simp [execOp, ho, Instr.makeMap, newObj, Sem.run]
  · have hE := Ext.add hS.fresh b 0
    have hi : instI (ρ.add nx b 0) nx (.mp [] [] [] 0) = some (.obj b (.map #[] 0)) := by
      dsimp only [instI]
      rw [rat_add]; rfl
    have hST := hS.new hs hH b 0 (m := .mp [] [] [] 0) rfl hi
    exact hk _ _ _ h _ _ hST (fun w hw => hw.drop (List.sublist_cons_self _ _)) _ (FRel.cons (hf.ext hE) d (by unfold inst; rw [rat_add]; rfl))
/-! asking -/
def zeroW (P : Program) (t : TypeId) : Option Value := (P.info? t).bind (·.zero)
noncomputable def outA (ok : Bool) (v : AV) (is : Bool) : AV := Bool.rec (motive := fun _ => AV) v (.tup [v, .lit (.bool is)]) ok
theorem outA_ok {ok is : Bool} {u : Value} (h : inst ρ v = some u) : inst ρ (outA ok v is) = some (if ok then .tuple #[u, .bool is] else u) := by
  cases ok with
  | false => exact h
  | true =>
    show inst ρ (.tup [v, .lit (.bool is)]) = _
    unfold inst
    rw [instL_mk h (instL_mk (ρ := ρ) (v := .lit (.bool is)) (u := .bool is) rfl rfl)]
    rfl
noncomputable def lkK (c : Nat) (T : HT) (ro : List HT) (test : AV → R → R → R) (a z : AV) (ok : Bool) (k : AV → R) : R :=
  mpK c a fun id => lookK T ro id (fun m => mapK c m fun ks vs bs _ => mfindK c test (fun _ v => k (outA ok v true)) (k (outA ok z false)) ks vs bs 0) (.bad c)
def lkOut (ok : Bool) (z : Value) : Option (Nat × Value) → Value
  | some (_, v) => if ok then .tuple #[v, .bool true] else v
  | none => if ok then .tuple #[z, .bool false] else z
theorem lookup_run {kt et : TypeId} {kd : TypeDesc} {key z : Value} {ok : Bool} {p : Nat} {es : List MapEntry} {ck : Nat} {q : Option (Nat × Value)} {w : World} (ht : P.underlying t = some (.map kt et)) (hkd : P.underlying kt = some kd)
    (hc : ∀ e, (Instr.checkKey e 10000 kt key).run P w = .ok () w) (hz : zeroW P et = some z) (hb : w.heap[p]? = some (.map es.toArray ck)) (hq : Fnd P W kt key es 0 q) (hW : W w) :
    (Instr.lookup t (.map (some p)) key ok).run P w = .ok (lkOut ok z q) w := by
  have h1 := hq.run hkd hW
  have h2 := zero_run (P := P) hz w
  have h3 := MapKept.run_getObj_map (P := P) hb
  rcases q with _ | ⟨i, v⟩
  · simp [Instr.lookup, run_underlying ht, h3, hc, h1, h2, lkOut]
  · simp [Instr.lookup, run_underlying ht, h3, hc, h1, lkOut]
theorem V.lk {kt et : TypeId} {kd : TypeDesc} {key z : Value} (hkey : inst ρ b = some key) {ok : Bool} {test : AV → R → R → R} {k : AV → R} (hS : ST w0 base E ρ0 ρ T ro nx its) (h : lkK c T ro test a (.lit z) ok k = .ok r T' n')
    (htest : ∀ k X Z, test k X Z = .ok r T' n' → (X = .ok r T' n' ∧ ∀ u, inst ρ k = some u → u = key ∧ EqR P (WA w0 base its) kt key u true) ∨ (Z = .ok r T' n' ∧ ∀ u, inst ρ k = some u → EqR P (WA w0 base its) kt key u false))
    (hx : evalA af x = some a) (hy : evalA af y = some b) (ht : P.underlying t = some (.map kt et)) (hkd : P.underlying kt = some kd) (hc : ∀ e w, (Instr.checkKey e 10000 kt key).run P w = .ok () w) (hz : zeroW P et = some z) :
    ∃ v, k v = .ok r T' n' ∧ VAL P (WA w0 base its) ρ af (.lookup t x y ok) v := by
  obtain ⟨id, rfl, h⟩ := mpK_inv h
  obtain ⟨m, h1, h2⟩ := lookK_inv h
  obtain ⟨ks, vs, bs, ck, rfl, h3⟩ := mapK_inv h2
  obtain ⟨p, it, _, e1, e2, _, _, _, e6⟩ := hS.look h1
  obtain rfl := e2
  obtain ⟨us, xs, g1, g2, g3⟩ := e6 _ _ _ _ rfl
  have key1 : ∀ (l : Fr), FRel ρ af l → ∀ (q : Option (Nat × Value)), Fnd P (WA w0 base its) kt key (mkEs us xs bs) 0 q → ∀ ty, Y P l (WA w0 base its) (.lookup t x y ok) ty (lkOut ok z q) := by
    intro l hf q hq ty σ hσ o' ho hty w hW
    obtain ⟨u, f1, f2⟩ := hf.eval hx
    obtain ⟨p', f3, rfl⟩ := inst_mp f2
    rw [e1] at f3; cases f3
    obtain ⟨u', f4, f5⟩ := hf.eval hy
    rw [hkey] at f5
    cases f5
    have := lookup_run (ok := ok) ht hkd (fun e => hc e w) hz (g3 w hW) hq hW
    simp [execOp, ho, hσ _ _ f1, hσ _ _ f4, this]
  rcases mfindK_inv htest h3 g1 g2 with ⟨j, v, u, f1, f2, f3, f4, _, f5⟩ | ⟨f1, f2, f3, f4⟩
  · exact ⟨_, f1, fun l hf ty => ⟨_, outA_ok f3, key1 l hf _ f5 ty⟩⟩
  · exact ⟨_, f1, fun l hf ty => ⟨_, outA_ok (ρ := ρ) (v := .lit z) rfl, key1 l hf _ f2 ty⟩⟩
noncomputable def lkSK (c : Nat) (T : HT) (ro : List HT) (a b z : AV) (ok : Bool) (k : AV → R) : R := strK c b fun s => lkK c T ro (tstS c s) a z ok k
theorem V.lkS {kt et : TypeId} {z : Value} {ok : Bool} {k : AV → R} (hS : ST w0 base E ρ0 ρ T ro nx its) (h : lkSK c T ro a b (.lit z) ok k = .ok r T' n')
    (hx : evalA af x = some a) (hy : evalA af y = some b) (ht : P.underlying t = some (.map kt et)) (hkd : P.underlying kt = some .string) (hz : zeroW P et = some z) : ∃ v, k v = .ok r T' n' ∧ VAL P (WA w0 base its) ρ af (.lookup t x y ok) v := by
  obtain ⟨s, rfl, h⟩ := strK_inv h
  exact V.lk rfl hS h (tstS_inv hkd) hx hy ht hkd (fun e w => run_check_str hkd e s w) hz
/-! setting -/
theorem WA.setObj {w : World} (h : WA w0 base its w) {i b : Nat} {o1 : Obj} (hi : its[i]? = some (.obj b o1)) (o2 : Obj) : WA w0 base (its.set i (.obj b o2)) { w with heap := w.heap.setIfInBounds b o2 } := by
  have hit := h.get hi
  refine h.others hi rfl rfl rfl (by simp) (fun k hk hne => ?_) ⟨hit.1, ?_⟩ (fun k hk => .inl hk)
  · exact Array.getElem?_setIfInBounds_ne fun e => hne (by rw [← e]; rfl)
  · have hlt := (Array.getElem?_eq_some_iff.1 hit.2).1
    simp [hlt]
theorem stays_same {key : Value} (h : Instr.sameBits 10000 key key = true) (w : World) : (Instr.keyThatStays key key).run P w = .ok key w := by
  simp [Instr.keyThatStays, h]
theorem mapUpdate_run {kt et : TypeId} {kd : TypeDesc} {key u : Value} {p : Nat} {us xs : List Value} {bs : List Nat} {ck : Nat} {q : Option (Nat × Value)} {w : World} (ht : P.underlying t = some (.map kt et)) (hkd : P.underlying kt = some kd)
    (hc : (Instr.checkKey false 10000 kt key).run P w = .ok () w) (hb : w.heap[p]? = some (.map (mkEs us xs bs).toArray ck)) (hq : Fnd P W kt key (mkEs us xs bs) 0 q) (hW : W w) (hbits : Instr.sameBits 10000 key key = true)
    (hj : ∀ j v, q = some (j, v) → us[j]? = some key ∧ ((mkEs us xs bs)[j]?).map (·.key) = some key) (hl : q = none → us.length = xs.length ∧ us.length = bs.length) :
    (Instr.mapUpdate t (.map (some p)) key u).run P w = .ok () { w with heap := w.heap.setIfInBounds p (match q with | some (j, _) => .map (mkEs us (xs.set j u) bs).toArray ck | none => .map (mkEs (us ++ [key]) (xs ++ [u]) (bs ++ [ck])).toArray (ck + 1)) } := by
  have h1 := hq.run hkd hW
  have h3 := MapKept.run_getObj_map (P := P) hb
  rcases q with _ | ⟨j, v⟩
  · obtain ⟨g1, g2⟩ := hl rfl
    have e := mkEs_push key u ck us xs bs g1 g2
    simp [Instr.mapUpdate, run_underlying ht, h3, hc, h1, MapKept.run_setObj_map _ hb, ← e]
  · obtain ⟨g1, g2⟩ := hj j v rfl
    have e := mkEs_set key u us xs bs j g1
    have e2 : ((((mkEs us xs bs).toArray)[j]?).map (·.key)).getD key = key := by
      rw [List.getElem?_toArray, g2]; rfl
    simp only [Instr.mapUpdate, run_underlying ht, h3, hc, h1, Sem.run_bind, Result.andThen_ok, e2, stays_same hbits, MapKept.run_setObj_map _ hb, ← e]
    simp
noncomputable def msK (c : Nat) (T : HT) (test : AV → R → R → R) (a b v : AV) (k : HT → R) : R :=
  mpK c a fun id => T.getK (fun m => mapK c m fun ks vs bs ck => mfindK c test (fun i _ => T.insK id (.mp ks (vs.set i v) bs ck) k) (T.insK id (.mp (ks ++ [b]) (vs ++ [v]) (bs ++ [ck]) (Nat.add ck 1)) k) ks vs bs 0) (.bad c) id
theorem instI_mkmp {id : Nat} {ks vs : List AV} {bs : List Nat} {ck : Nat} {p : Nat × Nat} {us xs : List Value} (hp : rat ρ.blk id = some p) (h1 : instL ρ ks = some us) (h2 : instL ρ vs = some xs) : instI ρ id (.mp ks vs bs ck) = some (.obj p.1 (.map (mkEs us xs bs).toArray ck)) := by
  dsimp only [instI]
  rw [hp, h1]
  show (Option.map _ (instL ρ vs)) = _
  rw [h2]; rfl
theorem LV.ms {kt et : TypeId} {kd : TypeDesc} {key : Value} (hkey : inst ρ b = some key) {z : Operand} {test : AV → R → R → R} {k : HT → R} (hS : ST w0 base E ρ0 ρ T ro nx its) (h : msK c T test a b v k = .ok r T' n')
    (htest : ∀ k X Z, test k X Z = .ok r T' n' → (X = .ok r T' n' ∧ ∀ u, inst ρ k = some u → u = key ∧ EqR P (WA w0 base its) kt key u true) ∨ (Z = .ok r T' n' ∧ ∀ u, inst ρ k = some u → EqR P (WA w0 base its) kt key u false))
    (hx : evalA af x = some a) (hy : evalA af y = some b) (hz : evalA af z = some v) (ho : o.op = .mapUpdate t x y z ∨ o.op = .insert t x y z) (ht : P.underlying t = some (.map kt et)) (hkd : P.underlying kt = some kd)
    (hc : ∀ e w, (Instr.checkKey e 10000 kt key).run P w = .ok () w) (hbits : Instr.sameBits 10000 key key = true)
    (hw : wantA ops af o.guard = some true) (hd : o.dst = none)
    (hk : ∀ T1 its1, k T1 = .ok r T' n' → ST w0 base E ρ0 ρ T1 ro nx its1 → LV P ops n D (.plain Q) w0 base ρ its1 af rest) : LV P ops n D (.plain Q) w0 base ρ its af (o :: rest) := fun l hf => by
  obtain ⟨id, rfl, h⟩ := mpK_inv h
  obtain ⟨u0, f1, f2⟩ := hf.eval hx
  obtain ⟨p, hp1, rfl⟩ := inst_mp f2
  obtain ⟨uk, f3, f4⟩ := hf.eval hy
  rw [hkey] at f4
  cases f4
  obtain ⟨u, f5, f6⟩ := hf.eval hz
  obtain ⟨hp, hs, hH⟩ := hS.hp
  rcases HT.getK_inv h with ⟨m, h1, h2⟩ | ⟨_, h2⟩
  · obtain ⟨ks, vs, bs, ck, rfl, h3⟩ := mapK_inv h2
    obtain ⟨i, it, hfd, hm⟩ := hs id _ h1
    obtain rfl := hm
    obtain ⟨xi, _, hxs, hi⟩ := findA_ok hH hfd
    rw [Nat.sub_zero] at hxs
    obtain ⟨p2, us, xs, g1, g2, g3, rfl⟩ := instI_mp hi
    rw [hp1] at g1; cases g1
    have fin : ∀ (q : Option (Nat × Value)) (m' : MI) (o2 : Obj), Fnd P (WA w0 base its) kt key (mkEs us xs bs) 0 q → (∀ j v, q = some (j, v) → us[j]? = some key ∧ ((mkEs us xs bs)[j]?).map (·.key) = some key) → (q = none → us.length = xs.length ∧ us.length = bs.length) →
        o2 = (match q with | some (j, _) => .map (mkEs us (xs.set j u) bs).toArray ck | none => .map (mkEs (us ++ [key]) (xs ++ [u]) (bs ++ [ck])).toArray (ck + 1)) → (∃ it', MRel m' it' ∧ instI ρ id it' = some (.obj p.1 o2)) → k (T.ins id m') = .ok r T' n' → LX P ops n D (.plain Q) l (WA w0 base its) (o :: rest) := by
      intro q m' o2 hq hj hl ho2 hm' hk'
      obtain ⟨it', hm1, hm2⟩ := hm'
      have e := setH_ok hH hfd hm2
      rw [Nat.sub_zero] at e
      have hlv := hk _ _ hk' ⟨⟨_, hs.set hfd hm1, e⟩, hS.fresh, hS.ro, hS.env, hS.ext, hS.opq⟩ l hf
      intro a w ha hW
      unfold wpList
      rw [if_pos (wantA_ok hf hw a ha)]
      left
      unfold Oper.wp
      have hrun := mapUpdate_run (u := u) ht hkd (hc false w) (hW.get hxs).2 hq hW hbits hj hl
      rw [← ho2] at hrun
      have : (execOp a.eval o).run P w = .ok .skip { w with heap := w.heap.setIfInBounds p.1 o2 } := by
        rcases ho with ho | ho
        · simp only [execOp, ho, ha.eval _ _ f1, ha.eval _ _ f3, ha.eval _ _ f5, Sem.run_bind, hrun]; rfl
        · simp only [execOp, ho, ha.eval _ _ f1, ha.eval _ _ f3, ha.eval _ _ f5, Sem.run_bind, hrun]; rfl
      rw [this]
      simp only [Oper.upon, hd]
      exact hlv _ _ ha (WA.setObj hW hxs o2)
    rcases mfindK_inv htest h3 g2 g3 with ⟨j, v', u', e1, e2, e3, e4, e6, e5⟩ | ⟨e1, e2, e3, e4⟩
    · simp only [Nat.zero_add] at e1 e5
      rw [HT.insK_eq] at e1
      refine fin _ (.mp ks (vs.set j v) bs ck) _ e5 (fun j' v' hq => ?_) (fun hq => by cases hq) rfl ⟨.mp ks (vs.set j v) bs ck, rfl, instI_mkmp hp1 g2 (instL_set j g3 f6)⟩ e1
      cases hq
      exact ⟨e4, e6⟩
    · rw [HT.insK_eq] at e1
      exact fin _ (.mp (ks ++ [b]) (vs ++ [v]) (bs ++ [ck]) (ck + 1)) _ e2 (fun j' v' hq => by cases hq) (fun _ => ⟨e3, e4⟩) rfl ⟨.mp (ks ++ [b]) (vs ++ [v]) (bs ++ [ck]) (ck + 1), rfl, instI_mkmp hp1 (instL_app g2 (instL_mk hkey (us := []) rfl)) (instL_app g3 (instL_mk f6 (us := []) rfl))⟩ e1
  · cases h2
noncomputable def msSK (c : Nat) (T : HT) (a b v : AV) (k : HT → R) : R := strK c b fun s => msK c T (tstS c s) a (.lit (.string s)) v k
theorem LV.msS {kt et : TypeId} {z : Operand} {k : HT → R} (hS : ST w0 base E ρ0 ρ T ro nx its) (h : msSK c T a b v k = .ok r T' n')
    (hx : evalA af x = some a) (hy : evalA af y = some b) (hz : evalA af z = some v) (ho : o.op = .mapUpdate t x y z ∨ o.op = .insert t x y z) (ht : P.underlying t = some (.map kt et)) (hkd : P.underlying kt = some .string)
    (hw : wantA ops af o.guard = some true) (hd : o.dst = none)
    (hk : ∀ T1 its1, k T1 = .ok r T' n' → ST w0 base E ρ0 ρ T1 ro nx its1 → LV P ops n D (.plain Q) w0 base ρ its1 af rest) : LV P ops n D (.plain Q) w0 base ρ its af (o :: rest) := by
  obtain ⟨s, rfl, h⟩ := strK_inv h
  exact LV.ms rfl hS h (tstS_inv hkd) hx hy hz ho ht hkd (fun e w => run_check_str hkd e s w) (by simp [Instr.sameBits, bytes_eq]) hw hd hk
/-! keys that are pointers behind an interface -/
noncomputable def inL (l : List Nat) (t : Nat) : Bool := List.rec (motive := fun _ => Bool) false (fun a _ ih => Bool.rec (motive := fun _ => Bool) ih true (Nat.beq a t)) l
theorem inL_ok : ∀ {l : List Nat} {t : Nat}, inL l t = true → t ∈ l
  | [], t, h => by cases h
  | a :: l, t, h => by
    have h' : Bool.rec (motive := fun _ => Bool) (inL l t) true (Nat.beq a t) = true := h
    cases hb : Nat.beq a t with
    | true => rw [beqT hb]; simp
    | false => rw [hb] at h'; exact List.mem_cons_of_mem _ (inL_ok h')
/-! pointers held against each other -/
/-! a method called by an interface -/
/-- a method's call: the function that is the dynamic type's -/
def GMk (P : Program) (E : List (Nat × AV)) (name : String) (args : List AV) (ro : List HT) (T : HT) (nx : Nat) (X : R) : Prop :=
  ∀ v T' n', X = .ok v T' n' → ∃ t x f as, args = .iface t x :: as ∧ (∀ (u : Value) (us : List Value) (w : World), us.length = as.length → (invoke (.fn (.method name) #[]) (Value.iface t u :: us).toArray).run P w = .ok (.enter f (u :: us).toArray) w) ∧ GOk P E f (x :: as) ro T nx X
theorem GMk.bad {name : String} {args : List AV} : GMk P E name args ro T nx (.bad c) := fun v T' n' h => by cases h
noncomputable def ifcK (c : Nat) (a : AV) (f : TypeId → AV → R) : R :=
  AV.rec (motive_1 := fun _ => R) (motive_2 := fun _ => Unit) (fun _ => .bad c) (fun _ _ => .bad c) (fun _ _ _ _ => .bad c) (fun _ => .bad c) (fun _ _ => .bad c) (fun _ _ => .bad c) (fun t v _ => f t v) (fun _ _ _ _ _ => .bad c) (fun _ => .bad c) () (fun _ _ _ _ => ()) a
theorem GMk.ifc {name : String} {as : List AV} {f : TypeId → AV → R} (h : ∀ t x, a = .iface t x → GMk P E name (.iface t x :: as) ro T nx (f t x)) : GMk P E name (a :: as) ro T nx (ifcK c a f) := by
  cases a with
  | iface t x => exact h t x rfl
  | _ => exact fun v T' n' h => by cases h
theorem GMk.one {name : String} {t t' : TypeId} {g : FuncId} {a : AV} {as : List AV} {X Z : R} {m : Nat} (hi : ∀ (u : Value) (us : List Value) (w : World), us.length = m → (invoke (.fn (.method name) #[]) (Value.iface t' u :: us).toArray).run P w = .ok (.enter g (u :: us).toArray) w)
    (hG : GOk P E g (a :: as) ro T nx X) (hZ : GMk P E name (.iface t a :: as) ro T nx Z) (hm : as.length = m := by rfl) : GMk P E name (.iface t a :: as) ro T nx (Bool.rec (motive := fun _ => R) Z X (Nat.beq t t')) := by
  cases hb : Nat.beq t t' with
  | true =>
    obtain rfl := beqT hb
    exact fun v T' n' h => ⟨t, a, g, as, rfl, fun u us w hl => hi u us w (hl.trans hm), hG⟩
  | false => exact hZ
theorem run_invoke {name : String} {recv : Operand} {us : List Value} {cl : Call} {ur : Value} (ho : o.op = .call cl) (hc : cl.callee = .invoke recv name) {σ : Operand → Value} (hσ : ∀ x u, evl l x = some u → σ x = u)
    (hr : evl l recv = some ur) (ha : evals l cl.args.toList = some us) (w : World) : (execOp σ o).run P w = (invoke (.fn (.method name) #[]) (ur :: us).toArray).run P w := by
  have h1 := hσ _ _ hr
  have h2 : cl.args.map σ = us.toArray := by rw [← evals_map hσ _ _ ha, ← List.map_toArray]
  have h3 : (#[ur] : Array Value) ++ us.toArray = (ur :: us).toArray := by simp
  simp only [execOp, ho, resolve, hc, h1, h2, Sem.run_bind, Sem.run_pure, Result.andThen_ok, h3, pure_bind]
theorem LV.inv {k : AV → HT → Nat → R} {name : String} {recv : Operand} {cl : Call} {as : List AV} {X : R} (hS : ST w0 base E ρ0 ρ T ro nx its) (h : callK X k = .ok r T' n') (hG : GMk P E name (a :: as) ro T nx X) (hP : PK n D Q w0 base E ρ0 ro r T' n')
    (ho : o.op = .call cl) (hc : cl.callee = .invoke recv name) (hx : evalA af recv = some a) (has : evalsA af cl.args.toList = some as)
    (hw : wantA ops af o.guard = some true) (hd : o.dst = some d) (hdn : Nat.blt d n = true)
    (hk : ∀ v T1 n1, k v T1 n1 = .ok r T' n' → ∀ ρ1 its1, ST w0 base E ρ0 ρ1 T1 ro n1 its1 → LV P ops n D (.plain Q) w0 base ρ1 its1 ((d, v) :: af) rest) : LV P ops n D (.plain Q) w0 base ρ its af (o :: rest) := fun l hf => by
  cases X with
  | bad c => cases h
  | ok r1 T1 n1 =>
    obtain ⟨t, x, f, as', he, hi, hg⟩ := hG _ _ _ rfl
    injection he with he1 he2
    subst he1 he2
    obtain ⟨hen, hcc⟩ := hg _ _ _ rfl
    obtain ⟨ur, f1, f2⟩ := hf.eval hx
    obtain ⟨z, f3, rfl⟩ := inst_if f2
    obtain ⟨us, f4, f5⟩ := evalsA_ok hf has
    refine LX.callE (k := f) (vs := z :: us) (wantA_ok hf hw) (fun σ hσ w => (run_invoke ho hc hσ f1 f4 w).trans (hi z us w (instL_len f5))) hd hdn (fun w hw => hcc w0 base ρ _ its hS.root (instL_mk f3 f5) w hw) fun e w' he => ?_
    obtain ⟨ρ1, its1, e1, e2, e3⟩ := he
    cases r1 with
    | val v =>
      obtain ⟨u, g1, rfl⟩ := e3
      exact .inl ⟨u, rfl, fun a ha => hk v T1 n1 h ρ1 its1 (hS.up e1) _ (FRel.cons (hf.ext e1.ext) d g1) a w' ha e2⟩
    | pan v =>
      obtain ⟨u, g1, rfl⟩ := e3
      cases h
      exact .inr ⟨_, rfl, fun a ha => hP v rfl ρ1 its1 u (hS.up e1) g1 l a w' ha e2⟩
/-! assertions -/
noncomputable def as1K (c : Nat) (a : AV) (kk : TypeId) (k : AV → R) : R := ifcK c a fun t v => Bool.rec (motive := fun _ => R) (.bad c) (k v) (Nat.beq t kk)
theorem ifcK_inv {f : TypeId → AV → R} (h : ifcK c a f = .ok r T' n') : ∃ t v, a = .iface t v ∧ f t v = .ok r T' n' := by
  cases a with
  | iface t x => exact ⟨t, x, rfl, h⟩
  | _ => exact bad_ok h
/-- whether a type has an interface's methods -/
def hasI (P : Program) (kk t : TypeId) : Option Bool :=
  match P.underlying kk, P.info? t with
  | some (.interface want), some i => some (want.toList.filter (fun x => !i.methods.any fun m => m.name == x.1 && m.sig == x.2)).isEmpty
  | _, _ => none
theorem least_none {l : List String} : Instr.least l = none ↔ l = [] := by cases l <;> simp [Instr.least]
theorem miss_iff (want : Array (String × TypeId)) (got : Array Method) : (Instr.missingMethod want got).isNone = (want.toList.filter (fun x => !got.any fun m => m.name == x.1 && m.sig == x.2)).isEmpty := by
  have key : ∀ (f : String → Bool) (g : String → String) (ms : List (String × TypeId)), ((Instr.least ((ms.map (·.1)).partition f).2) <|> Instr.least (((ms.map (·.1)).partition f).1.map g)).isNone = ms.isEmpty := by
    intro f g ms
    rw [List.partition_eq_filter_filter]
    cases h1 : Instr.least ((ms.map (·.1)).filter (not ∘ f)) with
    | some s =>
      cases ms with
      | nil => simp [Instr.least] at h1
      | cons a t => rfl
    | none =>
      rw [least_none] at h1
      cases ms with
      | nil => rfl
      | cons a t =>
        show (Instr.least _).isNone = false
        cases h2 : Instr.least ((((a :: t).map (·.1)).filter f).map g) with
        | some s => rfl
        | none =>
          rw [least_none, List.map_eq_nil_iff] at h2
          rw [List.map_cons] at h1 h2
          cases hc : f a.1 with
          | true => rw [List.filter_cons_of_pos hc] at h2; cases h2
          | false => rw [List.filter_cons_of_pos (by simp [hc])] at h1; cases h1
  exact key _ _ _
noncomputable def nilIK (c : Nat) (v : Value) (X : R) : R := match v with | .nilIface => X | _ => .bad c
theorem nilIK_inv {v : Value} {X : R} (h : nilIK c v X = .ok r T' n') : v = .nilIface ∧ X = .ok r T' n' := by
  unfold nilIK at h
  split at h
  · exact ⟨rfl, h⟩
  · cases h
noncomputable def asIK (c : Nat) (a : AV) (yes no : List Nat) (k : AV → R) : R :=
  AV.rec (motive_1 := fun _ => R) (motive_2 := fun _ => Unit) (fun v => nilIK c v (k (.tup [.lit .nilIface, .lit (.bool false)]))) (fun _ _ => .bad c) (fun _ _ _ _ => .bad c) (fun _ => .bad c) (fun _ _ => .bad c) (fun _ _ => .bad c) (fun t v _ => Bool.rec (motive := fun _ => R) (Bool.rec (motive := fun _ => R) (.bad c) (k (.tup [.lit .nilIface, .lit (.bool false)])) (inL no t)) (k (.tup [.iface t v, .lit (.bool true)])) (inL yes t)) (fun _ _ _ _ _ => .bad c) (fun _ => .bad c) () (fun _ _ _ _ => ()) a
theorem V.as1 {kk s : TypeId} {k : AV → R} (h : as1K c a kk k = .ok r T' n') (hx : evalA af x = some a) (hn : noIface P kk = true) : ∃ v, k v = .ok r T' n' ∧ VAL P W ρ af (.typeAssert x s kk false) v := by
  obtain ⟨t, v, rfl, h1⟩ := ifcK_inv h
  obtain ⟨h2, h3⟩ := recb_ok h1
  obtain rfl := beqT h2
  refine ⟨v, h3, fun l hf ty => ?_⟩
  obtain ⟨u, f1, f2⟩ := hf.eval hx
  obtain ⟨z, f3, rfl⟩ := inst_if f2
  refine ⟨z, f3, fun σ hσ o' ho hty w hW => ?_⟩
  unfold noIface at hn
  cases hu : P.underlying t with
  | none => rw [hu] at hn; cases hn
  | some dd =>
    rw [hu] at hn
    cases dd <;> first | (cases hn; done) | simp [execOp, ho, hσ _ _ f1, Instr.typeAssert, run_underlying hu]
theorem hasI_ok {kk t : TypeId} {bb : Bool} (h : hasI P kk t = some bb) : ∃ want i, P.underlying kk = some (.interface want) ∧ P.info? t = some i ∧ (Instr.missingMethod want i.methods).isNone = bb := by
  unfold hasI at h
  split at h
  · rename_i want i h1 h2
    injection h with h
    exact ⟨want, i, h1, h2, (miss_iff want i.methods).trans h⟩
  · cases h
theorem V.asI {kk s : TypeId} {yes no : List Nat} {k : AV → R} (h : asIK c a yes no k = .ok r T' n') (hx : evalA af x = some a) (hi : isIface P kk = true) (hz : zeroW P kk = some .nilIface) (hy : yes.all (fun t => hasI P kk t == some true) = true) (hno : no.all (fun t => hasI P kk t == some false) = true) :
    ∃ v, k v = .ok r T' n' ∧ VAL P W ρ af (.typeAssert x s kk true) v := by
  have hz' := zero_run (P := P) hz
  cases a with
  | lit v =>
    obtain ⟨rfl, h1⟩ := nilIK_inv h
    refine ⟨_, h1, fun l hf ty => ?_⟩
    obtain ⟨u, f1, f2⟩ := hf.eval hx
    cases f2
    refine ⟨.tuple #[.nilIface, .bool false], rfl, fun σ hσ o' ho hty w hW => ?_⟩
    unfold isIface at hi
    cases hu : P.underlying kk with
    | none => rw [hu] at hi; cases hi
    | some dd =>
      rw [hu] at hi
      cases dd <;> first | (cases hi; done) | simp [execOp, ho, hσ _ _ f1, Instr.typeAssert, run_underlying hu, hz' w]
  | iface t v =>
    have h1 : Bool.rec (motive := fun _ => R) (Bool.rec (motive := fun _ => R) (.bad c) (k (.tup [.lit .nilIface, .lit (.bool false)])) (inL no t)) (k (.tup [.iface t v, .lit (.bool true)])) (inL yes t) = .ok r T' n' := h
    cases hb : inL yes t with
    | true =>
      rw [hb] at h1
      have := List.all_eq_true.1 hy t (inL_ok hb)
      obtain ⟨want, i, g1, g2, g3⟩ := hasI_ok (eq_of_beq this)
      have g4 := Option.isNone_iff_eq_none.1 g3
      refine ⟨_, h1, fun l hf ty => ?_⟩
      obtain ⟨u, f1, f2⟩ := hf.eval hx
      have f2' := f2
      obtain ⟨z, f3, rfl⟩ := inst_if f2
      refine ⟨.tuple #[.iface t z, .bool true], ?_, fun σ hσ o' ho hty w hW => ?_⟩
      · unfold inst
        rw [instL_mk f2' (instL_mk (ρ := ρ) (v := .lit (.bool true)) (u := .bool true) rfl rfl)]
        rfl
      · simp [execOp, ho, hσ _ _ f1, Instr.typeAssert, run_underlying g1, typeInfo, g2, g4]
    | false =>
      rw [hb] at h1
      obtain ⟨h2, h3⟩ := recb_ok h1
      have := List.all_eq_true.1 hno t (inL_ok h2)
      obtain ⟨want, i, g1, g2, g3⟩ := hasI_ok (eq_of_beq this)
      obtain ⟨mm, g4⟩ := Option.isSome_iff_exists.1 (by rw [← Option.not_isNone, g3]; rfl : (Instr.missingMethod want i.methods).isSome = true)
      refine ⟨_, h3, fun l hf ty => ?_⟩
      obtain ⟨u, f1, f2⟩ := hf.eval hx
      obtain ⟨z, f3, rfl⟩ := inst_if f2
      refine ⟨.tuple #[.nilIface, .bool false], rfl, fun σ hσ o' ho hty w hW => ?_⟩
      simp [execOp, ho, hσ _ _ f1, Instr.typeAssert, run_underlying g1, typeInfo, g2, g4, hz' w]
  | _ => exact bad_ok h
noncomputable def asI1K (c : Nat) (a : AV) (yes : List Nat) (k : AV → R) : R := ifcK c a fun t v => Bool.rec (motive := fun _ => R) (.bad c) (k (.iface t v)) (inL yes t)
theorem V.asI1 {kk s : TypeId} {yes : List Nat} {k : AV → R} (h : asI1K c a yes k = .ok r T' n') (hx : evalA af x = some a) (hy : yes.all (fun t => hasI P kk t == some true) = true) : ∃ v, k v = .ok r T' n' ∧ VAL P W ρ af (.typeAssert x s kk false) v := by
  obtain ⟨t, v, rfl, h1⟩ := ifcK_inv h
  obtain ⟨h2, h3⟩ := recb_ok h1
  have := List.all_eq_true.1 hy t (inL_ok h2)
  obtain ⟨want, i, g1, g2, g3⟩ := hasI_ok (eq_of_beq this)
  have g4 := Option.isNone_iff_eq_none.1 g3
  refine ⟨_, h3, fun l hf ty => ?_⟩
  obtain ⟨u, f1, f2⟩ := hf.eval hx
  have f2' := f2
  obtain ⟨z, f3, rfl⟩ := inst_if f2
  refine ⟨_, f2', fun σ hσ o' ho hty w hW => ?_⟩
  simp [execOp, ho, hσ _ _ f1, Instr.typeAssert, run_underlying g1, typeInfo, g2, g4]
/-! a field of several cells of a value -/
def fldA (P : Program) (s f : Nat) : Option (Nat × Nat) :=
  match P.underlying s with
  | some (.struct fs) => match fs[f]? with
    | some fd => (aggT P fd.type).map fun n => (fd.offset, n)
    | none => none
  | _ => none
noncomputable def fdAK (c : Nat) (a : AV) (d n : Nat) (k : AV → R) : R :=
  match a with
  | .agg cs => k (.agg ((cs.drop d).take n))
  | _ => .bad c
theorem instL_drop : ∀ (d : Nat) {l : List AV} {us : List Value}, instL ρ l = some us → instL ρ (l.drop d) = some (us.drop d)
  | 0, _, _, h => by simpa using h
  | d + 1, [], us, h => by cases h; rfl
  | d + 1, v :: l, us, h => by
    obtain ⟨u, us', rfl, g1, g2⟩ := instL_cons h
    simpa using instL_drop d g2
theorem instL_take : ∀ (d : Nat) {l : List AV} {us : List Value}, instL ρ l = some us → instL ρ (l.take d) = some (us.take d)
  | 0, _, _, h => by simp [instL]
  | d + 1, [], us, h => by cases h; rfl
  | d + 1, v :: l, us, h => by
    obtain ⟨u, us', rfl, g1, g2⟩ := instL_cons h
    have := instL_take d g2
    rw [List.take_succ_cons, List.take_succ_cons]
    exact instL_mk g1 this
theorem V.fdA {s f d m : Nat} {k : AV → R} (h : fdAK c a d m k = .ok r T' n') (hx : evalA af x = some a) (ht : fldA P s f = some (d, m)) : ∃ v, k v = .ok r T' n' ∧ VAL P W ρ af (.field s x f) v := by
  unfold fdAK at h
  split at h
  · rename_i cs
    refine ⟨_, h, fun l hf ty => ?_⟩
    obtain ⟨u, g1, g2⟩ := hf.eval hx
    obtain ⟨us, g3, rfl⟩ := inst_agg g2
    refine ⟨.agg ((us.drop d).take m).toArray, ?_, fun σ hσ o' ho' ht' w hw => ?_⟩
    · unfold inst
      rw [instL_take m (instL_drop d g3)]; rfl
    · unfold fldA at ht
      split at ht
      · rename_i fs hu
        split at ht
        · rename_i fd hfd
          cases hg : aggT P fd.type with
          | none => rw [hg] at ht; cases ht
          | some q =>
            rw [hg] at ht
            cases ht
            have e1 := run_underlying hu w
            obtain ⟨dd, u1, u2⟩ := (aggT_ok hg).un
            have e2 : (isAgg fd.type).run P w = .ok true w := by
              have := run_underlying u1 w
              cases dd <;> first | (cases u2; done) | simp [isAgg, this]
            have e3 : (sizeOf fd.type).run P w = .ok m w := by
              have := (aggT_ok hg).info
              cases hi : P.info? fd.type with
              | none => rw [hi] at this; cases this
              | some inf => rw [hi] at this; cases this; simp [sizeOf, typeInfo, hi]
            have e4 : us.toArray.extract fd.offset (fd.offset + m) = ((us.drop fd.offset).take m).toArray := by
              rw [List.extract_toArray, List.extract_eq_take_drop]; simp
            simp [execOp, ho', hσ _ _ g1, Instr.field, e1, hfd, asAgg, part, e2, e3, e4]
        · cases ht
      · cases ht
  · cases h
/-! nothing, put behind a slice -/
def emptyK (b : AV) (yes no : R) : R :=
  match b with
  | .lit (.slice none 0 0) => yes
  | .sl _ _ 0 _ => yes
  | _ => no
theorem emptyK_inv {yes no : R} (h : emptyK b yes no = .ok r T' n') : ((b = .lit (.slice none 0 0) ∨ ∃ id off sk, b = .sl id off 0 sk) ∧ yes = .ok r T' n') ∨ no = .ok r T' n' := by
  unfold emptyK at h
  split at h
  · exact .inl ⟨.inl rfl, h⟩
  · exact .inl ⟨.inr ⟨_, _, _, rfl⟩, h⟩
  · exact .inr h
noncomputable def app0K (c : Nat) (T : HT) (ro : List HT) (a : AV) (k : AV → R) : R :=
  match a with
  | .lit (.slice none 0 0) => k a
  | .sl id _ q sk => lookK T ro id (fun m => rowK c m fun q' _ _ _ => bif Nat.ble (Nat.add q sk) q' then k a else .bad c) (.bad c)
  | _ => .bad c
theorem run_append0 {e : TypeId} {ats : Array TypeId} {g : Option Addr} {m cp : Nat} {ux : Value} (he : P.underlying t = some (.slice e)) (hs : ∃ i, P.info? e = some i) (hat : ats = #[t, t]) (hx : ux = .slice none 0 0 ∨ ∃ ad cp', ux = .slice (some ad) 0 cp') (hm : m ≤ cp) (ty : TypeId) (w : World) :
    (Builtin.append_ ats ty #[.slice g m cp, ux]).run P w = .ok (.slice g m cp) w := by
  subst hat
  obtain ⟨i, hi⟩ := hs
  have e1 := run_underlying he w
  cases g <;> rcases hx with rfl | ⟨ad, cp', rfl⟩ <;> simp [Builtin.append_, e1, sizeOf, typeInfo, hi, Builtin.lenOf, hm, Builtin.firstCells, loadCells, loadCellsFrom, storeCells]
theorem V.app0 {k : AV → R} {e size by' : Nat} {z : Value} {ats : Array TypeId} (hS : ST w0 base E ρ0 ρ T ro nx its) (h : app0K c T ro a k = .ok r T' n') (hb : b = .lit (.slice none 0 0) ∨ ∃ id off sk, b = .sl id off 0 sk) (hx : evalA af x = some a) (hy : evalA af y = some b)
    (hat : ats = #[t, t]) (he : elemT P t = some (e, size, by', z)) : ∃ v, k v = .ok r T' n' ∧ VAL P (WA w0 base its) ρ af (.call { callee := .builtin .append, args := #[x, y], argTypes := ats }) v := by
  obtain ⟨hEl, _, _⟩ := elemT_ok he
  obtain ⟨inf, _, hinf, _⟩ := hEl.ex
  have hbv : ∀ {l : Fr}, FRel ρ af l → ∃ ux, evl l y = some ux ∧ (ux = .slice none 0 0 ∨ ∃ ad cp', ux = .slice (some ad) 0 cp') := fun hf => by
    obtain ⟨ux, g1, g2⟩ := hf.eval hy
    refine ⟨ux, g1, ?_⟩
    rcases hb with rfl | ⟨id, off, sk, rfl⟩
    · exact .inl (inst_lit g2)
    · obtain ⟨p, _, rfl⟩ := inst_sl g2
      exact .inr ⟨_, _, rfl⟩
  unfold app0K at h
  split at h
  · refine ⟨_, h, fun l hf ty => ⟨_, rfl, fun σ hσ o' ho ht w hw => ?_⟩⟩
    obtain ⟨ux, g1, g2⟩ := hbv hf
    obtain ⟨u, f1, f2⟩ := hf.eval hx
    obtain rfl := inst_lit f2
    have := run_append0 (P := P) hEl.ht ⟨inf, hinf⟩ hat (g := none) (m := 0) (cp := 0) g2 (Nat.le_refl _) o'.type w
    simp [execOp, ho, resolve, invoke, builtin, hσ _ _ f1, hσ _ _ g1, this]
  · rename_i id off q sk
    obtain ⟨m, h5, h6⟩ := lookK_inv h
    obtain ⟨q', e', s', vt, rfl, h7⟩ := rowK_inv h6
    obtain ⟨hb2, h8⟩ := bif_ok h7
    have hq : q + sk ≤ q' := by simpa using hb2
    obtain ⟨p, e1, e2⟩ := hS.room h5
    refine ⟨_, h8, fun l hf ty => ⟨.slice (some ⟨p.1, off, none⟩) q (p.2 - sk), by unfold inst; rw [e1]; rfl, fun σ hσ o' ho ht w hw => ?_⟩⟩
    have e3 := e2 w hw
    obtain ⟨ux, g1, g2⟩ := hbv hf
    obtain ⟨u, f1, f2⟩ := hf.eval hx
    obtain ⟨p', g3, rfl⟩ := inst_sl f2
    rw [e1] at g3; cases g3
    have := run_append0 (P := P) hEl.ht ⟨inf, hinf⟩ hat (g := some ⟨p.1, off, none⟩) (m := q) (cp := p.2 - sk) g2 (by omega) o'.type w
    simp [execOp, ho, resolve, invoke, builtin, hσ _ _ f1, hσ _ _ g1, this]
  · cases h
noncomputable def appEK (c : Nat) (T : HT) (ro : List HT) (nx : Nat) (e : TypeId) (size by' : Nat) (a b : AV) (k : AV → HT → Nat → R) : R := emptyK b (app0K c T ro a fun v => k v T nx) (appK c T ro nx e size by' a b k)
theorem LV.appE {k : AV → HT → Nat → R} {e size by' : Nat} {z : Value} {ats : Array TypeId} (hS : ST w0 base E ρ0 ρ T ro nx its) (h : appEK c T ro nx e size by' a b k = .ok r T' n') (hx : evalA af x = some a) (hy : evalA af y = some b)
    (ho : o.op = .call { callee := .builtin .append, args := #[x, y], argTypes := ats }) (hat : ats = #[t, t]) (he : elemT P t = some (e, size, by', z)) (hw : wantA ops af o.guard = some true) (hd : o.dst = some d) (hdn : Nat.blt d n = true)
    (hk : ∀ v T1 n1, k v T1 n1 = .ok r T' n' → ∀ ρ1 its1, ST w0 base E ρ0 ρ1 T1 ro n1 its1 → LV P ops n D (.plain Q) w0 base ρ1 its1 ((d, v) :: af) rest) : LV P ops n D (.plain Q) w0 base ρ its af (o :: rest) := by
  rcases emptyK_inv h with ⟨hb, h1⟩ | h1
  · obtain ⟨v, h2, h3⟩ := V.app0 hS h1 hb hx hy hat he
    exact LV.step (by rw [ho]; exact h3) hw hd hdn (hk v T nx h2 ρ its hS)
  · exact LV.app hS h1 hx hy ho hat he hw hd hdn hk
/-! a value of no cells is written -/
noncomputable def st0K (c : Nat) (a v : AV) (X : R) : R := ptrK c a fun _ _ => match v with
  | .agg [] => X
  | .lit (.agg ⟨[]⟩) => X
  | _ => .bad c
theorem LV.st0 {X : R} (h : st0K c a v X = .ok r T' n') (hx : evalA af x = some a) (hy : evalA af y = some v) (ho : o.op = .store t x y) (hz : aggT P t = some 0)
    (hw : wantA ops af o.guard = some true) (hd : o.dst = none)
    (hk : X = .ok r T' n' → LV P ops n D (.plain Q) w0 base ρ its af rest) : LV P ops n D (.plain Q) w0 base ρ its af (o :: rest) := fun l hf => by
  obtain ⟨id, off, rfl, hh⟩ := ptrK_inv h
  refine LX.unguard (wantA_ok hf hw) ?_
  obtain ⟨ux, g1, g2⟩ := hf.eval hx
  obtain ⟨p, hp1, rfl⟩ := inst_ptr g2
  obtain ⟨uy, g3, g4⟩ := hf.eval hy
  have key : uy = .agg ([] : List Value).toArray ∧ X = .ok r T' n' := by
    split at hh
    · obtain ⟨vs, e1, rfl⟩ := inst_agg g4
      cases e1
      exact ⟨rfl, hh⟩
    · obtain rfl := inst_lit g4
      exact ⟨rfl, hh⟩
    · cases hh
  obtain ⟨rfl, hX⟩ := key
  exact LX.storeN (o := { o with guard := none }) (vs := []) (W' := WA w0 base its) (aggT_ok hz) ho g1 g3 rfl rfl (fun w hw => ⟨fun j hj => absurd hj (by omega), hw⟩) rfl hd (hk hX l hf)
/-! numbers that are not looked at -/
theorem VAL.gtI {m q : Int} (hx : evalA af x = some (.lit (.int .i64 m))) (hy : evalA af y = some (.lit (.int .i64 q))) : VAL P W ρ af (.binOp .gtr t x y t2) (.lit (.bool (decide (q < m)))) :=
  VAL.yy fun l hf ty => Y.gtI (evlit hf hx) (evlit hf hy)
end
end Go.EY
