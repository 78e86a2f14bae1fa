/-
  Proved here: further operations of a small machine: maps whose keys are numbers, fields of values, literals of nothing, what is put behind a slice that was cut, a slice of which only the length is asked; a function that the model itself answers.
-/
import Derived.Test.YtgijpgkckiknjaaGreatDoorExA
import Derived.MapKept
import Derived.Recover
import Derived.Lib.Bytealg
namespace Go.EB
open Go.SX Go.EX Go.RowKit
/-! maps' entries -/
theorem mkEs_nil1 (xs : List Value) (bs : List Nat) : mkEs [] xs bs = [] := by cases xs <;> cases bs <;> rfl
theorem mkEs_nil2 (us : List Value) (bs : List Nat) : mkEs us [] bs = [] := by cases us <;> cases bs <;> rfl
theorem mkEs_nil3 (us xs : List Value) : mkEs us xs [] = [] := by cases us <;> cases xs <;> rfl
theorem mkEs_set (key u' : Value) : ∀ (us xs : List Value) (bs : List Nat) (j : Nat), us[j]? = some key → (mkEs us xs bs).modify j (fun e => { e with key := key, val := u' }) = mkEs us (xs.set j u') bs
  | [], xs, bs, j, h => by cases h
  | u :: us, [], bs, j, _ => by rw [mkEs_nil2]; cases j <;> (show _ = mkEs (u :: us) [] bs; rw [mkEs_nil2]; rfl)
  | u :: us, x :: xs, [], j, _ => by rw [mkEs_nil3, mkEs_nil3]; cases j <;> rfl
  | u :: us, x :: xs, b :: bs, 0, h => by cases h; rfl
  | u :: us, x :: xs, b :: bs, j + 1, h => by
    have := mkEs_set key u' us xs bs j (by simpa using h)
    simp only [mkEs, List.modify_succ_cons, List.set_cons_succ, this]
theorem mkEs_push (k v : Value) (b : Nat) : ∀ (us xs : List Value) (bs : List Nat), us.length = xs.length → us.length = bs.length → mkEs us xs bs ++ [⟨k, v, b⟩] = mkEs (us ++ [k]) (xs ++ [v]) (bs ++ [b])
  | [], [], [], _, _ => rfl
  | [], _ :: _, _, h, _ => by cases h
  | [], [], _ :: _, _, h => by cases h
  | _ :: _, [], _, h, _ => by cases h
  | _ :: _, _ :: _, [], _, h => by cases h
  | u :: us, x :: xs, q :: bs, h, h' => by
    have := mkEs_push k v b us xs bs (by simpa using h) (by simpa using h')
    simp only [mkEs, List.cons_append, this]
theorem mkEs_erase : ∀ (us xs : List Value) (bs : List Nat) (j : Nat), (mkEs us xs bs).eraseIdx j = mkEs (us.eraseIdx j) (xs.eraseIdx j) (bs.eraseIdx j)
  | [], xs, bs, j => by rw [mkEs_nil1]; simp [mkEs_nil1]
  | u :: us, [], bs, j => by rw [mkEs_nil2]; simp [mkEs_nil2]
  | u :: us, x :: xs, [], j => by rw [mkEs_nil3]; simp [mkEs_nil3]
  | u :: us, x :: xs, b :: bs, 0 => rfl
  | u :: us, x :: xs, b :: bs, j + 1 => by
    simp only [mkEs, List.eraseIdx_cons_succ]
    rw [mkEs_erase us xs bs j]
theorem mkEs_len : ∀ (us xs : List Value) (bs : List Nat), us.length = xs.length → us.length = bs.length → (mkEs us xs bs).length = us.length
  | [], [], [], _, _ => rfl
  | [], _ :: _, _, h, _ => by cases h
  | [], [], _ :: _, _, h => by cases h
  | _ :: _, [], _, h, _ => by cases h
  | _ :: _, _ :: _, [], _, h => by cases h
  | u :: us, x :: xs, q :: bs, h, h' => by
    have := mkEs_len us xs bs (by simpa using h) (by simpa using h')
    simp only [mkEs, List.length_cons, this]
section
variable {P : Program} {w0 : World} {base : Nat} {ρ : Rho} {hp hp' : AH} {ro : List AH} {nx : Nat} {its : List It} {E : List (Nat × AV)} {af : AF} {l : Fr} {ops : Array Oper} {n : Nat} {D : List Deferred} {Q : Exit → Act → World → Prop} {rest : List Oper} {o : Oper} {d : Nat} {v : AV} {W : World → Prop} {t : TypeId} {x y : Operand}
def EqR (P : Program) (W : World → Prop) (kt : TypeId) (a b : Value) (q : Bool) : Prop := ∀ w, W w → (Op.equal kt a b).run P w = .ok q w
def Fnd (P : Program) (W : World → Prop) (kt : TypeId) (key : Value) (es : List MapEntry) (i : Nat) (q : Option (Nat × Value)) : Prop := ∀ w, W w → (Instr.findAsking kt key es i).run P w = .ok q w
theorem Fnd.nil {kt : TypeId} {key : Value} {i : Nat} : Fnd P W kt key [] i none := fun w _ => rfl
theorem Fnd.yes {kt : TypeId} {key : Value} {i : Nat} {e : MapEntry} {es : List MapEntry} (h : EqR P W kt key e.key true) : Fnd P W kt key (e :: es) i (some (i, e.val)) := fun w hw => by
  have := h w hw
  simp [Instr.findAsking, this]
theorem Fnd.no {kt : TypeId} {key : Value} {i : Nat} {e : MapEntry} {es : List MapEntry} {q : Option (Nat × Value)} (h : EqR P W kt key e.key false) (h2 : Fnd P W kt key es (i + 1) q) : Fnd P W kt key (e :: es) i q := fun w hw => by
  have := h w hw
  have := h2 w hw
  simp [Instr.findAsking, *]
theorem bytes_eq (s s' : ByteArray) : (s == s') = decide (s.data.toList = s'.data.toList) := by
  show (s.data == s'.data) = _
  rw [Bool.eq_iff_iff]; simp [Array.toList_inj]
theorem same_equalIn {kt : TypeId} {kd : TypeDesc} (hkd : P.underlying kt = some kd) {a b : Value} {q : Bool} (h : Instr.sameNow kd a b = some q) (w : World) (dd : Nat) : (Op.equalIn (dd + 1) kt a b).run P w = .ok q w := by
  unfold Instr.sameNow at h
  split at h
  · split at h
    · rename_i hk
      cases h
      subst hk
      simp [Op.equalIn, run_underlying hkd]
    · cases h
  · cases h; simp [Op.equalIn, run_underlying hkd]
  · cases h; simp [Op.equalIn, run_underlying hkd]
  · cases h
theorem same_equal {kt : TypeId} {kd : TypeDesc} (hkd : P.underlying kt = some kd) {a b : Value} {q : Bool} (h : Instr.sameNow kd a b = some q) (w : World) : (Op.equal kt a b).run P w = .ok q w := same_equalIn hkd h w 9999
theorem now_asking {kt : TypeId} {kd : TypeDesc} (hkd : P.underlying kt = some kd) {key : Value} (w : World) : ∀ {es : List MapEntry} {i : Nat} {q : Option (Nat × Value)}, Instr.findNow kd key es i = some q → (Instr.findAsking kt key es i).run P w = .ok q w
  | [], i, q, h => by cases h; rfl
  | e :: es, i, q, h => by
    unfold Instr.findNow at h
    split at h
    · rename_i hs
      cases h
      have := same_equal hkd hs w
      simp [Instr.findAsking, this]
    · rename_i hs
      have := same_equal hkd hs w
      have := now_asking hkd w h
      simp [Instr.findAsking, *]
    · cases h
theorem Fnd.run {kt : TypeId} {kd : TypeDesc} (hkd : P.underlying kt = some kd) {key : Value} {es : List MapEntry} {q : Option (Nat × Value)} (h : Fnd P W kt key es 0 q) {w : World} (hw : W w) : (Instr.findKey kt key es).run P w = .ok q w := by
  have h1 := h w hw
  cases hn : Instr.findNow kd key es 0 with
  | none => simp [Instr.findKey, run_underlying hkd, hn, h1]
  | some r =>
    have h2 := now_asking hkd w hn
    rw [h1] at h2
    injection h2 with h2 _
    subst h2
    simp [Instr.findKey, run_underlying hkd, hn]
theorem inst_mp {id : Nat} {u : Value} (h : inst ρ (.mp id) = some u) : ∃ p, rat ρ.blk id = some p ∧ u = .map (some p.1) := by
  unfold inst at h
  cases hr : rat ρ.blk id with
  | none => rw [hr] at h; cases h
  | some p => rw [hr] at h; cases h; exact ⟨p, rfl, rfl⟩
theorem run_check_int' {kt : TypeId} {kk : IntKind} (h : P.underlying kt = some (.int kk)) (e : Bool) (k : IntKind) (i : Int) (w : World) (dd : Nat) : (Instr.checkKey e (dd + 1) kt (.int k i)).run P w = .ok () w := by
  simp [Instr.checkKey, run_underlying h]
theorem run_check_int {kt : TypeId} {kk : IntKind} (h : P.underlying kt = some (.int kk)) (e : Bool) (k : IntKind) (i : Int) (w : World) : (Instr.checkKey e 10000 kt (.int k i)).run P w = .ok () w := run_check_int' h e k i w 9999
def zeroW (P : Program) (t : TypeId) : Option Value := (P.info? t).bind (·.zero)
def lkOut (ok : Bool) (z : Value) : Option (Nat × Value) → Value
  | some (_, v) => if ok then .tuple #[v, .bool true] else v
  | none => if ok then .tuple #[z, .bool false] else z
theorem lookup_run {kt et : TypeId} {kd : TypeDesc} {key z : Value} {ok : Bool} {p : Nat} {es : List MapEntry} {ck : Nat} {q : Option (Nat × Value)} {w : World} (ht : P.underlying t = some (.map kt et)) (hkd : P.underlying kt = some kd)
    (hc : ∀ e, (Instr.checkKey e 10000 kt key).run P w = .ok () w) (hz : zeroW P et = some z) (hb : w.heap[p]? = some (.map es.toArray ck)) (hq : Fnd P W kt key es 0 q) (hW : W w) :
    (Instr.lookup t (.map (some p)) key ok).run P w = .ok (lkOut ok z q) w := by
  have h1 := hq.run hkd hW
  have h2 := zero_run (P := P) hz w
  have h3 := MapKept.run_getObj_map (P := P) hb
  rcases q with _ | ⟨i, v⟩
  · simp [Instr.lookup, run_underlying ht, h3, hc, h1, h2, lkOut]
  · simp [Instr.lookup, run_underlying ht, h3, hc, h1, lkOut]
theorem WA.setObj {w : World} (h : WA w0 base its w) {i b : Nat} {o1 : Obj} (hi : its[i]? = some (.obj b o1)) (o2 : Obj) : WA w0 base (its.set i (.obj b o2)) { w with heap := w.heap.setIfInBounds b o2 } := by
  have hit := h.get hi
  refine h.others hi rfl rfl rfl (by simp) (fun k hk hne => ?_) ⟨hit.1, ?_⟩ (fun k hk => .inl hk)
  · exact Array.getElem?_setIfInBounds_ne fun e => hne (by rw [← e]; rfl)
  · have hlt := (Array.getElem?_eq_some_iff.1 hit.2).1
    simp [hlt]
theorem stays_same {key : Value} (h : Instr.sameBits 10000 key key = true) (w : World) : (Instr.keyThatStays key key).run P w = .ok key w := by
  simp [Instr.keyThatStays, h]
theorem mapUpdate_run {kt et : TypeId} {kd : TypeDesc} {key u : Value} {p : Nat} {us xs : List Value} {bs : List Nat} {ck : Nat} {q : Option (Nat × Value)} {w : World} (ht : P.underlying t = some (.map kt et)) (hkd : P.underlying kt = some kd)
    (hc : (Instr.checkKey false 10000 kt key).run P w = .ok () w) (hb : w.heap[p]? = some (.map (mkEs us xs bs).toArray ck)) (hq : Fnd P W kt key (mkEs us xs bs) 0 q) (hW : W w) (hbits : Instr.sameBits 10000 key key = true)
    (hj : ∀ j v, q = some (j, v) → us[j]? = some key ∧ ((mkEs us xs bs)[j]?).map (·.key) = some key) (hl : q = none → us.length = xs.length ∧ us.length = bs.length) :
    (Instr.mapUpdate t (.map (some p)) key u).run P w = .ok () { w with heap := w.heap.setIfInBounds p (match q with | some (j, _) => .map (mkEs us (xs.set j u) bs).toArray ck | none => .map (mkEs (us ++ [key]) (xs ++ [u]) (bs ++ [ck])).toArray (ck + 1)) } := by
  have h1 := hq.run hkd hW
  have h3 := MapKept.run_getObj_map (P := P) hb
  rcases q with _ | ⟨j, v⟩
  · obtain ⟨g1, g2⟩ := hl rfl
    have e := mkEs_push key u ck us xs bs g1 g2
    simp [Instr.mapUpdate, run_underlying ht, h3, hc, h1, MapKept.run_setObj_map _ hb, ← e]
  · obtain ⟨g1, g2⟩ := hj j v rfl
    have e := mkEs_set key u us xs bs j g1
    have e2 : ((((mkEs us xs bs).toArray)[j]?).map (·.key)).getD key = key := by
      rw [List.getElem?_toArray, g2]; rfl
    simp only [Instr.mapUpdate, run_underlying ht, h3, hc, h1, Sem.run_bind, Result.andThen_ok, e2, stays_same hbits, MapKept.run_setObj_map _ hb, ← e]
    simp
theorem instI_mkmp {id : Nat} {ks vs : List AV} {bs : List Nat} {ck : Nat} {p : Nat × Nat} {us xs : List Value} (hp : rat ρ.blk id = some p) (h1 : instL ρ ks = some us) (h2 : instL ρ vs = some xs) : instI ρ id (.mp ks vs bs ck) = some (.obj p.1 (.map (mkEs us xs bs).toArray ck)) := by
  dsimp only [instI]
  rw [hp, h1]
  show (Option.map _ (instL ρ vs)) = _
  rw [h2]; rfl
theorem run_append0 {e : TypeId} {ats : Array TypeId} {g : Option Addr} {m cp : Nat} {ux : Value} (he : P.underlying t = some (.slice e)) (hs : ∃ i, P.info? e = some i) (hat : ats = #[t, t]) (hx : ux = .slice none 0 0 ∨ ∃ ad cp', ux = .slice (some ad) 0 cp') (hm : m ≤ cp) (ty : TypeId) (w : World) :
    (Builtin.append_ ats ty #[.slice g m cp, ux]).run P w = .ok (.slice g m cp) w := by
  subst hat
  obtain ⟨i, hi⟩ := hs
  have e1 := run_underlying he w
  cases g <;> rcases hx with rfl | ⟨ad, cp', rfl⟩ <;> simp [Builtin.append_, e1, sizeOf, typeInfo, hi, Builtin.lenOf, hm, Builtin.firstCells, loadCells, loadCellsFrom, storeCells]

/-! a key among keys -/
def findI (i : Int) : List AV → Nat → Option (Option Nat)
  | [], _ => some none
  | .lit (.int .i64 j) :: r, q => match decide (i = j) with
    | true => some (some q)
    | false => findI i r (q + 1)
  | _ :: _, _ => none
theorem findI_ok {kt : TypeId} {kk : IntKind} (hkd : P.underlying kt = some (.int kk)) {i : Int} : ∀ {ks : List AV} {us xs : List Value} {bs : List Nat} {q : Nat} {o : Option Nat}, findI i ks q = some o → instL ρ ks = some us → us.length = xs.length → us.length = bs.length →
    (∃ j u, o = some (q + j) ∧ xs[j]? = some u ∧ us[j]? = some (.int .i64 i) ∧ ((mkEs us xs bs)[j]?).map (·.key) = some (.int .i64 i) ∧ Fnd P W kt (.int .i64 i) (mkEs us xs bs) q (some (q + j, u))) ∨ (o = none ∧ Fnd P W kt (.int .i64 i) (mkEs us xs bs) q none)
  | [], us, xs, bs, q, o, h, hk, _, _ => by
    cases h; cases hk
    exact .inr ⟨rfl, by rw [mkEs_nil1]; exact Fnd.nil⟩
  | k :: r, us, xs, bs, q, o, h, hk, h1, h2 => by
    obtain ⟨u, us', rfl, hu, hr⟩ := instL_cons hk
    unfold findI at h
    split at h
    · rename_i heq; cases heq
    · rename_i q' j r' heq
      cases heq
      obtain rfl := inst_lit hu
      cases xs with
      | nil => cases h1
      | cons x xs =>
        cases bs with
        | nil => cases h2
        | cons b bs =>
          split at h
          · rename_i hd
            cases h
            have : i = j := by simpa using hd
            subst this
            exact .inl ⟨0, x, rfl, rfl, rfl, rfl, Fnd.yes fun w _ => same_equal hkd (by simp [Instr.sameNow]) w⟩
          · rename_i hd
            have hne : i ≠ j := by simpa using hd
            have hno : EqR P W kt (.int .i64 i) (.int .i64 j) false := fun w _ => same_equal hkd (by simp [Instr.sameNow]; omega) w
            rcases findI_ok hkd h hr (by simpa using h1) (by simpa using h2) with ⟨j', u, e1, e2, e3, e4, e5⟩ | ⟨e1, e2⟩
            · refine .inl ⟨j' + 1, u, by rw [e1]; congr 1; omega, by simpa using e2, by simpa using e3, by simpa [mkEs] using e4, ?_⟩
              have e6 := Fnd.no (e := ⟨.int .i64 j, x, b⟩) hno e5
              rwa [Nat.add_assoc, Nat.add_comm 1 j'] at e6
            · exact .inr ⟨e1, Fnd.no hno e2⟩
    · cases h
/-- what a map of numbers holds for one -/
def lookB (P : Program) (hp : AH) (af : AF) (t : TypeId) (x y : Operand) (ok : Bool) : Option AV :=
  match P.underlying t with
  | some (.map kt et) => match P.underlying kt with
    | some (.int _) => match evalA af x with
      | some (.mp id) => match evalA af y with
        | some (.lit (.int .i64 i)) => match findA hp id 0 with
          | some (_, .mp ks vs bs _) => match Nat.beq ks.length vs.length && Nat.beq ks.length bs.length with
            | true => match findI i ks 0 with
              | some (some j) => (vs[j]?).map fun v => match ok with | true => .tup [v, .lit (.bool true)] | false => v
              | some none => (zeroW P et).map fun z => match ok with | true => .tup [.lit z, .lit (.bool false)] | false => .lit z
              | none => none
            | false => none
          | _ => none
        | _ => none
      | _ => none
    | _ => none
  | _ => none
theorem lookB_ok (hf : FRel ρ af l) (hH : instH ρ hp = some its) {ok : Bool} (h : lookB P hp af t x y ok = some v) (ty : TypeId) : ∃ u, inst ρ v = some u ∧ Y P l (WA w0 base its) (.lookup t x y ok) ty u := by
  unfold lookB at h
  split at h <;> try (cases h; done)
  rename_i kt et ht
  split at h <;> try (cases h; done)
  rename_i kk hkd
  split at h <;> try (cases h; done)
  rename_i id hx
  split at h <;> try (cases h; done)
  rename_i i hy
  split at h <;> try (cases h; done)
  rename_i ix ks vs bs ck hfd
  split at h <;> try (cases h; done)
  rename_i hlen
  simp only [Bool.and_eq_true] at hlen
  obtain ⟨u0, f1, f2⟩ := hf.eval hx
  obtain ⟨p, hp1, rfl⟩ := inst_mp f2
  obtain ⟨u1, f3, f4⟩ := hf.eval hy
  obtain rfl := inst_lit f4
  obtain ⟨xi, _, hxs, hi⟩ := findA_ok hH hfd
  rw [Nat.sub_zero] at hxs
  obtain ⟨p2, us, xs, g1, g2, g3, rfl⟩ := instI_mp hi
  rw [hp1] at g1; cases g1
  have l1 : us.length = xs.length := by rw [instL_len g2, instL_len g3]; simpa using hlen.1
  have l2 : us.length = bs.length := by rw [instL_len g2]; simpa using hlen.2
  have key : ∀ (q : Option (Nat × Value)) (z : Value), (zeroW P et = some z ∨ q ≠ none) → Fnd P (WA w0 base its) kt (.int .i64 i) (mkEs us xs bs) 0 q → Y P l (WA w0 base its) (.lookup t x y ok) ty (lkOut ok z q) := by
    intro q z hz hq σ hσ o' ho hty w hW
    have h1 := hq.run hkd hW
    have h3 := MapKept.run_getObj_map (P := P) (hW.get hxs).2
    have hc := fun e => run_check_int (P := P) hkd e .i64 i w
    rcases q with _ | ⟨j, v⟩
    · have h2 := zero_run (P := P) (hz.resolve_right (fun h => h rfl)) w
      simp [execOp, ho, hσ _ _ f1, hσ _ _ f3, Instr.lookup, run_underlying ht, h3, hc, h1, h2, lkOut]
    · simp [execOp, ho, hσ _ _ f1, hσ _ _ f3, Instr.lookup, run_underlying ht, h3, hc, h1, lkOut]
  split at h
  · rename_i j hj
    cases hv : vs[j]? with
    | none => rw [hv] at h; cases h
    | some v' =>
      rw [hv] at h; cases h
      rcases findI_ok (W := WA w0 base its) hkd hj g2 l1 l2 with ⟨j', u, e1, e2, e3, e4, e5⟩ | ⟨e1, _⟩
      · cases e1
        obtain ⟨u', q1, q2⟩ := instL_get g3 hv
        rw [Nat.zero_add] at q1
        rw [e2] at q1; cases q1
        refine ⟨_, ?_, key _ undef (.inr (by simp)) e5⟩
        cases ok with
        | false => exact q2
        | true =>
          show inst ρ (.tup [v', .lit (.bool true)]) = _
          unfold inst
          rw [instL_mk q2 (instL_mk (ρ := ρ) (v := .lit (.bool true)) (u := .bool true) rfl rfl)]
          rfl
      · cases e1
  · rename_i hj
    cases hz : zeroW P et with
    | none => rw [hz] at h; cases h
    | some z =>
      rw [hz] at h; cases h
      rcases findI_ok (W := WA w0 base its) hkd hj g2 l1 l2 with ⟨j', u, e1, _⟩ | ⟨_, e2⟩
      · cases e1
      · refine ⟨_, ?_, key none z (.inl hz) e2⟩
        cases ok <;> rfl
  · cases h
/-- a map of numbers is told one -/
def updB (P : Program) (hp : AH) (af : AF) (t : TypeId) (x y z : Operand) : Option AH :=
  match P.underlying t with
  | some (.map kt _) => match P.underlying kt with
    | some (.int _) => match evalA af x with
      | some (.mp id) => match evalA af y with
        | some (.lit (.int .i64 i)) => match findA hp id 0 with
          | some (_, .mp ks vs bs ck) => match Nat.beq ks.length vs.length && Nat.beq ks.length bs.length with
            | true => (evalA af z).bind fun v => match findI i ks 0 with
              | some (some j) => some (setH hp id (.mp ks (vs.set j v) bs ck))
              | some none => some (setH hp id (.mp (ks ++ [.lit (.int .i64 i)]) (vs ++ [v]) (bs ++ [ck]) (ck + 1)))
              | none => none
            | false => none
          | _ => none
        | _ => none
      | _ => none
    | _ => none
  | _ => none
theorem updB_ok (hf : FRel ρ af l) (hH : instH ρ hp = some its) {z : Operand} (ho : o.op = .mapUpdate t x y z) (h : updB P hp af t x y z = some hp') (hg : o.guard = none) (hd : o.dst = none)
    (hgo : ∀ its', instH ρ hp' = some its' → LX P ops n D (.plain Q) l (WA w0 base its') rest) : LX P ops n D (.plain Q) l (WA w0 base its) (o :: rest) := by
  unfold updB at h
  split at h <;> try (cases h; done)
  rename_i kt et ht
  split at h <;> try (cases h; done)
  rename_i kk hkd
  split at h <;> try (cases h; done)
  rename_i id hx
  split at h <;> try (cases h; done)
  rename_i i hy
  split at h <;> try (cases h; done)
  rename_i ix ks vs bs ck hfd
  split at h <;> try (cases h; done)
  rename_i hlen
  simp only [Bool.and_eq_true] at hlen
  obtain ⟨v, hz, h⟩ := Option.bind_eq_some_iff.1 h
  obtain ⟨u0, f1, f2⟩ := hf.eval hx
  obtain ⟨p, hp1, rfl⟩ := inst_mp f2
  obtain ⟨u1, f3, f4⟩ := hf.eval hy
  obtain rfl := inst_lit f4
  obtain ⟨u, f5, f6⟩ := hf.eval hz
  obtain ⟨xi, _, hxs, hi⟩ := findA_ok hH hfd
  rw [Nat.sub_zero] at hxs
  obtain ⟨p2, us, xs, g1, g2, g3, rfl⟩ := instI_mp hi
  rw [hp1] at g1; cases g1
  have l1 : us.length = xs.length := by rw [instL_len g2, instL_len g3]; simpa using hlen.1
  have l2 : us.length = bs.length := by rw [instL_len g2]; simpa using hlen.2
  have fin : ∀ (q : Option (Nat × Value)) (it' : AI) (o2 : Obj), Fnd P (WA w0 base its) kt (.int .i64 i) (mkEs us xs bs) 0 q → (∀ j v, q = some (j, v) → us[j]? = some (.int .i64 i) ∧ ((mkEs us xs bs)[j]?).map (·.key) = some (.int .i64 i)) → (q = none → us.length = xs.length ∧ us.length = bs.length) →
      o2 = (match q with | some (j, _) => .map (mkEs us (xs.set j u) bs).toArray ck | none => .map (mkEs (us ++ [.int .i64 i]) (xs ++ [u]) (bs ++ [ck])).toArray (ck + 1)) → instI ρ id it' = some (.obj p.1 o2) → setH hp id it' = hp' → LX P ops n D (.plain Q) l (WA w0 base its) (o :: rest) := by
    intro q it' o2 hq hj hl ho2 hm2 hk'
    have e := setH_ok hH hfd hm2
    rw [Nat.sub_zero, hk'] at e
    have hlv := hgo _ e
    intro a w ha hW
    unfold wpList
    rw [if_pos (wanted_none hg)]
    left
    unfold Oper.wp
    have hrun := mapUpdate_run (u := u) ht hkd (run_check_int hkd false _ _ w) (hW.get hxs).2 hq hW (by simp [Instr.sameBits]) hj hl
    rw [← ho2] at hrun
    have : (execOp a.eval o).run P w = .ok .skip { w with heap := w.heap.setIfInBounds p.1 o2 } := by
      simp only [execOp, ho, ha.eval _ _ f1, ha.eval _ _ f3, ha.eval _ _ f5, Sem.run_bind, hrun]; rfl
    rw [this]
    simp only [Oper.upon, hd]
    exact hlv _ _ ha (WA.setObj hW hxs o2)
  split at h
  · rename_i j hj
    cases h
    rcases findI_ok (W := WA w0 base its) hkd hj g2 l1 l2 with ⟨j', u', e1, e2, e3, e4, e5⟩ | ⟨e1, _⟩
    · cases e1
      rw [Nat.zero_add] at e5
      refine fin _ _ _ e5 (fun j v hq => ?_) (fun hq => by cases hq) rfl (instI_mkmp hp1 g2 (instL_set j' g3 f6)) (by rw [Nat.zero_add])
      cases hq; exact ⟨e3, e4⟩
    · cases e1
  · rename_i hj
    cases h
    rcases findI_ok (W := WA w0 base its) hkd hj g2 l1 l2 with ⟨j', u', e1, _⟩ | ⟨_, e2⟩
    · cases e1
    · exact fin none _ _ e2 (fun j v hq => by cases hq) (fun _ => ⟨l1, l2⟩) rfl (instI_mkmp hp1 (instL_app g2 (instL_mk (us := []) rfl rfl)) (instL_app g3 (instL_mk f6 (us := []) rfl))) rfl
  · cases h
/-! a field of a value -/
def fieldB (P : Program) (af : AF) (s : TypeId) (x : Operand) (f : Nat) : Option AV :=
  match P.underlying s with
  | some (.struct fs) => match fs[f]? with
    | some fd => match oneT P fd.type with
      | true => match evalA af x with
        | some (.agg cs) => cs[fd.offset]?
        | some (.lit (.agg cs)) => (cs.toList[fd.offset]?).map .lit
        | _ => none
      | false => none
    | none => none
  | _ => none
theorem fieldB_ok (hf : FRel ρ af l) {s : TypeId} {f : Nat} (h : fieldB P af s x f = some v) (W : World → Prop) (ty : TypeId) : ∃ u, inst ρ v = some u ∧ Y P l W (.field s x f) ty u := by
  unfold fieldB at h
  split at h <;> try (cases h; done)
  rename_i fs hu
  split at h <;> try (cases h; done)
  rename_i fd hfd
  split at h <;> try (cases h; done)
  rename_i hone
  have key : ∀ (us : List Value) (z : Value), evl l x = some (.agg us.toArray) → us[fd.offset]? = some z → Y P l W (.field s x f) ty z := by
    intro us z g1 q1 σ hσ o' ho' ht' w hw
    have e1 := run_underlying hu w
    have e2 := oneT_ok hone w
    simp [execOp, ho', hσ _ _ g1, Instr.field, e1, hfd, asAgg, part, e2, q1]
  split at h <;> try (cases h; done)
  · rename_i cs hx
    obtain ⟨u, g1, g2⟩ := hf.eval hx
    obtain ⟨us, g3, rfl⟩ := inst_agg g2
    obtain ⟨z, q1, q2⟩ := instL_get g3 h
    exact ⟨z, q2, key us z g1 q1⟩
  · rename_i cs hx
    obtain ⟨u, g1, g2⟩ := hf.eval hx
    obtain rfl := inst_lit g2
    cases hc : cs.toList[fd.offset]? with
    | none => rw [hc] at h; cases h
    | some z =>
      rw [hc] at h; cases h
      exact ⟨z, rfl, key cs.toList z (by rw [g1]) hc⟩
/-! a slice held against none -/
theorem Y.nilSl (neg : Bool) {W : World → Prop} {t ty ty2 e : TypeId} {x : Operand} {a : Addr} {n c : Nat} (h : P.underlying t = some (.slice e)) (hx : evl l x = some (.slice (some a) n c)) : Y P l W (.binOp (match neg with | true => .neq | false => .eql) t x (.const (.slice none 0 0)) ty2) ty (.bool neg) := by
  refine Y.bin hx rfl fun w _ => ?_
  have e1 : (Op.equalIn 10000 t (.slice (some a) n c) (.slice none 0 0)).run P w = .ok false w := by
    have h1 := run_underlying h w
    have h2 : ∀ d : Nat, (Op.equalIn (d + 1) t (.slice (some a) n c) (.slice none 0 0)).run P w = .ok false w := fun d => by simp [Op.equalIn, h1]
    exact h2 9999
  cases neg with
  | false =>
    have e2 : binOp .eql t (.slice (some a) n c) (.slice none 0 0) = (do pure (.bool (← Op.equalIn 10000 t (.slice (some a) n c) (.slice none 0 0)))) := rfl
    have e3 : eqGuard .eql t x (.const (.slice none 0 0)) (.slice (some a) n c) (.slice none 0 0) = pure () := rfl
    simp only [e3, e2, pure_bind, Sem.run_bind, Sem.run_pure, Result.andThen_ok, e1]
  | true =>
    have e2 : binOp .neq t (.slice (some a) n c) (.slice none 0 0) = (do pure (.bool (!(← Op.equalIn 10000 t (.slice (some a) n c) (.slice none 0 0))))) := rfl
    have e3 : eqGuard .neq t x (.const (.slice none 0 0)) (.slice (some a) n c) (.slice none 0 0) = pure () := rfl
    simp only [e3, e2, pure_bind, Sem.run_bind, Sem.run_pure, Result.andThen_ok, e1, Bool.not_false]
def slNilB (P : Program) (af : AF) (op : BinOp) (t : TypeId) (x y : Operand) : Option AV :=
  match y, evalA af x, P.underlying t with
  | .const (.slice none 0 0), some (.sl _ _ _ _), some (.slice _) => match op with
    | .eql => some (.lit (.bool false))
    | .neq => some (.lit (.bool true))
    | _ => none
  | _, _, _ => none
theorem slNilB_ok (hf : FRel ρ af l) {op : BinOp} {ty2 : TypeId} (h : slNilB P af op t x y = some v) (W : World → Prop) (ty : TypeId) : ∃ u, inst ρ v = some u ∧ Y P l W (.binOp op t x y ty2) ty u := by
  unfold slNilB at h
  split at h <;> try (cases h; done)
  rename_i id off q sk e hx ht
  obtain ⟨u, f1, f2⟩ := hf.eval hx
  obtain ⟨p, _, rfl⟩ := inst_sl f2
  split at h
  · cases h
    exact ⟨_, rfl, Y.nilSl false ht f1⟩
  · cases h
    exact ⟨_, rfl, Y.nilSl true ht f1⟩
  · cases h
/-! what yields a value and changes nothing -/
def val3A (P : Program) (E : List (Nat × AV)) (ro : List AH) (hp : AH) (af : AF) (o : Op) : Option AV :=
  match val2A P E ro hp af o with
  | some v => some v
  | none => match o with
    | .field s x f => fieldB P af s x f
    | .lookup t x y ok => lookB P hp af t x y ok
    | .binOp op t x y _ => slNilB P af op t x y
    | _ => none
theorem val3A_ok (hf : FRel ρ af l) (hH : instH ρ hp = some its) (hR : RO w0 base ρ ro) (hE : EE w0 base ρ E) {o : Op} {v : AV} (h : val3A P E ro hp af o = some v) (ty : TypeId) :
    ∃ u, inst ρ v = some u ∧ Y P l (WA w0 base its) o ty u := by
  unfold val3A at h
  cases hv : val2A P E ro hp af o with
  | some v' => rw [hv] at h; cases h; exact val2A_ok hf hH hR hE hv ty
  | none =>
    rw [hv] at h
    dsimp only at h
    split at h
    · exact fieldB_ok hf h _ ty
    · exact lookB_ok hf hH h ty
    · exact slNilB_ok hf h _ ty
    · cases h
end
end Go.EB

namespace Go.EB
open Go.SX Go.EX Go.RowKit
abbrev CallB := List AH → FuncId → List AV → AH → Nat → Option (AV × AH × Nat)
def CallBOk (P : Program) (E : List (Nat × AV)) (call : CallB) : Prop :=
  ∀ ro f args hp nx v hp' nx', call ro f args hp nx = some (v, hp', nx') → Enters P f ∧
    ∀ w0 base ρ vs its, RO w0 base ρ ro → EE w0 base ρ E → instH ρ hp = some its → instL ρ args = some vs → Fresh ρ nx →
      ∀ w, WA w0 base its w → Calls P f vs.toArray w fun e w' => ∃ ρ' its', Ext ρ ρ' ∧ Fresh ρ' nx' ∧ instH ρ' hp' = some its' ∧ WA w0 base its' w' ∧ ∃ u, inst ρ' v = some u ∧ e = .returned u
/-- functions that the model itself answers -/
abbrev ExtF := FuncId → List Value → Option Value
def ExtOk (P : Program) (ext : ExtF) : Prop := ∀ k vs u, ext k vs = some u → ∀ w, (callFunc k vs.toArray).run P w = .ok (.value u) w
abbrev DF := List (FuncId × List AV)
def instD (ρ : Rho) : DF → Option (List Deferred)
  | [] => some []
  | (k, ys) :: r => (instL ρ ys).bind fun us => (instD ρ r).map fun D => { target := .fn (.func k) us.toArray, args := #[] } :: D
theorem instD_ext {ρ ρ' : Rho} (h : Ext ρ ρ') : ∀ (df : DF) (D : List Deferred), instD ρ df = some D → instD ρ' df = some D
  | [], D, e => e
  | (k, ys) :: r, D, e => by
    unfold instD at e ⊢
    cases hr : instL ρ ys with
    | none => rw [hr] at e; cases e
    | some p =>
      cases hs : instD ρ r with
      | none => rw [hr, hs] at e; cases e
      | some q => rw [hr, hs] at e; rw [instL_ext h _ _ hr, instD_ext h _ _ hs]; exact e
section
variable {P : Program} {w0 : World} {base : Nat} {ρ : Rho} {hp hp' : AH} {ro : List AH} {nx : Nat} {its : List It} {E : List (Nat × AV)} {af : AF} {l : Fr} {ops : Array Oper} {n : Nat} {D : List Deferred} {Q : Exit → Act → World → Prop} {rest : List Oper} {o : Oper} {d : Nat} {v : AV} {m : SX.Mode} {W : World → Prop} {t : TypeId} {x y : Operand} {ext : ExtF} {call : CallB}
/-! calls that the model answers; appends of nothing -/
def extB (ext : ExtF) (af : AF) (c : Call) : Option AV :=
  match c.callee with
  | .value (.func k) => (evalsA af c.args.toList).bind fun as => (litL as).bind fun vs => (ext k vs).map .lit
  | _ => none
theorem extB_ok (hX : ExtOk P ext) (hf : FRel ρ af l) {c : Call} (h : extB ext af c = some v) (W : World → Prop) (ty : TypeId) : ∃ u, inst ρ v = some u ∧ Y P l W (.call c) ty u := by
  unfold extB at h
  split at h
  · rename_i k hc
    obtain ⟨as, h1, h⟩ := Option.bind_eq_some_iff.1 h
    obtain ⟨vs, h2, h⟩ := Option.bind_eq_some_iff.1 h
    cases hu : ext k vs with
    | none => rw [hu] at h; cases h
    | some u =>
      rw [hu] at h; cases h
      obtain ⟨us, e1, e2⟩ := evalsA_ok hf h1
      obtain rfl := litL_inst h2 e2
      have hc' : c = { callee := .value (.func k), args := c.args.toList.toArray, argTypes := c.argTypes } := by cases c; simp only at hc ⊢; subst hc; rfl
      refine ⟨u, rfl, ?_⟩
      rw [hc']
      exact Y.ext e1 fun w => hX k _ u hu w
  · cases h
def emptyA : AV → Bool
  | .lit (.slice none 0 0) => true
  | .sl _ _ 0 _ => true
  | _ => false
def app0B (P : Program) (ro : List AH) (hp : AH) (af : AF) (c : Call) : Option AV :=
  match c.callee, c.args.toList, c.argTypes.toList with
  | .builtin .append, [x, y], [t, t'] => match Nat.beq t t', elemT P t with
    | true, some _ => (evalA af x).bind fun vx => (evalA af y).bind fun vy => match emptyA vy with
      | true => match vx with
        | .lit (.slice none 0 0) => some vx
        | .sl id _ q sk => match lookA hp ro id with
          | some (.row m _ _ _) => match Nat.ble (q + sk) m with
            | true => some vx
            | false => none
          | _ => none
        | _ => none
      | false => none
    | _, _ => none
  | _, _, _ => none
theorem app0B_ok (hf : FRel ρ af l) (hH : instH ρ hp = some its) (hR : RO w0 base ρ ro) {c : Call} (h : app0B P ro hp af c = some v) (ty : TypeId) : ∃ u, inst ρ v = some u ∧ Y P l (WA w0 base its) (.call c) ty u := by
  unfold app0B at h
  split at h
  · rename_i x y t t' hc ha hat
    split at h
    · rename_i q hb he
      obtain ⟨e, size, by', z⟩ := q
      obtain ⟨vx, hx, h⟩ := Option.bind_eq_some_iff.1 h
      obtain ⟨vy, hy, h⟩ := Option.bind_eq_some_iff.1 h
      have ht : t = t' := by simpa using hb
      subst ht
      obtain ⟨hEl, _, _⟩ := elemT_ok he
      obtain ⟨inf, _, hinf, _⟩ := hEl.ex
      have hc' : c = { callee := .builtin .append, args := #[x, y], argTypes := #[t, t] } := by
        cases c with
        | mk callee args ats =>
          simp only at hc ha hat ⊢
          subst hc
          obtain rfl : args = #[x, y] := Array.toList_inj.1 ha
          obtain rfl : ats = #[t, t] := Array.toList_inj.1 hat
          rfl
      split at h <;> try (cases h; done)
      rename_i hemp
      obtain ⟨ux, g1, g2⟩ := hf.eval hy
      have hbv : ux = .slice none 0 0 ∨ ∃ ad cp', ux = .slice (some ad) 0 cp' := by
        unfold emptyA at hemp
        split at hemp
        · exact .inl (inst_lit g2)
        · obtain ⟨p, _, rfl⟩ := inst_sl g2
          exact .inr ⟨_, _, rfl⟩
        · cases hemp
      split at h
      · cases h
        refine ⟨_, rfl, fun σ hσ o' ho ht w hw => ?_⟩
        obtain ⟨u, f1, f2⟩ := hf.eval hx
        obtain rfl := inst_lit f2
        have := run_append0 (P := P) hEl.ht ⟨inf, hinf⟩ rfl (g := none) (m := 0) (cp := 0) hbv (Nat.le_refl _) o'.type w
        rw [hc'] at ho
        simp [execOp, ho, resolve, invoke, builtin, hσ _ _ f1, hσ _ _ g1, this]
      · rename_i id off q sk _
        split at h <;> try (cases h; done)
        rename_i m' e' s' cs hl
        split at h <;> try (cases h; done)
        rename_i hb2
        cases h
        have hq : q + sk ≤ m' := by simpa using hb2
        obtain ⟨p, us, e1, _, _, e4⟩ := look_ok hH hR hl
        refine ⟨.slice (some ⟨p.1, off, none⟩) q (p.2 - sk), by unfold inst; rw [e1]; rfl, fun σ hσ o' ho ht w hw => ?_⟩
        have e3 := e4 _ _ _ _ rfl w hw
        obtain ⟨u, f1, f2⟩ := hf.eval hx
        obtain ⟨p', g3, rfl⟩ := inst_sl f2
        rw [e1] at g3; cases g3
        have := run_append0 (P := P) hEl.ht ⟨inf, hinf⟩ rfl (g := some ⟨p.1, off, none⟩) (m := q) (cp := p.2 - sk) hbv (by omega) o'.type w
        rw [hc'] at ho
        simp [execOp, ho, resolve, invoke, builtin, hσ _ _ f1, hσ _ _ g1, this]
      · cases h
    · cases h
  · cases h
def val4A (P : Program) (E : List (Nat × AV)) (ext : ExtF) (ro : List AH) (hp : AH) (af : AF) (o : Op) : Option AV :=
  match val3A P E ro hp af o with
  | some v => some v
  | none => match o with
    | .call c => match extB ext af c with
      | some v => some v
      | none => app0B P ro hp af c
    | _ => none
theorem val4A_ok (hX : ExtOk P ext) (hf : FRel ρ af l) (hH : instH ρ hp = some its) (hR : RO w0 base ρ ro) (hE : EE w0 base ρ E) {o : Op} {v : AV} (h : val4A P E ext ro hp af o = some v) (ty : TypeId) :
    ∃ u, inst ρ v = some u ∧ Y P l (WA w0 base its) o ty u := by
  unfold val4A at h
  cases hv : val3A P E ro hp af o with
  | some v' => rw [hv] at h; cases h; exact val3A_ok hf hH hR hE hv ty
  | none =>
    rw [hv] at h
    dsimp only at h
    split at h
    · rename_i c
      cases hx : extB ext af c with
      | some v' => rw [hx] at h; cases h; exact extB_ok hX hf hx _ ty
      | none => rw [hx] at h; exact app0B_ok hf hH hR h ty
    · cases h
/-! new memory -/
def new0 (P : Program) (hp : AH) (nx : Nat) : Op → Option (AV × AH)
  | .buildSlice t 0 parts => match parts.toList, elemT P t with
    | [], some (e, size, _, _) => some (.sl nx 0 0 0, (nx, .row 0 e size []) :: hp)
    | _, _ => none
  | .makeMap _ none => some (.mp nx, (nx, .mp [] [] [] 0) :: hp)
  | _ => none
theorem new0_ok (hf : FRel ρ af l) (hH : instH ρ hp = some its) (hF : Fresh ρ nx) (h : new0 P hp nx o.op = some (v, hp')) (hg : o.guard = none) (hd : o.dst = some d) (hdn : Nat.blt d n = true)
    (hk : Go.EX.Next P ops n D Q w0 base ρ hp' (nx + 1) v d l rest) : LX P ops n D (.plain Q) l (WA w0 base its) (o :: rest) := by
  unfold new0 at h
  split at h
  · rename_i t parts ho
    split at h
    · rename_i e size by' z hpt he
      cases h
      obtain ⟨hEl, hSz, _⟩ := elemT_ok he
      have hpt' : parts = #[] := Array.toList_inj.1 hpt
      subst hpt'
      refine LX.buildSlice (e := e) (size := size) (k := 0) (parts := []) (vals := []) ho rfl (fun w => ?_) (by simp [flat]) (by omega) hg hd hdn fun b => ?_
      · have h1 := run_underlying hEl.ht w
        have h2 := hSz w
        have h3 : Array.map (fun _ => (default : Value)) (Array.range 0) = #[] := by apply Array.eq_empty_of_size_eq_zero; simp
        simp [Instr.buildSlice, h1, h2, Instr.fill, flat, newRow, h3]
      exact hk _ _ _ (Ext.add hF b 0) (Fresh.add hF b 0) (by unfold inst; rw [rat_add]; rfl) (instH_mk (instI_mkrow (rat_add _ _ _ _) rfl) (instH_ext (Ext.add hF b 0) hH))
    · cases h
  · rename_i t ho
    cases h
    refine LX.effx (τ := Nat) (v := fun b => .map (some b)) (W' := fun b => WA w0 base (.obj b (.map #[] 0) :: its)) (fun σ hσ w hW => ⟨w.heap.size, w.alloc (.map #[] 0), ?_, hW.alloc _⟩) hg hd hdn fun b => ?_
    · simp [execOp, ho, Instr.makeMap, newObj, Sem.run]
    · have hi : instI (ρ.add nx b 0) nx (.mp [] [] [] 0) = some (.obj b (.map #[] 0)) := by
        dsimp only [instI]
        rw [rat_add]; rfl
      exact hk _ _ _ (Ext.add hF b 0) (Fresh.add hF b 0) (by unfold inst; rw [rat_add]; rfl) (instH_mk hi (instH_ext (Ext.add hF b 0) hH))
  · cases h
/-- a row is cut to the slice that something is put behind -/
def shrB (hp : AH) (a : Option AV) : AH :=
  match a with
  | some (.sl id 0 k 0) => match findA hp id 0 with
    | some (_, .row m e s cs) => match Nat.blt k m with
      | true => setH hp id (.row k e s (cs.take (k * s)))
      | false => hp
    | _ => hp
  | _ => hp
theorem shrB_ok (hH : instH ρ hp = some its) (a : Option AV) : ∃ its1, instH ρ (shrB hp a) = some its1 ∧ ∀ w, WA w0 base its w → WA w0 base its1 w := by
  unfold shrB
  split
  · rename_i id k
    split
    · rename_i i m e s cs hfd
      split
      · rename_i hb
        have hk : k < m := by simpa using hb
        obtain ⟨xi, _, hxs, hi⟩ := findA_ok hH hfd
        rw [Nat.sub_zero] at hxs
        obtain ⟨p, us, g1, g2, rfl⟩ := instI_row hi
        have e' := setH_ok hH hfd (instI_mkrow (ρ := ρ) (id := id) (n := k) (e := e) (s := s) g1 (instL_take (k * s) g2))
        rw [Nat.sub_zero] at e'
        exact ⟨_, e', fun w hw => hw.cut hxs (by omega)⟩
      · exact ⟨its, hH, fun _ h => h⟩
    · exact ⟨its, hH, fun _ h => h⟩
  · exact ⟨its, hH, fun _ h => h⟩
def new4A (P : Program) (ro : List AH) (hp : AH) (nx : Nat) (af : AF) (o : Op) : Option (AV × AH) :=
  match new2A P ro hp nx af o with
  | some r => some r
  | none => match o with
    | .call c => match c.callee, c.args.toList with
      | .builtin .append, [x, _] => appA P ro (shrB hp (evalA af x)) nx af c
      | _, _ => none
    | o => new0 P hp nx o
theorem new4A_ok (hf : FRel ρ af l) (hH : instH ρ hp = some its) (hR : RO w0 base ρ ro) (hF : Fresh ρ nx) (h : new4A P ro hp nx af o.op = some (v, hp')) (hg : o.guard = none) (hd : o.dst = some d) (hdn : Nat.blt d n = true)
    (hk : Go.EX.Next P ops n D Q w0 base ρ hp' (nx + 1) v d l rest) : LX P ops n D (.plain Q) l (WA w0 base its) (o :: rest) := by
  unfold new4A at h
  cases hn : new2A P ro hp nx af o.op with
  | some r => rw [hn] at h; cases h; exact new2A_ok hf hH hR hF hn hg hd hdn hk
  | none =>
    rw [hn] at h
    dsimp only at h
    split at h
    · rename_i c ho
      split at h
      · rename_i x y hc ha
        obtain ⟨its1, h1, h2⟩ := shrB_ok (w0 := w0) (base := base) hH (evalA af x)
        exact LX.world h2 (appA_ok hf h1 hR hF ho h hg hd hdn hk)
      · cases h
    · exact new0_ok hf hH hF h hg hd hdn hk
/-! a slice that is cut to nothing, and its length -/
def cutLenB (P : Program) (ro : List AH) (hp : AH) (n : Nat) (af : AF) (o : Oper) (rest : List Oper) : Option AF :=
  match o.op, o.dst, rest with
  | .slice t x (some y) none none, some d, o2 :: _ => match o2.op, o2.guard, o2.dst with
    | .call c, none, some d2 => match c.callee, c.args.toList, elemT P t with
      | .builtin .len, [.tmp d'], some _ => match evalA af x, evalA af y, (c.argTypes[0]?).bind P.underlying with
        | some (.sl id _ q sk), some (.lit (.int _ (.ofNat j))), some (.slice _) => match lookA hp ro id with
          | some (.row m _ _ _) => match Nat.beq d d' && (Nat.ble (q + sk) m && (Nat.ble j q && (Nat.blt d2 n && (getA (delA af d) d).isNone))) with
            | true => some (putA (delA af d) d2 (.lit (.int .i64 (.ofNat (q - j)))))
            | false => none
          | _ => none
        | _, _, _ => none
      | _, _, _ => none
    | _, _, _ => none
  | _, _, _ => none
theorem cutLenB_ok {af' : AF} (hf : FRel ρ af l) (hH : instH ρ hp = some its) (hR : RO w0 base ρ ro) (h : cutLenB P ro hp n af o rest = some af') (hw : ∀ a, Has n D a l → Region.wanted o (yielded ops a.tmps) = true) (hd : o.dst = some d) (hdn : Nat.blt d n = true) :
    ∃ o2 rest', rest = o2 :: rest' ∧ ((∀ l', FRel ρ af' l' → LX P ops n D (.plain Q) l' (WA w0 base its) rest') → LX P ops n D (.plain Q) l (WA w0 base its) (o :: rest)) := by
  unfold cutLenB at h
  split at h <;> try (cases h; done)
  rename_i t x y d0 o2 rest' ho hd0
  rw [hd] at hd0; cases hd0
  split at h <;> try (cases h; done)
  rename_i c d2 ho2 hg2 hd2
  split at h <;> try (cases h; done)
  rename_i d' q' hc ha he
  obtain ⟨e, size, by', z⟩ := q'
  split at h <;> try (cases h; done)
  rename_i id off q sk kk j e2 hx hy ht2
  split at h <;> try (cases h; done)
  rename_i m' em sm cs hl
  split at h <;> try (cases h; done)
  rename_i hb
  simp only [Bool.and_eq_true] at hb
  obtain ⟨b1, b2, b3, b4, b5⟩ := hb
  cases h
  have hdd : d = d' := by simpa using b1
  subst hdd
  have hq : q + sk ≤ m' := by simpa using b2
  have hj : j ≤ q := by simpa using b3
  obtain ⟨hEl, hSz, _⟩ := elemT_ok he
  obtain ⟨p, us, e1, _, _, e4⟩ := look_ok hH hR hl
  have e5 := e4 _ _ _ _ rfl
  refine ⟨o2, rest', rfl, fun hk => ?_⟩
  obtain ⟨ux, g1, g2⟩ := hf.eval hx
  obtain ⟨p', g3, rfl⟩ := inst_sl g2
  rw [e1] at g3; cases g3
  obtain ⟨uy, g4, g5⟩ := hf.eval hy
  obtain rfl := inst_lit g5
  refine LX.step1 (v := .slice (if p.2 - sk = j then some ⟨p.1, off, none⟩ else some ⟨p.1, off + j * size, none⟩) (q - j) (p.2 - sk - j)) hw ?_ hd hdn ?_
  · rw [ho]
    have h10 := Y.cutLo (W := WA w0 base its) (ty := o.type) hEl.ht hSz g1 g4 hj
    have : (if p.2 - sk = j then some ⟨p.1, off, none⟩ else Option.map (fun a : Addr => a.add (j * size)) (some ⟨p.1, off, none⟩)) = (if p.2 - sk = j then some (⟨p.1, off, none⟩ : Addr) else some ⟨p.1, off + j * size, none⟩) := by
      split <;> simp [Addr.add_lit]
    rw [this] at h10
    exact h10
  · have hc' : c = { callee := .builtin .len, args := #[.tmp d], argTypes := c.argTypes } := by
      cases c; simp only at hc ha ⊢; subst hc
      congr 1
      exact Array.toList_inj.1 ha
    obtain ⟨tt, t1, t2⟩ := Option.bind_eq_some_iff.1 ht2
    refine LX.step1 (v := .int .i64 ((q - j : Nat) : Int)) (fun a ha => wanted_none hg2) ?_ hd2 b4 ?_
    · rw [ho2, hc']
      exact Y.lenSl (l := (d, _) :: l) (x := .tmp d) (get_cons_same d _ l) t2 t1
    · refine hk _ fun i v hi => ?_
      by_cases hi2 : d2 = i
      · subst hi2
        rw [putA, getA_same] at hi
        cases hi
        exact ⟨_, get_cons_same _ _ _, rfl⟩
      · rw [putA, getA_ne _ _ hi2, getA_del _ _ _ hi2] at hi
        by_cases hi3 : d = i
        · subst hi3
          rw [hi] at b5; cases b5
        · rw [getA_del _ _ _ hi3] at hi
          obtain ⟨u', q1, q2⟩ := hf i v hi
          exact ⟨u', by rw [get_cons_ne _ _ hi2, get_cons_ne _ _ hi3]; exact q1, q2⟩
/-! operations in their own order -/
def deferB (af : AF) (c : Call) : Option (FuncId × List AV) :=
  match c.callee, c.args.toList with
  | .value x, [] => match evalA af x with
    | some (.fn (.func k) [] ys) => some (k, ys)
    | _ => none
  | _, _ => none
theorem LX.deferX {k : FuncId} {us : List Value} {c : Call} {fo : Operand} (ho : o.op = .defer c) (hc : c.callee = .value fo) (hca : c.args = #[]) (hv : evl l fo = some (.func (.func k) #[] us.toArray)) (hw : ∀ a, Has n D a l → Region.wanted o (yielded ops a.tmps) = true) (hd : o.dst = none)
    (hk : LX P ops n ({ target := .fn (.func k) us.toArray, args := #[] } :: D) (.plain Q) l W rest) : LX P ops n D (.plain Q) l W (o :: rest) := by
  intro a w ha hW
  unfold wpList
  rw [if_pos (hw a ha)]
  left
  unfold Oper.wp
  have : (execOp a.eval o).run P w = .ok (.defer { target := .fn (.func k) us.toArray, args := #[] }) w := by
    simp [execOp, ho, resolve, hc, hca, ha.eval _ _ hv, Deferred.ofValue]
  rw [this]
  simp only [Oper.upon, hd]
  exact hk _ w ⟨ha.size, by show _ :: a.defers = _; rw [ha.defs], ha.slot⟩ hW
def opsB (P : Program) (E : List (Nat × AV)) (ext : ExtF) (call : CallB) (n : Nat) (ro : List AH) (all : Array Oper) : List Oper → Bool → AF → DF → AH → Nat → Option (AF × DF × AH × Nat)
  | [], _, af, df, hp, nx => some (af, df, hp, nx)
  | o :: rest, skip, af, df, hp, nx => match skip with
    | true => opsB P E ext call n ro all rest false af df hp nx
    | false => match wantA all af o.guard with
      | none => none
      | some false => match o.dst with
        | some d => match Nat.blt d n with
          | true => opsB P E ext call n ro all rest false (putA af d (.lit (.tuple #[]))) df hp nx
          | false => none
        | none => none
      | some true => match o.dst with
        | some d => match Nat.blt d n with
          | false => none
          | true => match val4A P E ext ro hp af o.op with
            | some v => opsB P E ext call n ro all rest false (putA af d v) df hp nx
            | none => match new4A P ro hp nx af o.op with
              | some (v, hp') => opsB P E ext call n ro all rest false (putA af d v) df hp' (nx + 1)
              | none => match targetA af o.op with
                | some (k, as) => match call ro k as hp nx with
                  | some (v, hp', nx') => opsB P E ext call n ro all rest false (putA af d v) df hp' nx'
                  | none => none
                | none => match cutLenB P ro hp n af o rest with
                  | some af' => opsB P E ext call n ro all rest true af' df hp nx
                  | none => none
        | none => match o.op with
          | .store t x y => match storeA P hp af t x y with
            | some hp' => opsB P E ext call n ro all rest false af df hp' nx
            | none => none
          | .mapUpdate t x y z => match updB P hp af t x y z with
            | some hp' => opsB P E ext call n ro all rest false af df hp' nx
            | none => none
          | .defer c => match deferB af c with
            | some q => opsB P E ext call n ro all rest false af (q :: df) hp nx
            | none => none
          | _ => none
/-- what is to be shown where operations end -/
def EndB (n : Nat) (Q : Exit → Act → World → Prop) (w0 : World) (base : Nat) (ρ : Rho) (e : Exit) (af' : AF) (df' : DF) (hp' : AH) (nx' : Nat) : Prop :=
  ∀ ρ' l' its' D', Ext ρ ρ' → Fresh ρ' nx' → FRel ρ' af' l' → instH ρ' hp' = some its' → instD ρ' df' = some D' → PX n D' Q l' (WA w0 base its') e
theorem EndB.up {e : Exit} {af' : AF} {df' : DF} {nx' : Nat} {ρ' : Rho} (h : EndB n Q w0 base ρ e af' df' hp' nx') (he : Ext ρ ρ') : EndB n Q w0 base ρ' e af' df' hp' nx' := fun ρ2 l2 its2 D2 e2 => h ρ2 l2 its2 D2 (he.trans e2)
theorem opsB_ok (hX : ExtOk P ext) (hC : CallBOk P E call) : ∀ (rest : List Oper) {af : AF} {df : DF} {hp : AH} {nx : Nat} {af' : AF} {df' : DF} {hp' : AH} {nx' : Nat} {ρ : Rho} {l : Fr} {its : List It} {D : List Deferred},
    opsB P E ext call n ro ops rest false af df hp nx = some (af', df', hp', nx') → FRel ρ af l → instH ρ hp = some its → instD ρ df = some D → Fresh ρ nx → RO w0 base ρ ro → EE w0 base ρ E → EndB n Q w0 base ρ .normal af' df' hp' nx' →
    LX P ops n D (.plain Q) l (WA w0 base its) rest
  | [], af, df, hp, nx, af', df', hp', nx', ρ, l, its, D, h, hf, hH, hD, hF, hR, hE, hk => by
    cases h
    exact LX.next (hk ρ l its D (Ext.refl _) hF hf hH hD)
  | o :: rest, af, df, hp, nx, af', df', hp', nx', ρ, l, its, D, h, hf, hH, hD, hF, hR, hE, hk => by
    unfold opsB at h
    dsimp only at h
    split at h
    · cases h
    · rename_i hw
      have hw' := wantA_ok (n := n) (D := D) hf hw
      split at h
      · rename_i d hd
        split at h
        · rename_i hdn
          exact LX.skip1 hw' hd hdn (opsB_ok hX hC rest h (hf.put d rfl) hH hD hF hR hE hk)
        · cases h
      · cases h
    · rename_i hw
      have hw' := wantA_ok (n := n) (D := D) hf hw
      split at h
      · rename_i d hd
        split at h
        · cases h
        · rename_i hdn
          split at h
          · rename_i v hv
            obtain ⟨u, h1, h2⟩ := val4A_ok hX hf hH hR hE hv o.type
            exact LX.step1 hw' h2 hd hdn (opsB_ok hX hC rest h (hf.put d h1) hH hD hF hR hE hk)
          · split at h
            · rename_i v hp1 hv
              refine LX.unguard hw' ?_
              refine new4A_ok (o := { o with guard := none }) hf hH hR hF hv rfl hd hdn fun ρ' u its' e1 e2 e3 e4 => ?_
              exact opsB_ok hX hC rest h ((hf.ext e1).put d e3) e4 (instD_ext e1 _ _ hD) e2 (hR.ext e1) (hE.ext e1) (hk.up e1)
            · split at h
              · rename_i k as ht
                split at h
                · rename_i v hp1 nx1 hc
                  obtain ⟨hen, hcc⟩ := hC _ _ _ _ _ _ _ _ hc
                  obtain ⟨vs, h1, h2⟩ := targetA_ok (P := P) hf ht hen
                  refine LX.callE hw' h2 hd hdn (fun w hw => hcc w0 base ρ vs its hR hE hH h1 hF w hw) fun e w' he => ?_
                  obtain ⟨ρ', its', e1, e2, e3, e4, u, e5, rfl⟩ := he
                  exact .inl ⟨u, rfl, fun a ha => opsB_ok hX hC rest h ((hf.ext e1).put d e5) e3 (instD_ext e1 _ _ hD) e2 (hR.ext e1) (hE.ext e1) (hk.up e1) a w' ha e4⟩
                · cases h
              · split at h
                · rename_i af1 hcl
                  obtain ⟨o2, rest', rfl, hgo⟩ := cutLenB_ok (P := P) (ops := ops) (Q := Q) hf hH hR hcl hw' hd hdn
                  refine hgo fun l' hl' => ?_
                  unfold opsB at h
                  exact opsB_ok hX hC rest' h hl' hH hD hF hR hE hk
                · cases h
      · rename_i hd
        split at h
        · rename_i t x y ho
          split at h
          · rename_i hp1 hs
            refine LX.unguard hw' ?_
            exact storeA_ok (o := { o with guard := none }) hf hH ho hs rfl hd fun its' e => opsB_ok hX hC rest h hf e hD hF hR hE hk
          · cases h
        · rename_i t x y z ho
          split at h
          · rename_i hp1 hs
            refine LX.unguard hw' ?_
            exact updB_ok (o := { o with guard := none }) hf hH ho hs rfl hd fun its' e => opsB_ok hX hC rest h hf e hD hF hR hE hk
          · cases h
        · rename_i c ho
          split at h
          · rename_i q hq
            unfold deferB at hq
            split at hq <;> try (cases hq; done)
            rename_i fo hc hca
            split at hq <;> try (cases hq; done)
            rename_i k ys hv
            cases hq
            obtain ⟨u, h1, h2⟩ := hf.eval hv
            obtain ⟨xs, us, e1, e2, rfl⟩ := inst_fn h2
            cases e1
            refine LX.deferX ho hc (Array.toList_inj.1 hca) h1 hw' hd (opsB_ok hX hC rest h hf hH ?_ hF hR hE hk)
            unfold instD
            rw [e2, hD]; rfl
          · cases h
        · cases h
/-- operations in whatever order, where none changes what is known -/
def opsQB (P : Program) (E : List (Nat × AV)) (ext : ExtF) (call : CallB) (n : Nat) (ro : List AH) (all : Array Oper) (hp : AH) (nx : Nat) : List Oper → AF → Option AF
  | [], af => some af
  | o :: rest, af =>
    match wantA all af o.guard, o.dst with
    | some false, some d => match Nat.blt d n with
      | true => opsQB P E ext call n ro all hp nx rest (putA af d (.lit (.tuple #[])))
      | false => none
    | some true, some d => match Nat.blt d n with
      | false => none
      | true => match val4A P E ext ro hp af o.op with
        | some v => opsQB P E ext call n ro all hp nx rest (putA af d v)
        | none => match targetA af o.op with
          | some (k, as) => match call (hp :: ro) k as [] nx with
            | some (.lit u, _, _) => opsQB P E ext call n ro all hp nx rest (putA af d (.lit u))
            | _ => none
          | none => none
    | _, _ => none
theorem opsQB_ok (hX : ExtOk P ext) (hC : CallBOk P E call) (hH : instH ρ hp = some its) (hF : Fresh ρ nx) (hR : RO w0 base ρ ro) (hE : EE w0 base ρ E) {af' : AF} (hk : ∀ l', FRel ρ af' l' → PX n D Q l' (WA w0 base its) .normal) :
    ∀ (rest : List Oper) {af : AF} {l : Fr}, opsQB P E ext call n ro ops hp nx rest af = some af' → FRel ρ af l → LX P ops n D (.quiet (fun a' => ∀ w', WA w0 base its w' → Q .normal a' w')) l (WA w0 base its) rest
  | [], af, l, h, hf => by
    cases h
    exact LX.nextQ (hk l hf)
  | o :: rest, af, l, h, hf => by
    unfold opsQB at h
    split at h
    · rename_i d hw hd
      split at h
      · rename_i hdn
        exact LX.skip1 (wantA_ok hf hw) hd hdn (opsQB_ok hX hC hH hF hR hE hk rest h (hf.put d rfl))
      · cases h
    · rename_i d hw hd
      split at h
      · cases h
      · rename_i hdn
        split at h
        · rename_i v hv
          obtain ⟨u, h1, h2⟩ := val4A_ok hX hf hH hR hE hv o.type
          exact LX.step1 (wantA_ok hf hw) h2 hd hdn (opsQB_ok hX hC hH hF hR hE hk rest h (hf.put d h1))
        · split at h
          · rename_i k as ht
            split at h
            · rename_i u hp1 nx1 hc
              obtain ⟨hen, hcc⟩ := hC _ _ _ _ _ _ _ _ hc
              obtain ⟨vs, h1, h2⟩ := targetA_ok (P := P) hf ht hen
              have hrest := opsQB_ok hX hC hH hF hR hE hk rest h (hf.put d (v := .lit u) rfl)
              intro a ha
              unfold wpQuiet
              rw [if_pos (wantA_ok hf hw a ha)]
              refine ⟨u, fun w hW => ?_, by rw [hd]; exact hrest _ (ha.put hdn u)⟩
              unfold Oper.quietAt
              rw [h2 a.eval ha.eval w]
              refine ⟨rfl, (hcc w w.heap.size ρ vs [] (RO.push hH hR hW) (EE.push hE hW) rfl h1 hF w (WA.start w)).mono fun e w' he => ?_⟩
              obtain ⟨ρ', its', e1, e2, e3, e4, u', e5, rfl⟩ := he
              obtain rfl := inst_lit e5
              exact ⟨rfl, Stab.st w w' hW e4.below⟩
            · cases h
          · cases h
    · cases h
end
end Go.EB

namespace Go.EB
open Go.SX Go.EX Go.RowKit
section
variable {P : Program} {w0 : World} {base : Nat} {ρ ρ0 : Rho} {hp hp' : AH} {ro : List AH} {nx nx' : Nat} {its : List It} {E : List (Nat × AV)} {af : AF} {l : Fr} {ops : Array Oper} {n : Nat} {D : List Deferred} {Q : Exit → Act → World → Prop} {rest : List Oper} {o : Oper} {d i : Nat} {v : AV} {W S : World → Prop} {t : TypeId} {x y : Operand} {ext : ExtF} {call : CallB} {r : List (Nat × Kd)} {pend : List Nat} {u : Value} {F : Facts}
/-! regions whose order is drawn -/
def pureC (P : Program) (af : AF) (o : Op) : Option AV :=
  match pureA P af o with
  | some v => some v
  | none => match buildA P af o with
    | some v => some v
    | none => match o with
      | .field s x f => fieldB P af s x f
      | _ => none
theorem pureC_ok (hf : FRel ρ af l) {op : Op} (h : pureC P af op = some v) (W : World → Prop) (ty : TypeId) : ∃ u, inst ρ v = some u ∧ Y P l W op ty u := by
  unfold pureC at h
  split at h
  · rename_i v' hp'
    cases h
    exact pureA_ok hf hp' W ty
  · split at h
    · rename_i v' hb
      cases h
      exact buildA_ok hf hb W ty
    · split at h
      · exact fieldB_ok hf h W ty
      · cases h
def cellFactsS (id : Nat) : Nat → List AV → Facts
  | _, [] => []
  | off, v :: r => match sameA v v with
    | true => (id, off, v) :: cellFactsS id (off + 1) r
    | false => cellFactsS id (off + 1) r
/-- the cells that the frame's pointers lead to -/
def ptrFacts (hp : AH) (ro : List AH) : AF → Facts
  | [] => []
  | (_, v) :: r => match v with
    | .ptr id _ => match lookA hp ro id with
      | some (.obj cs _) => cellFactsS id 0 cs ++ ptrFacts hp ro r
      | _ => ptrFacts hp ro r
    | _ => ptrFacts hp ro r
def findF : Facts → Nat → Nat → Option AV
  | [], _, _ => none
  | (i, o, v) :: r, id, off => match Nat.beq i id && Nat.beq o off with
    | true => some v
    | false => findF r id off
theorem findF_mem : ∀ {F : Facts} {id off : Nat} {v : AV}, findF F id off = some v → (id, off, v) ∈ F
  | [], _, _, _, h => by cases h
  | (i, o, v') :: r, id, off, v, h => by
    unfold findF at h
    split at h
    · rename_i hb
      cases h
      simp only [Bool.and_eq_true] at hb
      have h1 : i = id := by simpa using hb.1
      have h2 : o = off := by simpa using hb.2
      subst h1; subst h2
      exact List.mem_cons_self
    · exact List.mem_cons_of_mem _ (findF_mem h)
def cellsF (F : Facts) (id : Nat) : Nat → Nat → Option (List AV)
  | _, 0 => some []
  | off, k + 1 => (findF F id off).bind fun v => (cellsF F id (off + 1) k).map fun cs => v :: cs
theorem cellsF_ok (hold : ∀ q ∈ F, ∃ p u, rat ρ0.blk q.1 = some p ∧ inst ρ0 q.2.2 = some u) (he : Ext ρ0 ρ) {id : Nat} {p : Nat × Nat} (hp : rat ρ.blk id = some p) : ∀ {k off : Nat} {cs : List AV}, cellsF F id off k = some cs →
    ∃ us, instL ρ cs = some us ∧ us.length = k ∧ ∀ w, Held base w0 ρ0 F w → ∀ j u, us[j]? = some u → w.cell? ⟨p.1, off + j, none⟩ = some u
  | 0, off, cs, h => by
    cases h
    exact ⟨[], rfl, rfl, fun w _ j u hj => by cases hj⟩
  | k + 1, off, cs, h => by
    unfold cellsF at h
    obtain ⟨v, h1, h⟩ := Option.bind_eq_some_iff.1 h
    cases hc : cellsF F id (off + 1) k with
    | none => rw [hc] at h; cases h
    | some cs' =>
      rw [hc] at h; cases h
      obtain ⟨us, e1, e2, e3⟩ := cellsF_ok hold he hp hc
      obtain ⟨p2, u, g1, g2⟩ := hold _ (findF_mem h1)
      have g3 := he.blk _ _ g1
      dsimp only at g3
      rw [hp] at g3; cases g3
      refine ⟨u :: us, instL_mk (inst_ext he _ _ g2) e1, by simp [e2], fun w hw j z hj => ?_⟩
      cases j with
      | zero =>
        simp only [List.getElem?_cons_zero, Option.some.injEq] at hj
        subst hj
        obtain ⟨p3, u3, q1, q2, q3⟩ := hw.2 _ (findF_mem h1)
        dsimp only at q1 q2 q3 g1 g2
        rw [g1] at q1; cases q1
        rw [g2] at q2; cases q2
        exact q3
      | succ j =>
        have := e3 w hw j z (by simpa using hj)
        rwa [show off + 1 + j = off + (j + 1) by omega] at this
/-- a read of what stays as it is -/
def heldB (P : Program) (E : List (Nat × AV)) (F : Facts) (af : AF) : Op → Option AV
  | .load t x => match evalA af x with
    | some (.ptr id off) => match oneT P t with
      | true => findF F id off
      | false => (aggT P t).bind fun k => (cellsF F id off k).map .agg
    | some (.lit (.pointer (some ⟨g, 0, none⟩))) => match oneT P t with
      | true => lookE E g
      | false => none
    | _ => none
  | _ => none
theorem heldB_ok (hold : ∀ q ∈ F, ∃ p u, rat ρ0.blk q.1 = some p ∧ inst ρ0 q.2.2 = some u) (he : Ext ρ0 ρ) (hf : FRel ρ af l) (hE : EE w0 base ρ E) {op : Op} (h : heldB P E F af op = some v) (ty : TypeId) :
    ∃ u, inst ρ v = some u ∧ Y P l (Held base w0 ρ0 F) op ty u := by
  unfold heldB at h
  split at h
  · rename_i t x
    split at h
    · rename_i id off hx
      obtain ⟨ux, h1, h2⟩ := hf.eval hx
      obtain ⟨p, hp', rfl⟩ := inst_ptr h2
      split at h
      · rename_i ht
        have hm := findF_mem h
        obtain ⟨p2, u, g1, g2⟩ := hold _ hm
        have g3 := he.blk _ _ g1
        dsimp only at g1 g2 g3
        rw [hp'] at g3; cases g3
        refine ⟨u, inst_ext he _ _ g2, Y.load (oneT_ok ht) h1 fun w hw => ?_⟩
        obtain ⟨p3, u3, q1, q2, q3⟩ := hw.2 _ hm
        dsimp only at q1 q2 q3
        rw [g1] at q1; cases q1
        rw [g2] at q2; cases q2
        exact q3
      · obtain ⟨k, hk, h⟩ := Option.bind_eq_some_iff.1 h
        cases hc : cellsF F id off k with
        | none => rw [hc] at h; cases h
        | some cs =>
          rw [hc] at h; cases h
          obtain ⟨us, e1, e2, e3⟩ := cellsF_ok (w0 := w0) (base := base) hold he hp' hc
          refine ⟨.agg us.toArray, by unfold inst; rw [e1]; rfl, Y.loadA (aggT_ok hk) e2 h1 fun w hw j uj hj => e3 w hw j uj hj⟩
    · rename_i g hx
      split at h
      · rename_i ht
        obtain ⟨ux, h1, h2⟩ := hf.eval hx
        obtain rfl := inst_lit h2
        obtain ⟨z, h3, h4, h5⟩ := hE g v h
        exact ⟨z, h3, Y.load (oneT_ok ht) h1 fun w hw => (hw.1.cell (p := ⟨g, 0, none⟩) h5).trans h4⟩
      · cases h
    · cases h
  · cases h
theorem CX.regionZ [hst : Stab W] {id : Nat} {lo : List Oper} (plan : List (Nat × Kd)) (hm : P.follows .mixedOrders = true) (hB : (Region.noSelect lo.toArray && planOk .any lo.toArray plan (Array.replicate lo.toArray.size false) && (plan.length == lo.toArray.size)) = true)
    (h : MY P lo.toArray n D (noPanic Q) S l W plan []) : CX P n D Q l W (.region id lo.toArray true) := by
  intro a w ha hW
  simp only [Bool.and_eq_true, beq_iff_eq] at hB
  refine wp_mono ?_ (noPanic_imp (Q := Q))
  refine wp_region_any hm (wpAny_of_M (S := S) _ _ [] _ _ ?_)
  have h1 := wpAnyM_plan (Q := noPanic Q) (S := S) hB.1.1 (fun _ _ _ _ _ h => h) plan _ [] a _ hB.1.2 (fun h => absurd rfl h) (h a _ ha (Stab.drew hW))
  rw [hB.2] at h1
  exact h1
theorem MY.lift0g (hi : ops[i]? = some o) (hw : ∀ a, Has n D a l → Region.wanted o (yielded ops a.tmps) = true) (hy : Y P l (fun _ => True) o.op o.type u) (hd : o.dst = some d) (hdn : Nat.blt d n = true)
    (h : MY P ops n D Q S ((d, u) :: l) W r pend) : MY P ops n D Q S l W ((i, .anywhere) :: r) pend := by
  intro a w ha hW
  refine ⟨o, u, hi, .inl ⟨hw a ha, fun w => hy a.eval ha.eval o rfl rfl w trivial⟩, ?_⟩
  rw [hd]; exact h _ _ (ha.put hdn u) hW
theorem MY.skip0 (hi : ops[i]? = some o) (hw : ∀ a, Has n D a l → Region.wanted o (yielded ops a.tmps) = false) (hd : o.dst = some d) (hdn : Nat.blt d n = true)
    (h : MY P ops n D Q S ((d, undef) :: l) W r pend) : MY P ops n D Q S l W ((i, .anywhere) :: r) pend := by
  intro a w ha hW
  refine ⟨o, undef, hi, .inr ⟨hw a ha, rfl⟩, ?_⟩
  rw [hd]; exact h _ _ (ha.put hdn undef) hW
theorem MY.lift1g (hi : ops[i]? = some o) (hWS : ∀ w, W w → S w) (hw : ∀ a, Has n D a l → Region.wanted o (yielded ops a.tmps) = true) (hy : Y P l S o.op o.type u) (hd : o.dst = some d) (hdn : Nat.blt d n = true)
    (h : MY P ops n D Q S ((d, u) :: l) W r (i :: still ops .any pend i)) : MY P ops n D Q S l W ((i, .held) :: r) pend := by
  intro a w ha hW
  refine ⟨hWS w hW, o, u, hi, .inl ⟨hw a ha, fun w hw => hy a.eval ha.eval o rfl rfl w hw⟩, ?_⟩
  rw [hd]; exact h _ _ (ha.put hdn u) hW
theorem MY.skip1 (hi : ops[i]? = some o) (hWS : ∀ w, W w → S w) (hw : ∀ a, Has n D a l → Region.wanted o (yielded ops a.tmps) = false) (hd : o.dst = some d) (hdn : Nat.blt d n = true)
    (h : MY P ops n D Q S ((d, undef) :: l) W r (i :: still ops .any pend i)) : MY P ops n D Q S l W ((i, .held) :: r) pend := by
  intro a w ha hW
  refine ⟨hWS w hW, o, undef, hi, .inr ⟨hw a ha, rfl⟩, ?_⟩
  rw [hd]; exact h _ _ (ha.put hdn undef) hW
def heldC (P : Program) (E : List (Nat × AV)) (F : Facts) (af : AF) (o : Op) : Option AV :=
  match heldB P E F af o with
  | some v => some v
  | none => pureC P af o
theorem heldC_ok (hold : ∀ q ∈ F, ∃ p u, rat ρ0.blk q.1 = some p ∧ inst ρ0 q.2.2 = some u) (he : Ext ρ0 ρ) (hf : FRel ρ af l) (hE : EE w0 base ρ E) {op : Op} (h : heldC P E F af op = some v) (ty : TypeId) :
    ∃ u, inst ρ v = some u ∧ Y P l (Held base w0 ρ0 F) op ty u := by
  unfold heldC at h
  split at h
  · rename_i v' hv
    cases h
    exact heldB_ok hold he hf hE hv ty
  · exact pureC_ok hf h _ ty
def isEffB : Op → Bool
  | .makeMap .. | .mapUpdate .. | .lookup .. | .defer _ => true
  | o => isEff o
/-- a plan: what waits for something that is read is held, too -/
def planGoB (ops : Array Oper) : Nat → Array Bool → List Nat → Option (List (Nat × Kd))
  | 0, _, _ => some []
  | k + 1, listed, pend => match Region.ready .any ops listed with
    | [] => some []
    | r => match r.find? fun i => !((ops[i]?).map fun o => isEffB o.op).getD true with
      | some i => match ((ops[i]?).map fun o => isHeld o.op).getD false || Nat.blt (still ops .any pend i).length pend.length with
        | true => (planGoB ops k (listed.setIfInBounds i true) (i :: still ops .any pend i)).map fun p => (i, .held) :: p
        | false => (planGoB ops k (listed.setIfInBounds i true) pend).map fun p => (i, .anywhere) :: p
      | none => match r with
        | [i] => (planGoB ops k (listed.setIfInBounds i true) (still ops .any pend i)).map fun p => (i, .alone) :: p
        | _ => none
def planB (ops : Array Oper) : Option (List (Nat × Kd)) := planGoB ops ops.size (Array.replicate ops.size false) []
/-- whether something is read still that must stay as it is -/
def needsB (r : List (Nat × Kd)) (pend : List Nat) : Bool := !pend.isEmpty || r.any fun q => match q.2 with | .held => true | _ => false
def postB (P : Program) (E : List (Nat × AV)) (ext : ExtF) (call : CallB) (n : Nat) (ro : List AH) (all : Array Oper) (F : Facts) : List (Nat × Kd) → List Nat → AF → DF → AH → Nat → Option (AF × DF × AH × Nat)
  | [], _, af, df, hp, nx => some (af, df, hp, nx)
  | (i, k) :: r, pend, af, df, hp, nx => match all[i]? with
    | none => none
    | some o => match k with
      | .alone => match opsB P E ext call n ro all [o] false af df hp nx with
        | some (af', df', hp', nx') => match needsB r (still all .any pend i) with
          | false => postB P E ext call n ro all F r (still all .any pend i) af' df' hp' nx'
          | true => match factsOk hp' ro F with
            | true => postB P E ext call n ro all F r (still all .any pend i) af' df' hp' nx'
            | false => none
        | none => none
      | .anywhere => match o.dst with
        | some d => match Nat.blt d n, wantA all af o.guard with
          | true, some true => match pureC P af o.op with
            | some v => postB P E ext call n ro all F r pend (putA af d v) df hp nx
            | none => none
          | true, some false => postB P E ext call n ro all F r pend (putA af d (.lit (.tuple #[]))) df hp nx
          | _, _ => none
        | none => none
      | .held => match o.dst with
        | some d => match Nat.blt d n, wantA all af o.guard with
          | true, some true => match heldC P E F af o.op with
            | some v => postB P E ext call n ro all F r (i :: still all .any pend i) (putA af d v) df hp nx
            | none => none
          | true, some false => postB P E ext call n ro all F r (i :: still all .any pend i) (putA af d (.lit (.tuple #[]))) df hp nx
          | _, _ => none
        | none => none
theorem needs_any (h : needsB r pend = true) : needsB ((i, .anywhere) :: r) pend = true := by
  unfold needsB at h ⊢
  simpa using h
theorem needs_held : needsB ((i, .held) :: r) pend = true := by
  unfold needsB
  simp
theorem postB_ok (hX : ExtOk P ext) (hC : CallBOk P E call) (hold : ∀ q ∈ F, ∃ p u, rat ρ0.blk q.1 = some p ∧ inst ρ0 q.2.2 = some u) : ∀ (plan : List (Nat × Kd)) {pend : List Nat} {af : AF} {df : DF} {hp : AH} {nx : Nat} {af' : AF} {df' : DF} {hp' : AH} {nx' : Nat} {ρ : Rho} {l : Fr} {its : List It} {D : List Deferred},
    postB P E ext call n ro ops F plan pend af df hp nx = some (af', df', hp', nx') → FRel ρ af l → instH ρ hp = some its → instD ρ df = some D → Fresh ρ nx → RO w0 base ρ ro → EE w0 base ρ E → Ext ρ0 ρ → (needsB plan pend = true → ∀ w, WA w0 base its w → Held base w0 ρ0 F w) → EndB n Q w0 base ρ .normal af' df' hp' nx' →
    MY P ops n D Q (Held base w0 ρ0 F) l (WA w0 base its) plan pend
  | [], pend, af, df, hp, nx, af', df', hp', nx', ρ, l, its, D, h, hf, hH, hD, hF, hR, hE, he, hS, hk => by
    cases h
    exact MY.done (hk ρ l its D (Ext.refl _) hF hf hH hD)
  | (i, k) :: pl, pend, af, df, hp, nx, af', df', hp', nx', ρ, l, its, D, h, hf, hH, hD, hF, hR, hE, he, hS, hk => by
    unfold postB at h
    split at h
    · cases h
    · rename_i o ho
      cases k with
      | alone =>
        dsimp only at h
        split at h
        · rename_i af1 df1 hp1 nx1 hop
          split at h
          · rename_i hnd
            refine MY.force ho (opsB_ok hX hC [o] hop hf hH hD hF hR hE fun ρ' l' its' D' e1 e2 e3 e4 e5 => ?_)
            intro a w ha hW
            refine ⟨fun hne => ?_, postB_ok hX hC hold pl h e3 e4 e5 e2 (hR.ext e1) (hE.ext e1) (he.trans e1) (fun h => by rw [hnd] at h; cases h) (hk.up e1) a w ha hW⟩
            unfold needsB at hnd
            cases hst : still ops .any pend i with
            | nil => exact absurd hst hne
            | cons x y => rw [hst] at hnd; simp at hnd
          · split at h <;> try (cases h; done)
            rename_i hfa
            refine MY.force ho (opsB_ok hX hC [o] hop hf hH hD hF hR hE fun ρ' l' its' D' e1 e2 e3 e4 e5 => ?_)
            intro a w ha hW
            have hS' : ∀ w, WA w0 base its' w → Held base w0 ρ0 F w := fun w hW => Held.back (he.trans e1) hold hW.below (factsOk_ok e4 (hR.ext e1) hW hfa)
            exact ⟨fun _ => hS' w hW, postB_ok hX hC hold pl h e3 e4 e5 e2 (hR.ext e1) (hE.ext e1) (he.trans e1) (fun _ => hS') (hk.up e1) a w ha hW⟩
        · cases h
      | anywhere =>
        dsimp only at h
        split at h
        · rename_i d hd
          split at h
          · rename_i hdn hw
            split at h
            · rename_i v hv
              obtain ⟨u, h1, h2⟩ := pureC_ok hf hv (fun _ => True) o.type
              exact MY.lift0g ho (wantA_ok hf hw) h2 hd hdn (postB_ok hX hC hold pl h (hf.put d h1) hH hD hF hR hE he (fun hn => hS (needs_any hn)) hk)
            · cases h
          · rename_i hdn hw
            exact MY.skip0 ho (wantA_ok hf hw) hd hdn (postB_ok hX hC hold pl h (hf.put d rfl) hH hD hF hR hE he (fun hn => hS (needs_any hn)) hk)
          · cases h
        · cases h
      | held =>
        dsimp only at h
        split at h
        · rename_i d hd
          split at h
          · rename_i hdn hw
            split at h
            · rename_i v hv
              obtain ⟨u, h1, h2⟩ := heldC_ok hold he hf hE hv o.type
              exact MY.lift1g ho (hS needs_held) (wantA_ok hf hw) h2 hd hdn (postB_ok hX hC hold pl h (hf.put d h1) hH hD hF hR hE he (fun _ => hS needs_held) hk)
            · cases h
          · rename_i hdn hw
            exact MY.skip1 ho (hS needs_held) (wantA_ok hf hw) hd hdn (postB_ok hX hC hold pl h (hf.put d rfl) hH hD hF hR hE he (fun _ => hS needs_held) hk)
          · cases h
        · cases h
/-- what is read ahead of all that changes memory -/
def gatherB (P : Program) (E : List (Nat × AV)) (ro : List AH) (hp : AH) (all : Array Oper) : List (Nat × Kd) → AF → Facts
  | [], _ => []
  | (i, k) :: r, af => match all[i]? with
    | none => []
    | some o => match k, o.dst with
      | .anywhere, some d => match wantA all af o.guard with
        | some true => match pureC P af o.op with
          | some v => gatherB P E ro hp all r (putA af d v)
          | none => []
        | _ => gatherB P E ro hp all r (putA af d (.lit (.tuple #[])))
      | .held, some d => match wantA all af o.guard with
        | some true => match heldA P E ro hp af o.op with
          | some (v, F) => F.filter (fun q => sameA q.2.2 q.2.2) ++ gatherB P E ro hp all r (putA af d v)
          | none => match pureC P af o.op with
            | some v => gatherB P E ro hp all r (putA af d v)
            | none => []
        | _ => gatherB P E ro hp all r (putA af d (.lit (.tuple #[])))
      | _, _ => []
/-- whether something is read behind what changes memory -/
def lateB (ops : Array Oper) : List (Nat × Kd) → Bool → Bool
  | [], _ => false
  | (i, k) :: r, seen => match k with
    | .alone => lateB ops r true
    | .held => (seen && ((ops[i]?).map fun o => isHeld o.op).getD false) || lateB ops r seen
    | .anywhere => lateB ops r seen
def factsB (P : Program) (E : List (Nat × AV)) (ro : List AH) (hp : AH) (all : Array Oper) (plan : List (Nat × Kd)) (af : AF) : Facts := gatherB P E ro hp all plan af ++ match lateB all plan false with | true => ptrFacts hp ro af | false => []
def mixB (P : Program) (E : List (Nat × AV)) (ext : ExtF) (call : CallB) (n : Nat) (ro : List AH) (ops : Array Oper) (af : AF) (df : DF) (hp : AH) (nx : Nat) : Option (AF × DF × AH × Nat) :=
  match planB ops with
  | some plan => match Region.noSelect ops && planOk .any ops plan (Array.replicate ops.size false) && (plan.length == ops.size) with
    | true => match factsOk hp ro (factsB P E ro hp ops plan af) with
      | true => postB P E ext call n ro ops (factsB P E ro hp ops plan af) plan [] af df hp nx
      | false => none
    | false => none
  | none => none
theorem factsOk_inst (hH : instH ρ hp = some its) (hR : RO w0 base ρ ro) : ∀ {F : Facts}, factsOk hp ro F = true → ∀ q ∈ F, ∃ p u, rat ρ.blk q.1 = some p ∧ inst ρ q.2.2 = some u
  | [], _, q, hq => by cases hq
  | (id, off, v) :: r, h, q, hq => by
    unfold factsOk at h
    simp only [Bool.and_eq_true] at h
    rcases List.mem_cons.1 hq with rfl | hq
    · have h1 := h.1
      split at h1
      · rename_i it hl
        split at h1
        · rename_i v' hv
          obtain rfl := sameA_ok h1
          obtain ⟨p, us, e1, e2, e3, _⟩ := look_ok hH hR hl
          obtain ⟨z, h3, h4⟩ := instL_get e2 hv
          exact ⟨p, z, e1, h4⟩
        · cases h1
      · cases h1
    · exact factsOk_inst hH hR h.2 q hq
theorem mixB_ok (hX : ExtOk P ext) (hC : CallBOk P E call) {id : Nat} {lo : List Oper} {df df' : DF} {af' : AF}
    (hm : P.follows .mixedOrders = true) (h : mixB P E ext call n ro lo.toArray af df hp nx = some (af', df', hp', nx')) (hf : FRel ρ af l) (hH : instH ρ hp = some its) (hD : instD ρ df = some D) (hF : Fresh ρ nx) (hR : RO w0 base ρ ro) (hE : EE w0 base ρ E) (hk : EndB n Q w0 base ρ .normal af' df' hp' nx') :
    CX P n D Q l (WA w0 base its) (.region id lo.toArray true) := by
  unfold mixB at h
  split at h
  · rename_i plan hpl
    split at h
    · rename_i hB
      split at h
      · rename_i hfa
        exact CX.regionZ plan hm hB (postB_ok hX hC (factsOk_inst hH hR hfa) plan h hf hH hD hF hR hE (Ext.refl _) (fun _ w hW => ⟨hW.below, factsOk_ok hH hR hW hfa⟩) (fun ρ' l' its' D' e1 e2 e3 e4 e5 => hk ρ' l' its' D' e1 e2 e3 e4 e5))
      · cases h
    · cases h
  · cases h
def loudB (o : Oper) : Bool :=
  match o.op with
  | .alloc _ | .box .. | .buildSlice .. | .store .. | .makeSlice .. | .makeMap .. | .mapUpdate .. => true
  | .call c => match c.callee with
    | .builtin .append => true
    | _ => false
  | _ => false
def regB (P : Program) (E : List (Nat × AV)) (ext : ExtF) (call : CallB) (n : Nat) (ro : List AH) (ops : Array Oper) (draw : Bool) (af : AF) (df : DF) (hp : AH) (nx : Nat) : Option (AF × DF × AH × Nat) :=
  match draw with
  | false => opsB P E ext call n ro ops ops.toList false af df hp nx
  | true => match ops.toList.any loudB with
    | true => mixB P E ext call n ro ops af df hp nx
    | false => match Region.lexB .any ops with
      | true => match opsQB P E ext call n ro ops hp nx ops.toList af with
        | some af' => some (af', df, hp, nx)
        | none => mixB P E ext call n ro ops af df hp nx
      | false => mixB P E ext call n ro ops af df hp nx
theorem regB_ok (hX : ExtOk P ext) (hC : CallBOk P E call) (hm : P.follows .mixedOrders = true) {id : Nat} {ops : Array Oper} {draw : Bool} {df df' : DF} {af' : AF} (h : regB P E ext call n ro ops draw af df hp nx = some (af', df', hp', nx')) (hf : FRel ρ af l) (hH : instH ρ hp = some its) (hD : instD ρ df = some D) (hF : Fresh ρ nx) (hR : RO w0 base ρ ro) (hE : EE w0 base ρ E)
    (hk : EndB n Q w0 base ρ .normal af' df' hp' nx') : CX P n D Q l (WA w0 base its) (.region id ops draw) := by
  obtain ⟨lo⟩ := ops
  unfold regB at h
  split at h
  · exact CX.region (opsB_ok hX hC lo h hf hH hD hF hR hE hk)
  · split at h
    · exact mixB_ok hX hC hm h hf hH hD hF hR hE hk
    · split at h
      · rename_i hB
        split at h
        · rename_i af1 hq
          cases h
          exact CX.regionQ hm hB (opsQB_ok hX hC hH hF hR hE (fun l' hl' => hk ρ l' its D (Ext.refl _) hF hl' hH hD) lo hq hf)
        · exact mixB_ok hX hC hm h hf hH hD hF hR hE hk
      · exact mixB_ok hX hC hm h hf hH hD hF hR hE hk
/-! code -/
inductive XB where
  | norm
  | exit (id : Nat)
  | ret
def XB.e : XB → Exit
  | .norm => .normal
  | .exit i => .exit i
  | .ret => .ret
abbrev StepB := AF → DF → AH → Nat → Option (XB × AF × DF × AH × Nat)
def loopB (step : StepB) : Nat → StepB
  | 0, _, _, _, _ => none
  | k + 1, af, df, hp, nx => match step af df hp nx with
    | some (.norm, af', df', hp', nx') => loopB step k af' df' hp' nx'
    | r => r
def codeB (P : Program) (E : List (Nat × AV)) (ext : ExtF) (call : CallB) (n : Nat) (ro : List AH) : Code → StepB
  | .skip => fun af df hp nx => some (.norm, af, df, hp, nx)
  | .region _ ops draw => fun af df hp nx => match regB P E ext call n ro ops draw af df hp nx with
    | some s => some (.norm, s)
    | none => none
  | .seq a b => fun af df hp nx => match codeB P E ext call n ro a af df hp nx with
    | some (.norm, af', df', hp', nx') => codeB P E ext call n ro b af' df' hp' nx'
    | r => r
  | .cond x a b => fun af df hp nx => match evalA af x with
    | some (.lit (.bool true)) => codeB P E ext call n ro a af df hp nx
    | some (.lit (.bool false)) => codeB P E ext call n ro b af df hp nx
    | _ => none
  | .block id c => fun af df hp nx => match codeB P E ext call n ro c af df hp nx with
    | some (.exit i, s) => match Nat.beq i id with
      | true => some (.norm, s)
      | false => some (.exit i, s)
    | r => r
  | .loop c => loopB (codeB P E ext call n ro c) 1000000
  | .exit id => fun af df hp nx => some (.exit id, af, df, hp, nx)
  | .ret => fun af df hp nx => some (.ret, af, df, hp, nx)
  | _ => fun _ _ _ _ => none
/-- a loop at its head -/
def LoopAt (P : Program) (c : Code) (Q : Exit → Act → World → Prop) (a : Act) (w : World) : Prop :=
  ∀ b k cs, ∃ e a' w', Q e a' w' ∧ Arrives P (lone (b.at a (.code c :: .inLoop c :: k)) cs w) b k cs e a' w'
theorem loopAt_wp {c : Code} {a : Act} {w : World} (h : LoopAt P c Q a w) : (Code.loop c).wp P Q a w := fun b k cs => by
  obtain ⟨e, a', w', hq, harr⟩ := h b k cs
  exact ⟨e, a', w', hq, .of_steps (.one step_loop) harr⟩
theorem loopAt_next {c : Code} {a : Act} {w : World} (h : c.wp P (Exit.then (fun a w => LoopAt P c Q a w) Q) a w) : LoopAt P c Q a w := by
  intro b k cs
  obtain ⟨e, a₁, w₁, hq, harr⟩ := h b (.inLoop c :: k) cs
  cases e with
  | normal =>
    obtain ⟨e₂, a₂, w₂, hq₂, harr₂⟩ := hq b k cs
    exact ⟨e₂, a₂, w₂, hq₂, .of_steps (Steps.trans harr (.one step_inLoop)) harr₂⟩
  | exit id => exact ⟨_, a₁, w₁, hq, .pass (x := .inLoop c) rfl (fun _ _ => .inl (by simp)) harr⟩
  | goto l => exact ⟨_, a₁, w₁, hq, .pass (x := .inLoop c) rfl (fun _ _ => .inl (by simp)) harr⟩
  | ret => exact ⟨_, a₁, w₁, hq, .pass (x := .inLoop c) rfl (fun _ _ => .inl (by simp)) harr⟩
  | panic ch => exact ⟨_, a₁, w₁, hq, .pass (x := .inLoop c) rfl (fun _ _ => .inl (by simp)) harr⟩
  | outgrown => exact ⟨_, a₁, w₁, hq, .pass (x := .inLoop c) rfl (fun _ _ => .inl (by simp)) harr⟩
theorem codeB_ok (hX : ExtOk P ext) (hC : CallBOk P E call) (hm : P.follows .mixedOrders = true) : ∀ (c : Code) {af : AF} {df : DF} {hp : AH} {nx : Nat} {r : XB} {af' : AF} {df' : DF} {hp' : AH} {nx' : Nat} {ρ : Rho} {l : Fr} {its : List It} {D : List Deferred} {Q : Exit → Act → World → Prop},
    codeB P E ext call n ro c af df hp nx = some (r, af', df', hp', nx') → FRel ρ af l → instH ρ hp = some its → instD ρ df = some D → Fresh ρ nx → RO w0 base ρ ro → EE w0 base ρ E → EndB n Q w0 base ρ r.e af' df' hp' nx' → CX P n D Q l (WA w0 base its) c := by
  intro c
  induction c with
  | skip =>
    intro af df hp nx r af' df' hp' nx' ρ l its D Q h hf hH hD hF hR hE hk
    unfold codeB at h
    cases h
    exact CX.skip (hk ρ l its D (Ext.refl _) hF hf hH hD)
  | region id ops draw =>
    intro af df hp nx r af' df' hp' nx' ρ l its D Q h hf hH hD hF hR hE hk
    unfold codeB at h
    cases hr : regB P E ext call n ro ops draw af df hp nx with
    | none => rw [hr] at h; cases h
    | some s =>
      rw [hr] at h
      cases h
      exact regB_ok hX hC hm hr hf hH hD hF hR hE hk
  | seq x y ihx ihy =>
    intro af df hp nx r af' df' hp' nx' ρ l its D Q h hf hH hD hF hR hE hk
    unfold codeB at h
    refine CX.seq ?_
    cases hx : codeB P E ext call n ro x af df hp nx with
    | none => rw [hx] at h; cases h
    | some q =>
      obtain ⟨o, af1, df1, hp1, nx1⟩ := q
      rw [hx] at h
      cases o with
      | norm => exact ihx hx hf hH hD hF hR hE fun ρ' l' its' D' e1 e2 e3 e4 e5 => PX.thenN (ihy h e3 e4 e5 e2 (hR.ext e1) (hE.ext e1) (hk.up e1))
      | exit i =>
        cases h
        exact ihx hx hf hH hD hF hR hE fun ρ' l' its' D' e1 e2 e3 e4 e5 => PX.thenE (hk ρ' l' its' D' e1 e2 e3 e4 e5)
      | ret =>
        cases h
        exact ihx hx hf hH hD hF hR hE fun ρ' l' its' D' e1 e2 e3 e4 e5 => PX.thenR (hk ρ' l' its' D' e1 e2 e3 e4 e5)
  | cond x a b iha ihb =>
    intro af df hp nx r af' df' hp' nx' ρ l its D Q h hf hH hD hF hR hE hk
    unfold codeB at h
    split at h
    · rename_i hx
      obtain ⟨u, h1, h2⟩ := hf.eval hx
      obtain rfl := inst_lit h2
      exact CX.cond h1 (fun _ => iha h hf hH hD hF hR hE hk) (fun hb => by cases hb)
    · rename_i hx
      obtain ⟨u, h1, h2⟩ := hf.eval hx
      obtain rfl := inst_lit h2
      exact CX.cond h1 (fun hb => by cases hb) (fun _ => ihb h hf hH hD hF hR hE hk)
    · cases h
  | block id x ih =>
    intro af df hp nx r af' df' hp' nx' ρ l its D Q h hf hH hD hF hR hE hk
    unfold codeB at h
    refine CX.block ?_
    cases hx : codeB P E ext call n ro x af df hp nx with
    | none => rw [hx] at h; cases h
    | some q =>
      obtain ⟨o, af1, df1, hp1, nx1⟩ := q
      rw [hx] at h
      cases o with
      | norm =>
        cases h
        exact ih hx hf hH hD hF hR hE fun ρ' l' its' D' e1 e2 e3 e4 e5 => PX.blockN (hk ρ' l' its' D' e1 e2 e3 e4 e5)
      | exit i =>
        dsimp only at h
        split at h
        · rename_i hb
          cases h
          have : i = id := by simpa using hb
          subst this
          exact ih hx hf hH hD hF hR hE fun ρ' l' its' D' e1 e2 e3 e4 e5 => PX.blockE (hk ρ' l' its' D' e1 e2 e3 e4 e5)
        · rename_i hb
          cases h
          exact ih hx hf hH hD hF hR hE fun ρ' l' its' D' e1 e2 e3 e4 e5 => PX.blockO hb (hk ρ' l' its' D' e1 e2 e3 e4 e5)
      | ret =>
        cases h
        exact ih hx hf hH hD hF hR hE fun ρ' l' its' D' e1 e2 e3 e4 e5 => PX.blockR (hk ρ' l' its' D' e1 e2 e3 e4 e5)
  | loop x ih =>
    intro af df hp nx r af' df' hp' nx' ρ l its D Q h hf hH hD hF hR hE hk
    unfold codeB at h
    have key : ∀ (k : Nat) {af : AF} {df : DF} {hp : AH} {nx : Nat} {ρ : Rho} {l : Fr} {its : List It} {D : List Deferred}, loopB (codeB P E ext call n ro x) k af df hp nx = some (r, af', df', hp', nx') → FRel ρ af l → instH ρ hp = some its → instD ρ df = some D → Fresh ρ nx → RO w0 base ρ ro → EE w0 base ρ E → EndB n Q w0 base ρ r.e af' df' hp' nx' →
        ∀ a w, Has n D a l → WA w0 base its w → LoopAt P x Q a w := by
      intro k
      induction k with
      | zero => intro af df hp nx ρ l its D h; cases h
      | succ k ihk =>
        intro af df hp nx ρ l its D h hf hH hD hF hR hE hk a w ha hW
        unfold loopB at h
        refine loopAt_next ?_
        cases hx : codeB P E ext call n ro x af df hp nx with
        | none => rw [hx] at h; cases h
        | some q =>
          obtain ⟨o, af1, df1, hp1, nx1⟩ := q
          rw [hx] at h
          have fin : ∀ (K : EndB n (Exit.then (fun a w => LoopAt P x Q a w) Q) w0 base ρ o.e af1 df1 hp1 nx1), x.wp P (Exit.then (fun a w => LoopAt P x Q a w) Q) a w := fun K => ih hx hf hH hD hF hR hE K a w ha hW
          cases o with
          | norm => exact fin fun ρ' l' its' D' e1 e2 e3 e4 e5 a' w' ha' hW' => ihk h e3 e4 e5 e2 (hR.ext e1) (hE.ext e1) (hk.up e1) a' w' ha' hW'
          | exit i => cases h; exact fin fun ρ' l' its' D' e1 e2 e3 e4 e5 => PX.thenE (hk ρ' l' its' D' e1 e2 e3 e4 e5)
          | ret => cases h; exact fin fun ρ' l' its' D' e1 e2 e3 e4 e5 => PX.thenR (hk ρ' l' its' D' e1 e2 e3 e4 e5)
    exact fun a w ha hW => loopAt_wp (key _ h hf hH hD hF hR hE hk a w ha hW)
  | exit id =>
    intro af df hp nx r af' df' hp' nx' ρ l its D Q h hf hH hD hF hR hE hk
    unfold codeB at h
    cases h
    exact CX.exit (hk ρ l its D (Ext.refl _) hF hf hH hD)
  | ret =>
    intro af df hp nx r af' df' hp' nx' ρ l its D Q h hf hH hD hF hR hE hk
    unfold codeB at h
    cases h
    exact CX.ret (hk ρ l its D (Ext.refl _) hF hf hH hD)
  | _ => intro af df hp nx r af' df' hp' nx' ρ l its D Q h; unfold codeB at h; cases h
end
end Go.EB

namespace Go.EB
open Go.SX Go.EX Go.RowKit
def resV (P : Program) (E : List (Nat × AV)) (ro : List AH) (hp : AH) (af : AF) : ResultVar → Option AV
  | .tmp r => getA af r
  | .cell a t => valA P E ro hp af (.load t (.tmp a))
def resL (P : Program) (E : List (Nat × AV)) (ro : List AH) (hp : AH) (af : AF) : List ResultVar → Option (List AV)
  | [] => some []
  | r :: rs => (resV P E ro hp af r).bind fun v => (resL P E ro hp af rs).map fun vs => v :: vs
def resA (P : Program) (E : List (Nat × AV)) (ro : List AH) (hp : AH) (af : AF) (rs : List ResultVar) : Option AV :=
  (resL P E ro hp af rs).map fun vs => match vs with
    | [v] => v
    | vs => .tup vs
def frameOf : Nat → List AV → AF
  | _, [] => []
  | k, v :: r => (k, v) :: frameOf (k + 1) r
/-- what a small machine knows of a program -/
structure CfgB where
  code : FuncId → Option Func
  E : List (Nat × AV)
  ext : ExtF
  scrub : FuncId → Bool
/-- a closure that asks first what was thrown -/
def asksFirst : Code → Option (Nat × Nat × Code)
  | .seq (.region _ ops false) cd => match ops.toList with
    | [o1, o2] => match o1.op, o1.dst, o1.guard with
      | .call c, some d1, none => match c.callee, c.args.toList with
        | .builtin .recover, [] => match o2.op, o2.dst, o2.guard with
          | .assign (.tmp d1'), some d2, none => match Nat.beq d1 d1' with
            | true => some (d1, d2, cd)
            | false => none
          | _, _, _ => none
        | _, _ => none
      | _, _, _ => none
    | _ => none
  | _ => none
/-- deferred calls, where nothing was thrown -/
def leaveB (P : Program) (C : CfgB) (call : CallB) (ro : List AH) : DF → AH → Nat → Option (AH × Nat)
  | [], hp, nx => some (hp, nx)
  | [(k, ys)], hp, nx => match C.code k with
    | none => none
    | some fn => match fn.body with
      | none => none
      | some c => match asksFirst c with
        | none => none
        | some (d1, d2, cd) => match Nat.ble ys.length fn.ntmps && (Nat.blt d1 fn.ntmps && Nat.blt d2 fn.ntmps), fn.results.toList with
          | true, [] => match codeB P C.E C.ext call fn.ntmps ro cd ((d2, .lit .nilIface) :: (d1, .lit .nilIface) :: frameOf 0 ys) [] hp nx with
            | some (.norm, _, [], hp', nx') => some (hp', nx')
            | _ => none
          | _, _ => none
  | _, _, _ => none
def endB (P : Program) (C : CfgB) (call : CallB) (ro : List AH) (f : FuncId) (fn : Func) (hp : AH) (af1 : AF) (df1 : DF) (hp1 : AH) (nx1 : Nat) : Option (AV × AH × Nat) :=
  match leaveB P C call ro df1 hp1 nx1 with
  | none => none
  | some (hp2, nx2) => (resA P C.E ro hp2 af1 fn.results.toList).map fun v => (v, match C.scrub f with | true => hp2.drop (hp2.length - hp.length) | false => hp2, nx2)
def callB (P : Program) (C : CfgB) : Nat → CallB
  | 0 => fun _ _ _ _ _ => none
  | d + 1 => fun ro f args hp nx => match C.code f with
    | none => none
    | some fn => match fn.body with
      | none => none
      | some c => match Nat.ble args.length fn.ntmps with
        | false => none
        | true => match codeB P C.E C.ext (callB P C d) fn.ntmps ro c (frameOf 0 args) [] hp nx with
          | some (.norm, af1, df1, hp1, nx1) => endB P C (callB P C d) ro f fn hp af1 df1 hp1 nx1
          | some (.ret, af1, df1, hp1, nx1) => endB P C (callB P C d) ro f fn hp af1 df1 hp1 nx1
          | _ => none
structure CfgB.Ok (P : Program) (C : CfgB) : Prop where
  orders : P.follows .mixedOrders = true
  code : ∀ f fn, C.code f = some fn → P.funcs[f]? = some fn ∧ (fn.name == "runtime.NumGoroutine") = false
  ext : ExtOk P C.ext
section
variable {P : Program} {C : CfgB} {w0 : World} {base : Nat} {ρ : Rho} {hp hp' : AH} {ro : List AH} {nx nx' : Nat} {its : List It} {E : List (Nat × AV)} {af af' : AF} {l l' : Fr} {n : Nat} {D : List Deferred} {a : Act} {w : World}
theorem frameOf_ok {vs : List AV} {us : List Value} (h : instL ρ vs = some us) : ∀ (k : Nat), FRel ρ (frameOf k vs) (argFr k us) := by
  induction vs generalizing us with
  | nil => intro k i v hv; cases hv
  | cons x r ih =>
    obtain ⟨u, us', rfl, h1, h2⟩ := instL_cons h
    intro k i v hv
    by_cases hi : k = i
    · subst hi
      unfold frameOf at hv
      rw [getA_same] at hv
      cases hv
      exact ⟨u, by unfold argFr; rw [get_cons_same], h1⟩
    · unfold frameOf at hv
      rw [getA_ne _ _ hi] at hv
      obtain ⟨u', e1, e2⟩ := ih h2 (k + 1) i v hv
      exact ⟨u', by unfold argFr; rw [get_cons_ne _ _ hi]; exact e1, e2⟩
theorem run_bindv_inv {s : Sem Value} {v : Value} {w : World} (h : ((do pure (.value (← s))) : Sem Go.Next).run P w = .ok (.value v) w) : s.run P w = .ok v w := by
  rw [Sem.run_bind] at h
  cases hs : s.run P w with
  | ok u w' =>
    rw [hs] at h
    simp only [Result.andThen_ok, Sem.run_pure, Result.ok.injEq, Go.Next.value.injEq] at h
    rw [h.1, h.2]
  | halt e w' => rw [hs] at h; cases h
def resS (tmps : Array Value) : ResultVar → Sem Value
  | .tmp t => pure (tmps.getD t undef)
  | .cell x t => do loadVar t (← asAddr (tmps.getD x undef))
theorem results_eq (fn : Func) (tmps : Array Value) : results fn tmps = (do let vs ← fn.results.mapM (resS tmps); pure (if h : vs.size = 1 then vs[0] else .tuple vs)) := by
  unfold results
  congr 1
theorem resV_ok (hf : FRel ρ af l) (hH : instH ρ hp = some its) (hR : RO w0 base ρ ro) (hE : EE w0 base ρ E) {r : ResultVar} {v : AV} (h : resV P E ro hp af r = some v) (ha : Has n D a l) (hw : WA w0 base its w) :
    ∃ u, inst ρ v = some u ∧ (resS a.tmps r).run P w = .ok u w := by
  cases r with
  | tmp t =>
    obtain ⟨u, h1, h2⟩ := hf t v h
    exact ⟨u, h2, by simp [resS, getD_of ha h1]⟩
  | cell x t =>
    obtain ⟨u, h1, h2⟩ := valA_ok (o := .load t (.tmp x)) hf hH hR hE h 0
    refine ⟨u, h1, ?_⟩
    have h3 := h2 a.eval ha.eval { dst := none, op := .load t (.tmp x), type := 0, pos := "", after := #[], guard := none } rfl rfl w hw
    have h4 : (Instr.loadAt t (a.eval (.tmp x))).run P w = .ok u w := run_bindv_inv h3
    have h5 : a.eval (.tmp x) = a.tmps.getD x undef := rfl
    rw [h5] at h4
    cases hv : a.tmps.getD x undef with
    | pointer p =>
      rw [hv] at h4
      dsimp only [resS]
      rw [hv]
      cases p with
      | none => cases h4
      | some p => simpa [Instr.loadAt, Instr.sureAddr, asAddr] using h4
    | _ => rw [hv] at h4; cases h4
theorem resA_ok (hf : FRel ρ af l) (hH : instH ρ hp = some its) (hR : RO w0 base ρ ro) (hE : EE w0 base ρ E) {fn : Func} {v : AV} (h : resA P E ro hp af fn.results.toList = some v) (ha : Has n D a l) (hw : WA w0 base its w) :
    ∃ u, inst ρ v = some u ∧ (results fn a.tmps).run P w = .ok u w := by
  have key : ∀ (rs : List ResultVar) {vs : List AV}, resL P E ro hp af rs = some vs → ∃ us, instL ρ vs = some us ∧ (rs.mapM (resS a.tmps)).run P w = .ok us w := by
    intro rs
    induction rs with
    | nil => intro vs h; cases h; exact ⟨[], rfl, by simp⟩
    | cons r rs ih =>
      intro vs h
      unfold resL at h
      obtain ⟨v, hv, h⟩ := Option.bind_eq_some_iff.1 h
      cases hr : resL P E ro hp af rs with
      | none => rw [hr] at h; cases h
      | some vs' =>
        rw [hr] at h; cases h
        obtain ⟨u, e1, e2⟩ := resV_ok hf hH hR hE hv ha hw
        obtain ⟨us, e3, e4⟩ := ih hr
        refine ⟨u :: us, instL_mk e1 e3, ?_⟩
        rw [List.mapM_cons, Sem.run_bind, e2, Result.andThen_ok, Sem.run_bind, e4, Result.andThen_ok, Sem.run_pure]
  unfold resA at h
  cases hl : resL P E ro hp af fn.results.toList with
  | none => rw [hl] at h; cases h
  | some vs =>
    rw [hl] at h
    obtain ⟨us, e1, e2⟩ := key _ hl
    have e3 : (results fn a.tmps).run P w = .ok (if h : us.toArray.size = 1 then us.toArray[0] else .tuple us.toArray) w := by
      rw [results_eq, Array.mapM_eq_mapM_toList, Sem.run_bind, Sem.run_map, e2]
      rfl
    cases vs with
    | nil =>
      cases e1; cases h
      exact ⟨.tuple #[], by unfold inst; rfl, by rw [e3]; rfl⟩
    | cons x r =>
      obtain ⟨u, us', rfl, g1, g2⟩ := instL_cons e1
      cases r with
      | nil =>
        cases g2; cases h
        exact ⟨u, g1, by rw [e3]; rfl⟩
      | cons y r' =>
        cases h
        refine ⟨.tuple (u :: us').toArray, by unfold inst; rw [e1]; rfl, ?_⟩
        rw [e3, dif_neg]
        have := instL_len g2
        simp at this ⊢
        intro hn
        subst hn
        simp at this
theorem dropH_all {ρ : Rho} : ∀ (k : Nat) {hp : AH} {xs : List It}, instH ρ hp = some xs → instH ρ (hp.drop k) = some (xs.drop k)
  | 0, hp, xs, h => h
  | k + 1, [], xs, h => by cases h; rfl
  | k + 1, (id, it) :: r, xs, h => by
    obtain ⟨x, xs', rfl, _, h2⟩ := instH_cons h
    exact dropH_all k h2
theorem asksFirst_ok {c cd : Code} {d1 d2 : Nat} (h : asksFirst c = some (d1, d2, cd)) : ∃ rid t1 t2 ps1 ps2 as1 as2 ats, c = .seq (.region rid #[{ dst := some d1, op := .call { callee := .builtin .recover, args := #[], argTypes := ats }, type := t1, pos := ps1, after := as1, guard := none }, { dst := some d2, op := .assign (.tmp d1), type := t2, pos := ps2, after := as2, guard := none }] false) cd := by
  unfold asksFirst at h
  split at h <;> try (cases h; done)
  rename_i rid ops cd'
  split at h <;> try (cases h; done)
  rename_i o1 o2 hl
  split at h <;> try (cases h; done)
  rename_i cl d1' h1 h2 h3
  split at h <;> try (cases h; done)
  rename_i hc ha
  split at h <;> try (cases h; done)
  rename_i q d2' h4 h5 h6
  split at h <;> try (cases h; done)
  rename_i hb
  cases h
  have e : d1 = q := by simpa using hb
  subst e
  obtain rfl : ops = #[o1, o2] := Array.toList_inj.1 hl
  obtain ⟨b1, b2, b3, b4, b5, b6⟩ := o1
  obtain ⟨c1, c2, c3, c4, c5, c6⟩ := o2
  obtain ⟨k1, k2, k3⟩ := cl
  simp only at h1 h2 h3 h4 h5 h6 hc ha
  subst h1; subst h2; subst h3; subst h4; subst h5; subst h6; subst hc
  obtain rfl : k2 = #[] := Array.toList_inj.1 ha
  exact ⟨_, _, _, _, _, _, _, _, rfl⟩
theorem getF_two {us : List Value} {d1 d2 : Nat} (z : Value) (h1 : d1 < n) (h2 : d2 < n) (hl : us.length ≤ n) : Has n [] (({ tmps := us.toArray ++ Array.replicate (n - us.toArray.size) undef, defers := [] } : Act).put (some d1) z |>.put (some d2) z) ((d2, z) :: (d1, z) :: argFr 0 us) := by
  have hH : Has n [] { tmps := us.toArray ++ Array.replicate (n - us.toArray.size) undef, defers := [] } (argFr 0 us) := by
    refine ⟨by simp; omega, rfl, fun i v hi => ?_⟩
    obtain ⟨_, h2⟩ := get_argFr us 0 i v hi
    have hlt : i < us.length := (List.getElem?_eq_some_iff.1 h2).1
    rw [Array.getElem?_append_left (by simpa using hlt)]
    simpa using h2
  exact (hH.put (by simpa using h1) z).put (by simpa using h2) z
theorem FRel.consB {af : AF} (h : FRel ρ af l) {v : AV} {u : Value} (d : Nat) (hv : inst ρ v = some u) : FRel ρ ((d, v) :: af) ((d, u) :: l) := fun i x hx => by
  by_cases hi : d = i
  · subst hi
    rw [getA_same] at hx
    cases hx
    exact ⟨u, get_cons_same _ _ _, hv⟩
  · rw [getA_ne _ _ hi] at hx
    obtain ⟨u', h1, h2⟩ := h i x hx
    exact ⟨u', by rw [get_cons_ne _ _ hi]; exact h1, h2⟩
/-- a deferred call, where nothing was thrown -/
theorem asks_ok (hO : C.Ok P) {call : CallB} (hC : CallBOk P C.E call) {k : FuncId} {fn : Func} {ys : List AV} {us : List Value} {c cd : Code} {d1 d2 : Nat} {af1 : AF} (hfn : C.code k = some fn) (hb : fn.body = some c) (hc : asksFirst c = some (d1, d2, cd))
    (hlen : Nat.ble ys.length fn.ntmps = true) (hd1 : Nat.blt d1 fn.ntmps = true) (hd2 : Nat.blt d2 fn.ntmps = true) (hr : fn.results.toList = []) (hgo : codeB P C.E C.ext call fn.ntmps ro cd ((d2, .lit .nilIface) :: (d1, .lit .nilIface) :: frameOf 0 ys) [] hp nx = some (.norm, af1, [], hp', nx'))
    (hH : instH ρ hp = some its) (hF : Fresh ρ nx) (hR : RO w0 base ρ ro) (hE : EE w0 base ρ C.E) (hA : instL ρ ys = some us) (hW : WA w0 base its w) :
    CallsD P k us.toArray .returning w fun e u2 w' => e = .returned (.tuple #[]) ∧ u2 = .returning ∧ ∃ ρ' its', Ext ρ ρ' ∧ Fresh ρ' nx' ∧ instH ρ' hp' = some its' ∧ WA w0 base its' w' := by
  obtain ⟨hPf, hname⟩ := hO.code k fn hfn
  have hvl := instL_len hA
  have hlen' : us.length ≤ fn.ntmps := by rw [hvl]; simpa using hlen
  have hd1' : d1 < fn.ntmps := by simpa using hd1
  have hd2' : d2 < fn.ntmps := by simpa using hd2
  obtain ⟨rid, t1, t2, ps1, ps2, as1, as2, ats, rfl⟩ := asksFirst_ok hc
  refine callsD_of_wpS hPf hb fun c₀ cs hm => ?_
  have hrec : recoverD (c₀ :: cs) = none := by simp [recoverD, hm]
  apply wpS_seq
  apply wpS_region
  have hcv : CX P fn.ntmps [] (fun e a w => e = .normal ∧ a.defers = [] ∧ ∃ ρ' its', Ext ρ ρ' ∧ Fresh ρ' nx' ∧ instH ρ' hp' = some its' ∧ WA w0 base its' w) ((d2, .nilIface) :: (d1, .nilIface) :: argFr 0 us) (WA w0 base its) cd :=
    codeB_ok hO.ext hC hO.orders cd hgo (FRel.consB (FRel.consB (frameOf_ok hA 0) d1 rfl) d2 rfl) hH (D := []) rfl hF hR hE fun ρ' l' its' D' e1 e2 e3 e4 e5 a w' ha hW' => by
      cases e5
      exact ⟨rfl, ha.defs, ρ', its', e1, e2, e4, hW'⟩
  have fin : cd.wpS P (bodyPostS P fn c₀ cs fun e u2 w' => e = .returned (.tuple #[]) ∧ u2 = .returning ∧ ∃ ρ' its', Ext ρ ρ' ∧ Fresh ρ' nx' ∧ instH ρ' hp' = some its' ∧ WA w0 base its' w')
      (({ tmps := us.toArray ++ Array.replicate (fn.ntmps - us.toArray.size) undef, defers := [] } : Act).put (some d1) .nilIface |>.put (some d2) .nilIface) (c₀ :: cs) w := by
    refine wpS_of_wp (wp_mono (hcv _ w (getF_two .nilIface hd1' hd2' hlen') hW) fun e a' w' he => ?_)
    obtain ⟨rfl, hd, hx⟩ := he
    refine ⟨hd, .returning, ?_, .tuple #[], results_none (Array.toList_inj.1 hr) _ P w', rfl, rfl, hx⟩
    cases c₀; simp_all
  have e1 : ∀ (a : Act), (execOp a.eval { dst := some d1, op := .call { callee := .builtin .recover, args := #[], argTypes := ats }, type := t1, pos := ps1, after := as1, guard := none }).run P w = .ok .recover w := fun a => by rfl
  show wpOpsS P _ _ [0, 1] _ _ _
  unfold wpOpsS
  simp only [List.size_toArray, List.length_cons, List.length_nil, List.getElem?_toArray, List.getElem?_cons_zero, Region.wanted, if_true, e1]
  have ev : ((({ tmps := us.toArray ++ Array.replicate (fn.ntmps - us.toArray.size) undef, defers := [] } : Act).put (some d1) .nilIface).eval (.tmp d1)) = .nilIface := by
    have hH : Has fn.ntmps [] { tmps := us.toArray ++ Array.replicate (fn.ntmps - us.toArray.size) undef, defers := [] } [] := ⟨by simp; omega, rfl, fun i v hi => by cases hi⟩
    exact (hH.put hd1 .nilIface).eval _ _ (get_cons_same _ _ _)
  have e2 : (execOp (({ tmps := us.toArray ++ Array.replicate (fn.ntmps - us.toArray.size) undef, defers := [] } : Act).put (some d1) .nilIface).eval { dst := some d2, op := .assign (.tmp d1), type := t2, pos := ps2, after := as2, guard := none }).run P w = .ok (.value .nilIface) w := by
    simp only [execOp, ev]; rfl
  simp only [List.size_toArray] at fin ev e2
  rw [hrec]
  unfold wpOpsS
  simp only [List.getElem?_toArray, List.getElem?_cons_succ, List.getElem?_cons_zero, Region.wanted, if_true, e2]
  simp only [Oper.upon]
  unfold wpOpsS
  exact fin
theorem callB_ok (hO : C.Ok P) : ∀ d, CallBOk P C.E (callB P C d)
  | 0 => fun ro f args hp nx v hp' nx' h => by cases h
  | d + 1 => fun ro f args hp nx v hp' nx' h => by
    have hC := callB_ok hO d
    unfold callB at h
    split at h <;> try (cases h; done)
    rename_i fn hfn
    obtain ⟨hPf, hname⟩ := hO.code f fn hfn
    split at h <;> try (cases h; done)
    rename_i c hb
    split at h <;> try (cases h; done)
    rename_i hlen
    have hlen' : args.length ≤ fn.ntmps := by simpa using hlen
    refine ⟨Enters.of hPf hname (by rw [hb]; rfl), fun w0 base ρ vs its hR hE hH hA hF w hW => ?_⟩
    have hvl := instL_len hA
    refine calls_of_wp_defers hPf hb ?_
    have hinit : Has fn.ntmps [] { tmps := vs.toArray ++ Array.replicate (fn.ntmps - vs.toArray.size) undef, defers := [] } (argFr 0 vs) := by
      refine ⟨by simp; omega, rfl, fun i v hi => ?_⟩
      obtain ⟨_, h2⟩ := get_argFr vs 0 i v hi
      have hlt : i < vs.length := (List.getElem?_eq_some_iff.1 h2).1
      rw [Array.getElem?_append_left (by simpa using hlt)]
      simpa using h2
    have fin : ∀ {af1 : AF} {df1 : DF} {hp1 : AH} {nx1 : Nat}, endB P C (callB P C d) ro f fn hp af1 df1 hp1 nx1 = some (v, hp', nx') → ∀ ρ' l' its' D', Ext ρ ρ' → Fresh ρ' nx1 → FRel ρ' af1 l' → instH ρ' hp1 = some its' → instD ρ' df1 = some D' → ∀ (a : Act) (w : World), Has fn.ntmps D' a l' → WA w0 base its' w →
        Leaves P fn a.tmps (fun e w' => ∃ ρ' its', Ext ρ ρ' ∧ Fresh ρ' nx' ∧ instH ρ' hp' = some its' ∧ WA w0 base its' w' ∧ ∃ u, inst ρ' v = some u ∧ e = .returned u) a.defers .returning w := by
      intro af1 df1 hp1 nx1 h ρ' l' its' D' e1 e2 e3 e4 e5 a w ha hW
      unfold endB at h
      split at h <;> try (cases h; done)
      rename_i hp2 nx2 hl
      have last : ∀ ρ2 its2 w2, Ext ρ' ρ2 → Fresh ρ2 nx2 → instH ρ2 hp2 = some its2 → WA w0 base its2 w2 → ∀ a' : Act, Has fn.ntmps [] a' l' → ∃ v', (results fn a'.tmps).run P w2 = .ok v' w2 ∧ ∃ ρ' its', Ext ρ ρ' ∧ Fresh ρ' nx' ∧ instH ρ' hp' = some its' ∧ WA w0 base its' w2 ∧ ∃ u, inst ρ' v = some u ∧ Ending.returned v' = .returned u := by
        intro ρ2 its2 w2 g1 g2 g3 g4 a' ha'
        cases hres : resA P C.E ro hp2 af1 fn.results.toList with
        | none => rw [hres] at h; cases h
        | some v1 =>
          rw [hres] at h
          simp only [Option.map_some, Option.some.injEq, Prod.mk.injEq] at h
          obtain ⟨rfl, rfl, rfl⟩ := h
          obtain ⟨u, q1, q2⟩ := resA_ok (e3.ext g1) g3 (hR.ext (e1.trans g1)) (hE.ext (e1.trans g1)) hres ha' g4
          refine ⟨u, q2, ρ2, ?_⟩
          cases C.scrub f with
          | false => exact ⟨its2, e1.trans g1, g2, g3, g4, u, q1, rfl⟩
          | true => exact ⟨_, e1.trans g1, g2, dropH_all _ g3, g4.drop (List.drop_sublist _ _), u, q1, rfl⟩
      unfold leaveB at hl
      split at hl
      · cases hl
        cases e5
        rw [ha.defs]
        exact last ρ' its' w (Ext.refl _) e2 e4 hW a ha
      · rename_i k ys
        split at hl <;> try (cases hl; done)
        rename_i fk hfk
        split at hl <;> try (cases hl; done)
        rename_i ck hbk
        split at hl <;> try (cases hl; done)
        rename_i d1 d2 cd hask
        split at hl <;> try (cases hl; done)
        rename_i hchk hres
        simp only [Bool.and_eq_true] at hchk
        split at hl <;> try (cases hl; done)
        rename_i af3 hp3 nx3 hgo
        cases hl
        unfold instD at e5
        obtain ⟨us, g1, g2⟩ := Option.bind_eq_some_iff.1 e5
        simp only [instD, Option.map_some, Option.some.injEq] at g2
        subst g2
        obtain ⟨hPk, hnk⟩ := hO.code k fk hfk
        rw [ha.defs]
        refine leaves_cons (f := k) (args := us.toArray) (by simp) (by simpa [invoke] using Enters.of hPk hnk (by rw [hbk]; rfl) us.toArray w) ?_
        refine (asks_ok hO hC hfk hbk hask hchk.1 hchk.2.1 hchk.2.2 hres hgo e4 e2 (hR.ext e1) (hE.ext e1) g1 hW).mono fun e u2 w' he => ?_
        obtain ⟨rfl, rfl, ρ2, its2, q1, q2, q3, q4⟩ := he
        exact last ρ2 its2 w' q1 q2 q3 q4 { a with defers := [] } ⟨ha.size, rfl, ha.slot⟩
      · cases hl
    split at h
    · rename_i af1 df1 hp1 nx1 hc
      exact codeB_ok hO.ext hC hO.orders c hc (frameOf_ok hA 0) hH (D := []) rfl hF hR hE (fun ρ' l' its' D' e1 e2 e3 e4 e5 a w' ha hW' => fin h ρ' l' its' D' e1 e2 e3 e4 e5 a w' ha hW') _ w hinit hW
    · rename_i af1 df1 hp1 nx1 hc
      exact codeB_ok hO.ext hC hO.orders c hc (frameOf_ok hA 0) hH (D := []) rfl hF hR hE (fun ρ' l' its' D' e1 e2 e3 e4 e5 a w' ha hW' => fin h ρ' l' its' D' e1 e2 e3 e4 e5 a w' ha hW') _ w hinit hW
    · cases h
end
end Go.EB
