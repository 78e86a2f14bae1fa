/-
  Proved here: further operations of a small machine: maps whose keys are numbers, fields of values, literals of nothing, what is put behind a slice that was cut, a slice of which only the length is asked; a function that the model itself answers.
-/
import Derived.Test.YtickdimknfeddaaGreatDoorExG
import Derived.MapKept
import Derived.Recover
import Derived.Lib.Bytealg
namespace Go.EB
open Go.SX Go.EX Go.RowKit
/-! maps' entries -/
theorem mkEs_nil1 (xs : List Value) (bs : List Nat) : mkEs [] xs bs = [] := by cases xs <;> cases bs <;> rfl
theorem mkEs_nil2 (us : List Value) (bs : List Nat) : mkEs us [] bs = [] := by cases us <;> cases bs <;> rfl
theorem mkEs_nil3 (us xs : List Value) : mkEs us xs [] = [] := by cases us <;> cases xs <;> rfl
theorem mkEs_set (key u' : Value) : ∀ (us xs : List Value) (bs : List Nat) (j : Nat), us[j]? = some key → (mkEs us xs bs).modify j (fun e => { e with key := key, val := u' }) = mkEs us (xs.set j u') bs
  | [], xs, bs, j, h => by cases h
  | u :: us, [], bs, j, _ => by rw [mkEs_nil2]; cases j <;> (show _ = mkEs (u :: us) [] bs; rw [mkEs_nil2]; rfl)
  | u :: us, x :: xs, [], j, _ => by rw [mkEs_nil3, mkEs_nil3]; cases j <;> rfl
  | u :: us, x :: xs, b :: bs, 0, h => by cases h; rfl
  | u :: us, x :: xs, b :: bs, j + 1, h => by
    have := mkEs_set key u' us xs bs j (by simpa using h)
    simp only [mkEs, List.modify_succ_cons, List.set_cons_succ, this]
theorem mkEs_push (k v : Value) (b : Nat) : ∀ (us xs : List Value) (bs : List Nat), us.length = xs.length → us.length = bs.length → mkEs us xs bs ++ [⟨k, v, b⟩] = mkEs (us ++ [k]) (xs ++ [v]) (bs ++ [b])
  | [], [], [], _, _ => rfl
  | [], _ :: _, _, h, _ => by cases h
  | [], [], _ :: _, _, h => by cases h
  | _ :: _, [], _, h, _ => by cases h
  | _ :: _, _ :: _, [], _, h => by cases h
  | u :: us, x :: xs, q :: bs, h, h' => by
    have := mkEs_push k v b us xs bs (by simpa using h) (by simpa using h')
    simp only [mkEs, List.cons_append, this]
section
variable {P : Program} {w0 : World} {base : Nat} {ρ : Rho} {hp hp' : AH} {ro : List AH} {nx : Nat} {its : List It} {E : List (Nat × AV)} {af : AF} {l : Fr} {ops : Array Oper} {n : Nat} {D : List Deferred} {Q : Exit → Act → World → Prop} {rest : List Oper} {o : Oper} {d : Nat} {v : AV} {W : World → Prop} {t : TypeId} {x y : Operand}
def EqR (P : Program) (W : World → Prop) (kt : TypeId) (a b : Value) (q : Bool) : Prop := ∀ w, W w → (Op.equal kt a b).run P w = .ok q w
def Fnd (P : Program) (W : World → Prop) (kt : TypeId) (key : Value) (es : List MapEntry) (i : Nat) (q : Option (Nat × Value)) : Prop := ∀ w, W w → (Instr.findAsking kt key es i).run P w = .ok q w
theorem Fnd.nil {kt : TypeId} {key : Value} {i : Nat} : Fnd P W kt key [] i none := fun w _ => rfl
theorem Fnd.yes {kt : TypeId} {key : Value} {i : Nat} {e : MapEntry} {es : List MapEntry} (h : EqR P W kt key e.key true) : Fnd P W kt key (e :: es) i (some (i, e.val)) := fun w hw => by
  have := h w hw
  simp [Instr.findAsking, this]
theorem Fnd.no {kt : TypeId} {key : Value} {i : Nat} {e : MapEntry} {es : List MapEntry} {q : Option (Nat × Value)} (h : EqR P W kt key e.key false) (h2 : Fnd P W kt key es (i + 1) q) : Fnd P W kt key (e :: es) i q := fun w hw => by
  have := h w hw
  have := h2 w hw
  simp [Instr.findAsking, *]
theorem bytes_eq (s s' : ByteArray) : (s == s') = decide (s.data.toList = s'.data.toList) := by
  show (s.data == s'.data) = _
  rw [Bool.eq_iff_iff]; simp [Array.toList_inj]
theorem same_equalIn {kt : TypeId} {kd : TypeDesc} (hkd : P.underlying kt = some kd) {a b : Value} {q : Bool} (h : Instr.sameNow kd a b = some q) (w : World) (dd : Nat) : (Op.equalIn (dd + 1) kt a b).run P w = .ok q w := by
  unfold Instr.sameNow at h
  split at h
  · split at h
    · rename_i hk
      cases h
      subst hk
      simp [Op.equalIn, run_underlying hkd]
    · cases h
  · cases h; simp [Op.equalIn, run_underlying hkd]
  · cases h; simp [Op.equalIn, run_underlying hkd]
  · cases h
theorem same_equal {kt : TypeId} {kd : TypeDesc} (hkd : P.underlying kt = some kd) {a b : Value} {q : Bool} (h : Instr.sameNow kd a b = some q) (w : World) : (Op.equal kt a b).run P w = .ok q w := same_equalIn hkd h w 9999
theorem now_asking {kt : TypeId} {kd : TypeDesc} (hkd : P.underlying kt = some kd) {key : Value} (w : World) : ∀ {es : List MapEntry} {i : Nat} {q : Option (Nat × Value)}, Instr.findNow kd key es i = some q → (Instr.findAsking kt key es i).run P w = .ok q w
  | [], i, q, h => by cases h; rfl
  | e :: es, i, q, h => by
    unfold Instr.findNow at h
    split at h
    · rename_i hs
      cases h
      have := same_equal hkd hs w
      simp [Instr.findAsking, this]
    · rename_i hs
      have := same_equal hkd hs w
      have := now_asking hkd w h
      simp [Instr.findAsking, *]
    · cases h
theorem Fnd.run {kt : TypeId} {kd : TypeDesc} (hkd : P.underlying kt = some kd) {key : Value} {es : List MapEntry} {q : Option (Nat × Value)} (h : Fnd P W kt key es 0 q) {w : World} (hw : W w) : (Instr.findKey kt key es).run P w = .ok q w := by
  have h1 := h w hw
  cases hn : Instr.findNow kd key es 0 with
  | none => simp [Instr.findKey, run_underlying hkd, hn, h1]
  | some r =>
    have h2 := now_asking hkd w hn
    rw [h1] at h2
    injection h2 with h2 _
    subst h2
    simp [Instr.findKey, run_underlying hkd, hn]
theorem inst_mp {id : Nat} {u : Value} (h : inst ρ (.mp id) = some u) : ∃ p, rat ρ.blk id = some p ∧ u = .map (some p.1) := by
  unfold inst at h
  cases hr : rat ρ.blk id with
  | none => rw [hr] at h; cases h
  | some p => rw [hr] at h; cases h; exact ⟨p, rfl, rfl⟩
theorem run_check_int' {kt : TypeId} {kk : IntKind} (h : P.underlying kt = some (.int kk)) (e : Bool) (k : IntKind) (i : Int) (w : World) (dd : Nat) : (Instr.checkKey e (dd + 1) kt (.int k i)).run P w = .ok () w := by
  simp [Instr.checkKey, run_underlying h]
theorem run_check_int {kt : TypeId} {kk : IntKind} (h : P.underlying kt = some (.int kk)) (e : Bool) (k : IntKind) (i : Int) (w : World) : (Instr.checkKey e 10000 kt (.int k i)).run P w = .ok () w := run_check_int' h e k i w 9999
def zeroW (P : Program) (t : TypeId) : Option Value := (P.info? t).bind (·.zero)
def lkOut (ok : Bool) (z : Value) : Option (Nat × Value) → Value
  | some (_, v) => if ok then .tuple #[v, .bool true] else v
  | none => if ok then .tuple #[z, .bool false] else z
theorem lookup_run {kt et : TypeId} {kd : TypeDesc} {key z : Value} {ok : Bool} {p : Nat} {es : List MapEntry} {ck : Nat} {q : Option (Nat × Value)} {w : World} (ht : P.underlying t = some (.map kt et)) (hkd : P.underlying kt = some kd)
    (hc : ∀ e, (Instr.checkKey e 10000 kt key).run P w = .ok () w) (hz : zeroW P et = some z) (hb : w.heap[p]? = some (.map es.toArray ck)) (hq : Fnd P W kt key es 0 q) (hW : W w) :
    (Instr.lookup t (.map (some p)) key ok).run P w = .ok (lkOut ok z q) w := by
  have h1 := hq.run hkd hW
  have h2 := zero_run (P := P) hz w
  have h3 := MapKept.run_getObj_map (P := P) hb
  rcases q with _ | ⟨i, v⟩
  · simp [Instr.lookup, run_underlying ht, h3, hc, h1, h2, lkOut]
  · simp [Instr.lookup, run_underlying ht, h3, hc, h1, lkOut]
theorem WA.setObj {w : World} (h : WA w0 base its w) {i b : Nat} {o1 : Obj} (hi : its[i]? = some (.obj b o1)) (o2 : Obj) : WA w0 base (its.set i (.obj b o2)) { w with heap := w.heap.setIfInBounds b o2 } := by
  have hit := h.get hi
  refine h.others hi rfl rfl rfl (by simp) (fun k hk hne => ?_) ⟨hit.1, ?_⟩ (fun k hk => .inl hk)
  · exact Array.getElem?_setIfInBounds_ne fun e => hne (by rw [← e]; rfl)
  · have hlt := (Array.getElem?_eq_some_iff.1 hit.2).1
    simp [hlt]
theorem stays_same {key : Value} (h : Instr.sameBits 10000 key key = true) (w : World) : (Instr.keyThatStays key key).run P w = .ok key w := by
  simp [Instr.keyThatStays, h]
theorem mapUpdate_run {kt et : TypeId} {kd : TypeDesc} {key u : Value} {p : Nat} {us xs : List Value} {bs : List Nat} {ck : Nat} {q : Option (Nat × Value)} {w : World} (ht : P.underlying t = some (.map kt et)) (hkd : P.underlying kt = some kd)
    (hc : (Instr.checkKey false 10000 kt key).run P w = .ok () w) (hb : w.heap[p]? = some (.map (mkEs us xs bs).toArray ck)) (hq : Fnd P W kt key (mkEs us xs bs) 0 q) (hW : W w) (hbits : Instr.sameBits 10000 key key = true)
    (hj : ∀ j v, q = some (j, v) → us[j]? = some key ∧ ((mkEs us xs bs)[j]?).map (·.key) = some key) (hl : q = none → us.length = xs.length ∧ us.length = bs.length) :
    (Instr.mapUpdate t (.map (some p)) key u).run P w = .ok () { w with heap := w.heap.setIfInBounds p (match q with | some (j, _) => .map (mkEs us (xs.set j u) bs).toArray ck | none => .map (mkEs (us ++ [key]) (xs ++ [u]) (bs ++ [ck])).toArray (ck + 1)) } := by
  have h1 := hq.run hkd hW
  have h3 := MapKept.run_getObj_map (P := P) hb
  rcases q with _ | ⟨j, v⟩
  · obtain ⟨g1, g2⟩ := hl rfl
    have e := mkEs_push key u ck us xs bs g1 g2
    simp [Instr.mapUpdate, run_underlying ht, h3, hc, h1, MapKept.run_setObj_map _ hb, ← e]
  · obtain ⟨g1, g2⟩ := hj j v rfl
    have e := mkEs_set key u us xs bs j g1
    have e2 : ((((mkEs us xs bs).toArray)[j]?).map (·.key)).getD key = key := by
      rw [List.getElem?_toArray, g2]; rfl
    simp only [Instr.mapUpdate, run_underlying ht, h3, hc, h1, Sem.run_bind, Result.andThen_ok, e2, stays_same hbits, MapKept.run_setObj_map _ hb, ← e]
    simp
theorem instI_mkmp {id : Nat} {ks vs : List AV} {bs : List Nat} {ck : Nat} {p : Nat × Nat} {us xs : List Value} (hp : rat ρ.blk id = some p) (h1 : instL ρ ks = some us) (h2 : instL ρ vs = some xs) : instI ρ id (.mp ks vs bs ck) = some (.obj p.1 (.map (mkEs us xs bs).toArray ck)) := by
  dsimp only [instI]
  rw [hp, h1]
  show (Option.map _ (instL ρ vs)) = _
  rw [h2]; rfl
theorem run_append0 {e : TypeId} {ats : Array TypeId} {g : Option Addr} {m cp : Nat} {ux : Value} (he : P.underlying t = some (.slice e)) (hs : ∃ i, P.info? e = some i) (hat : ats = #[t, t]) (hx : ux = .slice none 0 0 ∨ ∃ ad cp', ux = .slice (some ad) 0 cp') (hm : m ≤ cp) (ty : TypeId) (w : World) :
    (Builtin.append_ ats ty #[.slice g m cp, ux]).run P w = .ok (.slice g m cp) w := by
  subst hat
  obtain ⟨i, hi⟩ := hs
  have e1 := run_underlying he w
  cases g <;> rcases hx with rfl | ⟨ad, cp', rfl⟩ <;> simp [Builtin.append_, e1, sizeOf, typeInfo, hi, Builtin.lenOf, hm, Builtin.firstCells, loadCells, loadCellsFrom, storeCells]

/-! a key among keys -/
def sameK : TypeDesc → Value → Value → Option Bool
  | .int _, .int .i64 i, .int .i64 j => some (decide (i = j))
  | .string, .string s, .string s' => some (decide (s.data.toList = s'.data.toList))
  | _, _, _ => none
def keyOk : TypeDesc → Value → Bool
  | .int _, .int .i64 _ => true
  | .string, .string _ => true
  | _, _ => false
theorem sameK_ok {kd : TypeDesc} {a b : Value} {q : Bool} (h : sameK kd a b = some q) : Instr.sameNow kd a b = some q ∧ (q = true → a = b) := by
  unfold sameK at h
  split at h
  · rename_i i j
    cases h
    refine ⟨?_, fun h => by rw [of_decide_eq_true h]⟩
    simp only [Instr.sameNow, if_true]
    by_cases e : i = j <;> simp [e]
  · rename_i s s'
    cases h
    refine ⟨by simp only [Instr.sameNow, bytes_eq], fun h => ?_⟩
    have h1 := of_decide_eq_true h
    cases s; cases s'
    simp only at h1
    rw [Array.toList_inj.1 h1]
  · cases h
theorem run_check_str' {kt : TypeId} (h : P.underlying kt = some .string) (e : Bool) (s : ByteArray) (w : World) (dd : Nat) : (Instr.checkKey e (dd + 1) kt (.string s)).run P w = .ok () w := by
  simp [Instr.checkKey, run_underlying h]
theorem keyOk_check {kt : TypeId} {kd : TypeDesc} (hkd : P.underlying kt = some kd) {v : Value} (h : keyOk kd v = true) (e : Bool) (w : World) : (Instr.checkKey e 10000 kt v).run P w = .ok () w := by
  unfold keyOk at h
  split at h
  · exact run_check_int hkd e _ _ w
  · exact run_check_str' hkd e _ w 9999
  · cases h
theorem keyOk_bits {kd : TypeDesc} {v : Value} (h : keyOk kd v = true) : Instr.sameBits 10000 v v = true := by
  unfold keyOk at h
  split at h
  · simp [Instr.sameBits]
  · rename_i s
    show (s == s) = true
    rw [bytes_eq]
    simp
  · cases h
def findK (kd : TypeDesc) (key : Value) : List AV → Nat → Option (Option Nat)
  | [], _ => some none
  | .lit v :: r, q => match sameK kd key v with
    | some true => some (some q)
    | some false => findK kd key r (q + 1)
    | none => none
  | _ :: _, _ => none
theorem findK_ok {kt : TypeId} {kd : TypeDesc} (hkd : P.underlying kt = some kd) {key : Value} : ∀ {ks : List AV} {us xs : List Value} {bs : List Nat} {q : Nat} {o : Option Nat}, findK kd key ks q = some o → instL ρ ks = some us → us.length = xs.length → us.length = bs.length →
    (∃ j u, o = some (q + j) ∧ xs[j]? = some u ∧ us[j]? = some key ∧ ((mkEs us xs bs)[j]?).map (·.key) = some key ∧ Fnd P W kt key (mkEs us xs bs) q (some (q + j, u))) ∨ (o = none ∧ Fnd P W kt key (mkEs us xs bs) q none)
  | [], us, xs, bs, q, o, h, hk, _, _ => by
    cases h; cases hk
    exact .inr ⟨rfl, by rw [mkEs_nil1]; exact Fnd.nil⟩
  | k :: r, us, xs, bs, q, o, h, hk, h1, h2 => by
    obtain ⟨u, us', rfl, hu, hr⟩ := instL_cons hk
    unfold findK at h
    split at h
    · rename_i heq; cases heq
    · rename_i q' v r' heq
      cases heq
      obtain rfl := inst_lit hu
      cases xs with
      | nil => cases h1
      | cons x xs =>
        cases bs with
        | nil => cases h2
        | cons b bs =>
          split at h
          · rename_i hd
            cases h
            obtain ⟨e1, e2⟩ := sameK_ok hd
            obtain rfl := e2 rfl
            exact .inl ⟨0, x, rfl, rfl, rfl, rfl, Fnd.yes fun w _ => same_equal hkd e1 w⟩
          · rename_i hd
            obtain ⟨e0, _⟩ := sameK_ok hd
            have hno : EqR P W kt key u false := fun w _ => same_equal hkd e0 w
            rcases findK_ok hkd h hr (by simpa using h1) (by simpa using h2) with ⟨j', u1, e1, e2, e3, e4, e5⟩ | ⟨e1, e2⟩
            · refine .inl ⟨j' + 1, u1, by rw [e1]; congr 1; omega, by simpa using e2, by simpa using e3, by simpa [mkEs] using e4, ?_⟩
              have e6 := Fnd.no (e := ⟨u, x, b⟩) hno e5
              rwa [Nat.add_assoc, Nat.add_comm 1 j'] at e6
            · exact .inr ⟨e1, Fnd.no hno e2⟩
          · cases h
    · cases h
/-- what a map holds for a key -/
def lookB (P : Program) (hp : AH) (af : AF) (t : TypeId) (x y : Operand) (ok : Bool) : Option AV :=
  match P.underlying t with
  | some (.map kt et) => match P.underlying kt with
    | some kd => match evalA af x with
      | some (.mp id) => match evalA af y with
        | some (.lit key) => match findA hp id 0 with
          | some (_, .mp ks vs bs _) => match keyOk kd key && Nat.beq ks.length vs.length && Nat.beq ks.length bs.length with
            | true => match findK kd key ks 0 with
              | some (some j) => (vs[j]?).map fun v => match ok with | true => .tup [v, .lit (.bool true)] | false => v
              | some none => (zeroW P et).map fun z => match ok with | true => .tup [.lit z, .lit (.bool false)] | false => .lit z
              | none => none
            | false => none
          | _ => none
        | _ => none
      | _ => none
    | _ => none
  | _ => none
theorem lookB_ok (hf : FRel ρ af l) (hH : instH ρ hp = some its) {ok : Bool} (h : lookB P hp af t x y ok = some v) (ty : TypeId) : ∃ u, inst ρ v = some u ∧ Y P l (WA w0 base its) (.lookup t x y ok) ty u := by
  unfold lookB at h
  split at h <;> try (cases h; done)
  rename_i kt et ht
  split at h <;> try (cases h; done)
  rename_i kd hkd
  split at h <;> try (cases h; done)
  rename_i id hx
  split at h <;> try (cases h; done)
  rename_i key hy
  split at h <;> try (cases h; done)
  rename_i ix ks vs bs ck hfd
  split at h <;> try (cases h; done)
  rename_i hlen
  simp only [Bool.and_eq_true] at hlen
  obtain ⟨u0, f1, f2⟩ := hf.eval hx
  obtain ⟨p, hp1, rfl⟩ := inst_mp f2
  obtain ⟨u1, f3, f4⟩ := hf.eval hy
  have e4 : u1 = key := by first | exact inst_lit f4 | exact (inst_lit f4).symm
  rw [e4] at f3
  obtain ⟨xi, _, hxs, hi⟩ := findA_ok hH hfd
  rw [Nat.sub_zero] at hxs
  obtain ⟨p2, us, xs, g1, g2, g3, rfl⟩ := instI_mp hi
  rw [hp1] at g1; cases g1
  have l1 : us.length = xs.length := by rw [instL_len g2, instL_len g3]; simpa using hlen.1.2
  have l2 : us.length = bs.length := by rw [instL_len g2]; simpa using hlen.2
  have look : ∀ (q : Option (Nat × Value)) (z : Value), (zeroW P et = some z ∨ q ≠ none) → Fnd P (WA w0 base its) kt key (mkEs us xs bs) 0 q → Y P l (WA w0 base its) (.lookup t x y ok) ty (lkOut ok z q) := by
    intro q z hz hq σ hσ o' ho hty w hW
    have h1 := hq.run hkd hW
    have h3 := MapKept.run_getObj_map (P := P) (hW.get hxs).2
    have hc := fun e => keyOk_check (P := P) hkd hlen.1.1 e w
    rcases q with _ | ⟨j, v⟩
    · have h2 := zero_run (P := P) (hz.resolve_right (fun h => h rfl)) w
      simp [execOp, ho, hσ _ _ f1, hσ _ _ f3, Instr.lookup, run_underlying ht, h3, hc, h1, h2, lkOut]
    · simp [execOp, ho, hσ _ _ f1, hσ _ _ f3, Instr.lookup, run_underlying ht, h3, hc, h1, lkOut]
  split at h
  · rename_i j hj
    cases hv : vs[j]? with
    | none => rw [hv] at h; cases h
    | some v' =>
      rw [hv] at h; cases h
      rcases findK_ok (W := WA w0 base its) hkd hj g2 l1 l2 with ⟨j', u, e1, e2, e3, e4, e5⟩ | ⟨e1, _⟩
      · cases e1
        obtain ⟨u', q1, q2⟩ := instL_get g3 hv
        rw [Nat.zero_add] at q1
        rw [e2] at q1; cases q1
        refine ⟨_, ?_, look _ undef (.inr (by simp)) e5⟩
        cases ok with
        | false => exact q2
        | true =>
          show inst ρ (.tup [v', .lit (.bool true)]) = _
          unfold inst
          rw [instL_mk q2 (instL_mk (ρ := ρ) (v := .lit (.bool true)) (u := .bool true) rfl rfl)]
          rfl
      · cases e1
  · rename_i hj
    cases hz : zeroW P et with
    | none => rw [hz] at h; cases h
    | some z =>
      rw [hz] at h; cases h
      rcases findK_ok (W := WA w0 base its) hkd hj g2 l1 l2 with ⟨j', u, e1, _⟩ | ⟨_, e2⟩
      · cases e1
      · refine ⟨_, ?_, look none z (.inl hz) e2⟩
        cases ok <;> rfl
  · cases h
/-- a map is told one -/
def updB (P : Program) (hp : AH) (af : AF) (t : TypeId) (x y z : Operand) : Option AH :=
  match P.underlying t with
  | some (.map kt _) => match P.underlying kt with
    | some kd => match evalA af x with
      | some (.mp id) => match evalA af y with
        | some (.lit key) => match findA hp id 0 with
          | some (_, .mp ks vs bs ck) => match keyOk kd key && Nat.beq ks.length vs.length && Nat.beq ks.length bs.length with
            | true => (evalA af z).bind fun v => match findK kd key ks 0 with
              | some (some j) => some (setH hp id (.mp ks (vs.set j v) bs ck))
              | some none => some (setH hp id (.mp (ks ++ [.lit key]) (vs ++ [v]) (bs ++ [ck]) (ck + 1)))
              | none => none
            | false => none
          | _ => none
        | _ => none
      | _ => none
    | _ => none
  | _ => none
theorem updB_ok (hf : FRel ρ af l) (hH : instH ρ hp = some its) {z : Operand} (ho : o.op = .mapUpdate t x y z) (h : updB P hp af t x y z = some hp') (hg : o.guard = none) (hd : o.dst = none)
    (hgo : ∀ its', instH ρ hp' = some its' → LX P ops n D (.plain Q) l (WA w0 base its') rest) : LX P ops n D (.plain Q) l (WA w0 base its) (o :: rest) := by
  unfold updB at h
  split at h <;> try (cases h; done)
  rename_i kt et ht
  split at h <;> try (cases h; done)
  rename_i kd hkd
  split at h <;> try (cases h; done)
  rename_i id hx
  split at h <;> try (cases h; done)
  rename_i key hy
  split at h <;> try (cases h; done)
  rename_i ix ks vs bs ck hfd
  split at h <;> try (cases h; done)
  rename_i hlen
  simp only [Bool.and_eq_true] at hlen
  obtain ⟨v, hz, h⟩ := Option.bind_eq_some_iff.1 h
  obtain ⟨u0, f1, f2⟩ := hf.eval hx
  obtain ⟨p, hp1, rfl⟩ := inst_mp f2
  obtain ⟨u1, f3, f4⟩ := hf.eval hy
  have e4 : u1 = key := by first | exact inst_lit f4 | exact (inst_lit f4).symm
  rw [e4] at f3
  obtain ⟨u, f5, f6⟩ := hf.eval hz
  obtain ⟨xi, _, hxs, hi⟩ := findA_ok hH hfd
  rw [Nat.sub_zero] at hxs
  obtain ⟨p2, us, xs, g1, g2, g3, rfl⟩ := instI_mp hi
  rw [hp1] at g1; cases g1
  have l1 : us.length = xs.length := by rw [instL_len g2, instL_len g3]; simpa using hlen.1.2
  have l2 : us.length = bs.length := by rw [instL_len g2]; simpa using hlen.2
  have fin : ∀ (q : Option (Nat × Value)) (it' : AI) (o2 : Obj), Fnd P (WA w0 base its) kt key (mkEs us xs bs) 0 q → (∀ j v, q = some (j, v) → us[j]? = some key ∧ ((mkEs us xs bs)[j]?).map (·.key) = some key) → (q = none → us.length = xs.length ∧ us.length = bs.length) →
      o2 = (match q with | some (j, _) => .map (mkEs us (xs.set j u) bs).toArray ck | none => .map (mkEs (us ++ [key]) (xs ++ [u]) (bs ++ [ck])).toArray (ck + 1)) → instI ρ id it' = some (.obj p.1 o2) → setH hp id it' = hp' → LX P ops n D (.plain Q) l (WA w0 base its) (o :: rest) := by
    intro q it' o2 hq hj hl ho2 hm2 hk'
    have e := setH_ok hH hfd hm2
    rw [Nat.sub_zero, hk'] at e
    have hlv := hgo _ e
    intro a w ha hW
    unfold wpList
    rw [if_pos (wanted_none hg)]
    left
    unfold Oper.wp
    have hrun := mapUpdate_run (u := u) ht hkd (keyOk_check hkd hlen.1.1 false w) (hW.get hxs).2 hq hW (keyOk_bits hlen.1.1) hj hl
    rw [← ho2] at hrun
    have : (execOp a.eval o).run P w = .ok .skip { w with heap := w.heap.setIfInBounds p.1 o2 } := by
      simp only [execOp, ho, ha.eval _ _ f1, ha.eval _ _ f3, ha.eval _ _ f5, Sem.run_bind, hrun]; rfl
    rw [this]
    simp only [Oper.upon, hd]
    exact hlv _ _ ha (WA.setObj hW hxs o2)
  split at h
  · rename_i j hj
    cases h
    rcases findK_ok (W := WA w0 base its) hkd hj g2 l1 l2 with ⟨j', u', e1, e2, e3, e4, e5⟩ | ⟨e1, _⟩
    · cases e1
      rw [Nat.zero_add] at e5
      refine fin _ _ _ e5 (fun j v hq => ?_) (fun hq => by cases hq) rfl (instI_mkmp hp1 g2 (instL_set j' g3 f6)) (by rw [Nat.zero_add])
      cases hq; exact ⟨e3, e4⟩
    · cases e1
  · rename_i hj
    cases h
    rcases findK_ok (W := WA w0 base its) hkd hj g2 l1 l2 with ⟨j', u', e1, _⟩ | ⟨_, e2⟩
    · cases e1
    · exact fin none _ _ e2 (fun j v hq => by cases hq) (fun _ => ⟨l1, l2⟩) rfl (instI_mkmp hp1 (instL_app g2 (instL_mk (us := []) rfl rfl)) (instL_app g3 (instL_mk f6 (us := []) rfl))) rfl
  · cases h
/-! a field of a value -/
def fieldB (P : Program) (af : AF) (s : TypeId) (x : Operand) (f : Nat) : Option AV :=
  match P.underlying s with
  | some (.struct fs) => match fs[f]? with
    | some fd => match oneT P fd.type with
      | true => match evalA af x with
        | some (.agg cs) => cs[fd.offset]?
        | some (.lit (.agg cs)) => (cs.toList[fd.offset]?).map .lit
        | _ => none
      | false => match aggT P fd.type, evalA af x with
        | some m, some (.agg cs) => some (.agg ((cs.drop fd.offset).take m))
        | some m, some (.lit (.agg cs)) => some (.lit (.agg ((cs.toList.drop fd.offset).take m).toArray))
        | _, _ => none
    | none => none
  | _ => none
theorem fieldB_ok (hf : FRel ρ af l) {s : TypeId} {f : Nat} (h : fieldB P af s x f = some v) (W : World → Prop) (ty : TypeId) : ∃ u, inst ρ v = some u ∧ Y P l W (.field s x f) ty u := by
  unfold fieldB at h
  split at h <;> try (cases h; done)
  rename_i fs hu
  split at h <;> try (cases h; done)
  rename_i fd hfd
  split at h
  · rename_i hone
    have key : ∀ (us : List Value) (z : Value), evl l x = some (.agg us.toArray) → us[fd.offset]? = some z → Y P l W (.field s x f) ty z := by
      intro us z g1 q1 σ hσ o' ho' ht' w hw
      have e1 := run_underlying hu w
      have e2 := oneT_ok hone w
      simp [execOp, ho', hσ _ _ g1, Instr.field, e1, hfd, asAgg, part, e2, q1]
    split at h <;> try (cases h; done)
    · rename_i cs hx
      obtain ⟨u, g1, g2⟩ := hf.eval hx
      obtain ⟨us, g3, rfl⟩ := inst_agg g2
      obtain ⟨z, q1, q2⟩ := instL_get g3 h
      exact ⟨z, q2, key us z g1 q1⟩
    · rename_i cs hx
      obtain ⟨u, g1, g2⟩ := hf.eval hx
      obtain rfl := inst_lit g2
      cases hc : cs.toList[fd.offset]? with
      | none => rw [hc] at h; cases h
      | some z =>
        rw [hc] at h; cases h
        exact ⟨z, rfl, key cs.toList z (by rw [g1]) hc⟩
  · have key : ∀ (m : Nat) (us : List Value), aggT P fd.type = some m → evl l x = some (.agg us.toArray) → Y P l W (.field s x f) ty (.agg ((us.drop fd.offset).take m).toArray) := by
      intro m us hg g1 σ hσ o' ho' ht' w hw
      have e1 := run_underlying hu w
      obtain ⟨dd, u1, u2⟩ := (aggT_ok hg).un
      have e2 : (isAgg fd.type).run P w = .ok true w := by
        have := run_underlying u1 w
        cases dd <;> first | (cases u2; done) | simp [isAgg, this]
      have e3 : (sizeOf fd.type).run P w = .ok m w := by
        have := (aggT_ok hg).info
        cases hi : P.info? fd.type with
        | none => rw [hi] at this; cases this
        | some inf => rw [hi] at this; cases this; simp [sizeOf, typeInfo, hi]
      have e4 : us.toArray.extract fd.offset (fd.offset + m) = ((us.drop fd.offset).take m).toArray := by
        rw [List.extract_toArray, List.extract_eq_take_drop]; simp
      simp [execOp, ho', hσ _ _ g1, Instr.field, e1, hfd, asAgg, part, e2, e3, e4]
    split at h <;> try (cases h; done)
    · rename_i m cs hg hx
      cases h
      obtain ⟨u, g1, g2⟩ := hf.eval hx
      obtain ⟨us, g3, rfl⟩ := inst_agg g2
      refine ⟨_, ?_, key m us hg g1⟩
      unfold inst
      rw [instL_take m (instL_drop fd.offset g3)]; rfl
    · rename_i m cs hg hx
      cases h
      obtain ⟨u, g1, g2⟩ := hf.eval hx
      obtain rfl := inst_lit g2
      exact ⟨_, rfl, key m cs.toList hg (by rw [g1])⟩
/-! a slice held against none -/
theorem Y.nilSl (neg : Bool) {W : World → Prop} {t ty ty2 e : TypeId} {x : Operand} {a : Addr} {n c : Nat} (h : P.underlying t = some (.slice e)) (hx : evl l x = some (.slice (some a) n c)) : Y P l W (.binOp (match neg with | true => .neq | false => .eql) t x (.const (.slice none 0 0)) ty2) ty (.bool neg) := by
  refine Y.bin hx rfl fun w _ => ?_
  have e1 : (Op.equalIn 10000 t (.slice (some a) n c) (.slice none 0 0)).run P w = .ok false w := by
    have h1 := run_underlying h w
    have h2 : ∀ d : Nat, (Op.equalIn (d + 1) t (.slice (some a) n c) (.slice none 0 0)).run P w = .ok false w := fun d => by simp [Op.equalIn, h1]
    exact h2 9999
  cases neg with
  | false =>
    have e2 : binOp .eql t (.slice (some a) n c) (.slice none 0 0) = (do pure (.bool (← Op.equalIn 10000 t (.slice (some a) n c) (.slice none 0 0)))) := rfl
    have e3 : eqGuard .eql t x (.const (.slice none 0 0)) (.slice (some a) n c) (.slice none 0 0) = pure () := rfl
    simp only [e3, e2, pure_bind, Sem.run_bind, Sem.run_pure, Result.andThen_ok, e1]
  | true =>
    have e2 : binOp .neq t (.slice (some a) n c) (.slice none 0 0) = (do pure (.bool (!(← Op.equalIn 10000 t (.slice (some a) n c) (.slice none 0 0))))) := rfl
    have e3 : eqGuard .neq t x (.const (.slice none 0 0)) (.slice (some a) n c) (.slice none 0 0) = pure () := rfl
    simp only [e3, e2, pure_bind, Sem.run_bind, Sem.run_pure, Result.andThen_ok, e1, Bool.not_false]
def slNilB (P : Program) (af : AF) (op : BinOp) (t : TypeId) (x y : Operand) : Option AV :=
  match y, evalA af x, P.underlying t with
  | .const (.slice none 0 0), some (.sl _ _ _ _), some (.slice _) => match op with
    | .eql => some (.lit (.bool false))
    | .neq => some (.lit (.bool true))
    | _ => none
  | _, _, _ => none
theorem slNilB_ok (hf : FRel ρ af l) {op : BinOp} {ty2 : TypeId} (h : slNilB P af op t x y = some v) (W : World → Prop) (ty : TypeId) : ∃ u, inst ρ v = some u ∧ Y P l W (.binOp op t x y ty2) ty u := by
  unfold slNilB at h
  split at h <;> try (cases h; done)
  rename_i id off q sk e hx ht
  obtain ⟨u, f1, f2⟩ := hf.eval hx
  obtain ⟨p, _, rfl⟩ := inst_sl f2
  split at h
  · cases h
    exact ⟨_, rfl, Y.nilSl false ht f1⟩
  · cases h
    exact ⟨_, rfl, Y.nilSl true ht f1⟩
  · cases h
/-! assertions -/
/-- whether a type has an interface's methods -/
def hasI (P : Program) (kk t : TypeId) : Option Bool :=
  match P.underlying kk, P.info? t with
  | some (.interface want), some i => some (want.toList.filter (fun x => !i.methods.any fun m => m.name == x.1 && m.sig == x.2)).isEmpty
  | _, _ => none
theorem least_none {l : List String} : Instr.least l = none ↔ l = [] := by cases l <;> simp [Instr.least]
theorem miss_iff (want : Array (String × TypeId)) (got : Array Method) : (Instr.missingMethod want got).isNone = (want.toList.filter (fun x => !got.any fun m => m.name == x.1 && m.sig == x.2)).isEmpty := by
  have key : ∀ (f : String → Bool) (g : String → String) (ms : List (String × TypeId)), ((Instr.least ((ms.map (·.1)).partition f).2) <|> Instr.least (((ms.map (·.1)).partition f).1.map g)).isNone = ms.isEmpty := by
    intro f g ms
    rw [List.partition_eq_filter_filter]
    cases h1 : Instr.least ((ms.map (·.1)).filter (not ∘ f)) with
    | some s =>
      cases ms with
      | nil => simp [Instr.least] at h1
      | cons a t => rfl
    | none =>
      rw [least_none] at h1
      cases ms with
      | nil => rfl
      | cons a t =>
        show (Instr.least _).isNone = false
        cases h2 : Instr.least ((((a :: t).map (·.1)).filter f).map g) with
        | some s => rfl
        | none =>
          rw [least_none, List.map_eq_nil_iff] at h2
          rw [List.map_cons] at h1 h2
          cases hc : f a.1 with
          | true => rw [List.filter_cons_of_pos hc] at h2; cases h2
          | false => rw [List.filter_cons_of_pos (by simp [hc])] at h1; cases h1
  exact key _ _ _
theorem hasI_ok {kk t : TypeId} {bb : Bool} (h : hasI P kk t = some bb) : ∃ want i, P.underlying kk = some (.interface want) ∧ P.info? t = some i ∧ (Instr.missingMethod want i.methods).isNone = bb := by
  unfold hasI at h
  split at h
  · rename_i want i h1 h2
    injection h with h
    exact ⟨want, i, h1, h2, (miss_iff want i.methods).trans h⟩
  · cases h
def asB (P : Program) (af : AF) (x : Operand) (kk : TypeId) (ok : Bool) : Option AV :=
  match evalA af x, ok with
  | some (.iface t v), true => match hasI P kk t, zeroW P kk with
    | some true, some .nilIface => some (.tup [.iface t v, .lit (.bool true)])
    | some false, some .nilIface => some (.tup [.lit .nilIface, .lit (.bool false)])
    | _, _ => none
  | some (.iface t v), false => match noIface P kk && Nat.beq t kk with
    | true => some v
    | false => match hasI P kk t with
      | some true => some (.iface t v)
      | _ => none
  | some (.lit .nilIface), true => match isIface P kk, zeroW P kk with
    | true, some .nilIface => some (.tup [.lit .nilIface, .lit (.bool false)])
    | _, _ => none
  | _, _ => none
theorem asB_ok (hf : FRel ρ af l) {kk s : TypeId} {ok : Bool} (h : asB P af x kk ok = some v) (W : World → Prop) (ty : TypeId) : ∃ u, inst ρ v = some u ∧ Y P l W (.typeAssert x s kk ok) ty u := by
  unfold asB at h
  split at h
  · rename_i t v' hx
    obtain ⟨u, f1, f2⟩ := hf.eval hx
    have f2' := f2
    obtain ⟨z, f3, rfl⟩ := inst_if f2
    split at h
    · rename_i hh hz
      cases h
      obtain ⟨want, i, g1, g2, g3⟩ := hasI_ok hh
      have g4 := Option.isNone_iff_eq_none.1 g3
      refine ⟨.tuple #[.iface t z, .bool true], ?_, fun σ hσ o' ho hty w hW => ?_⟩
      · unfold inst
        rw [instL_mk f2' (instL_mk (ρ := ρ) (v := .lit (.bool true)) (u := .bool true) rfl rfl)]
        rfl
      · simp [execOp, ho, hσ _ _ f1, Instr.typeAssert, run_underlying g1, typeInfo, g2, g4]
    · rename_i hh hz
      cases h
      have hz' := zero_run (P := P) hz
      obtain ⟨want, i, g1, g2, g3⟩ := hasI_ok hh
      obtain ⟨mm, g4⟩ := Option.isSome_iff_exists.1 (by rw [← Option.not_isNone, g3]; rfl : (Instr.missingMethod want i.methods).isSome = true)
      refine ⟨.tuple #[.nilIface, .bool false], rfl, fun σ hσ o' ho hty w hW => ?_⟩
      simp [execOp, ho, hσ _ _ f1, Instr.typeAssert, run_underlying g1, typeInfo, g2, g4, hz' w]
    · cases h
  · rename_i t v' hx
    obtain ⟨u, f1, f2⟩ := hf.eval hx
    have f2' := f2
    obtain ⟨z, f3, rfl⟩ := inst_if f2
    split at h
    · rename_i hb
      cases h
      rw [Bool.and_eq_true] at hb
      obtain rfl : t = kk := by simpa using hb.2
      refine ⟨z, f3, fun σ hσ o' ho hty w hW => ?_⟩
      have hn := hb.1
      unfold noIface at hn
      cases hu : P.underlying t with
      | none => rw [hu] at hn; cases hn
      | some dd =>
        rw [hu] at hn
        cases dd <;> first | (cases hn; done) | simp [execOp, ho, hσ _ _ f1, Instr.typeAssert, run_underlying hu]
    · split at h
      · rename_i hh
        cases h
        obtain ⟨want, i, g1, g2, g3⟩ := hasI_ok hh
        have g4 := Option.isNone_iff_eq_none.1 g3
        refine ⟨_, f2', fun σ hσ o' ho hty w hW => ?_⟩
        simp [execOp, ho, hσ _ _ f1, Instr.typeAssert, run_underlying g1, typeInfo, g2, g4]
      · cases h
  · rename_i hx
    obtain ⟨u, f1, f2⟩ := hf.eval hx
    cases f2
    split at h
    · rename_i hi hz
      cases h
      have hz' := zero_run (P := P) hz
      refine ⟨.tuple #[.nilIface, .bool false], rfl, fun σ hσ o' ho hty w hW => ?_⟩
      unfold isIface at hi
      cases hu : P.underlying kk with
      | none => rw [hu] at hi; cases hi
      | some dd =>
        rw [hu] at hi
        cases dd <;> first | (cases hi; done) | simp [execOp, ho, hσ _ _ f1, Instr.typeAssert, run_underlying hu, hz' w]
    · cases h
  · cases h
/-! what yields a value and changes nothing -/
def val3A (P : Program) (E : List (Nat × AV)) (ro : List AH) (hp : AH) (af : AF) (o : Op) : Option AV :=
  match val2A P E ro hp af o with
  | some v => some v
  | none => match o with
    | .field s x f => fieldB P af s x f
    | .lookup t x y ok => lookB P hp af t x y ok
    | .binOp op t x y _ => slNilB P af op t x y
    | .typeAssert x _ kk ok => asB P af x kk ok
    | _ => none
theorem val3A_ok (hf : FRel ρ af l) (hH : instH ρ hp = some its) (hR : RO w0 base ρ ro) (hE : EE w0 base ρ E) {o : Op} {v : AV} (h : val3A P E ro hp af o = some v) (ty : TypeId) :
    ∃ u, inst ρ v = some u ∧ Y P l (WA w0 base its) o ty u := by
  unfold val3A at h
  cases hv : val2A P E ro hp af o with
  | some v' => rw [hv] at h; cases h; exact val2A_ok hf hH hR hE hv ty
  | none =>
    rw [hv] at h
    dsimp only at h
    split at h
    · exact fieldB_ok hf h _ ty
    · exact lookB_ok hf hH h ty
    · exact slNilB_ok hf h _ ty
    · exact asB_ok hf h _ ty
    · cases h
end
end Go.EB
