/-
  Proved here: short forms of a machine's rules; strings made of bytes; deferred calls that recover.
-/
import Derived.Test.YtljaoofbklkglaaGreatDoorEyF
import Derived.Recover
import Derived.Lib.Bytealg
namespace Go.EY
open Go.SX Go.EX Go.RowKit
section
variable {P : Program} {w0 : World} {base : Nat} {ρ0 ρ : Rho} {T : HT} {ro : List HT} {nx : Nat} {its : List It} {E : List (Nat × AV)} {af : AF} {l : Fr}
variable {ops : Array Oper} {n : Nat} {D : List Deferred} {Q : Exit → Act → World → Prop} {rest lo : List Oper} {o : Oper} {d i id : Nat} {m : SX.Mode} {S W : World → Prop} {pl : List (Nat × Kd)} {pend : List Nat}
variable {r : AR} {T' : HT} {n' c : Nat} {x y : Operand} {a b v : AV} {t t2 : TypeId} {cd cd' : Code} {e : Exit} {F : AF}
theorem mv (h : LV P ops n D m w0 base ρ its ((d, v) :: af) rest) (hv : VAL P (WA w0 base its) ρ af o.op v := by exact VAL.move rfl) (hw : wantA ops af o.guard = some true := by rfl) (hd : o.dst = some d := by rfl) (hdn : Nat.blt d n = true := by rfl) : LV P ops n D m w0 base ρ its af (o :: rest) := LV.step hv hw hd hdn h
theorem as_ (h : LV P ops n D m w0 base ρ its ((d, v) :: af) rest) (hv : VAL P (WA w0 base its) ρ af o.op v := by exact VAL.assign rfl) (hw : wantA ops af o.guard = some true := by rfl) (hd : o.dst = some d := by rfl) (hdn : Nat.blt d n = true := by rfl) : LV P ops n D m w0 base ρ its af (o :: rest) := LV.step hv hw hd hdn h
theorem pu (h : LV P ops n D m w0 base ρ its ((d, v) :: af) rest) (hv : VAL P (WA w0 base its) ρ af o.op v := by exact VAL.pure rfl) (hw : wantA ops af o.guard = some true := by rfl) (hd : o.dst = some d := by rfl) (hdn : Nat.blt d n = true := by rfl) : LV P ops n D m w0 base ρ its af (o :: rest) := LV.step hv hw hd hdn h
theorem sv (hv : VAL P (WA w0 base its) ρ af o.op v) (h : LV P ops n D m w0 base ρ its ((d, v) :: af) rest) (hw : wantA ops af o.guard = some true := by rfl) (hd : o.dst = some d := by rfl) (hdn : Nat.blt d n = true := by rfl) : LV P ops n D m w0 base ρ its af (o :: rest) := LV.step hv hw hd hdn h
theorem sk (h : LV P ops n D m w0 base ρ its ((d, .lit undef) :: af) rest) (hw : wantA ops af o.guard = some false := by rfl) (hd : o.dst = some d := by rfl) (hdn : Nat.blt d n = true := by rfl) : LV P ops n D m w0 base ρ its af (o :: rest) := LV.skip hw hd hdn h
theorem vy {k : AV → R} (h : ∃ v, k v = .ok r T' n' ∧ VAL P (WA w0 base its) ρ af o.op v) (hk : ∀ v, k v = .ok r T' n' → LV P ops n D m w0 base ρ its ((d, v) :: af) rest) (hw : wantA ops af o.guard = some true := by rfl) (hd : o.dst = some d := by rfl) (hdn : Nat.blt d n = true := by rfl) : LV P ops n D m w0 base ρ its af (o :: rest) := LV.by h hw hd hdn hk
theorem dn (h : CV P n D Q w0 base ρ its af cd) : LV P ops n D (.plain (Exit.then (fun a w => cd.wp P Q a w) Q)) w0 base ρ its af [] := LV.done (PV.thenN h)
theorem mdn (h : CV P n D Q w0 base ρ its af cd) : MV P ops n D (Exit.then (fun a w => cd.wp P Q a w) Q) S w0 base ρ its af [] pend := MV.done (PV.thenN h)
theorem sr (h : LV P lo.toArray n D (.plain (Exit.then (fun a w => cd.wp P Q a w) Q)) w0 base ρ its af lo) : CV P n D Q w0 base ρ its af (.seq (.region id lo.toArray false) cd) := CV.seq (CV.region h)
/-- what the seams of one walk have in common -/
def CtxW (_E : List (Nat × AV)) (_ρ0 : Rho) (_ro : List HT) (_r : AR) (_T' : HT) (_n' : Nat) : Prop := True
/-! strings of bytes -/
noncomputable def bytK (c : Nat) (vt : VT) (q : Nat) : Nat → (List UInt8 → R) → R :=
  Nat.rec (motive := fun _ => Nat → (List UInt8 → R) → R) (fun _ k => k []) (fun _ ih i k => vt.getK (fun v => natK c v fun b => bif Nat.blt b 256 then (match v with | .lit (.int .u8 _) => ih (Nat.add i 1) fun l => k (Nat.toUInt8 b :: l) | _ => .bad c) else .bad c) (.bad c) (Nat.add i 1)) q
theorem bytK_inv {vt : VT} {cs : List AV} (hv : VRel vt cs) {us : List Value} (hu : instL ρ cs = some us) : ∀ {q i : Nat} {k : List UInt8 → R}, bytK c vt q i k = .ok r T' n' → ∃ l, k l = .ok r T' n' ∧ (us.drop i).take q = l.map b8 := by
  intro q
  induction q with
  | zero => intro i k h; exact ⟨[], h, by simp⟩
  | succ q ih =>
    intro i k h
    have h' : vt.getK (fun v => natK c v fun b => bif Nat.blt b 256 then (match v with | .lit (.int .u8 _) => bytK c vt q (i + 1) fun l => k (Nat.toUInt8 b :: l) | _ => .bad c) else .bad c) (.bad c) (i + 1) = _ := h
    rcases VT.getK_inv h' with ⟨v, h1, h2⟩ | ⟨_, h2⟩
    · obtain ⟨kk, b, rfl, h3⟩ := natK_inv h2
      obtain ⟨hb, h4⟩ := bif_ok h3
      have hb' : b < 256 := by simpa using hb
      split at h4
      · rename_i heq
        cases heq
        obtain ⟨l, e1, e2⟩ := ih h4
        refine ⟨_, e1, ?_⟩
        obtain ⟨u, g1, g2⟩ := instL_get hu (hv i _ h1)
        obtain rfl := inst_lit g2
        have hlt := (List.getElem?_eq_some_iff.1 g1).1
        rw [List.drop_eq_getElem_cons hlt, List.take_succ_cons, (List.getElem?_eq_some_iff.1 g1).2, e2, List.map_cons]
        congr 1
        simp only [b8]
        have : (Nat.toUInt8 b).toNat = b := by simp; omega
        rw [this]; rfl
      · cases h4
    · cases h2
noncomputable def strBK (c : Nat) (T : HT) (e : TypeId) (a : AV) (k : AV → R) : R :=
  match a with
  | .sl id 0 q 0 => T.getK (fun m => rowK c m fun q' e' s vt => bif Nat.beq q' q then bif Nat.beq e e' then bif Nat.beq s 1 then bytK c vt q 0 fun l => k (.lit (.string ⟨⟨l⟩⟩)) else .bad c else .bad c else .bad c) (.bad c) id
  | .lit (.slice none 0 0) => .bad c
  | _ => .bad c
theorem V.strB {k : AV → R} {e : TypeId} {td : TypeId} (hS : ST w0 base E ρ0 ρ T ro nx its) (h : strBK c T e a k = .ok r T' n') (hx : evalA af x = some a) (hs : P.underlying t = some (.slice e)) (he : P.underlying e = some (.int .u8)) (hd : P.underlying td = some .string) :
    ∃ v, k v = .ok r T' n' ∧ VAL P (WA w0 base its) ρ af (.convert t td x) v := by
  unfold strBK at h
  split at h
  · rename_i id q
    rcases HT.getK_inv h with ⟨mi, h1, h2⟩ | ⟨_, h2⟩
    · obtain ⟨q', e', s, vt, rfl, h3⟩ := rowK_inv h2
      obtain ⟨hb1, h3⟩ := bif_ok h3
      obtain ⟨hb2, h3⟩ := bif_ok h3
      obtain ⟨hb3, h3⟩ := bif_ok h3
      obtain ⟨hp, hsb, hH⟩ := hS.hp
      obtain ⟨i, it, hfd, hm⟩ := hsb id _ h1
      obtain ⟨cs, rfl, hv⟩ := hm
      obtain ⟨xi, _, hxs, hi⟩ := findA_ok hH hfd
      rw [Nat.sub_zero] at hxs
      obtain ⟨p, us, g1, g2, rfl⟩ := instI_row hi
      obtain ⟨l, e1, e2⟩ := bytK_inv hv g2 h3
      have eq1 := beqT hb1
      have eq2 := beqT hb2
      have eq3 := beqT hb3
      subst eq1; subst eq2; subst eq3
      refine ⟨_, e1, fun lf hf ty => ⟨_, rfl, fun σ hσ o' ho ht w hw => ?_⟩⟩
      have hl := (row_len (hw.get hxs)).1
      rw [List.drop_zero, List.take_of_length_le (by rw [hl]; omega)] at e2
      obtain ⟨u, g3, g4⟩ := hf.eval hx
      obtain ⟨p', g5, rfl⟩ := inst_sl g4
      rw [g1] at g5; cases g5
      rw [e2] at hxs
      have g3' : evl lf x = some (rv (some p.1) q' p.2) := g3
      exact Y.str _ g3' hxs hs he hd σ hσ o' ho ht w hw
    · cases h2
  · cases h
  · cases h
/-! functions that the model itself answers -/
theorem VAL.ext {f : FuncId} {ps : List Operand} {vs : List Value} {ats : Array TypeId} {u : Value} (hp : evalsA af ps = some (vs.map .lit)) (hr : ∀ w, (callFunc f vs.toArray).run P w = .ok (.value u) w) :
    VAL P W ρ af (.call { callee := .value (.func f), args := ps.toArray, argTypes := ats }) (.lit u) := fun l hf ty => by
  obtain ⟨us, h1, h2⟩ := evalsA_ok hf hp
  have : us = vs := by have := instL_lit ρ vs; rw [h2] at this; exact Option.some.inj this
  subst this
  exact ⟨u, rfl, Y.ext h1 hr⟩
/-- the first place of a byte; one less than none -/
noncomputable def ibV (l : List UInt8) (b : Nat) : Nat → (Int → R) → R := List.rec (motive := fun _ => Nat → (Int → R) → R) (fun _ k => k (.negSucc 0)) (fun x _ ih i k => bif Nat.beq x.toNat b then k (.ofNat i) else ih (Nat.add i 1) k) l
noncomputable def ibsK (c : Nat) (a b : AV) (k : AV → R) : R :=
  match a with
  | .lit (.string s) => match b with
    | .lit (.int .u8 (.ofNat q)) => bif Nat.blt q 256 then ibV s.data.toList q 0 fun z => k (.lit (.int .i64 z)) else .bad c
    | _ => .bad c
  | _ => .bad c
theorem ibV_inv : ∀ {l : List UInt8} {b i : Nat} {k : Int → R}, b < 256 → ibV l b i k = .ok r T' n' → k (if Lib.indexByte l b.toUInt8 = -1 then -1 else Lib.indexByte l b.toUInt8 + (i : Int)) = .ok r T' n' := by
  intro l
  induction l with
  | nil => intro b i k _ h; exact h
  | cons x l ih =>
    intro b i k hb h
    have h' : (bif Nat.beq x.toNat b then k (.ofNat i) else ibV l b (i + 1) k) = _ := h
    have hx : (x == b.toUInt8) = Nat.beq x.toNat b := by
      cases hq : Nat.beq x.toNat b with
      | true =>
        have : x = b.toUInt8 := UInt8.toNat_inj.1 (by rw [beqT hq]; simp; omega)
        simp [this]
      | false =>
        have : x ≠ b.toUInt8 := fun e => beqF hq (by rw [e]; simp; omega)
        simpa using this
    unfold Lib.indexByte
    rw [hx]
    cases hq : Nat.beq x.toNat b with
    | true => rw [hq] at h'; simpa using h'
    | false =>
      rw [hq] at h'
      have := ih hb h'
      have hg := Lib.indexByte_ge l b.toUInt8
      simp only [Bool.false_eq_true, if_false, beq_iff_eq]
      by_cases hm : Lib.indexByte l b.toUInt8 = -1
      · simpa [hm] using this
      · rw [if_neg hm] at this
        rw [if_neg hm, if_neg (by omega)]
        rw [show Lib.indexByte l b.toUInt8 + 1 + (i : Int) = Lib.indexByte l b.toUInt8 + ((i + 1 : Nat) : Int) by omega]
        exact this
theorem ibs_of {k : AV → R} {f : FuncId} {ats : Array TypeId} (hr : ∀ (s : ByteArray) (q : Nat) (w : World), (callFunc f #[.string s, .int .u8 (q : Int)]).run P w = .ok (.value (.int .i64 (Lib.indexByte s.data.toList q.toUInt8))) w)
    (h : ibsK c a b k = .ok r T' n') (hx : evalA af x = some a) (hy : evalA af y = some b) : ∃ v, k v = .ok r T' n' ∧ VAL P W ρ af (.call { callee := .value (.func f), args := #[x, y], argTypes := ats }) v := by
  unfold ibsK at h
  split at h
  · split at h
    · rename_i s bb q
      obtain ⟨hb, h⟩ := bif_ok h
      have hb' : q < 256 := by simpa using hb
      have h2 := ibV_inv hb' h
      refine ⟨_, h2, ?_⟩
      refine VAL.ext (ps := [x, y]) (vs := [.string s, .int .u8 (q : Int)]) (by unfold evalsA; rw [hx]; unfold evalsA; rw [hy]; rfl) fun w => ?_
      have := hr s q w
      rw [show [Value.string s, .int .u8 (q : Int)].toArray = #[.string s, .int .u8 (q : Int)] from rfl, this]
      have hg := Lib.indexByte_ge s.data.toList q.toUInt8
      by_cases hm : Lib.indexByte s.data.toList q.toUInt8 = -1
      · rw [if_pos hm, hm]
      · rw [if_neg hm]; simp
    · cases h
  · cases h
/-! deferred calls -/
/-- what is known of a deferred call, whose recover yields pv -/
def GDk (P : Program) (E : List (Nat × AV)) (f : FuncId) (args : List AV) (ro : List HT) (T : HT) (nx : Nat) (pv : AV) (X : R) : Prop :=
  ∀ r T' n', X = .ok (.val r) T' n' → ∀ w0 base ρ vs its, ST w0 base E ρ ρ T ro nx its → instL ρ args = some vs → ∀ w, WA w0 base its w →
    ∀ u u', (pv = .lit .nilIface ∧ u = .returning ∧ u' = .returning ∨ ∃ t z, inst ρ pv = some (.iface t z) ∧ u = .panicking [{ v := .iface t z, recovered := false }] ∧ u' = .panicking [{ v := .iface t z, recovered := true }]) →
    CallsD P f vs.toArray u w fun e u2 w' => e = .returned (.tuple #[]) ∧ u2 = u' ∧ ∃ ρ' its', ST w0 base E ρ ρ' T' ro n' its' ∧ WA w0 base its' w'
/-- a closure that recovers first -/
theorem GDk.of_body {f : FuncId} {fn : Func} {args : List AV} {X : R} {pv : AV} {rid d1 d2 t1 t2 : Nat} {ps1 ps2 : String} {as1 as2 : Array Edge} {ats : Array TypeId}
    (hf : P.funcs[f]? = some fn) (hb : fn.body = some (.seq (.region rid #[{ dst := some d1, op := .call { callee := .builtin .recover, args := #[], argTypes := ats }, type := t1, pos := ps1, after := as1, guard := none }, { dst := some d2, op := .assign (.tmp d1), type := t2, pos := ps2, after := as2, guard := none }] false) cd))
    (hn : fn.ntmps = n) (hr : fn.results = #[]) (hlen : Nat.ble args.length n = true) (hd1 : Nat.blt d1 n = true) (hd2 : Nat.blt d2 n = true) (hne : Nat.beq d1 d2 = false)
    (h : ∀ r T' n', X = .ok (.val r) T' n' → ∀ w0 base ρ its, ST w0 base E ρ ρ T ro nx its → PK n [] (fun e a w => e ≠ .normal → False) w0 base E ρ ro (.val r) T' n' →
      CV P n [] (fun e a w => e = .normal ∧ a.defers = [] ∧ ∃ ρ' its', ST w0 base E ρ ρ' T' ro n' its' ∧ WA w0 base its' w) w0 base ρ its ((d2, pv) :: (d1, pv) :: frameOf 0 args) cd) : GDk P E f args ro T nx pv X := by
  intro r T' n' hX w0 base ρ vs its hS hA w hW u u' hu
  subst hn
  have hvl := instL_len hA
  have hlen' : args.length ≤ fn.ntmps := by simpa using hlen
  refine callsD_of_wpS hf hb fun c₀ cs hc => ?_
  have key : ∃ z, inst ρ pv = some z ∧ ∃ cs', (match recoverD (c₀ :: cs) with | some (v, cs') => (v, cs') | none => (.nilIface, c₀ :: cs)) = (z, cs') ∧ cs' = { c₀ with mode := u' } :: cs := by
    rcases hu with ⟨rfl, rfl, rfl⟩ | ⟨t, z, hz, rfl, rfl⟩
    · refine ⟨.nilIface, rfl, c₀ :: cs, by simp [recoverD, hc], ?_⟩
      cases c₀; simp_all
    · refine ⟨_, hz, { c₀ with mode := .panicking [{ v := .iface t z, recovered := true }] } :: cs, by simp [recoverD, hc], rfl⟩
  obtain ⟨z, hz, cs', hrec, rfl⟩ := key
  apply wpS_seq
  apply wpS_region
  have hd1' : d1 < fn.ntmps := by simpa using hd1
  have hd2' : d2 < fn.ntmps := by simpa using hd2
  have hne' : d1 ≠ d2 := beqF hne
  have hH : Has fn.ntmps [] { tmps := vs.toArray ++ Array.replicate (fn.ntmps - vs.toArray.size) undef, defers := [] } (argFr 0 vs) := by
    refine ⟨by simp; omega, rfl, fun i v hi => ?_⟩
    obtain ⟨_, h2⟩ := get_argFr vs 0 i v hi
    have hlt : i < vs.length := (List.getElem?_eq_some_iff.1 h2).1
    rw [Array.getElem?_append_left (by simpa using hlt)]
    simpa using h2
  have hcv := h r T' n' hX w0 base ρ its hS (fun v hv => by cases hv) _ (FRel.cons (FRel.cons (frameOf_ok hA 0) d1 hz) d2 hz) _ w ((hH.put hd1 z).put hd2 z) hW
  have fin : cd.wpS P (bodyPostS P fn c₀ cs fun e u2 w' => e = .returned (.tuple #[]) ∧ u2 = u' ∧ ∃ ρ' its', ST w0 base E ρ ρ' T' ro n' its' ∧ WA w0 base its' w')
      (({ tmps := vs.toArray ++ Array.replicate (fn.ntmps - vs.toArray.size) undef, defers := [] } : Act).put (some d1) z |>.put (some d2) z) ({ c₀ with mode := u' } :: cs) w := by
    refine wpS_of_wp (wp_mono hcv fun e a' w' he => ?_)
    obtain ⟨rfl, hd, hx⟩ := he
    exact ⟨hd, u', rfl, .tuple #[], results_none hr _ P w', rfl, rfl, hx⟩
  have e1 : ∀ (a : Act), (execOp a.eval { dst := some d1, op := .call { callee := .builtin .recover, args := #[], argTypes := ats }, type := t1, pos := ps1, after := as1, guard := none }).run P w = .ok .recover w := fun a => by rfl
  show wpOpsS P _ _ [0, 1] _ _ _
  unfold wpOpsS
  simp only [List.size_toArray, List.length_cons, List.length_nil, List.getElem?_toArray, List.getElem?_cons_zero, Region.wanted, if_true, e1]
  have nxt : ∀ (a : Act) (csx : List Frame), a = ({ tmps := vs.toArray ++ Array.replicate (fn.ntmps - vs.toArray.size) undef, defers := [] } : Act).put (some d1) z → csx = { c₀ with mode := u' } :: cs →
      wpOpsS P #[{ dst := some d1, op := .call { callee := .builtin .recover, args := #[], argTypes := ats }, type := t1, pos := ps1, after := as1, guard := none }, { dst := some d2, op := .assign (.tmp d1), type := t2, pos := ps2, after := as2, guard := none }] (Exit.thenS (cd.wpS P (bodyPostS P fn c₀ cs fun e u2 w' => e = .returned (.tuple #[]) ∧ u2 = u' ∧ ∃ ρ' its', ST w0 base E ρ ρ' T' ro n' its' ∧ WA w0 base its' w')) (bodyPostS P fn c₀ cs fun e u2 w' => e = .returned (.tuple #[]) ∧ u2 = u' ∧ ∃ ρ' its', ST w0 base E ρ ρ' T' ro n' its' ∧ WA w0 base its' w')) [1] a csx w := by
    rintro a csx rfl rfl
    have ev : ((({ tmps := vs.toArray ++ Array.replicate (fn.ntmps - vs.toArray.size) undef, defers := [] } : Act).put (some d1) z).eval (.tmp d1)) = z := (hH.put hd1 z).eval _ _ (get_cons_same _ _ _)
    have e2 : (execOp (({ tmps := vs.toArray ++ Array.replicate (fn.ntmps - vs.toArray.size) undef, defers := [] } : Act).put (some d1) z).eval { dst := some d2, op := .assign (.tmp d1), type := t2, pos := ps2, after := as2, guard := none }).run P w = .ok (.value z) w := by
      simp only [execOp, ev]; rfl
    unfold wpOpsS
    simp only [List.getElem?_toArray, List.getElem?_cons_succ, List.getElem?_cons_zero, Region.wanted, if_true, e2]
    simp only [Oper.upon]
    unfold wpOpsS
    exact fin
  cases hrd : recoverD (c₀ :: cs) with
  | none =>
    rw [hrd] at hrec
    simp only [Prod.mk.injEq] at hrec
    exact nxt _ _ (by rw [hrec.1]; simp only [List.size_toArray]) hrec.2
  | some q =>
    obtain ⟨vq, csq⟩ := q
    rw [hrd] at hrec
    simp only [Prod.mk.injEq] at hrec
    exact nxt _ _ (by rw [hrec.1]; simp only [List.size_toArray]) hrec.2
/-- a function that defers -/
def RootD (P : Program) (fn : Func) (w0 : World) (base : Nat) (E : List (Nat × AV)) (ρ0 : Rho) (ro : List HT) (r : AR) (T' : HT) (n' : Nat) : Exit → Act → World → Prop :=
  bodyPostD P fn fun e w' => ∃ ρ' its', ST w0 base E ρ0 ρ' T' ro n' its' ∧ WA w0 base its' w' ∧ endOk ρ' r e
theorem GOk.of_bodyD {f : FuncId} {fn : Func} {args : List AV} {X : R} (hf : P.funcs[f]? = some fn) (hb : fn.body = some cd) (hn : fn.ntmps = n) (hname : (fn.name == "runtime.NumGoroutine") = false) (hlen : Nat.ble args.length n = true)
    (h : ∀ r T' n', X = .ok r T' n' → ∀ w0 base ρ its, ST w0 base E ρ ρ T ro nx its → PK n [] (RootD P fn w0 base E ρ ro r T' n') w0 base E ρ ro r T' n' → CV P n [] (RootD P fn w0 base E ρ ro r T' n') w0 base ρ its (frameOf 0 args) cd) : GOk P E f args ro T nx X := by
  intro r T' n' hX
  refine ⟨Enters.of hf hname (by rw [hb]; rfl), fun w0 base ρ vs its hS hA w hW => ?_⟩
  subst hn
  have hvl := instL_len hA
  have hlen' : args.length ≤ fn.ntmps := by simpa using hlen
  refine calls_of_wp_defers hf hb ?_
  refine h r T' n' hX w0 base ρ its hS (fun v hv ρ1 its1 u e1 e2 l a w ha hw => ?_) _ (frameOf_ok hA 0) _ w ?_ hW
  · subst hv
    show Leaves P fn a.tmps _ a.defers _ _
    rw [ha.defs]
    exact ⟨ρ1, its1, e1, hw, u, e2, rfl⟩
  · refine ⟨by simp; omega, rfl, fun i v hi => ?_⟩
    obtain ⟨_, h2⟩ := get_argFr vs 0 i v hi
    have hlt : i < vs.length := (List.getElem?_eq_some_iff.1 h2).1
    rw [Array.getElem?_append_left (by simpa using hlt)]
    simpa using h2
theorem LV.defer {cl : Call} {fo : Operand} {kf : FuncId} {ys : List AV} (ho : o.op = .defer cl) (hc : cl.callee = .value fo) (hca : cl.args = #[]) (hv : evalA af fo = some (.fn (.func kf) [] ys)) (hw : wantA ops af o.guard = some true) (hd : o.dst = none)
    (hk : ∀ us, instL ρ ys = some us → LV P ops n ({ target := .fn (.func kf) us.toArray, args := #[] } :: D) (.plain Q) w0 base ρ its af rest) : LV P ops n D (.plain Q) w0 base ρ its af (o :: rest) := fun l hf => by
  obtain ⟨u, h1, h2⟩ := hf.eval hv
  obtain ⟨xs, us, e1, e2, rfl⟩ := inst_fn h2
  cases e1
  intro a w ha hW
  unfold wpList
  rw [if_pos (wantA_ok hf hw a ha)]
  left
  unfold Oper.wp
  have : (execOp a.eval o).run P w = .ok (.defer { target := .fn (.func kf) us.toArray, args := #[] }) w := by
    simp [execOp, ho, resolve, hc, hca, ha.eval _ _ h1, Deferred.ofValue]
  rw [this]
  simp only [Oper.upon, hd]
  exact hk us e2 l hf _ w ⟨ha.size, by show _ :: a.defers = _; rw [ha.defs], ha.slot⟩ hW
def leaveK (c : Nat) (X : R) (k : HT → Nat → R) : R :=
  match X with
  | .ok (.val _) t q => k t q
  | _ => .bad c
theorem leaveK_inv {X : R} {k : HT → Nat → R} (h : leaveK c X k = .ok r T' n') : ∃ q t m, X = .ok (.val q) t m ∧ k t m = .ok r T' n' := by
  unfold leaveK at h
  split at h
  · exact ⟨_, _, _, rfl, h⟩
  · cases h
theorem PV.leave0 {fn : Func} {kf : FuncId} {ys : List AV} {us : List Value} {X : R} {k : HT → Nat → R} {pv : AV} {u : FrameMode} {u' : FrameMode} (hS : ST w0 base E ρ0 ρ T ro nx its) (hys : instL ρ ys = some us) (h : leaveK c X k = .ok r T' n') (hG : GDk P E kf ys ro T nx pv X) (hen : Enters P kf)
    (hu : pv = .lit .nilIface ∧ u = .returning ∧ u' = .returning ∨ ∃ t z, inst ρ pv = some (.iface t z) ∧ u = .panicking [{ v := .iface t z, recovered := false }] ∧ u' = .panicking [{ v := .iface t z, recovered := true }])
    (hk : ∀ t m, k t m = .ok r T' n' → ∀ ρ1 its1, ST w0 base E ρ0 ρ1 t ro m its1 → PV n [] (Root P fn w0 base E ρ0 ro r T' n') w0 base ρ1 its1 af .ret) :
    ∀ l, FRel ρ af l → ∀ a w, Has n [{ target := .fn (.func kf) us.toArray, args := #[] }] a l → WA w0 base its w → Leaves P fn a.tmps (fun e w' => ∃ ρ' its', ST w0 base E ρ0 ρ' T' ro n' its' ∧ WA w0 base its' w' ∧ endOk ρ' r e) a.defers u w := fun l hf a w ha hW => by
  obtain ⟨q, t, m, hX, h⟩ := leaveK_inv h
  rw [ha.defs]
  have hset : settle u' = .returning := by
    rcases hu with ⟨_, _, rfl⟩ | ⟨_, _, _, _, rfl⟩ <;> rfl
  refine leaves_cons (f := kf) (args := us.toArray) (by rcases hu with ⟨_, rfl, _⟩ | ⟨_, _, _, rfl, _⟩ <;> simp) (by simpa [invoke] using hen us.toArray w) ?_
  refine (hG q t m hX w0 base ρ us its hS.root hys w hW u u' hu).mono fun e u2 w' he => ?_
  obtain ⟨rfl, rfl, ρ1, its1, e1, e2⟩ := he
  have ha' : Has n [] { a with defers := [] } l := ⟨ha.size, rfl, ha.slot⟩
  obtain ⟨_, v, h1, h2⟩ := hk t m h ρ1 its1 (hS.up e1) l (hf.ext e1.ext) _ w' ha' e2
  show Leaves P fn a.tmps _ [] (settle u2) w'
  rw [hset]
  exact ⟨v, h1, h2⟩
theorem PV.leaveR {fn : Func} {kf : FuncId} {ys : List AV} {us : List Value} {X : R} {k : HT → Nat → R} (he : e = .ret ∨ e = .normal) (hS : ST w0 base E ρ0 ρ T ro nx its) (hys : instL ρ ys = some us) (h : leaveK c X k = .ok r T' n') (hG : GDk P E kf ys ro T nx (.lit .nilIface) X) (hen : Enters P kf)
    (hk : ∀ t m, k t m = .ok r T' n' → ∀ ρ1 its1, ST w0 base E ρ0 ρ1 t ro m its1 → PV n [] (Root P fn w0 base E ρ0 ro r T' n') w0 base ρ1 its1 af .ret) :
    PV n [{ target := .fn (.func kf) us.toArray, args := #[] }] (RootD P fn w0 base E ρ0 ro r T' n') w0 base ρ its af e := fun l hf a w ha hW => by
  have := PV.leave0 hS hys h hG hen (.inl ⟨rfl, rfl, rfl⟩) hk l hf a w ha hW
  rcases he with rfl | rfl
  · exact this
  · exact this
def callPK (c : Nat) (X : R) (kp : AV → HT → Nat → R) (k : AV → HT → Nat → R) : R :=
  match X with
  | .ok (.val v) t q => k v t q
  | .ok (.pan (.iface tt u)) t q => kp (.iface tt u) t q
  | _ => .bad c
/-- a call of a value, behind a deferred call that recovers -/
theorem LV.callDP {fn : Func} {kf : FuncId} {ys : List AV} {us : List Value} {k : AV → HT → Nat → R} {kp : HT → Nat → R} {Xp : AV → HT → Nat → R} {G : FuncId → List AV → R} {qs : List AV} {cl : Call} {fo : Operand} (hS : ST w0 base E ρ0 ρ T ro nx its)
    (h : dynK c v (fun f p q => callPK c (G f (p ++ (qs ++ q))) (fun pv t m => leaveK c (Xp pv t m) kp) k) = .ok r T' n') (hG : ∀ f args, GOk P E f args ro T nx (G f args)) (hGD : ∀ pv t m, GDk P E kf ys ro t m pv (Xp pv t m)) (hen : Enters P kf) (hys : instL ρ ys = some us)
    (hQ : ∀ ch a w, Leaves P fn a.tmps (fun e w' => ∃ ρ' its', ST w0 base E ρ0 ρ' T' ro n' its' ∧ WA w0 base its' w' ∧ endOk ρ' r e) a.defers (.panicking ch) w → Q (.panic ch) a w)
    (ho : o.op = .call cl) (hc : cl.callee = .value fo) (hv : evalA af fo = some v) (has : evalsA af cl.args.toList = some qs)
    (hw : wantA ops af o.guard = some true) (hd : o.dst = some d) (hdn : Nat.blt d n = true)
    (hkp : ∀ t m, kp t m = .ok r T' n' → ∀ ρ1 its1, ST w0 base E ρ0 ρ1 t ro m its1 → PV n [] (Root P fn w0 base E ρ0 ro r T' n') w0 base ρ1 its1 af .ret)
    (hk : ∀ v T1 n1, k v T1 n1 = .ok r T' n' → ∀ ρ1 its1, Ext ρ ρ1 → ST w0 base E ρ0 ρ1 T1 ro n1 its1 → LV P ops n [{ target := .fn (.func kf) us.toArray, args := #[] }] (.plain Q) w0 base ρ1 its1 ((d, v) :: af) rest) :
    LV P ops n [{ target := .fn (.func kf) us.toArray, args := #[] }] (.plain Q) w0 base ρ its af (o :: rest) := by
  have key : ∃ f args, targetA af o.op = some (f, args) ∧ callPK c (G f args) (fun pv t m => leaveK c (Xp pv t m) kp) k = .ok r T' n' := by
    unfold dynK at h
    split at h
    · rename_i f x y
      split at h
      · rename_i hx
        split at h
        · rename_i hy
          refine ⟨_, _, ?_, h⟩
          rw [ho]
          dsimp only [targetA]
          rw [hc]
          dsimp only
          rw [hv]
          dsimp only
          rw [hx, hy, has]
          simp
        · cases h
      · cases h
    · rename_i f x y
      refine ⟨_, _, ?_, h⟩
      rw [ho]
      dsimp only [targetA]
      rw [hc]
      dsimp only
      rw [hv]
      dsimp only
      rw [has]
      rfl
    · cases h
  obtain ⟨f, args, ht, h⟩ := key
  intro l hf
  have hGf := hG f args
  cases hX : G f args with
  | bad q => rw [hX] at h; cases h
  | ok r1 T1 n1 =>
    rw [hX] at h
    obtain ⟨hen2, hcc⟩ := hGf _ _ _ hX
    obtain ⟨vs, h1, h2⟩ := targetA_ok (P := P) hf ht hen2
    refine LX.callE (wantA_ok hf hw) h2 hd hdn (fun w hw => hcc w0 base ρ vs its hS.root h1 w hw) fun e w' he => ?_
    obtain ⟨ρ1, its1, e1, e2, e3⟩ := he
    cases r1 with
    | val v =>
      obtain ⟨u, g1, rfl⟩ := e3
      exact .inl ⟨u, rfl, fun a ha => hk v T1 n1 h ρ1 its1 e1.ext (hS.up e1) _ (FRel.cons (hf.ext e1.ext) d g1) a w' ha e2⟩
    | pan v =>
      obtain ⟨u, g1, rfl⟩ := e3
      refine .inr ⟨_, rfl, fun a ha => hQ _ a w' ?_⟩
      unfold callPK at h
      split at h
      · rename_i heq; cases heq
      · rename_i heq
        cases heq
        obtain ⟨z, g2, rfl⟩ := inst_if g1
        exact PV.leave0 (hS.up e1) (instL_ext e1.ext _ _ hys) h (hGD _ _ _) hen (.inr ⟨_, _, g1, rfl, rfl⟩) hkp l (hf.ext e1.ext) a w' ha e2
      · cases h
theorem PV.dend (hS : ST w0 base E ρ0 ρ T' ro n' its) : PV n [] (fun e a w => e = .normal ∧ a.defers = [] ∧ ∃ ρ' its', ST w0 base E ρ0 ρ' T' ro n' its' ∧ WA w0 base its' w) w0 base ρ its af .normal := fun _ _ _ _ ha hW => ⟨rfl, ha.defs, ρ, its, hS, hW⟩
end
end Go.EY
