/-
  Proved here: appends, calls and seams of a machine of mine; how code is gone through, and functions.
-/
import Derived.Test.YtljaoofbklkglaaGreatDoorEyD
import Derived.Test.YtljaoofbklkglaaGreatDoorExH
namespace Go.EY
open Go.SX Go.EX Go.RowKit
section
variable {P : Program} {w0 : World} {base : Nat} {ρ0 ρ : Rho} {T : HT} {ro : List HT} {nx : Nat} {its : List It} {E : List (Nat × AV)} {af : AF} {l : Fr}
variable {ops : Array Oper} {n : Nat} {D : List Deferred} {Q : Exit → Act → World → Prop} {rest : List Oper} {o : Oper} {d : Nat}
variable {r : AR} {T' : HT} {n' c : Nat} {x y : Operand} {a b v : AV} {t t2 : TypeId}
/-! append -/
noncomputable def onesK (c : Nat) (l : List AV) (X : R) : R := List.rec (motive := fun _ => R) X (fun v _ ih => bif v.one then ih else .bad c) l
theorem onesK_inv {X : R} : ∀ {l : List AV}, onesK c l X = .ok r T' n' → l.all (·.one) = true ∧ X = .ok r T' n' := by
  intro l
  induction l with
  | nil => intro h; exact ⟨rfl, h⟩
  | cons v t ih =>
    intro h
    have h' : (bif v.one then onesK c t X else .bad c) = _ := h
    obtain ⟨h1, h2⟩ := bif_ok h'
    obtain ⟨h3, h4⟩ := ih h2
    exact ⟨by simp [h1, h3], h4⟩
def rowOfK (c : Nat) (a : AV) (f0 : R) (f : Nat → Nat → R) : R :=
  match a with
  | .lit (.slice none 0 0) => f0
  | .sl id 0 q 0 => f id q
  | _ => .bad c
theorem rowOfK_inv {f0 : R} {f : Nat → Nat → R} (h : rowOfK c a f0 f = .ok r T' n') : (a = .lit (.slice none 0 0) ∧ f0 = .ok r T' n') ∨ ∃ id q, a = .sl id 0 q 0 ∧ f id q = .ok r T' n' := by
  unfold rowOfK at h
  split at h
  · exact .inl ⟨rfl, h⟩
  · exact .inr ⟨_, _, rfl, h⟩
  · cases h
noncomputable def appK (c : Nat) (T : HT) (ro : List HT) (nx : Nat) (e : TypeId) (size by' : Nat) (a b : AV) (k : AV → HT → Nat → R) : R :=
  slcK c b fun id2 off2 j _ => bif Nat.blt 0 j then lookK T ro id2 (fun m2 => m2.cellsK c (Nat.mul j size) off2 fun l => onesK c l
    (rowOfK c a (bif Nat.ble (Nat.mul j by') 1000000000 then bif Nat.ble j 1000000000 then vtK l 1 .nil fun vt => T.insK nx (.row j e size vt) fun T1 => k (.sl nx 0 j 0) T1 (Nat.add nx 1) else .bad c else .bad c)
      fun id q => T.getK (fun m => rowK c m fun q' e' s vt => bif Nat.beq q' q then bif Nat.beq e e' then bif Nat.beq size s then bif Nat.ble (Nat.mul (Nat.add q j) by') 1000000000 then bif Nat.ble (Nat.add q j) 1000000000 then
        vtK l (Nat.add (Nat.mul q size) 1) vt fun vt' => T.delK id fun T0 => T0.insK nx (.row (Nat.add q j) e size vt') fun T1 => k (.sl nx 0 (Nat.add q j) 0) T1 (Nat.add nx 1) else .bad c else .bad c else .bad c else .bad c else .bad c) (.bad c) id)) (.bad c) else .bad c
theorem LV.app {k : AV → HT → Nat → R} {e size by' : Nat} {z : Value} {ats : Array TypeId} (hS : ST w0 base E ρ0 ρ T ro nx its) (h : appK c T ro nx e size by' a b k = .ok r T' n') (hx : evalA af x = some a) (hy : evalA af y = some b)
    (ho : o.op = .call { callee := .builtin .append, args := #[x, y], argTypes := ats }) (hat : ats = #[t, t]) (he : elemT P t = some (e, size, by', z)) (hw : wantA ops af o.guard = some true) (hd : o.dst = some d) (hdn : Nat.blt d n = true)
    (hk : ∀ v T1 n1, k v T1 n1 = .ok r T' n' → ∀ ρ1 its1, ST w0 base E ρ0 ρ1 T1 ro n1 its1 → LV P ops n D (.plain Q) w0 base ρ1 its1 ((d, v) :: af) rest) : LV P ops n D (.plain Q) w0 base ρ its af (o :: rest) := fun l hf => by
  obtain ⟨id2, off2, j, sk, rfl, h⟩ := slcK_inv h
  obtain ⟨hj, h⟩ := bif_ok h
  obtain ⟨m2, hl2, h⟩ := lookK_inv h
  obtain ⟨cs, hcs, h⟩ := MI.cellsK_inv h
  obtain ⟨hone, h⟩ := onesK_inv h
  have hj : 0 < j := by simpa using hj
  refine LX.unguard (wantA_ok hf hw) ?_
  obtain ⟨hEl, _, _⟩ := elemT_ok he
  obtain ⟨ux, h1, h2⟩ := hf.eval hx
  obtain ⟨uy, h3, h4⟩ := hf.eval hy
  obtain ⟨p, it, us, e1, e2, e3, e4, _⟩ := hS.look hl2
  obtain ⟨p', hp', rfl⟩ := inst_sl h4
  rw [e1] at hp'; cases hp'
  obtain ⟨hp, hs, hH⟩ := hS.hp
  obtain ⟨q1, q2⟩ := MI.cells_it e2 hcs
  have g4 := instL_take (j * size) (instL_drop off2 e3)
  rw [show (it.cells.drop off2).take (j * size) = cs from q1] at g4
  have hlen : ((us.drop off2).take (j * size)).length = j * size := by rw [instL_len g4]; exact q2
  have hnews : ∀ w, WA w0 base its w → ∀ q u, ((us.drop off2).take (j * size))[q]? = some u → w.cell? ((⟨p.1, off2, none⟩ : Addr).add q) = some u := fun w hw q u hu => by
    rw [Addr.add_lit]
    refine e4 w hw _ _ ?_
    rw [List.getElem?_take] at hu
    split at hu
    · rw [List.getElem?_drop] at hu; exact hu
    · cases hu
  have h1c := ones_ok g4 hone
  rcases rowOfK_inv h with ⟨rfl, h⟩ | ⟨id, q, rfl, h⟩
  · obtain ⟨hb1, h⟩ := bif_ok h
    obtain ⟨hb2, h⟩ := bif_ok h
    rw [vtK_eq, HT.insK_eq] at h
    have hb1' : j * by' ≤ 1000000000 := by simpa using hb1
    have hb2' : j ≤ 1000000000 := by simpa using hb2
    obtain rfl := inst_lit h2
    refine LX.world (W' := WA w0 base (.row none 0 0 e size [] :: its)) (fun w hw => hw.nilRow e size) ?_
    refine append_go (o := { o with guard := none }) (hp' := (nx, .row j e size cs) :: hp) (i := 0) (k := 0) (g := none) (cap := 0) (xs := []) (cs := cs) hEl ho hat h1 h3 rfl hlen (fun w hw => hnews w (hw.drop (List.sublist_cons_self _ _))) h1c (by rw [Nat.zero_add]; omega) (by omega) hj hS.fresh
      (fun ρ' hE => by simpa using instL_ext hE _ _ g4) (fun b c hI => ?_) rfl hd hdn ?_
    · simp only [Nat.zero_add] at hI ⊢
      exact instH_mk hI (instH_ext (Ext.add hS.fresh b c) hH)
    · simp only [Nat.zero_add]
      intro ρ' u its' e5 e6 e7 e8
      exact hk _ _ _ h ρ' its' ⟨⟨_, hs.new (m := .row j e size (vtOf cs 1 .nil)) ⟨_, rfl, by simpa using vtOf_rel cs [] .nil (VRel.nil _)⟩, e8⟩, e6, hS.ro.ext e5, hS.env.ext e5, hS.ext.trans e5, hS.opq.ext e5⟩ _ (FRel.cons (hf.ext e5) d e7)
  · rcases HT.getK_inv h with ⟨m, hm1, h⟩ | ⟨_, h⟩
    · obtain ⟨q', e', s, vt, rfl, h⟩ := rowK_inv h
      obtain ⟨hb1, h⟩ := bif_ok h
      obtain ⟨hb2, h⟩ := bif_ok h
      obtain ⟨hb3, h⟩ := bif_ok h
      obtain ⟨hb4, h⟩ := bif_ok h
      obtain ⟨hb5, h⟩ := bif_ok h
      rw [vtK_eq, HT.delK_eq, HT.insK_eq] at h
      have hfin := h
      obtain rfl := beqT hb1
      obtain rfl := beqT hb2
      obtain rfl := beqT hb3
      have hb4' : (q' + j) * by' ≤ 1000000000 := by simpa using hb4
      have hb5' : q' + j ≤ 1000000000 := by simpa using hb5
      obtain ⟨i, it0, hfd, hm⟩ := hs id _ hm1
      obtain ⟨c0, rfl, hv⟩ := hm
      obtain ⟨px, hpx, rfl⟩ := inst_sl h2
      obtain ⟨x', _, hxs, hi⟩ := findA_ok hH hfd
      obtain ⟨p2, us2, g1, g2, rfl⟩ := instI_row hi
      rw [hpx] at g1; cases g1
      have h1' : evl l x = some (rv (some px.1) q' px.2) := h1
      rw [Nat.sub_zero] at hxs
      by_cases hex : ∃ w, WA w0 base its w
      · obtain ⟨w, hw⟩ := hex
        have hl0 : c0.length = q' * size := by rw [← instL_len g2]; exact (row_len (hw.get hxs)).1
        refine append_go (o := { o with guard := none }) (hp' := setK hp id nx (.row (q' + j) e size (c0 ++ cs))) (cs := c0 ++ cs) hEl ho hat h1' h3 hxs hlen hnews h1c (by omega) (by omega) hj hS.fresh
          (fun ρ' hE => instL_app (instL_ext hE _ _ g2) (instL_ext hE _ _ g4)) (fun b c hI => ?_) rfl hd hdn ?_
        · have := setK_ok (instH_ext (Ext.add hS.fresh b c) hH) hfd hI
          rwa [Nat.sub_zero] at this
        · intro ρ' u its' e5 e6 e7 e8
          refine hk _ _ _ hfin ρ' its' ⟨⟨_, hs.app hfd (m := .row (q' + j) e size (vtOf cs (q' * size + 1) vt)) ⟨_, rfl, ?_⟩ (keys_old hS.fresh hH), e8⟩, e6, hS.ro.ext e5, hS.env.ext e5, hS.ext.trans e5, hS.opq.ext e5⟩ _ (FRel.cons (hf.ext e5) d e7)
          rw [← hl0]
          exact vtOf_rel cs c0 vt hv
      · exact fun a w ha hW => absurd ⟨w, hW⟩ hex
    · cases h
/-! calls -/
/-- what is known of a function's run -/
def GOk (P : Program) (E : List (Nat × AV)) (f : FuncId) (args : List AV) (ro : List HT) (T : HT) (nx : Nat) (X : R) : Prop :=
  ∀ v T' n', X = .ok v T' n' → Enters P f ∧ ∀ w0 base ρ vs its, ST w0 base E ρ ρ T ro nx its → instL ρ args = some vs →
    ∀ w, WA w0 base its w → Calls P f vs.toArray w fun e w' => ∃ ρ' its', ST w0 base E ρ ρ' T' ro n' its' ∧ WA w0 base its' w' ∧ endOk ρ' v e
theorem GOk.bad {f : FuncId} {args : List AV} : GOk P E f args ro T nx (.bad c) := fun v T' n' h => by cases h
def callK (X : R) (k : AV → HT → Nat → R) : R :=
  match X with
  | .ok a t q => match a with
    | .val v => k v t q
    | .pan v => .ok (.pan v) t q
  | .bad c => .bad c
/-- a panic goes on outwards -/
def PK (n : Nat) (D : List Deferred) (Q : Exit → Act → World → Prop) (w0 : World) (base : Nat) (E : List (Nat × AV)) (ρ0 : Rho) (ro : List HT) (r : AR) (T' : HT) (n' : Nat) : Prop :=
  ∀ v, r = .pan v → ∀ ρ1 its1 u, ST w0 base E ρ0 ρ1 T' ro n' its1 → inst ρ1 v = some u → ∀ l, PX n D Q l (WA w0 base its1) (.panic [{ v := u, recovered := false }])
theorem ST.root (hS : ST w0 base E ρ0 ρ T ro nx its) : ST w0 base E ρ ρ T ro nx its := ⟨hS.hp, hS.fresh, hS.ro, hS.env, Ext.refl _, hS.opq⟩
theorem ST.up {ρ1 : Rho} {T1 : HT} {n1 : Nat} {its1 : List It} (hS : ST w0 base E ρ0 ρ T ro nx its) (h : ST w0 base E ρ ρ1 T1 ro n1 its1) : ST w0 base E ρ0 ρ1 T1 ro n1 its1 := ⟨h.hp, h.fresh, h.ro, h.env, hS.ext.trans h.ext, h.opq⟩
theorem LV.call {k : AV → HT → Nat → R} {f : FuncId} {args : List AV} {X : R} (hS : ST w0 base E ρ0 ρ T ro nx its) (h : callK X k = .ok r T' n') (hG : GOk P E f args ro T nx X) (hP : PK n D Q w0 base E ρ0 ro r T' n') (ht : targetA af o.op = some (f, args))
    (hw : wantA ops af o.guard = some true) (hd : o.dst = some d) (hdn : Nat.blt d n = true)
    (hk : ∀ v T1 n1, k v T1 n1 = .ok r T' n' → ∀ ρ1 its1, ST w0 base E ρ0 ρ1 T1 ro n1 its1 → LV P ops n D (.plain Q) w0 base ρ1 its1 ((d, v) :: af) rest) : LV P ops n D (.plain Q) w0 base ρ its af (o :: rest) := fun l hf => by
  cases X with
  | bad c => cases h
  | ok r1 T1 n1 =>
    obtain ⟨hen, hcc⟩ := hG _ _ _ rfl
    obtain ⟨vs, h1, h2⟩ := targetA_ok (P := P) hf ht hen
    refine LX.callE (wantA_ok hf hw) h2 hd hdn (fun w hw => hcc w0 base ρ vs its hS.root h1 w hw) fun e w' he => ?_
    obtain ⟨ρ1, its1, e1, e2, e3⟩ := he
    cases r1 with
    | val v =>
      obtain ⟨u, g1, rfl⟩ := e3
      exact .inl ⟨u, rfl, fun a ha => hk v T1 n1 h ρ1 its1 (hS.up e1) _ (FRel.cons (hf.ext e1.ext) d g1) a w' ha e2⟩
    | pan v =>
      obtain ⟨u, g1, rfl⟩ := e3
      cases h
      exact .inr ⟨_, rfl, fun a ha => hP v rfl ρ1 its1 u (hS.up e1) g1 l a w' ha e2⟩
/-- a function that is a value -/
def dynK (c : Nat) (v : AV) (f : FuncId → List AV → List AV → R) : R :=
  match v with
  | .lit (.func (.func k) x y) => match x.toList with
    | [] => match y.toList with
      | [] => f k [] []
      | _ => .bad c
    | _ => .bad c
  | .fn (.func k) x y => f k x y
  | _ => .bad c
theorem LV.callD {k : AV → HT → Nat → R} {G : FuncId → List AV → R} {qs : List AV} {cl : Call} {fo : Operand} (hS : ST w0 base E ρ0 ρ T ro nx its) (h : dynK c v (fun f p q => callK (G f (p ++ (qs ++ q))) k) = .ok r T' n') (hG : ∀ f args, GOk P E f args ro T nx (G f args)) (hP : PK n D Q w0 base E ρ0 ro r T' n')
    (ho : o.op = .call cl) (hc : cl.callee = .value fo) (hv : evalA af fo = some v) (has : evalsA af cl.args.toList = some qs)
    (hw : wantA ops af o.guard = some true) (hd : o.dst = some d) (hdn : Nat.blt d n = true)
    (hk : ∀ v T1 n1, k v T1 n1 = .ok r T' n' → ∀ ρ1 its1, ST w0 base E ρ0 ρ1 T1 ro n1 its1 → LV P ops n D (.plain Q) w0 base ρ1 its1 ((d, v) :: af) rest) : LV P ops n D (.plain Q) w0 base ρ its af (o :: rest) := by
  unfold dynK at h
  split at h
  · rename_i f x y
    split at h
    · rename_i hx
      split at h
      · rename_i hy
        refine LV.call hS h (hG _ _) hP ?_ hw hd hdn hk
        rw [ho]
        dsimp only [targetA]
        rw [hc]
        dsimp only
        rw [hv]
        dsimp only
        rw [hx, hy, has]
        simp
      · cases h
    · cases h
  · rename_i f x y
    refine LV.call hS h (hG _ _) hP ?_ hw hd hdn hk
    rw [ho]
    dsimp only [targetA]
    rw [hc]
    dsimp only
    rw [hv]
    dsimp only
    rw [has]
    rfl
  · cases h
def panK (c : Nat) (v : AV) (T : HT) (nx : Nat) : R :=
  match v with
  | .iface t u => .ok (.pan (.iface t u)) T nx
  | _ => .bad c
theorem LV.panic (hS : ST w0 base E ρ0 ρ T ro nx its) (h : panK c v T nx = .ok r T' n') (hP : PK n D Q w0 base E ρ0 ro r T' n') (ho : o.op = .panic x) (hx : evalA af x = some v) (hw : wantA ops af o.guard = some true) : LV P ops n D (.plain Q) w0 base ρ its af (o :: rest) := fun l hf => by
  unfold panK at h
  split at h
  · cases h
    obtain ⟨u, h1, h2⟩ := hf.eval hx
    obtain ⟨z, h3, rfl⟩ := inst_if h2
    exact LX.panicE (wantA_ok hf hw) ho h1 fun a w ha hW => hP _ rfl ρ its _ hS h2 l a w ha hW
  · cases h
/-! seams -/
def subA : AF → AF → Prop
  | [], _ => True
  | (k, v) :: t, af => getA af k = some v ∧ subA t af
theorem subA.get : ∀ {F af : AF}, subA F af → ∀ i v, getA F i = some v → getA af i = some v
  | [], _, _, i, v, h => by cases h
  | (k, u) :: t, af, hs, i, v, h => by
    unfold getA at h
    split at h
    · rename_i hb
      cases h
      obtain rfl := beqT hb
      exact hs.1
    · exact hs.2.get i v h
theorem FRel.subA {F : AF} (h : FRel ρ af l) (hs : EY.subA F af) : FRel ρ F l := fun i v hv => h i v (hs.get i v hv)
def SeamAt {τ : Type} (n : Nat) (D : List Deferred) (w0 : World) (base : Nat) (E : List (Nat × AV)) (ρ0 : Rho) (ro : List HT) (F : τ → AF) (TT : τ → HT) (N : τ → Nat) (ok : τ → Prop) (a : Act) (w : World) : Prop :=
  ∃ t ρ1 its1 l1, ST w0 base E ρ0 ρ1 (TT t) ro (N t) its1 ∧ ok t ∧ FRel ρ1 (F t) l1 ∧ Has n D a l1 ∧ WA w0 base its1 w
theorem LV.seam {τ : Type} (F : τ → AF) (TT : τ → HT) (N : τ → Nat) (ok : τ → Prop) (q : Nat) (h1 : LV P ops n D (.plain (Exit.then (SeamAt n D w0 base E ρ0 ro F TT N ok) Q)) w0 base ρ its af (rest.take q))
    (h2 : ∀ t ρ1 its1, ST w0 base E ρ0 ρ1 (TT t) ro (N t) its1 → ok t → LV P ops n D (.plain Q) w0 base ρ1 its1 (F t) (rest.drop q)) : LV P ops n D (.plain Q) w0 base ρ its af rest := fun l hf => by
  rw [← List.take_append_drop q rest]
  intro a w ha hW
  refine wpList_append _ _ a w (h1 l hf a w ha hW) (fun a w h => ?_) (fun e a w he h => by cases e <;> first | exact absurd rfl he | exact h)
  obtain ⟨t, ρ1, its1, l1, e1, e2, e3, e4, e5⟩ := h
  exact h2 t ρ1 its1 e1 e2 l1 e3 a w e4 e5
theorem LV.atSeam {τ : Type} {F : τ → AF} {TT : τ → HT} {N : τ → Nat} {ok : τ → Prop} (t : τ) (hS : ST w0 base E ρ0 ρ (TT t) ro (N t) its) (hok : ok t) (hs : subA (F t) af) : LV P ops n D (.plain (Exit.then (SeamAt n D w0 base E ρ0 ro F TT N ok) Q)) w0 base ρ its af [] :=
  fun l hf _ _ ha hW => ⟨t, ρ, its, l, hS, hok, FRel.subA hf hs, ha, hW⟩
noncomputable def condK (c : Nat) (v : AV) (X Z : R) : R :=
  AV.rec (motive_1 := fun _ => R) (motive_2 := fun _ => Unit) (fun u => Value.rec (motive_1 := fun _ => R) (motive_2 := fun _ => Unit) (motive_3 := fun _ => Unit) (fun b => Bool.rec (motive := fun _ => R) Z X b) (fun _ _ => .bad c) (fun _ _ => .bad c) (fun _ _ _ => .bad c) (fun _ => .bad c) (fun _ => .bad c) (fun _ _ _ => .bad c) (fun _ => .bad c) (fun _ => .bad c) (fun _ _ _ _ _ => .bad c) (.bad c) (fun _ _ _ => .bad c) (.bad c) (fun _ _ => .bad c) (fun _ _ => .bad c) (fun _ _ => ()) () (fun _ _ _ _ => ()) u) (fun _ _ => .bad c) (fun _ _ _ _ => .bad c) (fun _ => .bad c) (fun _ _ => .bad c) (fun _ _ => .bad c) (fun _ _ _ => .bad c) (fun _ _ _ _ _ => .bad c) (fun _ => .bad c) () (fun _ _ _ _ => ()) v
theorem condK_inv {X Z : R} (h : condK c v X Z = .ok r T' n') : (v = .lit (.bool true) ∧ X = .ok r T' n') ∨ (v = .lit (.bool false) ∧ Z = .ok r T' n') := by
  cases v with
  | lit v => cases v with
    | bool b => cases b with
      | true => exact .inl ⟨rfl, h⟩
      | false => exact .inr ⟨rfl, h⟩
    | _ => exact bad_ok h
  | _ => exact bad_ok h
/-! code -/
def CV (P : Program) (n : Nat) (D : List Deferred) (Q : Exit → Act → World → Prop) (w0 : World) (base : Nat) (ρ : Rho) (its : List It) (af : AF) (cd : Code) : Prop := ∀ l, FRel ρ af l → CX P n D Q l (WA w0 base its) cd
def PV (n : Nat) (D : List Deferred) (Q : Exit → Act → World → Prop) (w0 : World) (base : Nat) (ρ : Rho) (its : List It) (af : AF) (e : Exit) : Prop := ∀ l, FRel ρ af l → PX n D Q l (WA w0 base its) e
variable {cd cd' : Code} {id id' : Nat} {e : Exit} {K : Act → World → Prop}
theorem CV.region {lo : List Oper} (h : LV P lo.toArray n D (.plain Q) w0 base ρ its af lo) : CV P n D Q w0 base ρ its af (.region id lo.toArray false) := fun l hf => CX.region (h l hf)
theorem LV.done (h : PV n D Q w0 base ρ its af .normal) : LV P ops n D (.plain Q) w0 base ρ its af [] := fun l hf => LX.next (h l hf)
theorem CV.seq (h : CV P n D (Exit.then (fun a w => cd'.wp P Q a w) Q) w0 base ρ its af cd) : CV P n D Q w0 base ρ its af (.seq cd cd') := fun l hf => CX.seq (h l hf)
theorem CV.cond {X Z : R} {xo : Operand} (h : condK c v X Z = .ok r T' n') (hx : evalA af xo = some v) (hT : v = .lit (.bool true) → X = .ok r T' n' → CV P n D Q w0 base ρ its af cd) (hF : v = .lit (.bool false) → Z = .ok r T' n' → CV P n D Q w0 base ρ its af cd') : CV P n D Q w0 base ρ its af (.cond xo cd cd') := fun l hf => by
  rcases condK_inv h with ⟨rfl, h⟩ | ⟨rfl, h⟩
  · exact CX.cond (evlit hf hx) (fun _ => hT rfl h l hf) (fun hb => by cases hb)
  · exact CX.cond (evlit hf hx) (fun hb => by cases hb) (fun _ => hF rfl h l hf)
theorem CV.block (h : CV P n D (Exit.inBlock id Q) w0 base ρ its af cd) : CV P n D Q w0 base ρ its af (.block id cd) := fun l hf => CX.block (h l hf)
theorem CV.skip (h : PV n D Q w0 base ρ its af .normal) : CV P n D Q w0 base ρ its af .skip := fun l hf => CX.skip (h l hf)
theorem CV.exit (h : PV n D Q w0 base ρ its af (.exit id)) : CV P n D Q w0 base ρ its af (.exit id) := fun l hf => CX.exit (h l hf)
theorem CV.ret (h : PV n D Q w0 base ρ its af .ret) : CV P n D Q w0 base ρ its af .ret := fun l hf => CX.ret (h l hf)
theorem PV.thenN (h : CV P n D Q w0 base ρ its af cd) : PV n D (Exit.then (fun a w => cd.wp P Q a w) Q) w0 base ρ its af .normal := h
theorem PV.thenE (h : PV n D Q w0 base ρ its af (.exit id)) : PV n D (Exit.then K Q) w0 base ρ its af (.exit id) := h
theorem PV.thenR (h : PV n D Q w0 base ρ its af .ret) : PV n D (Exit.then K Q) w0 base ρ its af .ret := h
theorem PV.blockN (h : PV n D Q w0 base ρ its af .normal) : PV n D (Exit.inBlock id Q) w0 base ρ its af .normal := h
theorem PV.blockR (h : PV n D Q w0 base ρ its af .ret) : PV n D (Exit.inBlock id Q) w0 base ρ its af .ret := h
theorem PV.blockE (h : PV n D Q w0 base ρ its af .normal) : PV n D (Exit.inBlock id Q) w0 base ρ its af (.exit id) := fun l hf => PX.blockE (h l hf)
theorem PV.blockO (hne : Nat.beq id' id = false) (h : PV n D Q w0 base ρ its af (.exit id')) : PV n D (Exit.inBlock id Q) w0 base ρ its af (.exit id') := fun l hf => PX.blockO hne (h l hf)
theorem CV.seam {τ : Type} (F : τ → AF) (TT : τ → HT) (N : τ → Nat) (ok : τ → Prop) (h1 : CV P n D (Exit.then (SeamAt n D w0 base E ρ0 ro F TT N ok) Q) w0 base ρ its af cd)
    (h2 : ∀ t ρ1 its1, ST w0 base E ρ0 ρ1 (TT t) ro (N t) its1 → ok t → CV P n D Q w0 base ρ1 its1 (F t) cd') : CV P n D Q w0 base ρ its af (.seq cd cd') := fun l hf a w ha hW =>
  wp_seq (wp_mono (h1 l hf a w ha hW) fun e a' w' h => by
    cases e with
    | normal =>
      obtain ⟨t, ρ1, its1, l1, e1, e2, e3, e4, e5⟩ := h
      exact h2 t ρ1 its1 e1 e2 l1 e3 a' w' e4 e5
    | _ => exact h)
theorem PV.atSeam {τ : Type} {F : τ → AF} {TT : τ → HT} {N : τ → Nat} {ok : τ → Prop} (t : τ) (hS : ST w0 base E ρ0 ρ (TT t) ro (N t) its) (hok : ok t) (hs : subA (F t) af) : PV n D (Exit.then (SeamAt n D w0 base E ρ0 ro F TT N ok) Q) w0 base ρ its af .normal :=
  fun l hf _ _ ha hW => ⟨t, ρ, its, l, hS, hok, FRel.subA hf hs, ha, hW⟩
/-- a loop: its rounds are counted down -/
theorem CV.loop {τ : Type} (F : τ → AF) (TT : τ → HT) (N : τ → Nat) (ok : Nat → τ → Prop) (f0 : Nat) (t0 : τ) (hS : ST w0 base E ρ0 ρ (TT t0) ro (N t0) its) (hok : ok f0 t0) (hs : subA (F t0) af)
    (round : ∀ f t ρ1 its1, ST w0 base E ρ0 ρ1 (TT t) ro (N t) its1 → ok f t → CV P n D (Exit.then (SeamAt (τ := Nat × τ) n D w0 base E ρ0 ro (fun q => F q.2) (fun q => TT q.2) (fun q => N q.2) (fun q => q.1 < f ∧ ok q.1 q.2)) Q) w0 base ρ1 its1 (F t) cd) : CV P n D Q w0 base ρ its af (.loop cd) := by
  intro l hf a w ha hW b k cs
  have key : ∀ f t ρ1 its1, ST w0 base E ρ0 ρ1 (TT t) ro (N t) its1 → ok f t → ∀ l1, FRel ρ1 (F t) l1 → ∀ a w, Has n D a l1 → WA w0 base its1 w →
      ∃ e a' w', Q e a' w' ∧ Arrives P (lone (b.at a (.code cd :: .inLoop cd :: k)) cs w) b k cs e a' w' := by
    intro f
    induction f using Nat.strongRecOn with
    | _ f ih =>
      intro t ρ1 its1 hS1 hok1 l1 hf1 a w ha hw
      obtain ⟨e, a₁, w₁, hq, harr⟩ := round f t ρ1 its1 hS1 hok1 l1 hf1 a w ha hw b (.inLoop cd :: k) cs
      cases e with
      | normal =>
        obtain ⟨⟨f2, t2⟩, ρ2, its2, l2, e1, ⟨hlt, e2⟩, e3, e4, e5⟩ := hq
        obtain ⟨e₂, a₂, w₂, hq₂, harr₂⟩ := ih f2 hlt t2 ρ2 its2 e1 e2 l2 e3 a₁ w₁ e4 e5
        exact ⟨e₂, a₂, w₂, hq₂, .of_steps (Steps.trans harr (.one step_inLoop)) harr₂⟩
      | exit id => exact ⟨_, a₁, w₁, hq, .pass (x := .inLoop cd) rfl (fun _ _ => .inl (by simp)) harr⟩
      | goto l => exact ⟨_, a₁, w₁, hq, .pass (x := .inLoop cd) rfl (fun _ _ => .inl (by simp)) harr⟩
      | ret => exact ⟨_, a₁, w₁, hq, .pass (x := .inLoop cd) rfl (fun _ _ => .inl (by simp)) harr⟩
      | panic ch => exact ⟨_, a₁, w₁, hq, .pass (x := .inLoop cd) rfl (fun _ _ => .inl (by simp)) harr⟩
      | outgrown => exact ⟨_, a₁, w₁, hq, .pass (x := .inLoop cd) rfl (fun _ _ => .inl (by simp)) harr⟩
  obtain ⟨e, a', w', hq, harr⟩ := key f0 t0 ρ its hS hok l (FRel.subA hf hs) a w ha hW
  exact ⟨e, a', w', hq, .of_steps (.one step_loop) harr⟩
/-! functions -/
def Root (P : Program) (fn : Func) (w0 : World) (base : Nat) (E : List (Nat × AV)) (ρ0 : Rho) (ro : List HT) (r : AR) (T' : HT) (n' : Nat) : Exit → Act → World → Prop :=
  bodyPost P fn fun e w' => ∃ ρ' its', ST w0 base E ρ0 ρ' T' ro n' its' ∧ WA w0 base its' w' ∧ endOk ρ' r e
theorem GOk.of_body {f : FuncId} {fn : Func} {args : List AV} {X : R} (hf : P.funcs[f]? = some fn) (hb : fn.body = some cd) (hn : fn.ntmps = n) (hname : (fn.name == "runtime.NumGoroutine") = false) (hlen : Nat.ble args.length n = true)
    (h : ∀ r T' n', X = .ok r T' n' → ∀ w0 base ρ its, ST w0 base E ρ ρ T ro nx its → PK n [] (Root P fn w0 base E ρ ro r T' n') w0 base E ρ ro r T' n' → CV P n [] (Root P fn w0 base E ρ ro r T' n') w0 base ρ its (frameOf 0 args) cd) : GOk P E f args ro T nx X := by
  intro r T' n' hX
  refine ⟨Enters.of hf hname (by rw [hb]; rfl), fun w0 base ρ vs its hS hA w hW => ?_⟩
  subst hn
  have hvl := instL_len hA
  have hlen' : args.length ≤ fn.ntmps := by simpa using hlen
  refine calls_of_wp hf hb ?_
  refine h r T' n' hX w0 base ρ its hS (fun v hv ρ1 its1 u e1 e2 l a w ha hw => ?_) _ (frameOf_ok hA 0) _ w ?_ hW
  · subst hv
    exact ⟨ha.defs, ρ1, its1, e1, hw, u, e2, rfl⟩
  · refine ⟨by simp; omega, rfl, fun i v hi => ?_⟩
    obtain ⟨_, h2⟩ := get_argFr vs 0 i v hi
    have hlt : i < vs.length := (List.getElem?_eq_some_iff.1 h2).1
    rw [Array.getElem?_append_left (by simpa using hlt)]
    simpa using h2
/-- results -/
def RS (P : Program) (w0 : World) (base n : Nat) (ρ : Rho) (its : List It) (af : AF) (rs : List ResultVar) (vs : List AV) : Prop :=
  ∀ l a w, FRel ρ af l → Has n [] a l → WA w0 base its w → ∃ us, instL ρ vs = some us ∧ (rs.mapM (resS a.tmps)).run P w = .ok us w
theorem RS.nil : RS P w0 base n ρ its af [] [] := fun l a w hf ha hw => ⟨[], rfl, by simp⟩
theorem RS.tmp {s : Nat} {rs : List ResultVar} {vs : List AV} (hv : getA af s = some v) (h : RS P w0 base n ρ its af rs vs) : RS P w0 base n ρ its af (.tmp s :: rs) (v :: vs) := fun l a w hf ha hw => by
  obtain ⟨us, h1, h2⟩ := h l a w hf ha hw
  obtain ⟨u, h3, h4⟩ := hf s v hv
  refine ⟨u :: us, instL_mk h4 h1, ?_⟩
  have e2 : (resS a.tmps (.tmp s)).run P w = .ok u w := by simp [resS, getD_of ha h3]
  rw [List.mapM_cons, Sem.run_bind, e2, Result.andThen_ok, Sem.run_bind, h2, Result.andThen_ok, Sem.run_pure]
theorem RS.cell {s : Nat} {rs : List ResultVar} {vs : List AV} (hv : VAL P (WA w0 base its) ρ af (.load t (.tmp s)) v) (h : RS P w0 base n ρ its af rs vs) : RS P w0 base n ρ its af (.cell s t :: rs) (v :: vs) := fun l a w hf ha hw => by
  obtain ⟨us, h1, h2⟩ := h l a w hf ha hw
  obtain ⟨u, h3, h4⟩ := hv l hf 0
  refine ⟨u :: us, instL_mk h3 h1, ?_⟩
  have e2 : (resS a.tmps (.cell s t)).run P w = .ok u w := by
    have g3 := h4 a.eval ha.eval { dst := none, op := .load t (.tmp s), type := 0, pos := "", after := #[], guard := none } rfl rfl w hw
    have g4 : (Instr.loadAt t (a.eval (.tmp s))).run P w = .ok u w := run_bindv_inv g3
    have g5 : a.eval (.tmp s) = a.tmps.getD s undef := rfl
    rw [g5] at g4
    cases hv : a.tmps.getD s undef with
    | pointer p =>
      rw [hv] at g4
      dsimp only [resS]
      rw [hv]
      cases p with
      | none => cases g4
      | some p => simpa [Instr.loadAt, Instr.sureAddr, asAddr] using g4
    | _ => rw [hv] at g4; cases g4
  rw [List.mapM_cons, Sem.run_bind, e2, Result.andThen_ok, Sem.run_bind, h2, Result.andThen_ok, Sem.run_pure]
def resOf : List AV → AV
  | [v] => v
  | vs => .tup vs
theorem PV.ret {fn : Func} {rs : List ResultVar} {vs : List AV} (he : e = .ret ∨ e = .normal) (hr : fn.results = rs.toArray) (hS : ST w0 base E ρ0 ρ T' ro n' its) (h : RS P w0 base n ρ its af rs vs) (hv : resOf vs = v) : PV n [] (Root P fn w0 base E ρ0 ro (.val v) T' n') w0 base ρ its af e := fun l hf a w ha hW => by
  obtain ⟨us, e1, e2⟩ := h l a w hf ha hW
  have e3 : (results fn a.tmps).run P w = .ok (if h : us.toArray.size = 1 then us.toArray[0] else .tuple us.toArray) w := by
    rw [results_eq, Array.mapM_eq_mapM_toList, hr, List.toList_toArray, Sem.run_bind, Sem.run_map, e2]
    rfl
  have e4 : ∃ u, inst ρ v = some u ∧ (results fn a.tmps).run P w = .ok u w := by
    subst hv
    cases vs with
    | nil => cases e1; exact ⟨.tuple #[], by unfold resOf inst; rfl, by rw [e3]; rfl⟩
    | cons x r =>
      obtain ⟨u, us', rfl, g1, g2⟩ := instL_cons e1
      cases r with
      | nil => cases g2; exact ⟨u, g1, by rw [e3]; rfl⟩
      | cons y r' =>
        refine ⟨.tuple (u :: us').toArray, by unfold resOf inst; rw [e1]; rfl, ?_⟩
        rw [e3, dif_neg]
        have := instL_len g2
        simp at this ⊢
        intro hn
        subst hn
        simp at this
  obtain ⟨u, g1, g2⟩ := e4
  rcases he with rfl | rfl
  · exact ⟨ha.defs, u, g2, ρ, its, hS, hW, u, g1, rfl⟩
  · exact ⟨ha.defs, u, g2, ρ, its, hS, hW, u, g1, rfl⟩
end
end Go.EY
