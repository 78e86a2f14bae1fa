/-
  Proved here: more steps of a machine of mine: an empty slice literal.
-/
import Derived.Test.YtljaoofbklkglaaGreatDoorEyJ
import Derived.Test.YtljaoofbklkglaaGreatDoorTmod
namespace Go.EY
open Go.SX Go.EX Go.RowKit
section
variable {P : Program} {w0 : World} {base : Nat} {ρ0 ρ : Rho} {T : HT} {ro : List HT} {nx : Nat} {its : List It} {E : List (Nat × AV)} {af : AF} {l : Fr}
variable {ops : Array Oper} {n : Nat} {D : List Deferred} {Q : Exit → Act → World → Prop} {rest : List Oper} {o : Oper} {d : Nat}
variable {r : AR} {T' : HT} {n' c : Nat} {x y : Operand} {a b v : AV} {t t2 : TypeId}
noncomputable def bs0K (T : HT) (nx : Nat) (e : TypeId) (size : Nat) (k : AV → HT → Nat → R) : R := T.insK nx (.row 0 e size .nil) fun T1 => k (.sl nx 0 0 0) T1 (Nat.add nx 1)
theorem LV.bs0 {k : AV → HT → Nat → R} {e size by' : Nat} {z : Value} (hS : ST w0 base E ρ0 ρ T ro nx its) (h : bs0K T nx e size k = .ok r T' n') (ho : o.op = .buildSlice t 0 #[]) (he : elemT P t = some (e, size, by', z))
    (hw : wantA ops af o.guard = some true) (hd : o.dst = some d) (hdn : Nat.blt d n = true)
    (hk : ∀ v T1 n1, k v T1 n1 = .ok r T' n' → After P ops n D Q w0 base E ρ0 ro its T1 n1 ((d, v) :: af) rest) : LV P ops n D (.plain Q) w0 base ρ its af (o :: rest) := fun l hf => by
  obtain ⟨hEl, hSz, _⟩ := elemT_ok he
  obtain ⟨hp, hs, hH⟩ := hS.hp
  refine LX.unguard (wantA_ok hf hw) ?_
  unfold bs0K at h
  rw [HT.insK_eq] at h
  refine LX.buildSlice (o := { o with guard := none }) (e := e) (size := size) (k := 0) (parts := []) (vals := []) ho rfl (fun w => ?_) (by simp [flat]) (by omega) rfl hd hdn fun b => ?_
  · have h1 := run_underlying hEl.ht w
    have h2 := hSz w
    have h3 : Array.map (fun _ => (default : Value)) (Array.range 0) = #[] := by apply Array.eq_empty_of_size_eq_zero; simp
    simp [Instr.buildSlice, h1, h2, Instr.fill, flat, newRow, h3]
  have hE := Ext.add hS.fresh b 0
  have hST := hS.new hs hH b 0 (m := .row 0 e size .nil) ⟨[], rfl, VRel.nil _⟩ (instI_mkrow (rat_add _ _ _ _) rfl)
  exact hk _ _ _ h _ _ hST (fun w hw => hw.drop (List.sublist_cons_self _ _)) _ (FRel.cons (hf.ext hE) d (by unfold inst; rw [rat_add]; rfl))
/-- a row, before something is put behind a slice of it that was cut -/
noncomputable def shrK (c : Nat) (T : HT) (a : AV) (k : HT → R) : R :=
  AV.rec (motive_1 := fun _ => R) (motive_2 := fun _ => Unit) (fun _ => k T) (fun _ _ => k T) (fun id _ q _ => T.getK (fun m => MI.rec (motive := fun _ => R) (fun _ _ => k T) (fun q' e s vt => Bool.rec (motive := fun _ => R) (k T) ((MI.row q' e s vt).cellsK c (Nat.mul q s) 0 fun l0 => vtK l0 1 .nil fun vt0 => T.insK id (.row q e s vt0) k) (Nat.blt q q')) (fun _ _ _ _ => k T) m) (k T) id) (fun _ => k T) (fun _ _ => k T) (fun _ _ => k T) (fun _ _ _ => k T) (fun _ _ _ _ _ => k T) (fun _ => k T) () (fun _ _ _ _ => ()) a
theorem shrK_inv {k : HT → R} (hS : ST w0 base E ρ0 ρ T ro nx its) (h : shrK c T a k = .ok r T' n') : ∃ T1 its1, k T1 = .ok r T' n' ∧ ST w0 base E ρ0 ρ T1 ro nx its1 ∧ ∀ w, WA w0 base its w → WA w0 base its1 w := by
  have same : k T = .ok r T' n' → ∃ T1 its1, k T1 = .ok r T' n' ∧ ST w0 base E ρ0 ρ T1 ro nx its1 ∧ ∀ w, WA w0 base its w → WA w0 base its1 w := fun h => ⟨T, its, h, hS, fun _ z => z⟩
  cases a with
  | sl id off q sk =>
    rcases HT.getK_inv (h : T.getK (fun m => MI.rec (motive := fun _ => R) (fun _ _ => k T) (fun q' e s vt => Bool.rec (motive := fun _ => R) (k T) ((MI.row q' e s vt).cellsK c (Nat.mul q s) 0 fun l0 => vtK l0 1 .nil fun vt0 => T.insK id (.row q e s vt0) k) (Nat.blt q q')) (fun _ _ _ _ => k T) m) (k T) id = _) with ⟨m, h1, h2⟩ | ⟨_, h2⟩
    · cases m with
      | obj cs ty => exact same h2
      | mp ks vs bs ck => exact same h2
      | row q' e s vt =>
        cases hb : Nat.blt q q' with
        | false =>
          have h3 : Bool.rec (motive := fun _ => R) (k T) ((MI.row q' e s vt).cellsK c (Nat.mul q s) 0 fun l0 => vtK l0 1 .nil fun vt0 => T.insK id (.row q e s vt0) k) (Nat.blt q q') = _ := h2
          rw [hb] at h3
          exact same h3
        | true =>
          have h3 : Bool.rec (motive := fun _ => R) (k T) ((MI.row q' e s vt).cellsK c (Nat.mul q s) 0 fun l0 => vtK l0 1 .nil fun vt0 => T.insK id (.row q e s vt0) k) (Nat.blt q q') = _ := h2
          rw [hb] at h3
          obtain ⟨l0, h4, h5⟩ := MI.cellsK_inv (h3 : (MI.row q' e s vt).cellsK c (Nat.mul q s) 0 (fun l0 => vtK l0 1 .nil fun vt0 => T.insK id (.row q e s vt0) k) = _)
          rw [vtK_eq, HT.insK_eq] at h5
          have hq : q ≤ q' := by have : q < q' := by simpa using hb
                                 omega
          obtain ⟨hp, hs, hH⟩ := hS.hp
          obtain ⟨i, it, hfd, hm⟩ := hs id _ h1
          obtain ⟨xi, _, hxs, hi⟩ := findA_ok hH hfd
          rw [Nat.sub_zero] at hxs
          have hc := (MI.cells_it hm h4).1
          obtain ⟨cs, rfl, hv⟩ := hm
          obtain ⟨p, us, g1, g2, rfl⟩ := instI_row hi
          have hc' : cs.take (q * s) = l0 := by rw [List.drop_zero] at hc; exact hc
          have g3 := instL_take (q * s) g2
          rw [hc'] at g3
          have e' := setH_ok hH hfd (instI_mkrow (ρ := ρ) (id := id) (n := q) (e := e) (s := s) g1 g3)
          rw [Nat.sub_zero] at e'
          refine ⟨_, _, h5, ⟨⟨_, hs.set hfd (m := .row q e s (vtOf l0 1 .nil)) (it := .row q e s l0) ⟨_, rfl, ?_⟩, e'⟩, hS.fresh, hS.ro, hS.env, hS.ext, hS.opq⟩, fun w hw => hw.cut hxs hq⟩
          simpa using vtOf_rel l0 [] .nil (VRel.nil _)
    · exact same h2
  | _ => exact same h
theorem LV.world {its1 : List It} (hw : ∀ w, WA w0 base its w → WA w0 base its1 w) (h : LV P ops n D (.plain Q) w0 base ρ its1 af rest) : LV P ops n D (.plain Q) w0 base ρ its af rest := fun l hf => LX.world hw (h l hf)
/-! a slice held against none -/
theorem Y.nilSl {W : World → Prop} {t ty ty2 e : TypeId} {x : Operand} {a : Addr} {n c : Nat} (h : P.underlying t = some (.slice e)) (hx : evl l x = some (.slice (some a) n c)) : Y P l W (.binOp .eql t x (.const (.slice none 0 0)) ty2) ty (.bool false) := by
  refine Y.bin hx rfl fun w _ => ?_
  have e1 : (Op.equalIn 10000 t (.slice (some a) n c) (.slice none 0 0)).run P w = .ok false w := by
    have h1 := run_underlying h w
    have h2 : ∀ d : Nat, (Op.equalIn (d + 1) t (.slice (some a) n c) (.slice none 0 0)).run P w = .ok false w := fun d => by simp [Op.equalIn, h1]
    exact h2 9999
  have e2 : binOp .eql t (.slice (some a) n c) (.slice none 0 0) = (do pure (.bool (← Op.equalIn 10000 t (.slice (some a) n c) (.slice none 0 0)))) := rfl
  have e3 : eqGuard .eql t x (.const (.slice none 0 0)) (.slice (some a) n c) (.slice none 0 0) = pure () := rfl
  simp only [e3, e2, pure_bind, Sem.run_bind, Sem.run_pure, Result.andThen_ok, e1]
noncomputable def slNilK (a : AV) (neg : Bool) (k : AV → R) (e : R) : R :=
  AV.rec (motive_1 := fun _ => R) (motive_2 := fun _ => Unit) (fun _ => e) (fun _ _ => e) (fun _ _ _ _ => k (.lit (.bool neg))) (fun _ => e) (fun _ _ => e) (fun _ _ => e) (fun _ _ _ => e) (fun _ _ _ _ _ => e) (fun _ => e) () (fun _ _ _ _ => ()) a
theorem slNilK_inv {neg : Bool} {k : AV → R} {e X : R} (h : slNilK a neg k e = X) : (∃ id off q sk, a = .sl id off q sk ∧ k (.lit (.bool neg)) = X) ∨ e = X := by
  cases a with
  | sl id off q sk => exact .inl ⟨_, _, _, _, rfl, h⟩
  | _ => exact .inr h
noncomputable def slEqK (P : Program) (op : BinOp) (neg : Bool) (t : TypeId) (x y : Operand) (c : Nat) (a : AV) (k : AV → R) : R := slNilK a neg k (bin0 P op t x y c a (.lit (.slice none 0 0)) k)
theorem V.slEq {W : World → Prop} {k : AV → R} {e : TypeId} (h : slEqK P .eql false t x (.const (.slice none 0 0)) c a k = .ok r T' n') (hx : evalA af x = some a) (ht : P.underlying t = some (.slice e)) : ∃ v, k v = .ok r T' n' ∧ VAL P W ρ af (.binOp .eql t x (.const (.slice none 0 0)) t2) v := by
  rcases slNilK_inv h with ⟨id, off, q, sk, rfl, h1⟩ | h1
  · refine ⟨_, h1, fun l hf ty => ?_⟩
    obtain ⟨u, g1, g2⟩ := hf.eval hx
    obtain ⟨p, g3, rfl⟩ := inst_sl g2
    exact ⟨_, rfl, Y.nilSl ht g1⟩
  · exact V.bin0 h1 hx rfl
end
end Go.EY
