/-
  Proved here: a map whose keys are values that are pointers: what it holds is found, or not.
-/
import Derived.Test.YtifanilblkellaaGreatDoorDdE
namespace Go.SX
open Go.RowKit Go.EX Go.EB Go.Ss Go.Proofs.YtifanilblkellaaGreatDoor
section
variable {P : Program} {ops : Array Oper} {n d : Nat} {D : List Deferred} {l : Fr} {W : World → Prop} {rest : List Oper} {o : Oper} {x y z : Operand} {t ty : TypeId} {w0 : World} {base : Nat} {its : List It} {Q : Exit → Act → World → Prop} {v : Value}
theorem run_if_ne {kt : TypeId} {ms : Array (String × TypeId)} (hkd : P.underlying kt = some (.interface ms)) {t t' : TypeId} (hne : t ≠ t') {u z : Value} {w : World} (dd : Nat) : (Op.equalIn (dd + 1) kt (.iface t u) (.iface t' z)).run P w = .ok false w := by
  simp [Op.equalIn, run_underlying hkd, hne]
theorem run_ptr_equal {te : TypeId} {j : TypeInfo} {p q : Addr} {bb : Bool} {w : World} (hp : P.underlying t = some (.pointer te)) (hj : P.info? te = some j) (hs : j.size ≠ 0) (h : (sameAddr p q).run P w = .ok bb w) (dd : Nat) :
    (Op.equalIn (dd + 1) t (.pointer (some p)) (.pointer (some q))).run P w = .ok bb w := by
  simp [Op.equalIn, run_underlying hp, sizeOf, typeInfo, hj, hs, h]
theorem run_if_eq' {kt : TypeId} {ms : Array (String × TypeId)} (hkd : P.underlying kt = some (.interface ms)) {t : TypeId} {i : TypeInfo} (hi : P.info? t = some i) (hc : i.comparable = true) {u z : Value} {bb : Bool} {w : World} {dd : Nat} (h : (Op.equalIn dd t u z).run P w = .ok bb w) : (Op.equalIn (dd + 1) kt (.iface t u) (.iface t z)).run P w = .ok bb w := by
  rw [Op.equalIn]
  simp [run_underlying hkd, typeInfo, hi, hc, h]
theorem run_if_eq {kt : TypeId} {ms : Array (String × TypeId)} (hkd : P.underlying kt = some (.interface ms)) {t : TypeId} {i : TypeInfo} (hi : P.info? t = some i) (hc : i.comparable = true) {u z : Value} {bb : Bool} {w : World} (h : (Op.equalIn (9998 + 1) t u z).run P w = .ok bb w) : (Op.equal kt (.iface t u) (.iface t z)).run P w = .ok bb w := run_if_eq' (dd := 9999) hkd hi hc h
theorem run_check_ifp' {kt tp te : TypeId} {ms : Array (String × TypeId)} (hkd : P.underlying kt = some (.interface ms)) (hc : CmpT P tp te) (p : Addr) (e : Bool) (w : World) (dd : Nat) : (Instr.checkKey e (dd + 1 + 1) kt (.iface tp (.pointer (some p)))).run P w = .ok () w := by
  obtain ⟨i, e2, e3⟩ := hc.cmp
  simp [Instr.checkKey, run_underlying hkd, typeInfo, e2, e3, run_underlying hc.un]
theorem run_check_ifp {kt tp te : TypeId} {ms : Array (String × TypeId)} (hkd : P.underlying kt = some (.interface ms)) (hc : CmpT P tp te) (p : Addr) (e : Bool) (w : World) : (Instr.checkKey e 10000 kt (.iface tp (.pointer (some p)))).run P w = .ok () w := run_check_ifp' hkd hc p e w 9998
/-- a value that is a pointer to what is there -/
def KeyIn (P : Program) (W : World → Prop) (v : Value) : Prop := ∃ tp te b, v = .iface tp (.pointer (some ⟨b, 0, none⟩)) ∧ CmpT P tp te ∧ ∀ w, W w → ∃ c t, w.heap[b]? = some (.cells c t (0, 0))
theorem key_eqR {kt : TypeId} {ms : Array (String × TypeId)} (hkd : P.underlying kt = some (.interface ms)) {u v : Value} (hu : KeyIn P W u) (hv : KeyIn P W v) : EqR P W kt v u true ∧ u = v ∨ EqR P W kt v u false := by
  obtain ⟨tp, te, b, rfl, hc, hb⟩ := hv
  obtain ⟨tp2, te2, b2, rfl, hc2, hb2⟩ := hu
  by_cases ht : tp = tp2
  · subst ht
    obtain ⟨i, h1, h2⟩ := hc.cmp
    obtain ⟨j, h3, h4⟩ := hc.siz
    by_cases e : b = b2
    · subst e
      refine .inl ⟨fun w hw => ?_, rfl⟩
      exact run_if_eq hkd h1 h2 (run_ptr_equal (w := w) hc.un h3 h4 (run_sameAddr_same (P := P) w ⟨b, 0, none⟩) 9998)
    · refine .inr fun w hw => ?_
      obtain ⟨c1, t1, g1⟩ := hb w hw
      obtain ⟨c2, t2, g2⟩ := hb2 w hw
      exact run_if_eq hkd h1 h2 (run_ptr_equal (w := w) hc.un h3 h4 (run_sameAddr_other (P := P) w (a := ⟨b, 0, none⟩) (b := ⟨b2, 0, none⟩) (fun h => e (by injection h)) g1 g2) 9998)
  · exact .inr fun w _ => run_if_ne hkd ht 9999
theorem found_if {kt : TypeId} {ms : Array (String × TypeId)} (hkd : P.underlying kt = some (.interface ms)) {v : Value} (hv : KeyIn P W v) : ∀ {ks us : List Value} {bs : List Nat} (i : Nat), (∀ k ∈ ks, KeyIn P W k) → us.length = ks.length → bs.length = ks.length →
    Fnd P W kt v (mkEs ks us bs) i none ∨ ∃ j u, Fnd P W kt v (mkEs ks us bs) i (some (j, u)) ∧ u ∈ us
  | [], us, bs, i, _, _, _ => .inl (by rw [mkEs_nil1]; exact Fnd.nil)
  | k :: ks, [], bs, i, _, h1, _ => by cases h1
  | k :: ks, u :: us, [], i, _, _, h2 => by cases h2
  | k :: ks, u :: us, b :: bs, i, h, h1, h2 => by
    rcases key_eqR hkd (h k List.mem_cons_self) hv with ⟨e1, _⟩ | e1
    · exact .inr ⟨i, u, Fnd.yes (e := ⟨k, u, b⟩) e1, List.mem_cons_self⟩
    · rcases found_if hkd hv (i + 1) (fun k hk => h k (List.mem_cons_of_mem _ hk)) (by simpa using h1) (by simpa using h2) (ks := ks) (us := us) (bs := bs) with e2 | ⟨j, u2, e2, e3⟩
      · exact .inl (Fnd.no (e := ⟨k, u, b⟩) e1 e2)
      · exact .inr ⟨j, u2, Fnd.no (e := ⟨k, u, b⟩) e1 e2, List.mem_cons_of_mem _ e3⟩
/-- what was met -/
@[reducible] def metI (b : Nat) (ks us : List Value) (bs : List Nat) (ck : Nat) : It := .obj b (.map (mkEs ks us bs).toArray ck)
structure MetOk (P : Program) (W : World → Prop) (ks us : List Value) (bs : List Nat) : Prop where
  keys : ∀ k ∈ ks, KeyIn P W k
  l1 : us.length = ks.length
  l2 : bs.length = ks.length
  tt : ∀ u ∈ us, u = .bool true
theorem Y.lookIf (j : Nat) {kt et : TypeId} {ms : Array (String × TypeId)} {b ck : Nat} {v : Value} {ks us : List Value} {bs : List Nat} {q : Bool} (ht : P.underlying t = some (.map kt et)) (hk : P.underlying kt = some (.interface ms)) (hz : zeroW P et = some (.bool false))
    (hx : evl l x = some (.map (some b))) (hy : evl l y = some v) (hj : its[j]? = some (metI b ks us bs ck)) (hv : KeyIn P (WA w0 base its) v) (hq : Fnd P (WA w0 base its) kt v (mkEs ks us bs) 0 none ∧ q = false ∨ ∃ i, Fnd P (WA w0 base its) kt v (mkEs ks us bs) 0 (some (i, .bool true)) ∧ q = true) :
    Y P l (WA w0 base its) (.lookup t x y false) ty (.bool q) := by
  intro ρ hρ o' ho htt w hW
  obtain ⟨tp, te, p, rfl, hc, _⟩ := hv
  rcases hq with ⟨e, rfl⟩ | ⟨i, e, rfl⟩
  · have hr := lookup_run (ok := false) ht hk (fun e => run_check_ifp hk hc _ e w) hz (hW.get hj).2 e hW
    simp only [execOp, ho, hρ _ _ hx, hρ _ _ hy, Sem.run_bind, hr]
    rfl
  · have hr := lookup_run (ok := false) ht hk (fun e => run_check_ifp hk hc _ e w) hz (hW.get hj).2 e hW
    simp only [execOp, ho, hρ _ _ hx, hρ _ _ hy, Sem.run_bind, hr]
    rfl
theorem met_look {kt : TypeId} {ms : Array (String × TypeId)} (hk : P.underlying kt = some (.interface ms)) {v : Value} {ks us : List Value} {bs : List Nat} (hv : KeyIn P W v) (hm : MetOk P W ks us bs) :
    ∃ q, (Fnd P W kt v (mkEs ks us bs) 0 none ∧ q = false) ∨ ∃ i, Fnd P W kt v (mkEs ks us bs) 0 (some (i, .bool true)) ∧ q = true := by
  rcases found_if hk hv 0 hm.keys hm.l1 hm.l2 with e | ⟨j, u, e, hu⟩
  · exact ⟨false, .inl ⟨e, rfl⟩⟩
  · obtain rfl := hm.tt u hu
    exact ⟨true, .inr ⟨j, e, rfl⟩⟩
theorem LX.metPut (j : Nat) {kt et : TypeId} {ms : Array (String × TypeId)} {b ck : Nat} {v : Value} {ks us : List Value} {bs : List Nat} (ht : P.underlying t = some (.map kt et)) (hk : P.underlying kt = some (.interface ms)) (ho : o.op = .mapUpdate t x y z)
    (hx : evl l x = some (.map (some b))) (hy : evl l y = some v) (hz : evl l z = some (.bool true)) (hj : its[j]? = some (metI b ks us bs ck)) (hv : KeyIn P (WA w0 base its) v) (hm : MetOk P (WA w0 base its) ks us bs) (hq : Fnd P (WA w0 base its) kt v (mkEs ks us bs) 0 none) (hg : o.guard = none) (hd : o.dst = none)
    (h : LX P ops n D (.plain Q) l (WA w0 base (its.set j (metI b (ks ++ [v]) (us ++ [.bool true]) (bs ++ [ck]) (ck + 1)))) rest) :
    LX P ops n D (.plain Q) l (WA w0 base its) (o :: rest) := by
  intro a w ha hW
  unfold wpList
  rw [if_pos (wanted_none hg)]
  left
  unfold Oper.wp
  obtain ⟨tp, te, p, rfl, hc, _⟩ := hv
  have hrun := mapUpdate_run (u := .bool true) ht hk (run_check_ifp hk hc _ false w) (hW.get hj).2 hq hW (by simp [Instr.sameBits]) (fun j v hq => by cases hq) (fun _ => ⟨hm.l1.symm, hm.l2.symm⟩)
  have : (execOp a.eval o).run P w = .ok .skip { w with heap := w.heap.setIfInBounds b (.map (mkEs (ks ++ [.iface tp (.pointer (some ⟨p, 0, none⟩))]) (us ++ [.bool true]) (bs ++ [ck])).toArray (ck + 1)) } := by
    simp only [execOp, ho, ha.eval _ _ hx, ha.eval _ _ hy, ha.eval _ _ hz, Sem.run_bind, hrun]; rfl
  rw [this]
  simp only [Oper.upon, hd]
  exact h _ _ ha (WA.setObj hW hj _)
theorem KeyIn.mono {W' : World → Prop} {v : Value} (h : KeyIn P W v) (hw : ∀ w, W' w → W w) : KeyIn P W' v := by
  obtain ⟨tp, te, b, e, hc, hb⟩ := h
  exact ⟨tp, te, b, e, hc, fun w hW => hb w (hw w hW)⟩
end
end Go.SX
