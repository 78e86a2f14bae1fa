/-
  Proved here: a map of values by texts, as a walk makes, writes and reads it.
-/
import Derived.Test.YtickdimknfeddaaGreatDoorSsT
import Derived.Test.YtickdimknfeddaaGreatDoorKyP
namespace Go.SX
open Go.RowKit Go.EX Go.EB Go.Ky
@[reducible] def mapI (b : Nat) (ks : List T) (us : List Value) (bs : List Nat) (ck : Nat) : It := .obj b (.map (mkEs (ks.map str) us bs).toArray ck)
section
variable {P : Program} {ops : Array Oper} {n d : Nat} {D : List Deferred} {l : Fr} {W : World → Prop} {rest : List Oper} {o : Oper} {x y z : Operand} {t ty : TypeId} {w0 : World} {base : Nat} {its : List It} {Q : Exit → Act → World → Prop} {v : Value}
theorem sameK_str (s k : T) : sameK .string (str s) (str k) = some (decide (s = k)) := by
  unfold sameK str
  simp
theorem findK_str (s : T) : ∀ (ks : List T) (q : Nat), ∃ r, findK .string (str s) ((ks.map str).map .lit) q = some r ∧ (r = none → s ∉ ks)
  | [], q => ⟨none, rfl, fun _ h => by cases h⟩
  | k :: ks, q => by
    by_cases h : s = k
    · exact ⟨some q, by show findK .string (str s) (.lit (str k) :: (ks.map str).map .lit) q = _; unfold findK; rw [sameK_str, decide_eq_true h], fun h => by cases h⟩
    · obtain ⟨r, h1, h2⟩ := findK_str s ks (q + 1)
      refine ⟨r, ?_, fun hr hm => ?_⟩
      · show findK .string (str s) (.lit (str k) :: (ks.map str).map .lit) q = _
        unfold findK
        rw [sameK_str, decide_eq_false h]
        exact h1
      · rcases List.mem_cons.1 hm with rfl | hm
        · exact h rfl
        · exact h2 hr hm
theorem found {kt : TypeId} (hk : P.underlying kt = some .string) {s : T} {ks : List T} {us : List Value} {bs : List Nat} (h1 : us.length = ks.length) (h2 : bs.length = ks.length) :
    (∃ (j : Nat) (u : Value), ks[j]? = some s ∧ us[j]? = some u ∧ ((mkEs (ks.map str) us bs)[j]?).map (·.key) = some (str s) ∧ Fnd P W kt (str s) (mkEs (ks.map str) us bs) 0 (some (j, u))) ∨ (s ∉ ks ∧ Fnd P W kt (str s) (mkEs (ks.map str) us bs) 0 none) := by
  obtain ⟨r, hr, hno⟩ := findK_str s ks 0
  rcases findK_ok (ρ := ⟨[], fun _ => .nilIface, fun _ => rfl⟩) (W := W) hk hr (instL_lit _ (ks.map str)) (xs := us) (bs := bs) (by simpa using h1.symm) (by simpa using h2.symm) with ⟨j, u, _, e2, e3, e4, e5⟩ | ⟨e1, e2⟩
  · rw [Nat.zero_add] at e5
    refine .inl ⟨j, u, ?_, e2, e4, e5⟩
    rw [List.getElem?_map] at e3
    obtain ⟨k, hk1, hk2⟩ := Option.map_eq_some_iff.1 e3
    rw [hk1]
    congr 1
    simpa [str] using hk2
  · exact .inr ⟨hno e1, e2⟩
theorem LX.makeMap {t : TypeId} (ho : o.op = .makeMap t none) (hg : o.guard = none) (hd : o.dst = some d) (hdn : Nat.blt d n = true)
    (h : ∀ b, LX P ops n D (.plain Q) ((d, .map (some b)) :: l) (WA w0 base (mapI b [] [] [] 0 :: its)) rest) : LX P ops n D (.plain Q) l (WA w0 base its) (o :: rest) := by
  refine LX.effx (τ := Nat) (v := fun b => .map (some b)) (W' := fun b => WA w0 base (mapI b [] [] [] 0 :: its)) (fun σ hσ w hW => ⟨w.heap.size, w.alloc (.map #[] 0), ?_, hW.alloc _⟩) hg hd hdn h
  simp [execOp, ho, Instr.makeMap, newObj, Sem.run]
theorem LX.mapPut (j : Nat) {kt et : TypeId} {b : Nat} {s : T} {u : Value} {ks : List T} {us : List Value} {bs : List Nat} {ck : Nat} (ht : P.underlying t = some (.map kt et)) (hk : P.underlying kt = some .string) (ho : o.op = .mapUpdate t x y z)
    (hx : evl l x = some (.map (some b))) (hy : evl l y = some (str s)) (hz : evl l z = some u) (hj : its[j]? = some (mapI b ks us bs ck)) (h1 : us.length = ks.length) (h2 : bs.length = ks.length) (hbs : bs.Nodup ∧ ∀ q ∈ bs, q < ck) (hg : o.guard = none) (hd : o.dst = none)
    (h : ∀ ks' us' bs' ck', ((s ∉ ks ∧ ks' = ks ++ [s] ∧ us' = us ++ [u]) ∨ (s ∈ ks ∧ ks' = ks)) → us'.length = ks'.length → bs'.length = ks'.length → (bs'.Nodup ∧ ∀ q ∈ bs', q < ck') → LX P ops n D (.plain Q) l (WA w0 base (its.set j (mapI b ks' us' bs' ck'))) rest) :
    LX P ops n D (.plain Q) l (WA w0 base its) (o :: rest) := by
  have fin : ∀ (q : Option (Nat × Value)) (o2 : Obj), Fnd P (WA w0 base its) kt (str s) (mkEs (ks.map str) us bs) 0 q → (∀ j v, q = some (j, v) → (ks.map str)[j]? = some (str s) ∧ ((mkEs (ks.map str) us bs)[j]?).map (·.key) = some (str s)) →
      o2 = (match q with | some (j, _) => .map (mkEs (ks.map str) (us.set j u) bs).toArray ck | none => .map (mkEs (ks.map str ++ [str s]) (us ++ [u]) (bs ++ [ck])).toArray (ck + 1)) → LX P ops n D (.plain Q) l (WA w0 base (its.set j (.obj b o2))) rest → LX P ops n D (.plain Q) l (WA w0 base its) (o :: rest) := by
    intro q o2 hq hjq ho2 hlv a w ha hW
    unfold wpList
    rw [if_pos (wanted_none hg)]
    left
    unfold Oper.wp
    have hck : keyOk .string (str s) = true := rfl
    have hrun := mapUpdate_run (u := u) ht hk (keyOk_check hk hck false w) (hW.get hj).2 hq hW (keyOk_bits hck) hjq (fun _ => ⟨by simp [h1], by simp [h2]⟩)
    have hrun : (Instr.mapUpdate t (.map (some b)) (str s) u).run P w = .ok () { w with heap := w.heap.setIfInBounds b o2 } := by
      rw [hrun, ho2]
      rcases q with _ | ⟨j, v⟩ <;> rfl
    have : (execOp a.eval o).run P w = .ok .skip { w with heap := w.heap.setIfInBounds b o2 } := by
      simp only [execOp, ho, ha.eval _ _ hx, ha.eval _ _ hy, ha.eval _ _ hz, Sem.run_bind, hrun]; rfl
    rw [this]
    simp only [Oper.upon, hd]
    exact hlv _ _ ha (WA.setObj hW hj o2)
  rcases found (P := P) (W := WA w0 base its) hk (s := s) h1 h2 with ⟨i, v, e1, e2, e3, e4⟩ | ⟨e1, e2⟩
  · refine fin _ _ e4 (fun j v hq => ?_) rfl (h ks (us.set i u) bs ck (.inr ⟨List.mem_of_getElem? e1, rfl⟩) (by simpa using h1) h2 hbs)
    cases hq
    exact ⟨by rw [List.getElem?_map, e1]; rfl, e3⟩
  · have := h (ks ++ [s]) (us ++ [u]) (bs ++ [ck]) (ck + 1) (.inl ⟨e1, rfl, rfl⟩) (by simp [h1]) (by simp [h2]) ⟨by
      rw [List.nodup_append]
      refine ⟨hbs.1, List.pairwise_singleton _ _, fun a ha b hb => ?_⟩
      rw [List.mem_singleton.1 hb]
      exact Nat.ne_of_lt (hbs.2 a ha), fun q hq => by
      rcases List.mem_append.1 hq with hq | hq
      · have := hbs.2 q hq; omega
      · rw [List.mem_singleton.1 hq]; omega⟩
    refine fin _ _ e2 (fun j v hq => by cases hq) rfl ?_
    simpa [mapI] using this
theorem idx_uniq {ks : List T} {s : T} {i j : Nat} (hn : ks.Nodup) (hi : ks[i]? = some s) (hj : ks[j]? = some s) : i = j := by
  obtain ⟨h1, e1⟩ := List.getElem?_eq_some_iff.1 hi
  obtain ⟨h2, e2⟩ := List.getElem?_eq_some_iff.1 hj
  exact (List.getElem_inj hn).1 (e1.trans e2.symm)
theorem Y.lookH {kt et : TypeId} {b : Nat} {s : T} {u zv : Value} {ks : List T} {us : List Value} {bs : List Nat} {ck i : Nat} (ht : P.underlying t = some (.map kt et)) (hk : P.underlying kt = some .string) (hzv : zeroW P et = some zv)
    (hx : evl l x = some (.map (some b))) (hy : evl l y = some (SX.str s)) (hm : ∀ w, W w → w.heap[b]? = some (.map (mkEs (ks.map SX.str) us bs).toArray ck)) (h1 : us.length = ks.length) (h2 : bs.length = ks.length) (hn : ks.Nodup) (hi : ks[i]? = some s) (hu : us[i]? = some u) :
    Y P l W (.lookup t x y false) ty u := by
  intro ρ hρ o' ho htt w hW
  have hck : keyOk .string (SX.str s) = true := rfl
  rcases found (P := P) (W := W) hk (s := s) h1 h2 with ⟨i2, v, e1, e2, e3, e4⟩ | ⟨e1, e2⟩
  · obtain rfl : i2 = i := idx_uniq hn e1 hi
    rw [hu] at e2
    cases e2
    have hr := lookup_run (ok := false) ht hk (fun e => keyOk_check hk hck e w) hzv (hm w hW) e4 hW
    simp only [execOp, ho, hρ _ _ hx, hρ _ _ hy, Sem.run_bind, hr]
    rfl
  · exact absurd (List.mem_of_getElem? hi) e1
theorem Y.lookN {kt et : TypeId} {b : Nat} {s : T} {zv : Value} {ks : List T} {us : List Value} {bs : List Nat} {ck : Nat} (ht : P.underlying t = some (.map kt et)) (hk : P.underlying kt = some .string) (hzv : zeroW P et = some zv)
    (hx : evl l x = some (.map (some b))) (hy : evl l y = some (SX.str s)) (hm : ∀ w, W w → w.heap[b]? = some (.map (mkEs (ks.map SX.str) us bs).toArray ck)) (h1 : us.length = ks.length) (h2 : bs.length = ks.length) (hn : s ∉ ks) :
    Y P l W (.lookup t x y false) ty zv := by
  intro ρ hρ o' ho htt w hW
  have hck : keyOk .string (SX.str s) = true := rfl
  rcases found (P := P) (W := W) hk (s := s) h1 h2 with ⟨i2, v, e1, e2, e3, e4⟩ | ⟨e1, e2⟩
  · exact absurd (List.mem_of_getElem? e1) hn
  · have hr := lookup_run (ok := false) ht hk (fun e => keyOk_check hk hck e w) hzv (hm w hW) e2 hW
    simp only [execOp, ho, hρ _ _ hx, hρ _ _ hy, Sem.run_bind, hr]
    rfl
theorem Y.neP {e : TypeId} {a : Option Addr} (h : P.underlying t = some (.pointer e)) {ty2 : TypeId} (hx : evl l x = some (.pointer a)) : Y P l W (.binOp .neq t x (.const (.pointer none)) ty2) ty (.bool a.isSome) := by
  refine Y.bin2 hx rfl fun w _ => ?_
  have h1 := run_underlying h w
  have h2 : ∀ d : Nat, (Op.equalIn (d + 1) t (.pointer a) (.pointer none)).run P w = .ok a.isNone w := fun d => by cases a <;> simp [Op.equalIn, h1]
  have e : binOp .neq t (.pointer a) (.pointer none) = (do pure (.bool (! (← Op.equalIn 10000 t (.pointer a) (.pointer none))))) := rfl
  cases a <;> simp [eqGuard, e, Sem.run_bind, h2 9999]
theorem Y.eqP {e : TypeId} {a : Option Addr} (h : P.underlying t = some (.pointer e)) {ty2 : TypeId} (hx : evl l x = some (.pointer a)) : Y P l W (.binOp .eql t x (.const (.pointer none)) ty2) ty (.bool a.isNone) := by
  refine Y.bin2 hx rfl fun w _ => ?_
  have h1 := run_underlying h w
  have h2 : ∀ d : Nat, (Op.equalIn (d + 1) t (.pointer a) (.pointer none)).run P w = .ok a.isNone w := fun d => by cases a <;> simp [Op.equalIn, h1]
  have e : binOp .eql t (.pointer a) (.pointer none) = (do pure (.bool (← Op.equalIn 10000 t (.pointer a) (.pointer none)))) := rfl
  simp [eqGuard, e, Sem.run_bind, h2 9999]
theorem PX.ret3 {R : Ending → World → Prop} {fn : Func} {r s q : Nat} {e : Exit} {u v1 v2 : Value} (he : e = .ret ∨ e = .normal) (hr : fn.results = #[.tmp r, .tmp s, .tmp q]) (hv : get l r = some u) (hu : get l s = some v1) (hq : get l q = some v2) (h : ∀ w, W w → R (.returned (.tuple #[u, v1, v2])) w) : PX n [] (bodyPost P fn R) l W e := by
  intro a w ha hW
  have := results_tmp3 hr a.tmps P w
  rw [getD_of ha hv, getD_of ha hu, getD_of ha hq] at this
  rcases he with rfl | rfl
  · exact ⟨ha.defs, _, this, h w hW⟩
  · exact ⟨ha.defs, _, this, h w hW⟩
end
end Go.SX
