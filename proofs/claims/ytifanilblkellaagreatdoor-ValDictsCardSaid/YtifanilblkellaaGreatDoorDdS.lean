/-
  Proved here: a key taken out of a map, one that is not there, pointers held against each other; a Dict where it lies.
-/
import Derived.Test.YtifanilblkellaaGreatDoorSsR
import Derived.Test.YtifanilblkellaaGreatDoorSsG
import Derived.LaidEqlPtr
import Derived.OwnWalk
namespace Go.SX
open Go.RowKit Go.EX Go.EB Go.Ss Go.Proofs.YtifanilblkellaaGreatDoor
section
variable {P : Program} {ops : Array Oper} {n d : Nat} {D : List Deferred} {l : Fr} {W : World → Prop} {rest : List Oper} {o : Oper} {x y z : Operand} {t ty : TypeId} {w0 : World} {base : Nat} {its : List It} {Q : Exit → Act → World → Prop} {v : Value}
theorem mkEs_erase : ∀ (ks us : List Value) (bs : List Nat) (i : Nat), us.length = ks.length → bs.length = ks.length → (mkEs ks us bs).eraseIdx i = mkEs (ks.eraseIdx i) (us.eraseIdx i) (bs.eraseIdx i)
  | [], us, bs, i, h1, h2 => by
    obtain rfl := List.eq_nil_of_length_eq_zero h1
    obtain rfl := List.eq_nil_of_length_eq_zero h2
    cases i <;> rfl
  | k :: ks, [], bs, i, h1, _ => by cases h1
  | k :: ks, u :: us, [], i, _, h2 => by cases h2
  | k :: ks, u :: us, b :: bs, 0, _, _ => rfl
  | k :: ks, u :: us, b :: bs, i + 1, h1, h2 => by
    show (⟨k, u, b⟩ : MapEntry) :: (mkEs ks us bs).eraseIdx i = _
    rw [mkEs_erase ks us bs i (by simpa using h1) (by simpa using h2)]
    rfl
theorem erase_map {α β : Type} (f : α → β) : ∀ (l : List α) (i : Nat), (l.map f).eraseIdx i = (l.eraseIdx i).map f
  | [], i => rfl
  | a :: l, 0 => rfl
  | a :: l, i + 1 => congrArg (f a :: ·) (erase_map f l i)
theorem LX.mapDel (j : Nat) {kt et : TypeId} {b i : Nat} {s : T} {ks : List T} {us : List Value} {bs : List Nat} {ck : Nat} {ats : Array TypeId} (ht : P.underlying t = some (.map kt et)) (hk : P.underlying kt = some .string) (ho : o.op = .call { callee := .builtin .delete, args := #[x, y], argTypes := ats }) (hat : ats[0]? = some t)
    (hx : evl l x = some (.map (some b))) (hy : evl l y = some (str s)) (hj : its[j]? = some (mapI b ks us bs ck)) (h1 : us.length = ks.length) (h2 : bs.length = ks.length) (hn : ks.Nodup) (hi : ks[i]? = some s) (hg : o.guard = none) (hd : o.dst = none)
    (h : LX P ops n D (.plain Q) l (WA w0 base (its.set j (mapI b (ks.eraseIdx i) (us.eraseIdx i) (bs.eraseIdx i) ck))) rest) : LX P ops n D (.plain Q) l (WA w0 base its) (o :: rest) := by
  intro a w ha hW
  unfold wpList
  rw [if_pos (wanted_none hg)]
  left
  unfold Oper.wp
  have hck : keyOk .string (str s) = true := rfl
  rcases found (P := P) (W := WA w0 base its) hk (s := s) h1 h2 with ⟨i2, u, e1, e2, e3, e4⟩ | ⟨e1, _⟩
  · have hii : i2 = i := (idx_at hn e1).symm.trans (idx_at hn hi)
    subst hii
    have hil := (List.getElem?_eq_some_iff.1 hi).1
    have h3 := MapKept.run_getObj_map (P := P) (hW.get hj).2
    have h4 := e4.run hk hW
    have h5 := keyOk_check hk hck (mkEs (ks.map str) us bs).toArray.isEmpty w
    have h5' : (Instr.checkKey (mkEs (ks.map str) us bs).isEmpty 10000 kt (str s)).run P w = .ok () w := by simpa using h5
    have h6 : (mkEs (ks.map str) us bs).eraseIdx i2 = mkEs ((ks.eraseIdx i2).map str) (us.eraseIdx i2) (bs.eraseIdx i2) := by
      rw [mkEs_erase _ _ _ _ (by simpa using h1) (by simpa using h2), erase_map]
    have hrun : (execOp a.eval o).run P w = .ok (.value (.tuple #[])) { w with heap := w.heap.setIfInBounds b (.map (mkEs ((ks.eraseIdx i2).map str) (us.eraseIdx i2) (bs.eraseIdx i2)).toArray ck) } := by
      simp [execOp, ho, ha.eval _ _ hx, ha.eval _ _ hy, resolve, invoke, builtin, Builtin.delete_, hat, run_underlying ht, h3, h4, h5', h6, MapKept.run_setObj_map _ (hW.get hj).2]
    rw [hrun]
    simp only [Oper.upon, hd]
    exact h _ _ ha (WA.setObj hW hj _)
  · exact absurd (List.mem_of_getElem? hi) e1
theorem Y.lookNo (j : Nat) {kt et : TypeId} {b : Nat} {s : T} {zv : Value} {ks : List T} {us : List Value} {bs : List Nat} {ck : Nat} (ht : P.underlying t = some (.map kt et)) (hk : P.underlying kt = some .string) (hzv : zeroW P et = some zv)
    (hx : evl l x = some (.map (some b))) (hy : evl l y = some (SX.str s)) (hj : its[j]? = some (mapI b ks us bs ck)) (h1 : us.length = ks.length) (h2 : bs.length = ks.length) (hn : s ∉ ks) :
    Y P l (WA w0 base its) (.lookup t x y false) ty zv := by
  intro ρ hρ o' ho htt w hW
  have hck : keyOk .string (SX.str s) = true := rfl
  rcases found (P := P) (W := WA w0 base its) hk (s := s) h1 h2 with ⟨i2, v, e1, e2, e3, e4⟩ | ⟨e1, e2⟩
  · exact absurd (List.mem_of_getElem? e1) hn
  · have hr := lookup_run (ok := false) ht hk (fun e => keyOk_check hk hck e w) hzv (hW.get hj).2 e2 hW
    simp only [execOp, ho, hρ _ _ hx, hρ _ _ hy, Sem.run_bind, hr]
    rfl
theorem Y.eqPP {te : TypeId} {a b : Nat} {ia ib : Nat} {ca cb : List Value} {ta tb : Nat} {ty2 : TypeId} (hc : CmpT P t te) (ha : its[ia]? = some (blk a ca ta)) (hb : its[ib]? = some (blk b cb tb))
    (hx : evl l x = some (.pointer (some ⟨a, 0, none⟩))) (hy : evl l y = some (.pointer (some ⟨b, 0, none⟩))) : Y P l (WA w0 base its) (.binOp .eql t x y ty2) ty (.bool (decide (a = b))) := by
  refine Y.bin hx hy fun w hW => ?_
  obtain ⟨j, h3, h4⟩ := hc.siz
  by_cases e : a = b
  · subst e
    have := run_eql_ptr_same (P := P) w ⟨a, 0, none⟩ hc.un h3
    simp only [eqGuard_at_pointer, Sem.run_bind, Sem.run_pure, Result.andThen_ok, this, decide_true]
  · have := run_eql_ptr_other (P := P) w (a := ⟨a, 0, none⟩) (b := ⟨b, 0, none⟩) hc.un h3 h4 (fun h => e (by injection h)) (hW.get ha).2 (hW.get hb).2
    simp only [eqGuard_at_pointer, Sem.run_bind, Sem.run_pure, Result.andThen_ok, this, decide_eq_false e]
theorem Y.neP {e : TypeId} {a : Option Addr} (h : P.underlying t = some (.pointer e)) {ty2 : TypeId} (hx : evl l x = some (.pointer a)) : Y P l W (.binOp .neq t x (.const (.pointer none)) ty2) ty (.bool a.isSome) := by
  refine Y.bin2 hx rfl fun w _ => ?_
  have h1 := run_underlying h w
  have h2 : ∀ d : Nat, (Op.equalIn (d + 1) t (.pointer a) (.pointer none)).run P w = .ok a.isNone w := fun d => by cases a <;> simp [Op.equalIn, h1]
  have e : binOp .neq t (.pointer a) (.pointer none) = (do pure (.bool (! (← Op.equalIn 10000 t (.pointer a) (.pointer none))))) := rfl
  cases a <;> simp [eqGuard, e, Sem.run_bind, h2 9999]
theorem Y.eqP {e : TypeId} {a : Option Addr} (h : P.underlying t = some (.pointer e)) {ty2 : TypeId} (hx : evl l x = some (.pointer a)) : Y P l W (.binOp .eql t x (.const (.pointer none)) ty2) ty (.bool a.isNone) := by
  refine Y.bin2 hx rfl fun w _ => ?_
  have h1 := run_underlying h w
  have h2 : ∀ d : Nat, (Op.equalIn (d + 1) t (.pointer a) (.pointer none)).run P w = .ok a.isNone w := fun d => by cases a <;> simp [Op.equalIn, h1]
  have e : binOp .eql t (.pointer a) (.pointer none) = (do pure (.bool (← Op.equalIn 10000 t (.pointer a) (.pointer none)))) := rfl
  simp [eqGuard, e, Sem.run_bind, h2 9999]
theorem PX.ret3 {R : Ending → World → Prop} {fn : Func} {r s q : Nat} {e : Exit} {u v1 v2 : Value} (he : e = .ret ∨ e = .normal) (hr : fn.results = #[.tmp r, .tmp s, .tmp q]) (hv : get l r = some u) (hu : get l s = some v1) (hq : get l q = some v2) (h : ∀ w, W w → R (.returned (.tuple #[u, v1, v2])) w) : PX n [] (bodyPost P fn R) l W e := by
  intro a w ha hW
  have := results_tmp3 hr a.tmps P w
  rw [getD_of ha hv, getD_of ha hu, getD_of ha hq] at this
  rcases he with rfl | rfl
  · exact ⟨ha.defs, _, this, h w hW⟩
  · exact ⟨ha.defs, _, this, h w hW⟩
end
end Go.SX
namespace Go.Ss
open Go.SX Go.RowKit Go.Vo Go.Proofs.YtifanilblkellaaGreatDoor Go.Proofs.YtifanilblkellaaGreatDoor.Bsf
/-! a Dict -/
/-- what is set: a key, a value, and where -/
structure En where
  k : Nat
  v : Int
  eb : Nat
  kv : Value
  vv : Value
/-- the text of a key -/
def keyT (k : Nat) : T := [84, 73] ++ (dec k ++ [59, 83, 49, 58, 107, 59, 69, 59])
theorem keyT_inj : ∀ a, a < 12 → ∀ b, b < 12 → keyT a = keyT b → a = b := by decide +kernel
@[reducible] def entI (e : En) : It := blk e.eb [str (keyT e.k), e.kv, e.vv] 91
@[reducible] def ptrE (e : En) : Value := .pointer (some ⟨e.eb, 0, none⟩)
def keysE (es : List En) : List T := es.map fun e => keyT e.k
/-- what a Dict owns -/
@[reducible] def DI (d : Nat) (ge : Option Nat) (ce bm : Nat) (fz : Bool) (es : List En) (bs : List Nat) (ck : Nat) (r : List It) : List It :=
  blk d [rv ge es.length ce, .map (some bm), .bool fz, .int .i64 0] 76 :: .row ge ce es.length 89 1 (es.map ptrE) :: mapI bm (keysE es) (es.map ptrE) bs ck :: (es.map entI ++ r)
structure Dk (es : List En) (bs : List Nat) (ck : Nat) : Prop where
  nd : (es.map (·.k)).Nodup
  lt : ∀ e ∈ es, e.k < 12
  bl : bs.length = es.length
  bn : bs.Nodup ∧ ∀ q ∈ bs, q < ck
theorem keysE_len (es : List En) : (keysE es).length = es.length := List.length_map _
theorem keysE_at {es : List En} {i : Nat} {e : En} (h : es[i]? = some e) : (keysE es)[i]? = some (keyT e.k) := by unfold keysE; rw [List.getElem?_map, h]; rfl
theorem ptrs_at {es : List En} {i : Nat} {e : En} (h : es[i]? = some e) : (es.map ptrE)[i]? = some (ptrE e) := by rw [List.getElem?_map, h]; rfl
theorem Dk.keys {es : List En} {bs : List Nat} {ck : Nat} (h : Dk es bs ck) : (keysE es).Nodup := by
  have h1 := h.nd
  unfold keysE
  refine List.pairwise_map.2 ((List.pairwise_map.1 h1).imp_of_mem fun {a b} ha hb hne e => hne (keyT_inj _ (h.lt a ha) _ (h.lt b hb) e))
theorem Dk.no {es : List En} {bs : List Nat} {ck : Nat} (h : Dk es bs ck) {k : Nat} (hk : k < 12) (hn : k ∉ es.map (·.k)) : keyT k ∉ keysE es := fun hm => by
  obtain ⟨e, he, hq⟩ := List.mem_map.1 hm
  exact hn (List.mem_map.2 ⟨e, he, keyT_inj _ (h.lt e he) _ hk hq⟩)
theorem Dk.few {es : List En} {bs : List Nat} {ck : Nat} (h : Dk es bs ck) : es.length ≤ 12 := by
  have hp : ((List.range 12).filter (fun k => decide (k ∈ es.map (·.k)))).Perm (es.map (·.k)) := (List.perm_ext_iff_of_nodup (List.nodup_range.filter _) h.nd).2 fun k => by
    rw [List.mem_filter, List.mem_range, decide_eq_true_eq]
    constructor
    · exact fun h => h.2
    · intro hk
      refine ⟨?_, hk⟩
      obtain ⟨e, he, rfl⟩ := List.mem_map.1 hk
      exact h.lt e he
  have h1 := hp.length_eq
  have h2 := List.length_filter_le (fun k => decide (k ∈ es.map (·.k))) (List.range 12)
  simp only [List.length_map, List.length_range] at h1 h2
  omega
theorem ent_at {a b c : It} {es : List En} {r : List It} {i : Nat} {e : En} (h : es[i]? = some e) : (a :: b :: c :: (es.map entI ++ r))[i + 3]? = some (entI e) := by
  have hi := (List.getElem?_eq_some_iff.1 h).1
  show (es.map entI ++ r)[i]? = _
  rw [List.getElem?_append_left (by simpa using hi), List.getElem?_map, h]; rfl
theorem ent_set {a b c : It} {es : List En} {r : List It} {i : Nat} {e : En} (hi : i < es.length) : (a :: b :: c :: (es.map entI ++ r)).set (i + 3) (entI e) = a :: b :: c :: ((es.set i e).map entI ++ r) := by
  show a :: b :: c :: (es.map entI ++ r).set i (entI e) = _
  rw [List.set_append_left _ _ (by simpa using hi), List.map_set]
theorem set_map {α β : Type} {l : List α} {i : Nat} {a b : α} (f : α → β) (h : l[i]? = some a) (hf : f b = f a) : (l.set i b).map f = l.map f := by
  rw [List.map_set, hf]
  apply List.ext_getElem?
  intro j
  rw [List.getElem?_set]
  split
  · rename_i e
    subst e
    split
    · rw [List.getElem?_map, h]; rfl
    · rename_i hlt
      exact absurd (by simpa using (List.getElem?_eq_some_iff.1 h).1) hlt
  · rfl
/-- an entry's value is another one -/
theorem DI_set {w0 w : World} {base d ce bm ck i : Nat} {ge : Option Nat} {fz : Bool} {es : List En} {bs : List Nat} {r : List It} {e : En} {v : Int} {vv : Value} (h : es[i]? = some e)
    (hw : WA w0 base ((DI d ge ce bm fz es bs ck r).set (i + 3) (entI ⟨e.k, v, e.eb, e.kv, vv⟩)) w) : WA w0 base (DI d ge ce bm fz (es.set i ⟨e.k, v, e.eb, e.kv, vv⟩) bs ck r) w := by
  have hi := (List.getElem?_eq_some_iff.1 h).1
  rw [ent_set hi] at hw
  have e1 : (es.set i ⟨e.k, v, e.eb, e.kv, vv⟩).length = es.length := List.length_set
  have e2 : (es.set i ⟨e.k, v, e.eb, e.kv, vv⟩).map ptrE = es.map ptrE := set_map ptrE h rfl
  have e3 : keysE (es.set i ⟨e.k, v, e.eb, e.kv, vv⟩) = keysE es := set_map _ h rfl
  unfold DI
  rw [e1, e2, e3]
  exact hw
theorem Dk.set {es : List En} {bs : List Nat} {ck i : Nat} {e : En} {v : Int} {vv : Value} (hd : Dk es bs ck) (h : es[i]? = some e) : Dk (es.set i ⟨e.k, v, e.eb, e.kv, vv⟩) bs ck := by
  have hm : ∀ x ∈ es.set i ⟨e.k, v, e.eb, e.kv, vv⟩, x.k < 12 := fun x hx => by
    rcases List.mem_or_eq_of_mem_set hx with h1 | rfl
    · exact hd.lt x h1
    · exact hd.lt e (List.mem_of_getElem? h)
  exact ⟨by rw [set_map (b := ⟨e.k, v, e.eb, e.kv, vv⟩) (fun x : En => x.k) h rfl]; exact hd.nd, hm, by rw [List.length_set]; exact hd.bl, hd.bn⟩
/-- one more entry -/
theorem DI_new {w0 w : World} {base d ce bm ck : Nat} {ge : Option Nat} {fz : Bool} {es : List En} {bs : List Nat} {r : List It} {e : En}
    (hw : WA w0 base (entI e :: blk d [rv ge (es.length + 1) ce, .map (some bm), .bool fz, .int .i64 0] 76 :: .row ge ce (es.length + 1) 89 1 (es.map ptrE ++ [ptrE e]) :: mapI bm (keysE es ++ [keyT e.k]) (es.map ptrE ++ [ptrE e]) bs ck :: (es.map entI ++ r)) w) : WA w0 base (DI d ge ce bm fz (es ++ [e]) bs ck r) w := by
  have h2 := hw.perm (List.perm_append_comm_assoc [_, _, _] [_] _)
  have h3 : ((es ++ [e]).map entI ++ r).Perm ([entI e] ++ (es.map entI ++ r)) := by
    rw [List.map_append, List.append_assoc]
    exact List.perm_append_comm_assoc _ _ _
  have e3 : keysE (es ++ [e]) = keysE es ++ [keyT e.k] := by unfold keysE; rw [List.map_append]; rfl
  unfold DI
  rw [List.length_append, List.map_append (f := ptrE), e3]
  exact h2.perm ((h3.cons _).cons _ |>.cons _)
theorem Dk.new {es : List En} {bs : List Nat} {ck : Nat} {e : En} {bs' : List Nat} {ck' : Nat} (hd : Dk es bs ck) (hk : e.k < 12) (hno : e.k ∉ es.map (·.k)) (hl : bs'.length = es.length + 1) (hb : bs'.Nodup ∧ ∀ q ∈ bs', q < ck') : Dk (es ++ [e]) bs' ck' := by
  refine ⟨?_, fun x hx => ?_, by rw [hl]; simp, hb⟩
  · rw [List.map_append, List.nodup_append]
    refine ⟨hd.nd, List.pairwise_singleton _ _, fun a ha b hb => ?_⟩
    rw [List.mem_singleton.1 hb]
    exact fun hq => hno (by rw [hq] at ha; exact ha)
  · rcases List.mem_append.1 hx with h | h
    · exact hd.lt x h
    · rw [List.mem_singleton.1 h]; exact hk
/-- an entry is taken out -/
theorem DI_del {w0 w : World} {base d ce bm ck i : Nat} {ge : Option Nat} {fz : Bool} {es : List En} {bs : List Nat} {r : List It} (hi : i < es.length) {n : Nat} {xs : List Value} (hn : n = es.length - 1) (hx : xs = (es.map ptrE).eraseIdx i)
    (hw : WA w0 base (blk d [rv ge n ce, .map (some bm), .bool fz, .int .i64 0] 76 :: .row ge ce n 89 1 xs :: mapI bm ((keysE es).eraseIdx i) ((es.map ptrE).eraseIdx i) bs ck :: (es.map entI ++ r)) w) : WA w0 base (DI d ge ce bm fz (es.eraseIdx i) bs ck r) w := by
  subst hn
  subst hx
  have e1 : (es.eraseIdx i).length = es.length - 1 := List.length_eraseIdx_of_lt hi
  have e2 : (es.eraseIdx i).map ptrE = (es.map ptrE).eraseIdx i := (erase_map _ _ _).symm
  have e3 : keysE (es.eraseIdx i) = (keysE es).eraseIdx i := (erase_map _ _ _).symm
  unfold DI
  rw [e1, e2, e3]
  refine hw.drop (List.Sublist.cons_cons _ (List.Sublist.cons_cons _ (List.Sublist.cons_cons _ ?_)))
  exact List.Sublist.append ((List.eraseIdx_sublist _ _).map _) (List.Sublist.refl _)
theorem Dk.del {es : List En} {bs : List Nat} {ck i : Nat} (hd : Dk es bs ck) (hi : i < es.length) : Dk (es.eraseIdx i) (bs.eraseIdx i) ck := by
  refine ⟨?_, fun x hx => hd.lt x ((List.eraseIdx_sublist _ _).subset hx), ?_, hd.bn.1.sublist (List.eraseIdx_sublist _ _), fun q hq => hd.bn.2 q ((List.eraseIdx_sublist _ _).subset hq)⟩
  · exact hd.nd.sublist ((List.eraseIdx_sublist _ _).map _)
  · rw [List.length_eraseIdx_of_lt hi, List.length_eraseIdx_of_lt (by rw [hd.bl]; exact hi), hd.bl]
theorem ents_ne {w0 w : World} {base : Nat} {a b c : It} {es : List En} {r : List It} (hw : WA w0 base (a :: b :: c :: (es.map entI ++ r)) w) {i j : Nat} {e f : En} (hij : i < j) (he : es[i]? = some e) (hf : es[j]? = some f) : e.eb ≠ f.eb := fun h => by
  have h1 := hw.apart
  have hi := ent_at (a := a) (b := b) (c := c) (r := r) he
  have hj := ent_at (a := a) (b := b) (c := c) (r := r) hf
  obtain ⟨li, gi⟩ := List.getElem?_eq_some_iff.1 hi
  obtain ⟨lj, gj⟩ := List.getElem?_eq_some_iff.1 hj
  have h2 := List.pairwise_iff_getElem.1 h1 (i + 3) (j + 3) li lj (by omega)
  rw [gi, gj] at h2
  exact h2 e.eb rfl (by show some f.eb = _; rw [h])
/-! two parts of a row, one behind the other -/
def pL (n i k : Nat) : Nat := match k with | 0 => i | _ + 1 => n - (i + 1)
def pLo (i k : Nat) : Nat := match k with | 0 => 0 | _ + 1 => i + 1
def pS (n i k : Nat) : Nat := match k with | 0 => 0 | 1 => i | _ + 2 => n - 1
def pA (ge : Option Nat) (ce i k : Nat) : Option Addr := match k with | 0 => ge.map fun b => ⟨b, 0, none⟩ | _ + 1 => if ce = i + 1 then (ge.map fun b => (⟨b, 0, none⟩ : Addr)) else (ge.map fun b => (⟨b, 0, none⟩ : Addr)).map (·.add ((i + 1) * 1))
def pC (ce i k : Nat) : Nat := match k with | 0 => ce | _ + 1 => ce - (i + 1)
def pF (ps : List Value) (i k : Nat) : List Value := match k with | 0 => [] | 1 => ps.take i | _ + 2 => ps.eraseIdx i
@[reducible] def pV (ge : Option Nat) (ce n i k : Nat) : Value := .slice (pA ge ce i k) (pL n i k) (pC ce i k)
theorem pS_step {n i k : Nat} (hk : k < 2) (hi : i < n) : pS n i (k + 1) = pS n i k + pL n i k := by
  rcases k with _ | _ | k
  · show i = 0 + i
    omega
  · show n - 1 = i + (n - (i + 1))
    omega
  · omega
theorem pL_le {n i k : Nat} (hi : i < n) : pL n i k ≤ n := by
  rcases k with _ | k
  · show i ≤ n
    omega
  · show n - (i + 1) ≤ n
    omega
theorem pS_le {n i k : Nat} (hi : i < n) : pS n i k ≤ n := by
  rcases k with _ | _ | k
  · exact Nat.zero_le _
  · show i ≤ n
    omega
  · show n - 1 ≤ n
    omega
theorem pLo_le {n i k : Nat} (hi : i < n) : pLo i k + pL n i k ≤ n := by
  rcases k with _ | k
  · show 0 + i ≤ n
    omega
  · show i + 1 + (n - (i + 1)) ≤ n
    omega
theorem pV_at {ge : Option Nat} {ce n i k : Nat} (hk : k < 2) : [pV ge ce n i 0, pV ge ce n i 1][k]? = some (pV ge ce n i k) := by
  rcases k with _ | _ | k
  · rfl
  · rfl
  · omega
theorem pC_le {ce i k : Nat} : pC ce i k ≤ ce := by
  rcases k with _ | k
  · exact Nat.le_refl _
  · show ce - (i + 1) ≤ ce
    omega
theorem pA_eq {ge : Option Nat} {ce i k : Nat} : pA ge ce i k = if ce = pLo i k then (ge.map fun b => (⟨b, 0, none⟩ : Addr)) else (ge.map fun b => (⟨b, 0, none⟩ : Addr)).map (·.add (pLo i k * 1)) := by
  rcases k with _ | k
  · show (ge.map fun b => (⟨b, 0, none⟩ : Addr)) = _
    cases ge <;> simp [pLo, Addr.add]
  · rfl
theorem pF_step {ps : List Value} {n i k : Nat} (hl : ps.length = n) (hk : k < 2) (hi : i < n) : pF ps i (k + 1) = pF ps i k ++ (ps.drop (pLo i k)).take (pL n i k) := by
  rcases k with _ | _ | k
  · show ps.take i = [] ++ (ps.drop 0).take i
    simp
  · show ps.eraseIdx i = ps.take i ++ (ps.drop (i + 1)).take (n - (i + 1))
    rw [List.eraseIdx_eq_take_drop_succ]
    exact congrArg (ps.take i ++ ·) (List.take_of_length_le (by rw [List.length_drop]; omega)).symm
  · omega
end Go.Ss
