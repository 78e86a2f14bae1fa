/-
  Proved here: texts, values and Structs where they lie in memory; a map of values by texts, as a walk makes, writes and reads it.
-/
import Derived.Test.YtifanilblkellaaGreatDoorSsK
namespace Go.SX
open Go.RowKit Go.EX Go.EB Go.Ss Go.Proofs.YtifanilblkellaaGreatDoor
section
variable {P : Program} {ops : Array Oper} {n d : Nat} {D : List Deferred} {l : Fr} {W : World → Prop} {rest : List Oper} {o : Oper} {x y z : Operand} {t ty : TypeId} {w0 : World} {base : Nat} {its : List It} {Q : Exit → Act → World → Prop}
theorem sameK_str (s k : T) : sameK .string (str s) (str k) = some (decide (s = k)) := by
  unfold sameK str
  simp
theorem findK_str (s : T) : ∀ (ks : List T) (q : Nat), ∃ r, findK .string (str s) ((ks.map str).map .lit) q = some r ∧ (r = none → s ∉ ks)
  | [], q => ⟨none, rfl, fun _ h => by cases h⟩
  | k :: ks, q => by
    by_cases h : s = k
    · exact ⟨some q, by show findK .string (str s) (.lit (str k) :: (ks.map str).map .lit) q = _; unfold findK; rw [sameK_str, decide_eq_true h], fun h => by cases h⟩
    · obtain ⟨r, h1, h2⟩ := findK_str s ks (q + 1)
      refine ⟨r, ?_, fun hr hm => ?_⟩
      · show findK .string (str s) (.lit (str k) :: (ks.map str).map .lit) q = _
        unfold findK
        rw [sameK_str, decide_eq_false h]
        exact h1
      · rcases List.mem_cons.1 hm with rfl | hm
        · exact h rfl
        · exact h2 hr hm
theorem found {kt : TypeId} (hk : P.underlying kt = some .string) {s : T} {ks : List T} {us : List Value} {bs : List Nat} (h1 : us.length = ks.length) (h2 : bs.length = ks.length) :
    (∃ (j : Nat) (u : Value), ks[j]? = some s ∧ us[j]? = some u ∧ ((mkEs (ks.map str) us bs)[j]?).map (·.key) = some (str s) ∧ Fnd P W kt (str s) (mkEs (ks.map str) us bs) 0 (some (j, u))) ∨ (s ∉ ks ∧ Fnd P W kt (str s) (mkEs (ks.map str) us bs) 0 none) := by
  obtain ⟨r, hr, hno⟩ := findK_str s ks 0
  rcases findK_ok (ρ := ⟨[], fun _ => .nilIface, fun _ => rfl⟩) (W := W) hk hr (instL_lit _ (ks.map str)) (xs := us) (bs := bs) (by simpa using h1.symm) (by simpa using h2.symm) with ⟨j, u, _, e2, e3, e4, e5⟩ | ⟨e1, e2⟩
  · rw [Nat.zero_add] at e5
    refine .inl ⟨j, u, ?_, e2, e4, e5⟩
    rw [List.getElem?_map] at e3
    obtain ⟨k, hk1, hk2⟩ := Option.map_eq_some_iff.1 e3
    rw [hk1]
    congr 1
    simpa [str] using hk2
  · exact .inr ⟨hno e1, e2⟩
theorem LX.makeMap {t : TypeId} (ho : o.op = .makeMap t none) (hg : o.guard = none) (hd : o.dst = some d) (hdn : Nat.blt d n = true)
    (h : ∀ b, LX P ops n D (.plain Q) ((d, .map (some b)) :: l) (WA w0 base (mapI b [] [] [] 0 :: its)) rest) : LX P ops n D (.plain Q) l (WA w0 base its) (o :: rest) := by
  refine LX.effx (τ := Nat) (v := fun b => .map (some b)) (W' := fun b => WA w0 base (mapI b [] [] [] 0 :: its)) (fun σ hσ w hW => ⟨w.heap.size, w.alloc (.map #[] 0), ?_, hW.alloc _⟩) hg hd hdn h
  simp [execOp, ho, Instr.makeMap, newObj, Sem.run]
theorem LX.mapPut (j : Nat) {kt et : TypeId} {b : Nat} {s : T} {u : Value} {ks : List T} {us : List Value} {bs : List Nat} {ck : Nat} (ht : P.underlying t = some (.map kt et)) (hk : P.underlying kt = some .string) (ho : o.op = .mapUpdate t x y z)
    (hx : evl l x = some (.map (some b))) (hy : evl l y = some (str s)) (hz : evl l z = some u) (hj : its[j]? = some (mapI b ks us bs ck)) (h1 : us.length = ks.length) (h2 : bs.length = ks.length) (hbs : bs.Nodup ∧ ∀ q ∈ bs, q < ck) (hg : o.guard = none) (hd : o.dst = none)
    (h : ∀ ks' us' bs' ck', ((s ∉ ks ∧ ks' = ks ++ [s] ∧ us' = us ++ [u]) ∨ (s ∈ ks ∧ ks' = ks)) → us'.length = ks'.length → bs'.length = ks'.length → (bs'.Nodup ∧ ∀ q ∈ bs', q < ck') → LX P ops n D (.plain Q) l (WA w0 base (its.set j (mapI b ks' us' bs' ck'))) rest) :
    LX P ops n D (.plain Q) l (WA w0 base its) (o :: rest) := by
  have fin : ∀ (q : Option (Nat × Value)) (o2 : Obj), Fnd P (WA w0 base its) kt (str s) (mkEs (ks.map str) us bs) 0 q → (∀ j v, q = some (j, v) → (ks.map str)[j]? = some (str s) ∧ ((mkEs (ks.map str) us bs)[j]?).map (·.key) = some (str s)) →
      o2 = (match q with | some (j, _) => .map (mkEs (ks.map str) (us.set j u) bs).toArray ck | none => .map (mkEs (ks.map str ++ [str s]) (us ++ [u]) (bs ++ [ck])).toArray (ck + 1)) → LX P ops n D (.plain Q) l (WA w0 base (its.set j (.obj b o2))) rest → LX P ops n D (.plain Q) l (WA w0 base its) (o :: rest) := by
    intro q o2 hq hjq ho2 hlv a w ha hW
    unfold wpList
    rw [if_pos (wanted_none hg)]
    left
    unfold Oper.wp
    have hck : keyOk .string (str s) = true := rfl
    have hrun := mapUpdate_run (u := u) ht hk (keyOk_check hk hck false w) (hW.get hj).2 hq hW (keyOk_bits hck) hjq (fun _ => ⟨by simp [h1], by simp [h2]⟩)
    have hrun : (Instr.mapUpdate t (.map (some b)) (str s) u).run P w = .ok () { w with heap := w.heap.setIfInBounds b o2 } := by
      rw [hrun, ho2]
      rcases q with _ | ⟨j, v⟩ <;> rfl
    have : (execOp a.eval o).run P w = .ok .skip { w with heap := w.heap.setIfInBounds b o2 } := by
      simp only [execOp, ho, ha.eval _ _ hx, ha.eval _ _ hy, ha.eval _ _ hz, Sem.run_bind, hrun]; rfl
    rw [this]
    simp only [Oper.upon, hd]
    exact hlv _ _ ha (WA.setObj hW hj o2)
  rcases found (P := P) (W := WA w0 base its) hk (s := s) h1 h2 with ⟨i, v, e1, e2, e3, e4⟩ | ⟨e1, e2⟩
  · refine fin _ _ e4 (fun j v hq => ?_) rfl (h ks (us.set i u) bs ck (.inr ⟨List.mem_of_getElem? e1, rfl⟩) (by simpa using h1) h2 hbs)
    cases hq
    exact ⟨by rw [List.getElem?_map, e1]; rfl, e3⟩
  · have := h (ks ++ [s]) (us ++ [u]) (bs ++ [ck]) (ck + 1) (.inl ⟨e1, rfl, rfl⟩) (by simp [h1]) (by simp [h2]) ⟨by
      rw [List.nodup_append]
      refine ⟨hbs.1, List.pairwise_singleton _ _, fun a ha b hb => ?_⟩
      rw [List.mem_singleton.1 hb]
      exact Nat.ne_of_lt (hbs.2 a ha), fun q hq => by
      rcases List.mem_append.1 hq with hq | hq
      · have := hbs.2 q hq; omega
      · rw [List.mem_singleton.1 hq]; omega⟩
    refine fin _ _ e2 (fun j v hq => by cases hq) rfl ?_
    simpa [mapI] using this
theorem Y.lookS (j : Nat) {kt et : TypeId} {b : Nat} {s : T} {u zv : Value} {ks : List T} {us : List Value} {bs : List Nat} {ck i : Nat} (ht : P.underlying t = some (.map kt et)) (hk : P.underlying kt = some .string) (hzv : zeroW P et = some zv)
    (hx : evl l x = some (.map (some b))) (hy : evl l y = some (SX.str s)) (hj : its[j]? = some (mapI b ks us bs ck)) (h1 : us.length = ks.length) (h2 : bs.length = ks.length) (hn : ks.Nodup) (hi : ks[i]? = some s) (hu : us[i]? = some u) :
    Y P l (WA w0 base its) (.lookup t x y false) ty u := by
  intro ρ hρ o' ho htt w hW
  have hck : keyOk .string (SX.str s) = true := rfl
  rcases found (P := P) (W := WA w0 base its) hk (s := s) h1 h2 with ⟨i2, v, e1, e2, e3, e4⟩ | ⟨e1, e2⟩
  · have hii : i2 = i := (idx_at hn e1).symm.trans (idx_at hn hi)
    subst hii
    rw [hu] at e2
    cases e2
    have hr := lookup_run (ok := false) ht hk (fun e => keyOk_check hk hck e w) hzv (hW.get hj).2 e4 hW
    simp only [execOp, ho, hρ _ _ hx, hρ _ _ hy, Sem.run_bind, hr]
    rfl
  · exact absurd (List.mem_of_getElem? hi) e1
theorem mkEs_len {ks : List T} {us : List Value} {bs : List Nat} (h1 : us.length = ks.length) (h2 : bs.length = ks.length) : (mkEs (ks.map str) us bs).length = ks.length := by
  have := congrArg List.length (mkEs_map (ks := ks.map str) (us := us) (bs := bs) (by simpa using h1) (by simpa using h2)).1
  simpa using this
theorem Y.lenMap (j : Nat) {kt et : TypeId} {b : Nat} {ks : List T} {us : List Value} {bs : List Nat} {ck : Nat} {ats : Array TypeId} (hx : evl l x = some (.map (some b))) (ht : P.underlying t = some (.map kt et)) (hat : ats[0]? = some t) (hj : its[j]? = some (mapI b ks us bs ck)) (h1 : us.length = ks.length) (h2 : bs.length = ks.length) :
    Y P l (WA w0 base its) (.call { callee := .builtin .len, args := #[x], argTypes := ats }) ty (.int .i64 (ks.length : Int)) := by
  intro ρ hρ o' ho htt w hW
  have h3 := MapKept.run_getObj_map (P := P) (hW.get hj).2
  have h4 := mkEs_len h1 h2
  simp [execOp, ho, hρ _ _ hx, resolve, invoke, builtin, Builtin.len_, hat, run_underlying ht, goInt, h3, h4]
/-! values where they lie -/
structure Sl (w0 : World) (base : Nat) (av : Option Addr) (vs : List Value) : Prop where
  at_ : ∀ i v, vs[i]? = some v → ∃ a, av = some a ∧ (a.add (i * 1)).block < base ∧ w0.cell? (a.add (i * 1)) = some v
theorem Sl.push {w : World} {av : Option Addr} {vs : List Value} (h : Sl w0 base av vs) (hw : WA w0 base its w) : Sl w w.heap.size av vs := ⟨fun i v hi => by
  obtain ⟨a, h0, h1, h2⟩ := h.at_ i v hi
  exact ⟨a, h0, Nat.lt_of_lt_of_le h1 hw.fits, hw.old h1 h2⟩⟩
theorem sl_row {w : World} {g : Option Nat} {c n e : Nat} {xs : List Value} (hw : WA w0 base its w) (hm : It.row g c n e 1 xs ∈ its) : Sl w w.heap.size (g.map fun b => ⟨b, 0, none⟩) xs := ⟨fun i v hi => by
  obtain ⟨j, hj⟩ := List.mem_iff_getElem?.1 hm
  obtain ⟨h1, _, h3⟩ := hw.rowCell hj hi
  refine ⟨⟨g.getD 0, 0, none⟩, by rw [h3]; rfl, ?_, ?_⟩
  · rw [Addr.add_lit, Nat.zero_add, Nat.mul_one]; exact World.block_lt_of_cell? _ _ h1
  · rw [Addr.add_lit, Nat.zero_add, Nat.mul_one]; exact h1⟩
theorem str_at {ns : List T} {i : Nat} (h : i < ns.length) : (ns.map str)[i]? = some (str (ns.getD i [])) := by
  rw [List.getElem?_map, List.getElem?_eq_getElem h, List.getD_eq_getElem?_getD, List.getElem?_eq_getElem h]; rfl
theorem Y.idxS {av : Option Addr} {a : Addr} {k c e i : Nat} {kk : IntKind} (ht : P.underlying t = some (.slice e)) (hs : SizeIs P e 1) (hx : evl l x = some (.slice av k c)) (hy : evl l y = some (.int kk (i : Int))) (hi : i < k) (ha : av = some a) :
    Y P l W (.indexAddr t x y) ty (.pointer (some (a.add (i * 1)))) := by
  subst ha
  exact Y.idxA ht hs hx hy hi
end
end Go.SX
namespace Go.Ss
open Go.SX Go.RowKit Go.Vo
/-- of a number that is 0 nothing lies anywhere -/
def NX (i : Nat) (u : Value) : Prop := ∃ g c, u = numV (i : Int) g c ∧ (i = 0 → g = none ∧ c = 0) ∧ (0 < i → 1 ≤ c)
/-- a number as a value, or None -/
def VV (w0 : World) (base : Nat) (o : Option Nat) (v : Value) : Prop :=
  match o with
  | none => v = .iface 107 (.agg #[])
  | some i => ∃ u, v = .iface 82 u ∧ NumV w0 base (i : Int) u ∧ NX i u
theorem VV.push {w0 w : World} {base : Nat} {its : List It} {o : Option Nat} {v : Value} (h : VV w0 base o v) (hw : WA w0 base its w) : VV w w.heap.size o v := by
  cases o with
  | none => exact h
  | some i => obtain ⟨u, rfl, h1, h2⟩ := h; exact ⟨u, rfl, h1.push hw, h2⟩
instance {o : Option Nat} {v : Value} : Stab (fun w => VV w w.heap.size o v) where
  st _ _ h hb := h.push (WA.from hb)
theorem VV.one {w0 : World} {base : Nat} {o : Option Nat} {v : Value} (h : VV w0 base o v) : v.oneCell' = true := by
  cases o with
  | none => have h : v = .iface 107 (.agg #[]) := h; subst h; rfl
  | some i => obtain ⟨u, rfl, _⟩ := h; rfl
/-- values one by one -/
structure Vs (w0 : World) (base : Nat) (os : List (Option Nat)) (us : List Value) : Prop where
  len : us.length = os.length
  at_ : ∀ (i : Nat) o u, os[i]? = some o → us[i]? = some u → VV w0 base o u
theorem Vs.push {w0 w : World} {base : Nat} {its : List It} {os : List (Option Nat)} {us : List Value} (h : Vs w0 base os us) (hw : WA w0 base its w) : Vs w w.heap.size os us := ⟨h.len, fun i o u h1 h2 => (h.at_ i o u h1 h2).push hw⟩
theorem Vs.vals {w0 : World} {base : Nat} {ns : List T} {os : List (Option Nat)} {us : List Value} {d : Value} {d' : Option Nat} (h : Vs w0 base os us) (hn : ns.Nodup) (hl : os.length = ns.length) : Vs w0 base (vals d' ns os) (vals d ns us) := ⟨by rw [vals_len, vals_len], fun i o u h1 h2 => by
  unfold Go.Ss.vals at h1 h2
  rw [List.getElem?_map] at h1 h2
  obtain ⟨s, hs, rfl⟩ := Option.map_eq_some_iff.1 h1
  rw [hs] at h2
  cases h2
  obtain ⟨j, hj⟩ := mem_at (mem_srt.1 (List.mem_of_getElem? hs))
  have hlt := (List.getElem?_eq_some_iff.1 hj).1
  have e1 : os[j]? = some os[j] := List.getElem?_eq_getElem (by omega)
  have e2 : us[j]? = some (us[j]'(by rw [h.len]; omega)) := List.getElem?_eq_getElem (by rw [h.len]; omega)
  rw [pick_at hn hj e1, pick_at hn hj e2]
  exact h.at_ j _ _ e1 e2⟩
/-- a Struct -/
structure StV (w0 : World) (base : Nat) (S : List T) (os : List (Option Nat)) (v : Value) : Prop where
  ex : ∃ b av c1 bv c2 us, v = .iface 109 (.pointer (some ⟨b, 0, none⟩)) ∧ b < base ∧ w0.cell? ⟨b, 0, none⟩ = some (.slice av S.length c1) ∧ w0.cell? ⟨b, 1, none⟩ = some (.slice bv S.length c2) ∧ Sl w0 base av (S.map str) ∧ Sl w0 base bv us ∧ Vs w0 base os us ∧ os.length = S.length
theorem st_of {w0 w : World} {base : Nat} {its : List It} {S : List T} {os : List (Option Nat)} {us : List Value} {b c1 c2 n T1 T2 T3 : Nat} {g1 g2 : Option Nat} (hw : WA w0 base its w) (hn : n = S.length) (h0 : blk b [rv g1 n c1, rv g2 n c2] T1 ∈ its) (h1 : It.row g1 c1 n T2 1 (S.map str) ∈ its) (h2 : It.row g2 c2 n T3 1 us ∈ its)
    (hv : Vs w w.heap.size os us) (hl : os.length = S.length) : StV w w.heap.size S os (.iface 109 (.pointer (some ⟨b, 0, none⟩))) := by
  subst hn
  obtain ⟨j, hj⟩ := List.mem_iff_getElem?.1 h0
  have hb := hw.get hj
  have hc0 : w.cell? ⟨b, 0, none⟩ = some (rv g1 S.length c1) := by have h2 := hb.2; simp [World.cell?, h2]
  have hc1 : w.cell? ⟨b, 1, none⟩ = some (rv g2 S.length c2) := by have h2 := hb.2; simp [World.cell?, h2]
  exact ⟨b, _, _, _, _, us, rfl, World.block_lt_of_cell? _ _ hc0, hc0, hc1, sl_row hw h1, sl_row hw h2, hv, hl⟩
theorem el {w0 : World} {base : Nat} {av : Option Addr} {os : List (Option Nat)} {us : List Value} (hs : Sl w0 base av us) (hv : Vs w0 base os us) {i : Nat} (hi : i < os.length) : ∃ o a u, os[i]? = some o ∧ av = some a ∧ (a.add (i * 1)).block < base ∧ w0.cell? (a.add (i * 1)) = some u ∧ VV w0 base o u := by
  have h1 : os[i]? = some os[i] := List.getElem?_eq_getElem hi
  have h2 : us[i]? = some (us[i]'(by rw [hv.len]; exact hi)) := List.getElem?_eq_getElem (by rw [hv.len]; exact hi)
  obtain ⟨a, e1, e2, e3⟩ := hs.at_ i _ h2
  exact ⟨_, a, _, h1, e1, e2, e3, hv.at_ i _ _ h1 h2⟩
theorem ne_at {α : Type} {xs ys : List α} {i : Nat} {x y : α} (h1 : xs[i]? = some x) (h2 : ys[i]? = some y) (h : x ≠ y) : xs ≠ ys := fun e => by
  subst e
  rw [h1] at h2
  exact h (Option.some.inj h2)
theorem take_step {α : Type} {xs ys : List α} {i : Nat} {x y : α} (h : xs.take i = ys.take i) (h1 : xs[i]? = some x) (h2 : ys[i]? = some y) (he : x = y) : xs.take (i + 1) = ys.take (i + 1) := by
  rw [List.take_add_one, List.take_add_one, h, h1, h2, he]
theorem take_all {α : Type} {xs ys : List α} {i : Nat} (h : xs.take i = ys.take i) (h1 : i = xs.length) (h2 : xs.length = ys.length) : xs = ys := by
  rw [List.take_of_length_le (by omega), List.take_of_length_le (by omega)] at h
  exact h
/-- names with their values, put into a map one by one -/
structure Put (ns : List T) (us : List Value) (i : Nat) (ks : List T) (xs : List Value) : Prop where
  le : i ≤ ns.length
  few : ks.length ≤ i
  len : xs.length = ks.length
  nd : ks.Nodup
  sub : ∀ k ∈ ks, k ∈ ns.take i
  all : ks.length = i → ks = ns.take i ∧ xs = us.take i
  dup : ks.length < i → ¬ns.Nodup
theorem Put.start (ns : List T) (us : List Value) : Put ns us 0 [] [] := ⟨Nat.zero_le _, Nat.le_refl _, rfl, List.Pairwise.nil, (fun _ h => by cases h), (fun _ => ⟨rfl, rfl⟩), (fun h => absurd h (Nat.lt_irrefl _))⟩
theorem Put.step {ns : List T} {us : List Value} {i : Nat} {ks ks' : List T} {xs xs' : List Value} {s : T} {u : Value} (h : Put ns us i ks xs) (hs : ns[i]? = some s) (hu : us[i]? = some u) (hk : (s ∉ ks ∧ ks' = ks ++ [s] ∧ xs' = xs ++ [u]) ∨ (s ∈ ks ∧ ks' = ks)) (hl : xs'.length = ks'.length) : Put ns us (i + 1) ks' xs' := by
  have hi := (List.getElem?_eq_some_iff.1 hs).1
  have hlu := (List.getElem?_eq_some_iff.1 hu).1
  have hin := List.take_succ_eq_append_getElem hi
  have hin2 := List.take_succ_eq_append_getElem hlu
  have e1 : ns[i] = s := (List.getElem?_eq_some_iff.1 hs).2
  have e2 : us[i] = u := (List.getElem?_eq_some_iff.1 hu).2
  have hf := h.few
  rcases hk with ⟨h1, rfl, rfl⟩ | ⟨h1, rfl⟩
  · refine ⟨by omega, by simp; omega, hl, ?_, fun k hk => ?_, fun he => ?_, fun hlt => ?_⟩
    · rw [List.nodup_append]
      refine ⟨h.nd, List.pairwise_singleton _ _, fun a ha b hb => ?_⟩
      rw [List.mem_singleton.1 hb]
      exact fun e => h1 (e ▸ ha)
    · rw [hin, e1]
      rcases List.mem_append.1 hk with hk | hk
      · exact List.mem_append_left _ (h.sub k hk)
      · exact List.mem_append_right _ hk
    · have := h.all (by simpa using he)
      rw [hin, hin2, e1, e2, ← this.1, ← this.2]
      exact ⟨rfl, rfl⟩
    · exact h.dup (by simp at hlt; omega)
  · refine ⟨by omega, by omega, hl, h.nd, fun k hk => ?_, fun he => by omega, fun _ hn => ?_⟩
    · rw [hin]
      exact List.mem_append_left _ (h.sub k hk)
    · have h2 := h.sub s h1
      obtain ⟨j, hj⟩ := List.mem_iff_getElem?.1 h2
      have hj1 := (List.getElem?_eq_some_iff.1 hj).1
      rw [List.getElem?_take] at hj
      split at hj
      · rename_i hji
        have := (idx_at hn hj).symm.trans (idx_at hn hs)
        omega
      · cases hj
end Go.Ss
