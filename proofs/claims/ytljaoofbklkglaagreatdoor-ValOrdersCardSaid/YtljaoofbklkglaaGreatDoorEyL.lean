/-
  Proved here: more steps of a machine of mine: a pick of an unknown; what package strings' Builder does.
-/
import Derived.Test.YtljaoofbklkglaaGreatDoorEyK
import Derived.Lib.AppendStr
import Derived.Lib.UnsafeStr
import Derived.Lib.Builder
namespace Go.EY
open Go.SX Go.EX Go.RowKit
section
variable {P : Program} {w0 : World} {base : Nat} {ρ0 ρ : Rho} {T : HT} {ro : List HT} {nx : Nat} {its : List It} {E : List (Nat × AV)} {af : AF} {l : Fr}
variable {ops : Array Oper} {n : Nat} {D : List Deferred} {Q : Exit → Act → World → Prop} {rest : List Oper} {o : Oper} {d : Nat} {W : World → Prop}
variable {r : AR} {T' : HT} {n' c : Nat} {x y : Operand} {a b v : AV} {t t2 : TypeId}
/-! a pointer held against itself -/
/-! a string's bytes put behind a row -/
theorem run_appendS_rv (w : World) (base : Nat) (t u ty e : TypeId) (i : TypeInfo) (ht : P.underlying t = some (.slice e)) (hu : P.underlying u = some .string) (hi : P.info? e = some i) (hz : i.zero = some (.int .u8 0))
    (hsize : i.size = 1) (hby : i.bytes = 1) (g : Option Nat) (k cap : Nat) (xs : List Value) (hown : w.ownsRow base e 1 (rv g k cap) k xs) (s : ByteArray) (h0 : 0 < s.size)
    (h63 : k + s.size ≤ maxLen) (hbytes : k + s.size ≤ 140737488355328) (hbase : base ≤ w.heap.size) :
    ∃ b' cap' w', (Builtin.append_ #[t, u] ty #[rv g k cap, .string s]).run P w = .ok (rv (some b') (k + s.size) cap') w' ∧ w'.ownsRow base e 1 (rv (some b') (k + s.size) cap') (k + s.size) (xs ++ Lib.strCells s) ∧ w.grownBy w' g ∧
      (some b' = g ∨ b' = w.heap.size) := by
  have hsmall : k + s.size ≤ 9223372036854775807 := by simp only [maxLen] at h63; omega
  have hxl : xs.length = k := by simpa using hown.1
  have hlen : (xs ++ Lib.strCells s).length = (k + s.size) * 1 := by rw [List.length_append, hxl, Lib.strCells_length, Nat.mul_one]
  have grown : ∀ (old : Nat), old < k + s.size → ∀ (row : Option Nat),
      (w.drew.alloc (.cells (xs.toArray ++ (Lib.strCells s).toArray ++ Builtin.zeroCells (Value.int .u8 0).cells (grownCap w (k + s.size) old e - (k + s.size))) e)).ownsRow base e 1
        (rv (some w.heap.size) (k + s.size) (grownCap w (k + s.size) old e)) (k + s.size) (xs ++ Lib.strCells s) ∧
      w.grownBy (w.drew.alloc (.cells (xs.toArray ++ (Lib.strCells s).toArray ++ Builtin.zeroCells (Value.int .u8 0).cells (grownCap w (k + s.size) old e - (k + s.size))) e)) row := by
    intro old ho row
    have hge := grownCap_ge w (k + s.size) old e
    have hcm : grownCap w (k + s.size) old e ≤ maxLen := grownCap_le_maxLen w (k + s.size) old e h63
    refine ⟨⟨hlen, .inr ⟨w.heap.size, _, _, rfl, hbase, heap_alloc_new w.drew _, hge, hcm, ?_, ?_⟩⟩, ⟨rfl, rfl, rfl, by simp, fun k hk _ => Below.heap_alloc w.drew _ k hk⟩⟩
    · have hz1 : (Value.int IntKind.u8 0).cells.size = 1 := rfl
      simp only [Array.size_append, List.size_toArray, size_zeroCells, hz1, hxl, Lib.strCells_length]
      omega
    · simp only [Array.toList_append, List.append_assoc]
      rw [← List.append_assoc, ← hlen]
      exact List.take_left
  rcases hown.2 with ⟨hv, hk0⟩ | ⟨b, cap', cur, hv, hbg, hg, hnc, hcm, hcs, htake⟩
  · have hg0 : g = none := by
      cases g with
      | none => rfl
      | some b => simp [rv] at hv
    subst hg0
    have hc0 : cap = 0 := by simpa [rv, hk0] using hv
    subst hc0
    subst hk0
    have hx : xs = [] := List.eq_nil_of_length_eq_zero hxl
    subst hx
    have hr := run_append_nil_string (P := P) w t u ty e i (.int .u8 0) ht hu hi hz s (by omega) (by omega) (by rw [hby]; omega)
    have hgr := grown 0 (by omega) none
    simp only [Nat.zero_add, List.nil_append, Array.empty_append] at hgr ⊢
    have e1 : (s.data.map fun b => Value.int .u8 b.toNat) = (Lib.strCells s).toArray := by
      apply Array.ext'
      simp [Lib.strCells]
    rw [e1] at hr
    exact ⟨w.heap.size, _, _, hr, hgr.1, hgr.2, .inr rfl⟩
  · have hgb : g = some b := by rw [← ownBlock_rv g k cap, hv]; rfl
    subst hgb
    have hcc : cap = cap' := by simpa [rv] using hv
    subst hcc
    by_cases hroom : k + s.size ≤ cap
    · have hcs' : cur.size = cap := by simpa using hcs
      have hr := Lib.run_append_room_string (P := P) w t u ty e i ht hu hi hsize b k cap cur hg s hroom (by omega)
      refine ⟨b, cap, _, hr, ⟨hlen, .inr ⟨b, cap, _, rfl, hbg, setRow_heap w b cur _ e _ hg, hroom, hcm, ?_, ?_⟩⟩, ⟨rfl, rfl, rfl, by simp, fun q _ hq => setRow_other w b q _ (fun e => hq (by rw [e]))⟩, .inl rfl⟩
      · simp only [List.size_toArray, List.length_append, List.length_take, List.length_drop, Array.length_toList, Lib.strCells_length]
        omega
      · have ht' : cur.toList.take k = xs := by simpa using htake
        rw [ht', ← hlen]
        exact List.take_left
    · have holds : ∀ j u, xs[j]? = some u → w.cell? ((⟨b, 0, none⟩ : Addr).add j) = some u := hown.cells (g := b) rfl
      have hr := Lib.run_append_grow_string (P := P) w t u ty e i (.int .u8 0) ht hu hi hz ⟨b, 0, none⟩ k cap xs (by rw [hsize]; simpa using hxl) holds s (by omega) (by omega) (by rw [hby]; exact growslice_fits (by omega) (by omega))
      have hgr := grown cap (by omega) (some b)
      exact ⟨w.heap.size, _, _, hr, hgr.1, hgr.2, .inr rfl⟩
theorem WA.appendS {w : World} (h : WA w0 base its w) {i : Nat} {t u e : Nat} {inf : TypeInfo} (ht : P.underlying t = some (.slice e)) (hu : P.underlying u = some .string) (hinf : P.info? e = some inf) (hz : inf.zero = some (.int .u8 0)) (hsize : inf.size = 1) (hby : inf.bytes = 1)
    {g : Option Nat} {cap k : Nat} {xs : List Value} (hi : its[i]? = some (.row g cap k e 1 xs)) (s : ByteArray) (h0 : 0 < s.size) (hb : k + s.size ≤ 1000000000) (ty : TypeId) :
    ∃ b' cap' w', (Builtin.append_ #[t, u] ty #[rv g k cap, .string s]).run P w = .ok (rv (some b') (k + s.size) cap') w' ∧ WA w0 base (its.set i (.row (some b') cap' (k + s.size) e 1 (xs ++ Lib.strCells s))) w' := by
  obtain ⟨b', cap', w', r1, r2, r3, r4⟩ := run_appendS_rv (P := P) w base t u ty e inf ht hu hinf hz hsize hby g k cap xs (h.get hi) s h0 (by unfold maxLen; omega) (by omega) h.fits
  refine ⟨b', cap', w', r1, h.others hi r3.os r3.tape r3.output r3.size (fun q hq hne => r3.block q hq fun e => hne e.symm) r2 fun q hq => ?_⟩
  rcases r4 with h1 | rfl
  · exact .inl (by rw [← hq]; exact h1.symm)
  · cases hq; exact .inr (Nat.le_refl _)
theorem appendS_go {t u e cap k i : Nat} {g : Option Nat} {xs : List Value} {s : ByteArray} {cs : List AV} {ats : Array TypeId} {hp' : AH} {inf : TypeInfo} (ht : P.underlying t = some (.slice e)) (hu : P.underlying u = some .string) (hinf : P.info? e = some inf) (hz : inf.zero = some (.int .u8 0)) (hsize : inf.size = 1) (hby : inf.bytes = 1)
    (ho : o.op = .call { callee := .builtin .append, args := #[x, y], argTypes := ats }) (hat : ats = #[t, u])
    (hx : evl l x = some (rv g k cap)) (hy : evl l y = some (.string s)) (hi : its[i]? = some (.row g cap k e 1 xs)) (h0 : 0 < s.size) (hb : k + s.size ≤ 1000000000) (hF : Fresh ρ nx) (hcs : ∀ ρ', Ext ρ ρ' → instL ρ' cs = some (xs ++ Lib.strCells s))
    (hH : ∀ b c, instI (ρ.add nx b c) nx (.row (k + s.size) e 1 cs) = some (.row (some b) c (k + s.size) e 1 (xs ++ Lib.strCells s)) → instH (ρ.add nx b c) hp' = some (its.set i (.row (some b) c (k + s.size) e 1 (xs ++ Lib.strCells s))))
    (hg : o.guard = none) (hd : o.dst = some d) (hdn : Nat.blt d n = true)
    (hk : EX.Next P ops n D Q w0 base ρ hp' (nx + 1) (.sl nx 0 (k + s.size) 0) d l rest) : LX P ops n D (.plain Q) l (WA w0 base its) (o :: rest) := by
  refine LX.effx (τ := Nat × Nat) (v := fun p => rv (some p.1) (k + s.size) p.2) (W' := fun p => WA w0 base (its.set i (.row (some p.1) p.2 (k + s.size) e 1 (xs ++ Lib.strCells s)))) (fun σ hσ w hW => ?_) hg hd hdn (fun p => ?_)
  · obtain ⟨b', cap', w', r1, r2⟩ := WA.appendS (P := P) hW ht hu hinf hz hsize hby hi s h0 hb o.type
    refine ⟨(b', cap'), w', ?_, r2⟩
    subst hat
    simp only [execOp, ho, resolve, invoke, builtin, Sem.run_bind, Sem.run_pure, Result.andThen_ok, List.map_toArray, List.map_cons, List.map_nil, hσ _ _ hx, hσ _ _ hy, r1]
  · obtain ⟨b', cap'⟩ := p
    have hE := Ext.add hF b' cap'
    have hI := instI_mkrow (ρ := ρ.add nx b' cap') (id := nx) (n := k + s.size) (e := e) (s := 1) (rat_add _ _ _ _) (hcs _ hE)
    exact hk (ρ.add nx b' cap') _ _ hE (hF.add b' cap') (by unfold inst; rw [rat_add]; rfl) (hH b' cap' hI)
noncomputable def bytesA (l : List UInt8) : List AV := List.rec [] (fun x _ ih => .lit (.int .u8 (.ofNat x.toNat)) :: ih) l
theorem bytesA_inst (ρ : Rho) : ∀ l : List UInt8, instL ρ (bytesA l) = some (l.map fun b => Value.int .u8 b.toNat) := by
  intro l
  induction l with
  | nil => rfl
  | cons x t ih => show instL ρ (.lit (.int .u8 (.ofNat x.toNat)) :: bytesA t) = _; unfold instL; rw [ih]; rfl
noncomputable def appTK (c : Nat) (T : HT) (nx : Nat) (e : TypeId) (a b : AV) (k : AV → HT → Nat → R) : R :=
  strK c b fun s => bif Nat.blt 0 (llen s.data.toList) then bif Nat.ble (llen s.data.toList) 1000000 then
    rowOfK c a (vtK (bytesA s.data.toList) 1 .nil fun vt => T.insK nx (.row (llen s.data.toList) e 1 vt) fun T1 => k (.sl nx 0 (llen s.data.toList) 0) T1 (Nat.add nx 1))
      (fun id q => T.getK (fun m => rowK c m fun q' e' sz vt => bif Nat.beq q' q then bif Nat.beq e e' then bif Nat.beq sz 1 then bif Nat.ble q 1000000 then
        vtK (bytesA s.data.toList) (Nat.add q 1) vt fun vt' => T.delK id fun T0 => T0.insK nx (.row (Nat.add q (llen s.data.toList)) e 1 vt') fun T1 => k (.sl nx 0 (Nat.add q (llen s.data.toList)) 0) T1 (Nat.add nx 1) else .bad c else .bad c else .bad c else .bad c) (.bad c) id) else .bad c else .bad c
theorem LV.appT {k : AV → HT → Nat → R} {u e : Nat} {ats : Array TypeId} (hS : ST w0 base E ρ0 ρ T ro nx its) (h : appTK c T nx e a b k = .ok r T' n') (hx : evalA af x = some a) (hy : evalA af y = some b)
    (ho : o.op = .call { callee := .builtin .append, args := #[x, y], argTypes := ats }) (hat : ats = #[t, u]) (he : elemT P t = some (e, 1, 1, .int .u8 0)) (hu : P.underlying u = some .string) (hw : wantA ops af o.guard = some true) (hd : o.dst = some d) (hdn : Nat.blt d n = true)
    (hk : ∀ v T1 n1, k v T1 n1 = .ok r T' n' → ∀ ρ1 its1, ST w0 base E ρ0 ρ1 T1 ro n1 its1 → LV P ops n D (.plain Q) w0 base ρ1 its1 ((d, v) :: af) rest) : LV P ops n D (.plain Q) w0 base ρ its af (o :: rest) := fun l hf => by
  obtain ⟨s, rfl, hA⟩ := strK_inv h
  obtain ⟨hj, hA⟩ := bif_ok hA
  obtain ⟨hj2, hA⟩ := bif_ok hA
  rw [llen_eq] at hj hj2 hA
  have hsz : s.data.toList.length = s.size := by cases s; rfl
  rw [hsz] at hj hj2 hA
  have hj : 0 < s.size := by simpa using hj
  have hj2 : s.size ≤ 1000000 := by simpa using hj2
  refine LX.unguard (wantA_ok hf hw) ?_
  obtain ⟨hEl, _, hzz⟩ := elemT_ok he
  obtain ⟨inf, z', i1, i2, i3, i4, i5⟩ := hEl.ex
  have hz' : inf.zero = some (.int .u8 0) := by
    rw [i1] at hzz
    simpa using hzz
  obtain ⟨ux, h1, h2⟩ := hf.eval hx
  have h3 := evlit hf hy
  obtain ⟨hp, hs, hH⟩ := hS.hp
  have hbc : ∀ ρ', instL ρ' (bytesA s.data.toList) = some (Lib.strCells s) := fun ρ' => bytesA_inst ρ' _
  rcases rowOfK_inv hA with ⟨rfl, hB⟩ | ⟨id, q, rfl, hB⟩
  · rw [vtK_eq, HT.insK_eq] at hB
    obtain rfl := inst_lit h2
    refine LX.world (W' := WA w0 base (.row none 0 0 e 1 [] :: its)) (fun w hw => hw.nilRow e 1) ?_
    refine appendS_go (o := { o with guard := none }) (hp' := (nx, .row s.size e 1 (bytesA s.data.toList)) :: hp) (i := 0) (k := 0) (g := none) (cap := 0) (xs := []) (cs := bytesA s.data.toList) hEl.ht hu i1 hz' i3 i4 ho hat h1 h3 rfl hj (by omega) hS.fresh
      (fun ρ' hE => by simpa using hbc ρ') (fun b c hI => ?_) rfl hd hdn ?_
    · simp only [Nat.zero_add] at hI ⊢
      exact instH_mk hI (instH_ext (Ext.add hS.fresh b c) hH)
    · simp only [Nat.zero_add]
      intro ρ' u its' e5 e6 e7 e8
      exact hk _ _ _ hB ρ' its' ⟨⟨_, hs.new (m := .row s.size e 1 (vtOf (bytesA s.data.toList) 1 .nil)) ⟨_, rfl, by simpa using vtOf_rel (bytesA s.data.toList) [] .nil (VRel.nil _)⟩, e8⟩, e6, hS.ro.ext e5, hS.env.ext e5, hS.ext.trans e5, hS.opq.ext e5⟩ _ (FRel.cons (hf.ext e5) d e7)
  · rcases HT.getK_inv hB with ⟨m, hm1, hC⟩ | ⟨_, hC⟩
    · obtain ⟨q', e', sz, vt, rfl, hD⟩ := rowK_inv hC
      obtain ⟨hb1, hD⟩ := bif_ok hD
      obtain ⟨hb2, hD⟩ := bif_ok hD
      obtain ⟨hb3, hD⟩ := bif_ok hD
      obtain ⟨hb4, hD⟩ := bif_ok hD
      rw [vtK_eq, HT.delK_eq, HT.insK_eq] at hD
      have hfin := hD
      have eq1 := beqT hb1
      have eq2 := beqT hb2
      have eq3 := beqT hb3
      subst eq1; subst eq2; subst eq3
      have hb4' : q' ≤ 1000000 := by simpa using hb4
      obtain ⟨i, it0, hfd, hm⟩ := hs id _ hm1
      obtain ⟨c0, rfl, hv⟩ := hm
      obtain ⟨px, hpx, rfl⟩ := inst_sl h2
      obtain ⟨x', _, hxs, hi⟩ := findA_ok hH hfd
      obtain ⟨p2, us2, g1, g2, rfl⟩ := instI_row hi
      rw [hpx] at g1; cases g1
      have h1' : evl l x = some (rv (some px.1) q' px.2) := h1
      rw [Nat.sub_zero] at hxs
      by_cases hex : ∃ w, WA w0 base its w
      · obtain ⟨w, hw⟩ := hex
        have hl0 : c0.length = q' := by rw [← instL_len g2]; simpa using (row_len (hw.get hxs)).1
        refine appendS_go (o := { o with guard := none }) (hp' := setK hp id nx (.row (q' + s.size) e 1 (c0 ++ bytesA s.data.toList))) (cs := c0 ++ bytesA s.data.toList) hEl.ht hu i1 hz' i3 i4 ho hat h1' h3 hxs hj (by omega) hS.fresh
          (fun ρ' hE => instL_app (instL_ext hE _ _ g2) (hbc ρ')) (fun b c hI => ?_) rfl hd hdn ?_
        · have := setK_ok (instH_ext (Ext.add hS.fresh b c) hH) hfd hI
          rwa [Nat.sub_zero] at this
        · intro ρ' u its' e5 e6 e7 e8
          refine hk _ _ _ hfin ρ' its' ⟨⟨_, hs.app hfd (m := .row (q' + s.size) e 1 (vtOf (bytesA s.data.toList) (q' + 1) vt)) ⟨_, rfl, ?_⟩ (keys_old hS.fresh hH), e8⟩, e6, hS.ro.ext e5, hS.env.ext e5, hS.ext.trans e5, hS.opq.ext e5⟩ _ (FRel.cons (hf.ext e5) d e7)
          rw [← hl0]
          exact vtOf_rel (bytesA s.data.toList) c0 vt hv
      · exact fun a w ha hW => absurd ⟨w, hW⟩ hex
    · cases hC
/-! a pointer to no type, and back -/
/-- a function of the model's own that hands back what it is given -/
theorem VAL.same {f : FuncId} {ats : Array TypeId} (hr : ∀ (v : Value) (w : World), (callFunc f #[v]).run P w = .ok (.value v) w) (hx : evalA af x = some a) : VAL P W ρ af (.call { callee := .value (.func f), args := #[x], argTypes := ats }) a := fun l hf ty => by
  obtain ⟨us, h1, h2⟩ := evalsA_ok (vs := [a]) hf (show evalsA af [x] = some [a] by unfold evalsA; rw [hx]; rfl)
  obtain ⟨u, us', rfl, e1, e2⟩ : ∃ u us', us = u :: us' ∧ inst ρ a = some u ∧ us' = [] := by
    unfold instL at h2
    cases hi : inst ρ a with
    | none => rw [hi] at h2; cases h2
    | some u => rw [hi] at h2; cases h2; exact ⟨u, [], rfl, rfl, rfl⟩
  subst e2
  exact ⟨u, e1, Y.ext h1 (fun w => hr u w)⟩
/-! bytes that become a string in place -/
theorem findA_shf {id : Nat} : ∀ {t : AH} {j i' : Nat} {it : AI} (j' : Nat), findA t id j = some (i', it) → ∃ i2, findA t id j' = some (i2, it) := by
  intro t
  induction t with
  | nil => intro j i' it j' h; cases h
  | cons x t ih =>
    intro j i' it j' h
    obtain ⟨k, x⟩ := x
    unfold findA at h ⊢
    cases hb : Nat.beq k id with
    | true => rw [hb] at h; cases h; exact ⟨j', rfl⟩
    | false => rw [hb] at h; exact ih (j' + 1) h
theorem findA_drop {id id' : Nat} (hne : id' ≠ id) : ∀ {hp : AH} {j i' : Nat} {it : AI} (j' : Nat), findA hp id' j = some (i', it) → ∃ i2, findA (dropH hp id) id' j' = some (i2, it)
  | [], _, _, _, _, h => by cases h
  | (k, it') :: t, j, i', it, j', h => by
    unfold findA at h
    unfold dropH
    cases hb : Nat.beq k id' with
    | true =>
      rw [hb] at h
      cases h
      have hk : k = id' := by simpa using hb
      subst hk
      have hb2 : Nat.beq k id = false := by
        cases hz : Nat.beq k id with
        | true => exact absurd (beqT hz) hne
        | false => rfl
      rw [hb2]
      exact ⟨j', by unfold findA; rw [hb]⟩
    | false =>
      rw [hb] at h
      cases hb2 : Nat.beq k id with
      | true => 
        exact findA_shf j' h
      | false =>
        obtain ⟨i2, h2⟩ := findA_drop hne (j' + 1) h
        exact ⟨i2, by unfold findA; rw [hb]; exact h2⟩
theorem Sub.drop {hp : AH} {id : Nat} (h : EY.Sub T hp) : EY.Sub (T.del id) (dropH hp id) := fun id' m hm => by
  obtain ⟨hne, hg⟩ := HT.del_get _ _ _ _ hm
  obtain ⟨i, it, h1, h2⟩ := h id' m hg
  obtain ⟨i2, h3⟩ := findA_drop (id := id) (Ne.symm hne) 0 h1
  exact ⟨i2, it, h3, h2⟩
/-! two operations that make memory, in either order -/
theorem FRel.swap {d1 d2 : Nat} {v1 v2 : AV} {u1 u2 : Value} (hf : FRel ρ af l) (hne : d1 ≠ d2) (h1 : inst ρ v1 = some u1) (h2 : inst ρ v2 = some u2) : FRel ρ ((d2, v2) :: (d1, v1) :: af) ((d1, u1) :: (d2, u2) :: l) := fun i z hi => by
  by_cases e2 : d2 = i
  · subst e2
    rw [getA_same] at hi
    cases hi
    exact ⟨u2, by rw [get_cons_ne _ _ hne]; exact get_cons_same _ _ _, h2⟩
  · rw [getA_ne _ _ e2] at hi
    by_cases e1 : d1 = i
    · subst e1
      rw [getA_same] at hi
      cases hi
      exact ⟨u1, get_cons_same _ _ _, h1⟩
    · rw [getA_ne _ _ e1] at hi
      obtain ⟨u, g1, g2⟩ := hf i z hi
      exact ⟨u, by rw [get_cons_ne _ _ e1, get_cons_ne _ _ e2]; exact g1, g2⟩
end
end Go.EY
