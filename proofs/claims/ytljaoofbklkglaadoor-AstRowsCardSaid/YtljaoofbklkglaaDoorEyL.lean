/-
  Proved here: more steps of a machine of mine: a pick of an unknown; what package strings' Builder does.
-/
import Derived.Test.YtljaoofbklkglaaDoorEyK
import Derived.Lib.AppendStr
import Derived.Lib.UnsafeStr
import Derived.Lib.Builder
namespace Go.EY
open Go.SX Go.EX Go.RowKit
section
variable {P : Program} {w0 : World} {base : Nat} {ρ0 ρ : Rho} {T : HT} {ro : List HT} {nx : Nat} {its : List It} {E : List (Nat × AV)} {af : AF} {l : Fr}
variable {ops : Array Oper} {n : Nat} {D : List Deferred} {Q : Exit → Act → World → Prop} {rest : List Oper} {o : Oper} {d : Nat} {W : World → Prop}
variable {r : AR} {T' : HT} {n' c : Nat} {x y : Operand} {a b v : AV} {t t2 : TypeId}
noncomputable def pkK (v a b : AV) (k : AV → R) : R :=
  AV.rec (motive_1 := fun _ => R) (motive_2 := fun _ => Unit) (fun u => Value.rec (motive_1 := fun _ => R) (motive_2 := fun _ => Unit) (motive_3 := fun _ => Unit) (fun z => Bool.rec (motive := fun _ => R) (k b) (k a) z) (fun _ _ => .bad 0) (fun _ _ => .bad 0) (fun _ _ _ => .bad 0) (fun _ => .bad 0) (fun _ => .bad 0) (fun _ _ _ => .bad 0) (fun _ => .bad 0) (fun _ => .bad 0) (fun _ _ _ _ _ => .bad 0) (.bad 0) (fun _ _ _ => .bad 0) (.bad 0) (fun _ _ => .bad 0) (fun _ _ => .bad 0) (fun _ _ => ()) () (fun _ _ _ _ => ()) u) (fun _ _ => .bad 0) (fun _ _ _ _ => .bad 0) (fun _ => .bad 0) (fun _ _ => .bad 0) (fun _ _ => .bad 0) (fun _ _ _ => .bad 0) (fun _ _ _ _ _ => .bad 0) (fun _ => .bad 0) () (fun _ _ _ _ => ()) v
theorem V.pk {k : AV → R} {z : Operand} (h : pkK v a b k = .ok r T' n') (hz : evalA af z = some v) (hx : evalA af x = some a) (hy : evalA af y = some b) : ∃ v, k v = .ok r T' n' ∧ VAL P W ρ af (.pick z x y) v := by
  cases v with
  | lit u => cases u with
    | bool q => cases q with
      | true => exact ⟨_, h, VAL.pure (by show pickA af z x y = _; unfold pickA; rw [hz]; exact hx)⟩
      | false => exact ⟨_, h, VAL.pure (by show pickA af z x y = _; unfold pickA; rw [hz]; exact hy)⟩
    | _ => exact bad_ok h
  | _ => exact bad_ok h
/-! a pointer held against itself -/
noncomputable def ptNeK (c : Nat) (a b : AV) (k : AV → R) : R :=
  ptrK c a fun id off => ptrK c b fun id' off' => Bool.rec (motive := fun _ => R) (.bad c) (Bool.rec (motive := fun _ => R) (.bad c) (k (.lit (.bool false))) (Nat.beq off off')) (Nat.beq id id')
theorem ptNeV {k : AV → R} {te : TypeId} {i j : Nat} (h : ptNeK c a b k = .ok r T' n') (hx : evalA af (.tmp i) = some a) (hy : evalA af (.tmp j) = some b) (hp : P.underlying t = some (.pointer te)) (hi : (P.info? te).isSome = true) :
    ∃ v, k v = .ok r T' n' ∧ VAL P W ρ af (.binOp .neq t (.tmp i) (.tmp j) t2) v := by
  obtain ⟨id, off, rfl, hA⟩ := ptrK_inv h
  obtain ⟨id', off', rfl, hB⟩ := ptrK_inv hA
  obtain ⟨h1, hC⟩ := recb_ok hB
  obtain ⟨h2, hD⟩ := recb_ok hC
  obtain rfl := beqT h1
  obtain rfl := beqT h2
  refine ⟨_, hD, fun l hf ty => ⟨_, rfl, ?_⟩⟩
  obtain ⟨u, g1, g2⟩ := hf.eval hx
  obtain ⟨u', g3, g4⟩ := hf.eval hy
  rw [g2] at g4
  cases g4
  obtain ⟨p, g5, rfl⟩ := inst_ptr g2
  obtain ⟨inf, hinf⟩ := Option.isSome_iff_exists.1 hi
  refine Y.bin g1 g3 fun w _ => ?_
  have e3 : eqGuard .neq t (.tmp i) (.tmp j) (.pointer (some ⟨p.1, off, none⟩)) (.pointer (some ⟨p.1, off, none⟩)) = pure () := rfl
  rw [e3]
  simp only [pure_bind]
  exact Lib.run_neq_ptr_same w _ hp hinf
/-! a string's bytes put behind a row -/
theorem run_appendS_rv (w : World) (base : Nat) (t u ty e : TypeId) (i : TypeInfo) (ht : P.underlying t = some (.slice e)) (hu : P.underlying u = some .string) (hi : P.info? e = some i) (hz : i.zero = some (.int .u8 0))
    (hsize : i.size = 1) (hby : i.bytes = 1) (g : Option Nat) (k cap : Nat) (xs : List Value) (hown : w.ownsRow base e 1 (rv g k cap) k xs) (s : ByteArray) (h0 : 0 < s.size)
    (h63 : k + s.size ≤ maxLen) (hbytes : k + s.size ≤ 140737488355328) (hbase : base ≤ w.heap.size) :
    ∃ b' cap' w', (Builtin.append_ #[t, u] ty #[rv g k cap, .string s]).run P w = .ok (rv (some b') (k + s.size) cap') w' ∧ w'.ownsRow base e 1 (rv (some b') (k + s.size) cap') (k + s.size) (xs ++ Lib.strCells s) ∧ w.grownBy w' g ∧
      (some b' = g ∨ b' = w.heap.size) := by
  have hsmall : k + s.size ≤ 9223372036854775807 := by simp only [maxLen] at h63; omega
  have hxl : xs.length = k := by simpa using hown.1
  have hlen : (xs ++ Lib.strCells s).length = (k + s.size) * 1 := by rw [List.length_append, hxl, Lib.strCells_length, Nat.mul_one]
  have grown : ∀ (old : Nat), old < k + s.size → ∀ (row : Option Nat),
      (w.drew.alloc (.cells (xs.toArray ++ (Lib.strCells s).toArray ++ Builtin.zeroCells (Value.int .u8 0).cells (grownCap w (k + s.size) old e - (k + s.size))) e)).ownsRow base e 1
        (rv (some w.heap.size) (k + s.size) (grownCap w (k + s.size) old e)) (k + s.size) (xs ++ Lib.strCells s) ∧
      w.grownBy (w.drew.alloc (.cells (xs.toArray ++ (Lib.strCells s).toArray ++ Builtin.zeroCells (Value.int .u8 0).cells (grownCap w (k + s.size) old e - (k + s.size))) e)) row := by
    intro old ho row
    have hge := grownCap_ge w (k + s.size) old e
    have hcm : grownCap w (k + s.size) old e ≤ maxLen := grownCap_le_maxLen w (k + s.size) old e h63
    refine ⟨⟨hlen, .inr ⟨w.heap.size, _, _, rfl, hbase, heap_alloc_new w.drew _, hge, hcm, ?_, ?_⟩⟩, ⟨rfl, rfl, rfl, by simp, fun k hk _ => Below.heap_alloc w.drew _ k hk⟩⟩
    · have hz1 : (Value.int IntKind.u8 0).cells.size = 1 := rfl
      simp only [Array.size_append, List.size_toArray, size_zeroCells, hz1, hxl, Lib.strCells_length]
      omega
    · simp only [Array.toList_append, List.append_assoc]
      rw [← List.append_assoc, ← hlen]
      exact List.take_left
  rcases hown.2 with ⟨hv, hk0⟩ | ⟨b, cap', cur, hv, hbg, hg, hnc, hcm, hcs, htake⟩
  · have hg0 : g = none := by
      cases g with
      | none => rfl
      | some b => simp [rv] at hv
    subst hg0
    have hc0 : cap = 0 := by simpa [rv, hk0] using hv
    subst hc0
    subst hk0
    have hx : xs = [] := List.eq_nil_of_length_eq_zero hxl
    subst hx
    have hr := run_append_nil_string (P := P) w t u ty e i (.int .u8 0) ht hu hi hz s (by omega) (by omega) (by rw [hby]; omega)
    have hgr := grown 0 (by omega) none
    simp only [Nat.zero_add, List.nil_append, Array.empty_append] at hgr ⊢
    have e1 : (s.data.map fun b => Value.int .u8 b.toNat) = (Lib.strCells s).toArray := by
      apply Array.ext'
      simp [Lib.strCells]
    rw [e1] at hr
    exact ⟨w.heap.size, _, _, hr, hgr.1, hgr.2, .inr rfl⟩
  · have hgb : g = some b := by rw [← ownBlock_rv g k cap, hv]; rfl
    subst hgb
    have hcc : cap = cap' := by simpa [rv] using hv
    subst hcc
    by_cases hroom : k + s.size ≤ cap
    · have hcs' : cur.size = cap := by simpa using hcs
      have hr := Lib.run_append_room_string (P := P) w t u ty e i ht hu hi hsize b k cap cur hg s hroom (by omega)
      refine ⟨b, cap, _, hr, ⟨hlen, .inr ⟨b, cap, _, rfl, hbg, setRow_heap w b cur _ e _ hg, hroom, hcm, ?_, ?_⟩⟩, ⟨rfl, rfl, rfl, by simp, fun q _ hq => setRow_other w b q _ (fun e => hq (by rw [e]))⟩, .inl rfl⟩
      · simp only [List.size_toArray, List.length_append, List.length_take, List.length_drop, Array.length_toList, Lib.strCells_length]
        omega
      · have ht' : cur.toList.take k = xs := by simpa using htake
        rw [ht', ← hlen]
        exact List.take_left
    · have holds : ∀ j u, xs[j]? = some u → w.cell? ((⟨b, 0, none⟩ : Addr).add j) = some u := hown.cells (g := b) rfl
      have hr := Lib.run_append_grow_string (P := P) w t u ty e i (.int .u8 0) ht hu hi hz ⟨b, 0, none⟩ k cap xs (by rw [hsize]; simpa using hxl) holds s (by omega) (by omega) (by rw [hby]; exact growslice_fits (by omega) (by omega))
      have hgr := grown cap (by omega) (some b)
      exact ⟨w.heap.size, _, _, hr, hgr.1, hgr.2, .inr rfl⟩
theorem WA.appendS {w : World} (h : WA w0 base its w) {i : Nat} {t u e : Nat} {inf : TypeInfo} (ht : P.underlying t = some (.slice e)) (hu : P.underlying u = some .string) (hinf : P.info? e = some inf) (hz : inf.zero = some (.int .u8 0)) (hsize : inf.size = 1) (hby : inf.bytes = 1)
    {g : Option Nat} {cap k : Nat} {xs : List Value} (hi : its[i]? = some (.row g cap k e 1 xs)) (s : ByteArray) (h0 : 0 < s.size) (hb : k + s.size ≤ 1000000000) (ty : TypeId) :
    ∃ b' cap' w', (Builtin.append_ #[t, u] ty #[rv g k cap, .string s]).run P w = .ok (rv (some b') (k + s.size) cap') w' ∧ WA w0 base (its.set i (.row (some b') cap' (k + s.size) e 1 (xs ++ Lib.strCells s))) w' := by
  obtain ⟨b', cap', w', r1, r2, r3, r4⟩ := run_appendS_rv (P := P) w base t u ty e inf ht hu hinf hz hsize hby g k cap xs (h.get hi) s h0 (by unfold maxLen; omega) (by omega) h.fits
  refine ⟨b', cap', w', r1, h.others hi r3.os r3.tape r3.output r3.size (fun q hq hne => r3.block q hq fun e => hne e.symm) r2 fun q hq => ?_⟩
  rcases r4 with h1 | rfl
  · exact .inl (by rw [← hq]; exact h1.symm)
  · cases hq; exact .inr (Nat.le_refl _)
theorem appendS_go {t u e cap k i : Nat} {g : Option Nat} {xs : List Value} {s : ByteArray} {cs : List AV} {ats : Array TypeId} {hp' : AH} {inf : TypeInfo} (ht : P.underlying t = some (.slice e)) (hu : P.underlying u = some .string) (hinf : P.info? e = some inf) (hz : inf.zero = some (.int .u8 0)) (hsize : inf.size = 1) (hby : inf.bytes = 1)
    (ho : o.op = .call { callee := .builtin .append, args := #[x, y], argTypes := ats }) (hat : ats = #[t, u])
    (hx : evl l x = some (rv g k cap)) (hy : evl l y = some (.string s)) (hi : its[i]? = some (.row g cap k e 1 xs)) (h0 : 0 < s.size) (hb : k + s.size ≤ 1000000000) (hF : Fresh ρ nx) (hcs : ∀ ρ', Ext ρ ρ' → instL ρ' cs = some (xs ++ Lib.strCells s))
    (hH : ∀ b c, instI (ρ.add nx b c) nx (.row (k + s.size) e 1 cs) = some (.row (some b) c (k + s.size) e 1 (xs ++ Lib.strCells s)) → instH (ρ.add nx b c) hp' = some (its.set i (.row (some b) c (k + s.size) e 1 (xs ++ Lib.strCells s))))
    (hg : o.guard = none) (hd : o.dst = some d) (hdn : Nat.blt d n = true)
    (hk : EX.Next P ops n D Q w0 base ρ hp' (nx + 1) (.sl nx 0 (k + s.size) 0) d l rest) : LX P ops n D (.plain Q) l (WA w0 base its) (o :: rest) := by
  refine LX.effx (τ := Nat × Nat) (v := fun p => rv (some p.1) (k + s.size) p.2) (W' := fun p => WA w0 base (its.set i (.row (some p.1) p.2 (k + s.size) e 1 (xs ++ Lib.strCells s)))) (fun σ hσ w hW => ?_) hg hd hdn (fun p => ?_)
  · obtain ⟨b', cap', w', r1, r2⟩ := WA.appendS (P := P) hW ht hu hinf hz hsize hby hi s h0 hb o.type
    refine ⟨(b', cap'), w', ?_, r2⟩
    subst hat
    simp only [execOp, ho, resolve, invoke, builtin, Sem.run_bind, Sem.run_pure, Result.andThen_ok, List.map_toArray, List.map_cons, List.map_nil, hσ _ _ hx, hσ _ _ hy, r1]
  · obtain ⟨b', cap'⟩ := p
    have hE := Ext.add hF b' cap'
    have hI := instI_mkrow (ρ := ρ.add nx b' cap') (id := nx) (n := k + s.size) (e := e) (s := 1) (rat_add _ _ _ _) (hcs _ hE)
    exact hk (ρ.add nx b' cap') _ _ hE (hF.add b' cap') (by unfold inst; rw [rat_add]; rfl) (hH b' cap' hI)
noncomputable def bytesA (l : List UInt8) : List AV := List.rec [] (fun x _ ih => .lit (.int .u8 (.ofNat x.toNat)) :: ih) l
theorem bytesA_inst (ρ : Rho) : ∀ l : List UInt8, instL ρ (bytesA l) = some (l.map fun b => Value.int .u8 b.toNat) := by
  intro l
  induction l with
  | nil => rfl
  | cons x t ih => show instL ρ (.lit (.int .u8 (.ofNat x.toNat)) :: bytesA t) = _; unfold instL; rw [ih]; rfl
theorem bytesA_len (l : List UInt8) : (bytesA l).length = l.length := by
  induction l with
  | nil => rfl
  | cons x t ih => show (bytesA t).length + 1 = _; rw [ih]; rfl
noncomputable def appTK (c : Nat) (T : HT) (nx : Nat) (e : TypeId) (a b : AV) (k : AV → HT → Nat → R) : R :=
  strK c b fun s => bif Nat.blt 0 (llen s.data.toList) then bif Nat.ble (llen s.data.toList) 1000000 then
    rowOfK c a (vtK (bytesA s.data.toList) 1 .nil fun vt => T.insK nx (.row (llen s.data.toList) e 1 vt) fun T1 => k (.sl nx 0 (llen s.data.toList) 0) T1 (Nat.add nx 1))
      (fun id q => T.getK (fun m => rowK c m fun q' e' sz vt => bif Nat.beq q' q then bif Nat.beq e e' then bif Nat.beq sz 1 then bif Nat.ble q 1000000 then
        vtK (bytesA s.data.toList) (Nat.add q 1) vt fun vt' => T.delK id fun T0 => T0.insK nx (.row (Nat.add q (llen s.data.toList)) e 1 vt') fun T1 => k (.sl nx 0 (Nat.add q (llen s.data.toList)) 0) T1 (Nat.add nx 1) else .bad c else .bad c else .bad c else .bad c) (.bad c) id) else .bad c else .bad c
theorem LV.appT {k : AV → HT → Nat → R} {u e : Nat} {ats : Array TypeId} (hS : ST w0 base E ρ0 ρ T ro nx its) (h : appTK c T nx e a b k = .ok r T' n') (hx : evalA af x = some a) (hy : evalA af y = some b)
    (ho : o.op = .call { callee := .builtin .append, args := #[x, y], argTypes := ats }) (hat : ats = #[t, u]) (he : elemT P t = some (e, 1, 1, .int .u8 0)) (hu : P.underlying u = some .string) (hw : wantA ops af o.guard = some true) (hd : o.dst = some d) (hdn : Nat.blt d n = true)
    (hk : ∀ v T1 n1, k v T1 n1 = .ok r T' n' → ∀ ρ1 its1, ST w0 base E ρ0 ρ1 T1 ro n1 its1 → LV P ops n D (.plain Q) w0 base ρ1 its1 ((d, v) :: af) rest) : LV P ops n D (.plain Q) w0 base ρ its af (o :: rest) := fun l hf => by
  obtain ⟨s, rfl, hA⟩ := strK_inv h
  obtain ⟨hj, hA⟩ := bif_ok hA
  obtain ⟨hj2, hA⟩ := bif_ok hA
  rw [llen_eq] at hj hj2 hA
  have hsz : s.data.toList.length = s.size := by cases s; rfl
  rw [hsz] at hj hj2 hA
  have hj : 0 < s.size := by simpa using hj
  have hj2 : s.size ≤ 1000000 := by simpa using hj2
  refine LX.unguard (wantA_ok hf hw) ?_
  obtain ⟨hEl, _, hzz⟩ := elemT_ok he
  obtain ⟨inf, z', i1, i2, i3, i4, i5⟩ := hEl.ex
  have hz' : inf.zero = some (.int .u8 0) := by
    rw [i1] at hzz
    simpa using hzz
  obtain ⟨ux, h1, h2⟩ := hf.eval hx
  have h3 := evlit hf hy
  obtain ⟨hp, hs, hH⟩ := hS.hp
  have hbc : ∀ ρ', instL ρ' (bytesA s.data.toList) = some (Lib.strCells s) := fun ρ' => bytesA_inst ρ' _
  rcases rowOfK_inv hA with ⟨rfl, hB⟩ | ⟨id, q, rfl, hB⟩
  · rw [vtK_eq, HT.insK_eq] at hB
    obtain rfl := inst_lit h2
    refine LX.world (W' := WA w0 base (.row none 0 0 e 1 [] :: its)) (fun w hw => hw.nilRow e 1) ?_
    refine appendS_go (o := { o with guard := none }) (hp' := (nx, .row s.size e 1 (bytesA s.data.toList)) :: hp) (i := 0) (k := 0) (g := none) (cap := 0) (xs := []) (cs := bytesA s.data.toList) hEl.ht hu i1 hz' i3 i4 ho hat h1 h3 rfl hj (by omega) hS.fresh
      (fun ρ' hE => by simpa using hbc ρ') (fun b c hI => ?_) rfl hd hdn ?_
    · simp only [Nat.zero_add] at hI ⊢
      exact instH_mk hI (instH_ext (Ext.add hS.fresh b c) hH)
    · simp only [Nat.zero_add]
      intro ρ' u its' e5 e6 e7 e8
      exact hk _ _ _ hB ρ' its' ⟨⟨_, hs.new (m := .row s.size e 1 (vtOf (bytesA s.data.toList) 1 .nil)) ⟨_, rfl, by simpa using vtOf_rel (bytesA s.data.toList) [] .nil (VRel.nil _)⟩, e8⟩, e6, hS.ro.ext e5, hS.env.ext e5, hS.ext.trans e5, hS.opq.ext e5⟩ _ (FRel.cons (hf.ext e5) d e7)
  · rcases HT.getK_inv hB with ⟨m, hm1, hC⟩ | ⟨_, hC⟩
    · obtain ⟨q', e', sz, vt, rfl, hD⟩ := rowK_inv hC
      obtain ⟨hb1, hD⟩ := bif_ok hD
      obtain ⟨hb2, hD⟩ := bif_ok hD
      obtain ⟨hb3, hD⟩ := bif_ok hD
      obtain ⟨hb4, hD⟩ := bif_ok hD
      rw [vtK_eq, HT.delK_eq, HT.insK_eq] at hD
      have hfin := hD
      have eq1 := beqT hb1
      have eq2 := beqT hb2
      have eq3 := beqT hb3
      subst eq1; subst eq2; subst eq3
      have hb4' : q' ≤ 1000000 := by simpa using hb4
      obtain ⟨i, it0, hfd, hm⟩ := hs id _ hm1
      obtain ⟨c0, rfl, hv⟩ := hm
      obtain ⟨px, hpx, rfl⟩ := inst_sl h2
      obtain ⟨x', _, hxs, hi⟩ := findA_ok hH hfd
      obtain ⟨p2, us2, g1, g2, rfl⟩ := instI_row hi
      rw [hpx] at g1; cases g1
      have h1' : evl l x = some (rv (some px.1) q' px.2) := h1
      rw [Nat.sub_zero] at hxs
      by_cases hex : ∃ w, WA w0 base its w
      · obtain ⟨w, hw⟩ := hex
        have hl0 : c0.length = q' := by rw [← instL_len g2]; simpa using (row_len (hw.get hxs)).1
        refine appendS_go (o := { o with guard := none }) (hp' := setK hp id nx (.row (q' + s.size) e 1 (c0 ++ bytesA s.data.toList))) (cs := c0 ++ bytesA s.data.toList) hEl.ht hu i1 hz' i3 i4 ho hat h1' h3 hxs hj (by omega) hS.fresh
          (fun ρ' hE => instL_app (instL_ext hE _ _ g2) (hbc ρ')) (fun b c hI => ?_) rfl hd hdn ?_
        · have := setK_ok (instH_ext (Ext.add hS.fresh b c) hH) hfd hI
          rwa [Nat.sub_zero] at this
        · intro ρ' u its' e5 e6 e7 e8
          refine hk _ _ _ hfin ρ' its' ⟨⟨_, hs.app hfd (m := .row (q' + s.size) e 1 (vtOf (bytesA s.data.toList) (q' + 1) vt)) ⟨_, rfl, ?_⟩ (keys_old hS.fresh hH), e8⟩, e6, hS.ro.ext e5, hS.env.ext e5, hS.ext.trans e5, hS.opq.ext e5⟩ _ (FRel.cons (hf.ext e5) d e7)
          rw [← hl0]
          exact vtOf_rel (bytesA s.data.toList) c0 vt hv
      · exact fun a w ha hW => absurd ⟨w, hW⟩ hex
    · cases hC
/-! a pointer to no type, and back -/
noncomputable def ucvK (c : Nat) (T : HT) (f : TypeId → Nat → Nat → Bool) (a : AV) (k : AV → R) : R :=
  ptrK c a fun id off => T.getK (fun m => MI.rec (motive := fun _ => R) (fun cs ty => bif f ty cs.length off then k (.ptr id off) else .bad c) (fun _ _ _ _ => .bad c) (fun _ _ _ _ => .bad c) m) (.bad c) id
theorem ucvK_inv {f : TypeId → Nat → Nat → Bool} {k : AV → R} (hS : ST w0 base E ρ0 ρ T ro nx its) (h : ucvK c T f a k = .ok r T' n') : ∃ id off p ty nn, a = .ptr id off ∧ f ty nn off = true ∧ k (.ptr id off) = .ok r T' n' ∧ rat ρ.blk id = some p ∧ ∀ w, WA w0 base its w → w.shape? p.1 = some (ty, nn) := by
  obtain ⟨id, off, rfl, hA⟩ := ptrK_inv h
  rcases HT.getK_inv hA with ⟨m, h1, h2⟩ | ⟨_, h2⟩
  · cases m with
    | row q e s vt => exact bad_ok h2
    | mp ks vs bs ck => exact bad_ok h2
    | obj cs ty =>
      obtain ⟨hb1, hq1⟩ := bif_ok (h2 : (bif f ty cs.length off then k (.ptr id off) else .bad c) = _)
      obtain ⟨hp, hs, hH⟩ := hS.hp
      obtain ⟨i, it, hfd, hm⟩ := hs id _ h1
      obtain rfl := hm
      obtain ⟨xi, _, hxs, hi⟩ := findA_ok hH hfd
      rw [Nat.sub_zero] at hxs
      obtain ⟨p, us, g1, g2, rfl⟩ := instI_obj hi
      refine ⟨id, off, p, ty, cs.length, rfl, hb1, hq1, g1, fun w hw => ?_⟩
      have hb : w.heap[p.1]? = some (.cells us.toArray ty (0, 0)) := (hw.get hxs).2
      simp [World.shape?, hb, instL_len g2]
  · exact bad_ok h2
def inU (_ : TypeId) (nn off : Nat) : Bool := Nat.blt off nn
theorem V.toU {te : TypeId} {k : AV → R} (hS : ST w0 base E ρ0 ρ T ro nx its) (h : ucvK c T inU a k = .ok r T' n') (hx : evalA af x = some a) (hs : P.underlying t = some (.pointer te)) (hd : P.underlying t2 = some .unsafePointer) (hj : ((P.info? te).map fun j => Nat.blt 0 j.size) = some true) :
    ∃ v, k v = .ok r T' n' ∧ VAL P (WA w0 base its) ρ af (.convert t t2 x) v := by
  obtain ⟨id, off, p, ty, nn, rfl, hn, h1, h2, h3⟩ := ucvK_inv hS h
  refine ⟨_, h1, fun l hf ty' => ?_⟩
  obtain ⟨u, g1, g2⟩ := hf.eval hx
  obtain ⟨p', g3, rfl⟩ := inst_ptr g2
  rw [h2] at g3; cases g3
  refine ⟨_, g2, fun σ hσ o' ho' ht w hw => ?_⟩
  cases hi : P.info? te with
  | none => rw [hi] at hj; cases hj
  | some j =>
    rw [hi] at hj
    have hj' : 0 < j.size := by simpa using hj
    have hn' : off < nn := by unfold inU at hn; simpa using hn
    have hr := Lib.run_to_unsafe (P := P) w ⟨p.1, off, none⟩ hs hd hi (by omega) (h3 w hw) hn'
    simp [execOp, ho', hσ _ _ g1, hr]
def liesT (P : Program) (tu : TypeId) (ty nn off : Nat) : Bool := liesAt P P.depth ty (nn / P.cellsOf ty) off tu 1
theorem V.frU {tu : TypeId} {k : AV → R} (hS : ST w0 base E ρ0 ρ T ro nx its) (h : ucvK c T (liesT P tu) a k = .ok r T' n') (hx : evalA af x = some a) (hs : P.underlying t = some .unsafePointer) (hd : P.underlying t2 = some (.pointer tu)) (hj : (P.info? tu).isSome = true) :
    ∃ v, k v = .ok r T' n' ∧ VAL P (WA w0 base its) ρ af (.convert t t2 x) v := by
  obtain ⟨id, off, p, ty, nn, rfl, hl, h1, h2, h3⟩ := ucvK_inv hS h
  refine ⟨_, h1, fun l hf ty' => ?_⟩
  obtain ⟨u, g1, g2⟩ := hf.eval hx
  obtain ⟨p', g3, rfl⟩ := inst_ptr g2
  rw [h2] at g3; cases g3
  refine ⟨_, g2, fun σ hσ o' ho' ht w hw => ?_⟩
  obtain ⟨j, hi⟩ := Option.isSome_iff_exists.1 hj
  have hr := Lib.run_from_unsafe (P := P) w ⟨p.1, off, none⟩ hs hd hi (h3 w hw) hl
  simp [execOp, ho', hσ _ _ g1, hr]
/-- a function of the model's own that hands back what it is given -/
theorem VAL.same {f : FuncId} {ats : Array TypeId} (hr : ∀ (v : Value) (w : World), (callFunc f #[v]).run P w = .ok (.value v) w) (hx : evalA af x = some a) : VAL P W ρ af (.call { callee := .value (.func f), args := #[x], argTypes := ats }) a := fun l hf ty => by
  obtain ⟨us, h1, h2⟩ := evalsA_ok (vs := [a]) hf (show evalsA af [x] = some [a] by unfold evalsA; rw [hx]; rfl)
  obtain ⟨u, us', rfl, e1, e2⟩ : ∃ u us', us = u :: us' ∧ inst ρ a = some u ∧ us' = [] := by
    unfold instL at h2
    cases hi : inst ρ a with
    | none => rw [hi] at h2; cases h2
    | some u => rw [hi] at h2; cases h2; exact ⟨u, [], rfl, rfl, rfl⟩
  subst e2
  exact ⟨u, e1, Y.ext h1 (fun w => hr u w)⟩
/-! bytes that become a string in place -/
noncomputable def usdK (c : Nat) (T : HT) (ro : List HT) (a : AV) (k : AV → R) : R :=
  slcK c a fun id off q sk => lookK T ro id (fun m => rowK c m fun q' _ _ _ => bif Nat.blt 0 q then bif Nat.ble (Nat.add q sk) q' then k (.ptr id off) else .bad c else .bad c) (.bad c)
theorem V.usd {k : AV → R} {ats : Array TypeId} (hS : ST w0 base E ρ0 ρ T ro nx its) (h : usdK c T ro a k = .ok r T' n') (hx : evalA af x = some a) : ∃ v, k v = .ok r T' n' ∧ VAL P (WA w0 base its) ρ af (.call { callee := .builtin .unsafeSliceData, args := #[x], argTypes := ats }) v := by
  obtain ⟨id, off, q, sk, rfl, hA⟩ := slcK_inv h
  obtain ⟨m, h1, hB⟩ := lookK_inv hA
  obtain ⟨q', e, s, vt, rfl, hC⟩ := rowK_inv hB
  obtain ⟨hb1, hC⟩ := bif_ok hC
  obtain ⟨hb2, hC⟩ := bif_ok hC
  have hq : 0 < q := by simpa using hb1
  have hq2 : q + sk ≤ q' := by simpa using hb2
  obtain ⟨p, e1, e2⟩ := hS.room h1
  refine ⟨_, hC, fun l hf ty => ?_⟩
  obtain ⟨u, g1, g2⟩ := hf.eval hx
  obtain ⟨p', g3, rfl⟩ := inst_sl g2
  rw [e1] at g3; cases g3
  refine ⟨.pointer (some ⟨p.1, off, none⟩), by unfold inst; rw [e1]; rfl, fun σ hσ o' ho' ht w hw => ?_⟩
  have := e2 w hw
  have hne : p.2 - sk ≠ 0 := by omega
  have hrun : ∀ ts, (Builtin.unsafeSliceData_ ts o'.type #[.slice (some ⟨p.1, off, none⟩) q (p.2 - sk)]).run P w = .ok (.pointer (some ⟨p.1, off, none⟩)) w := fun ts => by
    have hdef : Builtin.unsafeSliceData_ ts o'.type #[.slice (some ⟨p.1, off, none⟩) q (p.2 - sk)] =
      (do
        if (p.2 - sk) ≠ 0 then Pure.pure (.pointer (some ⟨p.1, off, none⟩))
        else if (← viewAt p.1).isSome then Pure.pure (.pointer (some ⟨p.1, off, none⟩))
        else Pure.pure (.pointer (some ⟨← newObj (.view ⟨p.1, off, none⟩ (← elemOf o'.type)), 0, none⟩))) := rfl
    rw [hdef, if_pos hne]
    rfl
  simp [execOp, ho', resolve, invoke, builtin, hσ _ _ g1, hrun]
theorem findA_shf {id : Nat} : ∀ {t : AH} {j i' : Nat} {it : AI} (j' : Nat), findA t id j = some (i', it) → ∃ i2, findA t id j' = some (i2, it) := by
  intro t
  induction t with
  | nil => intro j i' it j' h; cases h
  | cons x t ih =>
    intro j i' it j' h
    obtain ⟨k, x⟩ := x
    unfold findA at h ⊢
    cases hb : Nat.beq k id with
    | true => rw [hb] at h; cases h; exact ⟨j', rfl⟩
    | false => rw [hb] at h; exact ih (j' + 1) h
theorem findA_skip {id k : Nat} {x : AI} {t : AH} {j : Nat} (h : k ≠ id) : findA ((k, x) :: t) id j = findA t id (j + 1) := by
  show (match Nat.beq k id with | true => _ | false => _) = _
  cases hz : Nat.beq k id with
  | true => exact absurd (beqT hz) h
  | false => rfl
theorem findA_drop {id id' : Nat} (hne : id' ≠ id) : ∀ {hp : AH} {j i' : Nat} {it : AI} (j' : Nat), findA hp id' j = some (i', it) → ∃ i2, findA (dropH hp id) id' j' = some (i2, it)
  | [], _, _, _, _, h => by cases h
  | (k, it') :: t, j, i', it, j', h => by
    unfold findA at h
    unfold dropH
    cases hb : Nat.beq k id' with
    | true =>
      rw [hb] at h
      cases h
      have hk : k = id' := by simpa using hb
      subst hk
      have hb2 : Nat.beq k id = false := by
        cases hz : Nat.beq k id with
        | true => exact absurd (beqT hz) hne
        | false => rfl
      rw [hb2]
      exact ⟨j', by unfold findA; rw [hb]⟩
    | false =>
      rw [hb] at h
      cases hb2 : Nat.beq k id with
      | true => 
        exact findA_shf j' h
      | false =>
        obtain ⟨i2, h2⟩ := findA_drop hne (j' + 1) h
        exact ⟨i2, by unfold findA; rw [hb]; exact h2⟩
theorem dropH_at {ρ : Rho} : ∀ {hp : AH} {xs : List It} {id j i : Nat} {it : AI}, instH ρ hp = some xs → findA hp id j = some (i, it) → instH ρ (dropH hp id) = some (xs.eraseIdx (i - j))
  | [], _, _, _, _, _, _, h => by cases h
  | (k, it') :: t, xs, id, j, i, it, hx, h => by
    obtain ⟨x, xs', rfl, h1, h2⟩ := instH_cons hx
    unfold findA at h
    unfold dropH
    cases hb : Nat.beq k id with
    | true =>
      rw [hb] at h
      cases h
      rw [Nat.sub_self]
      exact h2
    | false =>
      rw [hb] at h
      obtain ⟨y', h3, _, _⟩ := findA_ok h2 h
      rw [show i - j = (i - (j + 1)) + 1 by omega]
      exact instH_mk h1 (dropH_at h2 h)
theorem Sub.drop {hp : AH} {id : Nat} (h : EY.Sub T hp) : EY.Sub (T.del id) (dropH hp id) := fun id' m hm => by
  obtain ⟨hne, hg⟩ := HT.del_get _ _ _ _ hm
  obtain ⟨i, it, h1, h2⟩ := h id' m hg
  obtain ⟨i2, h3⟩ := findA_drop (id := id) (Ne.symm hne) 0 h1
  exact ⟨i2, it, h3, h2⟩
noncomputable def i64K (c : Nat) (a : AV) (f : Nat → R) : R := Option.rec (motive := fun _ => R) (.bad c) f (i64V a)
theorem i64K_inv {f : Nat → R} (h : i64K c a f = .ok r T' n') : ∃ i, a = .lit (.int .i64 (.ofNat i)) ∧ f i = .ok r T' n' := by
  unfold i64K at h
  cases hi : i64V a with
  | none => rw [hi] at h; exact bad_ok h
  | some i => rw [hi] at h; exact ⟨i, i64V_ok hi, h⟩
noncomputable def ustK (c : Nat) (T : HT) (e : TypeId) (a b : AV) (k : AV → HT → R) : R :=
  ptrK c a fun id off => i64K c b fun q => T.getK (fun m => rowK c m fun q' e' s vt => bif Nat.beq off 0 then bif Nat.beq q' q then bif Nat.beq e e' then bif Nat.beq s 1 then bif Nat.blt 0 q then bif Nat.ble q 1000000 then
    bytK c vt q 0 fun l => T.delK id fun T1 => k (.lit (.string ⟨⟨l⟩⟩)) T1 else .bad c else .bad c else .bad c else .bad c else .bad c else .bad c) (.bad c) id
theorem LV.ust {k : AV → HT → R} {e pt it' : TypeId} {ats : Array TypeId} (hS : ST w0 base E ρ0 ρ T ro nx its) (h : ustK c T e a b k = .ok r T' n') (hx : evalA af x = some a) (hy : evalA af y = some b)
    (ho : o.op = .call { callee := .builtin .unsafeString, args := #[x, y], argTypes := ats }) (hat : ats = #[pt, it']) (hpt : P.underlying pt = some (.pointer e)) (hc : P.cellsOf e = 1) (hw : wantA ops af o.guard = some true) (hd : o.dst = some d) (hdn : Nat.blt d n = true)
    (hk : ∀ v T1 its1, k v T1 = .ok r T' n' → ST w0 base E ρ0 ρ T1 ro nx its1 → LV P ops n D (.plain Q) w0 base ρ its1 ((d, v) :: af) rest) : LV P ops n D (.plain Q) w0 base ρ its af (o :: rest) := fun l hf => by
  obtain ⟨id, off, rfl, hA⟩ := ptrK_inv h
  obtain ⟨q, rfl, hB⟩ := i64K_inv hA
  rcases HT.getK_inv hB with ⟨m, hm1, hC⟩ | ⟨_, hC⟩
  · obtain ⟨q', e', s, vt, rfl, hD⟩ := rowK_inv hC
    obtain ⟨hb1, hD1⟩ := bif_ok hD
    obtain ⟨hb2, hD2⟩ := bif_ok hD1
    obtain ⟨hb3, hD3⟩ := bif_ok hD2
    obtain ⟨hb4, hD4⟩ := bif_ok hD3
    obtain ⟨hb5, hD5⟩ := bif_ok hD4
    obtain ⟨hb6, hD6⟩ := bif_ok hD5
    have eq1 := beqT hb1
    have eq2 := beqT hb2
    have eq3 := beqT hb3
    have eq4 := beqT hb4
    subst eq1; subst eq2; subst eq3; subst eq4
    have hq0 : 0 < q' := by simpa using hb5
    have hq6 : q' ≤ 1000000 := by simpa using hb6
    obtain ⟨hp, hs, hH⟩ := hS.hp
    obtain ⟨i, it, hfd, hm⟩ := hs id _ hm1
    obtain ⟨cs, rfl, hv⟩ := hm
    obtain ⟨xi, _, hxs, hi⟩ := findA_ok hH hfd
    rw [Nat.sub_zero] at hxs
    obtain ⟨p, us, g1, g2, rfl⟩ := instI_row hi
    obtain ⟨lb, e1, e2⟩ := bytK_inv hv g2 hD6
    rw [HT.delK_eq] at e1
    refine LX.unguard (wantA_ok hf hw) ?_
    obtain ⟨ux, g3, g4⟩ := hf.eval hx
    obtain ⟨p', g5, rfl⟩ := inst_ptr g4
    rw [g1] at g5; cases g5
    have g6 := evlit hf hy
    refine LX.effx (τ := Unit) (v := fun _ => .string ⟨⟨lb⟩⟩) (W' := fun _ => WA w0 base (its.eraseIdx i)) (o := { o with guard := none }) (fun σ hσ w hW => ⟨(), w.freeze ⟨p.1, 0, none⟩ q', ?_, ?_⟩) rfl hd hdn (fun _ => ?_)
    · have hl := row_len (hW.get hxs)
      have hul : us.length = q' := by simpa using hl.1
      have huse : us = lb.map b8 := by
        rw [List.drop_zero, List.take_of_length_le (by omega)] at e2
        exact e2
      have hll : lb.length = q' := by rw [← hul, huse, List.length_map]
      have hrow := hW.get hxs
      obtain ⟨b, cur, hbe, hbb, hh, hc1, hc2, hc3, htk⟩ := row_some hrow (by omega)
      cases hbe
      have hsh : w.shape? p.1 = some (e, cur.size) := by simp [World.shape?, hh]
      have hr := Lib.run_unsafeString_row (P := P) w pt it' o.type e hpt hc p.1 cur.size hsh lb (by intro h0; rw [h0] at hll; simp at hll; omega) (by rw [hll, hc3]; omega) (by omega)
        (fun j z hz => by
          have := hrow.cells (g := p.1) rfl j (.int .u8 z.toNat) (by rw [huse, List.getElem?_map, hz]; rfl)
          exact this)
      rw [hll] at hr
      subst hat
      have e3 : (⟨lb.toArray⟩ : ByteArray) = ⟨⟨lb⟩⟩ := rfl
      rw [e3] at hr
      simp only [execOp, ho, resolve, invoke, builtin, Sem.run_bind, Sem.run_pure, Result.andThen_ok, List.map_toArray, List.map_cons, List.map_nil, hσ _ _ g3, hσ _ _ g6]
      exact (by simpa using congrArg (fun z => Result.andThen z _) hr)
    · have h9 : WA w0 base (its.set i (.row none 0 0 e 1 [])) (w.freeze ⟨p.1, 0, none⟩ q') := by
        refine hW.others hxs (by unfold World.freeze; split <;> rfl) (by unfold World.freeze; split <;> rfl) (by unfold World.freeze; split <;> rfl) (by unfold World.freeze; split <;> simp) (fun k _ hne => ?_) (World.ownsRow_nil _ base e 1) (fun k hk => by cases hk)
        unfold World.freeze
        split
        · rfl
        · simp only [Array.getElem?_modify]
          rw [if_neg (fun e => hne (by rw [← e]; rfl))]
      have := h9.drop (List.eraseIdx_sublist _ i)
      rwa [List.eraseIdx_set_eq] at this
    · have hST : ST w0 base E ρ0 ρ (T.del id) ro nx (its.eraseIdx i) := ⟨⟨_, Sub.drop hs, by have := dropH_at hH hfd; rwa [Nat.sub_zero] at this⟩, hS.fresh, hS.ro, hS.env, hS.ext, hS.opq⟩
      exact hk _ _ _ e1 hST _ (FRel.cons hf d rfl)
  · exact bad_ok hC
/-! two operations that make memory, in either order -/
def planOk2 (md : Region.Mode) (ops : Array Oper) (i j : Nat) (post : List (Nat × Kd)) : List (Nat × Kd) → Array Bool → Bool
  | [], listed => (Region.ready md ops listed == [i, j]) && (Region.ready md ops (listed.setIfInBounds i true) == [j]) && (Region.ready md ops (listed.setIfInBounds j true) == [i]) && planOk md ops post ((listed.setIfInBounds i true).setIfInBounds j true) && !(i == j)
  | p :: r, listed => (match p.2 with
    | .alone => false
    | _ => (Region.ready md ops listed).contains p.1 && Region.free md ops listed p.1) && planOk2 md ops i j post r (listed.setIfInBounds p.1 true)
/-- what is open behind the first part -/
def endPend (ops : Array Oper) (md : Region.Mode) : List (Nat × Kd) → List Nat → List Nat
  | [], pend => pend
  | (i, .held) :: r, pend => endPend ops md r (i :: still ops md pend i)
  | (_, _) :: r, pend => endPend ops md r pend
def Two (P : Program) (md : Region.Mode) (ops : Array Oper) (Q : Exit → Act → World → Prop) (S : World → Prop) (i j : Nat) (post : List (Nat × Kd)) (pe : List Nat) : Exit → Act → World → Prop
  | .normal, a, w => wpPlan P md ops Q S ((i, .alone) :: (j, .alone) :: post) pe a w ∧ wpPlan P md ops Q S ((j, .alone) :: (i, .alone) :: post) pe a w
  | e, a, w => Q e a w
theorem wpAnyM_plan2 {S : World → Prop} {md : Region.Mode} {i j : Nat} {post : List (Nat × Kd)} {pe : List Nat} (hs : Region.noSelect ops = true) (hQ : ∀ c a w d v, Q (.panic c) (a.put d v) w → Q (.panic c) a w) : ∀ (plan : List (Nat × Kd)) (listed : Array Bool) (pend : List Nat) (a : Act) (w : World),
    planOk2 md ops i j post plan listed = true → endPend ops md plan pend = pe → (pend ≠ [] → S w) → wpPlan P md ops (Two P md ops Q S i j post pe) S plan pend a w → wpAnyM P md ops Q S (plan.length + (post.length + 2)) listed pend a w
  | [], listed, pend, a, w, hc, hp, hS, h => by
    simp only [planOk2, Bool.and_eq_true, beq_iff_eq, Bool.not_eq_true', beq_eq_false_iff_ne] at hc
    obtain ⟨⟨⟨⟨h1, h2⟩, h3⟩, h4⟩, h5⟩ := hc
    have hp' : pend = pe := hp
    subst hp'
    obtain ⟨ha, hb⟩ := h
    simp only [List.length_nil, Nat.zero_add]
    refine ⟨(fun h0 => by rw [h1] at h0; cases h0), fun k hk => ?_⟩
    rw [h1] at hk
    rcases List.mem_cons.1 hk with rfl | hk
    · refine wpOp_mono (fun a' w' h' => ⟨h'.1, ?_⟩) ha
      refine ⟨(fun h0 => by rw [h2] at h0; cases h0), fun k hk => ?_⟩
      rw [h2] at hk
      obtain rfl : k = j := by simpa using hk
      exact wpOp_mono (fun a2 w2 h2' => ⟨h2'.1, wpAnyM_plan hs hQ post _ _ a2 w2 h4 h2'.1 h2'.2⟩) h'.2
    · obtain rfl : k = j := by simpa using hk
      refine wpOp_mono (fun a' w' h' => ⟨h'.1, ?_⟩) hb
      refine ⟨(fun h0 => by rw [h3] at h0; cases h0), fun k hk => ?_⟩
      rw [h3] at hk
      obtain rfl : k = i := by simpa using hk
      refine wpOp_mono (fun a2 w2 h2' => ⟨h2'.1, ?_⟩) h'.2
      rw [Array.setIfInBounds_comm _ _ (Ne.symm h5)]
      exact wpAnyM_plan hs hQ post _ _ a2 w2 h4 h2'.1 h2'.2
  | (m, .alone) :: r, listed, pend, a, w, hc, hp, hS, h => by simp [planOk2] at hc
  | (m, .anywhere) :: r, listed, pend, a, w, hc, hp, hS, h => by
    simp only [planOk2, Bool.and_eq_true] at hc
    obtain ⟨o, v, ho, hy, h⟩ := h
    have := wpAnyM_firstP ho (Region.noSelect_spec hs) (fun c a w => hQ c a w _ _) (r.length + (post.length + 2)) listed pend a w (Region.free_spec ho hc.1.2) (by simpa using hc.1.1) hy hS
      (wpAnyM_plan2 hs hQ r _ _ _ w hc.2 hp hS h)
    rw [List.length_cons, show r.length + 1 + (post.length + 2) = r.length + (post.length + 2) + 1 by omega]
    exact this
  | (m, .held) :: r, listed, pend, a, w, hc, hp, hS, h => by
    simp only [planOk2, Bool.and_eq_true] at hc
    obtain ⟨hSw, o, v, ho, hy, h⟩ := h
    have := wpAnyM_first ho (Region.noSelect_spec hs) (fun c a w => hQ c a w _ _) (r.length + (post.length + 2)) listed pend a w (Region.free_spec ho hc.1.2) (by simpa using hc.1.1) hy hSw
      (wpAnyM_plan2 hs hQ r _ _ _ w hc.2 hp (fun _ => hSw) h)
    rw [List.length_cons, show r.length + 1 + (post.length + 2) = r.length + (post.length + 2) + 1 by omega]
    exact this
theorem CV.region2 {id i j : Nat} {lo : List Oper} {S : World → Prop} (pre post : List (Nat × Kd)) (pe : List Nat) (hm : P.follows .mixedOrders = true) (hQ : PanicOk Q)
    (hB : (Region.noSelect lo.toArray && planOk2 .any lo.toArray i j post pre (Array.replicate lo.toArray.size false) && (pre.length + (post.length + 2) == lo.toArray.size)) = true) (hpe : endPend lo.toArray .any pre [] = pe)
    (h : MV P lo.toArray n D (Two P .any lo.toArray Q S i j post pe) S w0 base ρ its af pre []) : CV P n D Q w0 base ρ its af (.region id lo.toArray true) := fun l hf => by
  intro a w ha hW
  simp only [Bool.and_eq_true, beq_iff_eq] at hB
  refine wp_region_any hm (wpAny_of_M (S := S) _ _ [] _ _ ?_)
  have h1 := wpAnyM_plan2 (P := P) (Q := Q) (S := S) hB.1.1 (fun c a w d v h => hQ c _ a w (put_defers a d v) h) pre _ [] a _ hB.1.2 hpe (fun h => absurd rfl h) (h l hf a _ ha (Stab.drew hW))
  rw [hB.2] at h1
  exact h1
theorem CV.region2K {id : Nat} {lo : List Oper} (hS : ST w0 base E ρ0 ρ T ro nx its) (ps : List (AV × Nat × Nat)) (i j : Nat) (pre post : List (Nat × Kd)) (pe : List Nat) (hm : P.follows .mixedOrders = true) (hQ : PanicOk Q)
    (hB : (Region.noSelect lo.toArray && planOk2 .any lo.toArray i j post pre (Array.replicate lo.toArray.size false) && (pre.length + (post.length + 2) == lo.toArray.size)) = true) (hpe : endPend lo.toArray .any pre [] = pe)
    (h : MV P lo.toArray n D (Two P .any lo.toArray Q (KeepS w0 base ρ T ro ps) i j post pe) (KeepS w0 base ρ T ro ps) w0 base ρ its af pre []) : CV P n D Q w0 base ρ its af (.region id lo.toArray true) := CV.region2 pre post pe hm hQ hB hpe h
/-- two items, named in one order, made in either -/
theorem ST.new2 (hS : ST w0 base E ρ0 ρ T ro nx its) {hp : AH} (hs : EY.Sub T hp) (hH : instH ρ hp = some its) (b1 b2 : Nat) {m1 m2 : MI} {it1 it2 : AI} {x1 x2 : It} (hm1 : MRel m1 it1) (hm2 : MRel m2 it2)
    (hi1 : instI ((ρ.add nx b1 0).add (nx + 1) b2 0) nx it1 = some x1) (hi2 : instI ((ρ.add nx b1 0).add (nx + 1) b2 0) (nx + 1) it2 = some x2) :
    ST w0 base E ρ0 ((ρ.add nx b1 0).add (nx + 1) b2 0) ((T.ins nx m1).ins (nx + 1) m2) ro (nx + 2) (x1 :: x2 :: its) := by
  have hE1 := Ext.add hS.fresh b1 0
  have hE2 := Ext.add (hS.fresh.add b1 0) b2 0
  have hE := hE1.trans hE2
  refine ⟨⟨(nx, it1) :: (nx + 1, it2) :: hp, fun id m hm => ?_, instH_mk hi1 (instH_mk hi2 (instH_ext hE hH))⟩, (hS.fresh.add b1 0).add b2 0, hS.ro.ext hE, hS.env.ext hE, hS.ext.trans hE, hS.opq.ext hE⟩
  rcases HT.ins_get _ _ _ _ _ hm with ⟨rfl, rfl⟩ | ⟨e1, e2⟩
  · exact ⟨1, it2, by rw [findA_skip (by omega)]; simp [findA], hm2⟩
  · rcases HT.ins_get _ _ _ _ _ e2 with ⟨rfl, rfl⟩ | ⟨e3, e4⟩
    · exact ⟨0, it1, by simp [findA], hm1⟩
    · obtain ⟨i0, it0, h1, h2⟩ := hs id m e4
      obtain ⟨i2, h3⟩ := findA_shf 2 h1
      exact ⟨i2, it0, by rw [findA_skip e3, findA_skip e1]; exact h3, h2⟩
theorem FRel.swap {d1 d2 : Nat} {v1 v2 : AV} {u1 u2 : Value} (hf : FRel ρ af l) (hne : d1 ≠ d2) (h1 : inst ρ v1 = some u1) (h2 : inst ρ v2 = some u2) : FRel ρ ((d2, v2) :: (d1, v1) :: af) ((d1, u1) :: (d2, u2) :: l) := fun i z hi => by
  by_cases e2 : d2 = i
  · subst e2
    rw [getA_same] at hi
    cases hi
    exact ⟨u2, by rw [get_cons_ne _ _ hne]; exact get_cons_same _ _ _, h2⟩
  · rw [getA_ne _ _ e2] at hi
    by_cases e1 : d1 = i
    · subst e1
      rw [getA_same] at hi
      cases hi
      exact ⟨u1, get_cons_same _ _ _, h1⟩
    · rw [getA_ne _ _ e1] at hi
      obtain ⟨u, g1, g2⟩ := hf i z hi
      exact ⟨u, by rw [get_cons_ne _ _ e1, get_cons_ne _ _ e2]; exact g1, g2⟩
theorem PV.two {S : World → Prop} {i j di dj ti tj : Nat} {oi oj : Oper} {zs1 zs2 : List AV} {k : AV → AV → HT → Nat → R} {post : List (Nat × Kd)} {pend : List Nat} (hS : ST w0 base E ρ0 ρ T ro nx its)
    (h : newK T nx (.obj zs1 ti) (fun v1 T1 n1 => newK T1 n1 (.obj zs2 tj) (fun v2 T2 n2 => k v1 v2 T2 n2)) = .ok r T' n') (hoi : ops[i]? = some oi) (hoj : ops[j]? = some oj) (hopi : oi.op = .alloc ti) (hopj : oj.op = .alloc tj)
    (hz1 : ((P.info? ti).bind (·.zero)).map (fun z => z.cells.toList.map AV.lit) = some zs1) (hz2 : ((P.info? tj).bind (·.zero)).map (fun z => z.cells.toList.map AV.lit) = some zs2)
    (gi : oi.guard = none) (gj : oj.guard = none) (hdi : oi.dst = some di) (hdj : oj.dst = some dj) (hni : Nat.blt di n = true) (hnj : Nat.blt dj n = true) (hne : Nat.beq di dj = false) (hK : ∀ w, WA w0 base its w → S w) (pe : List Nat) (hpe : still ops .any (still ops .any pend i) j = pe)
    (hk : ∀ v1 v2 T2 n2, k v1 v2 T2 n2 = .ok r T' n' → ∀ ρ2 its2, ST w0 base E ρ0 ρ2 T2 ro n2 its2 → (∀ w, WA w0 base its2 w → WA w0 base its w) → MV P ops n D Q S w0 base ρ2 its2 ((dj, v2) :: (di, v1) :: af) post pe) : PV n D (Two P .any ops Q S i j post pend) w0 base ρ its af .normal := fun l hf a w ha hW => by
  subst hpe
  rw [newK_eq, newK_eq] at h
  have hne' : di ≠ dj := beqF hne
  cases hzi : (P.info? ti).bind (·.zero) with
  | none => rw [hzi] at hz1; cases hz1
  | some z1 =>
    cases hzj : (P.info? tj).bind (·.zero) with
    | none => rw [hzj] at hz2; cases hz2
    | some z2 =>
      rw [hzi] at hz1; rw [hzj] at hz2
      cases hz1
      cases hz2
      obtain ⟨hp, hs, hH⟩ := hS.hp
      refine ⟨?_, ?_⟩
      · refine MY.force hoi (LX.alloc hopi (zero_run hzi) gi hdi hni fun b1 => fun a1 w1 ha1 hW1 => ⟨fun _ => hK w1 (hW1.drop (List.sublist_cons_self _ _)), ?_⟩) a w ha hW
        refine MY.force hoj (LX.alloc hopj (zero_run hzj) gj hdj hnj fun b2 => fun a2 w2 ha2 hW2 => ⟨fun _ => hK w2 ((hW2.drop (List.sublist_cons_self _ _)).drop (List.sublist_cons_self _ _)), ?_⟩) a1 w1 ha1 hW1
        have hE1 := Ext.add hS.fresh b1 0
        have hST1 := hS.new hs hH b1 0 (m := .obj (z1.cells.toList.map AV.lit) ti) rfl (instI_mkobj (rat_add _ _ _ _) (instL_lit _ _))
        have hE2 := Ext.add hST1.fresh b2 0
        obtain ⟨hp1, hs1, hH1⟩ := hST1.hp
        have hST2 := hST1.new hs1 hH1 b2 0 (m := .obj (z2.cells.toList.map AV.lit) tj) rfl (instI_mkobj (rat_add _ _ _ _) (instL_lit _ _))
        exact hk _ _ _ _ h _ _ hST2 (fun w hw => (hw.drop (List.sublist_cons_self _ _)).drop (List.sublist_cons_self _ _)) _
          (FRel.cons ((FRel.cons (hf.ext hE1) di (v := .ptr nx 0) (by unfold inst; rw [rat_add]; rfl)).ext hE2) dj (v := .ptr (nx + 1) 0) (by unfold inst; rw [rat_add]; rfl)) a2 w2 ha2 hW2
      · refine MY.force hoj (LX.alloc hopj (zero_run hzj) gj hdj hnj fun b2 => fun a1 w1 ha1 hW1 => ⟨fun _ => hK w1 (hW1.drop (List.sublist_cons_self _ _)), ?_⟩) a w ha hW
        refine MY.force hoi (LX.alloc hopi (zero_run hzi) gi hdi hni fun b1 => fun a2 w2 ha2 hW2 => ⟨fun _ => hK w2 ((hW2.drop (List.sublist_cons_self _ _)).drop (List.sublist_cons_self _ _)), ?_⟩) a1 w1 ha1 hW1
        rw [still_comm]
        have hE1 := Ext.add hS.fresh b1 0
        have hE2 := Ext.add (hS.fresh.add b1 0) b2 0
        have hr1 : rat ((ρ.add nx b1 0).add (nx + 1) b2 0).blk nx = some (b1, 0) := hE2.blk _ _ (rat_add _ _ _ _)
        have hST2 := hS.new2 hs hH b1 b2 (m1 := .obj (z1.cells.toList.map AV.lit) ti) (m2 := .obj (z2.cells.toList.map AV.lit) tj) rfl rfl (instI_mkobj hr1 (instL_lit _ _)) (instI_mkobj (rat_add _ _ _ _) (instL_lit _ _))
        exact hk _ _ _ _ h _ _ hST2 (fun w hw => (hw.drop (List.sublist_cons_self _ _)).drop (List.sublist_cons_self _ _)) _
          (FRel.swap (hf.ext (hE1.trans hE2)) hne' (v1 := .ptr nx 0) (v2 := .ptr (nx + 1) 0) (by unfold inst; rw [hr1]; rfl) (by unfold inst; rw [rat_add]; rfl)) a2 w2 ha2 hW2
end
end Go.EY
