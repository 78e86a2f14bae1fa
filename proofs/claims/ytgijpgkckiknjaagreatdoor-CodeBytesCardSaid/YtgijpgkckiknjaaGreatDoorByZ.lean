/-
  Proved here: a text that is put behind a row of bytes; what a part of bytes is as a text. No program stands here.
-/
import Derived.Test.YtgijpgkckiknjaaGreatDoorAt
import Derived.Lib.AppendStr
namespace Go.SX
open Go.RowKit Go.Lib
section
variable {P : Program} {w0 : World} {base : Nat} {its : List It} {l : Fr} {ops : Array Oper} {n : Nat} {D : List Deferred} {Q : Exit → Act → World → Prop} {rest : List Oper} {o : Oper} {d : Nat} {x y : Operand} {W : World → Prop}
theorem run_appendS_rv (w : World) (base : Nat) (t u ty e : TypeId) (i : TypeInfo) (ht : P.underlying t = some (.slice e)) (hu : P.underlying u = some .string) (hi : P.info? e = some i) (hz : i.zero = some (.int .u8 0))
    (hsize : i.size = 1) (hby : i.bytes = 1) (g : Option Nat) (k cap : Nat) (xs : List Value) (hown : w.ownsRow base e 1 (rv g k cap) k xs) (s : ByteArray) (h0 : 0 < s.size)
    (h63 : k + s.size ≤ maxLen) (hbytes : k + s.size ≤ 140737488355328) (hbase : base ≤ w.heap.size) :
    ∃ b' cap' w', (Builtin.append_ #[t, u] ty #[rv g k cap, .string s]).run P w = .ok (rv (some b') (k + s.size) cap') w' ∧ w'.ownsRow base e 1 (rv (some b') (k + s.size) cap') (k + s.size) (xs ++ Lib.strCells s) ∧ w.grownBy w' g ∧
      (some b' = g ∨ b' = w.heap.size) := by
  have hsmall : k + s.size ≤ 9223372036854775807 := by simp only [maxLen] at h63; omega
  have hxl : xs.length = k := by simpa using hown.1
  have hlen : (xs ++ Lib.strCells s).length = (k + s.size) * 1 := by rw [List.length_append, hxl, Lib.strCells_length, Nat.mul_one]
  have grown : ∀ (old : Nat), old < k + s.size → ∀ (row : Option Nat),
      (w.drew.alloc (.cells (xs.toArray ++ (Lib.strCells s).toArray ++ Builtin.zeroCells (Value.int .u8 0).cells (grownCap w (k + s.size) old e - (k + s.size))) e)).ownsRow base e 1
        (rv (some w.heap.size) (k + s.size) (grownCap w (k + s.size) old e)) (k + s.size) (xs ++ Lib.strCells s) ∧
      w.grownBy (w.drew.alloc (.cells (xs.toArray ++ (Lib.strCells s).toArray ++ Builtin.zeroCells (Value.int .u8 0).cells (grownCap w (k + s.size) old e - (k + s.size))) e)) row := by
    intro old ho row
    have hge := grownCap_ge w (k + s.size) old e
    have hcm : grownCap w (k + s.size) old e ≤ maxLen := grownCap_le_maxLen w (k + s.size) old e h63
    refine ⟨⟨hlen, .inr ⟨w.heap.size, _, _, rfl, hbase, heap_alloc_new w.drew _, hge, hcm, ?_, ?_⟩⟩, ⟨rfl, rfl, rfl, by simp, fun k hk _ => Below.heap_alloc w.drew _ k hk⟩⟩
    · have hz1 : (Value.int IntKind.u8 0).cells.size = 1 := rfl
      simp only [Array.size_append, List.size_toArray, size_zeroCells, hz1, hxl, Lib.strCells_length]
      omega
    · simp only [Array.toList_append, List.append_assoc]
      rw [← List.append_assoc, ← hlen]
      exact List.take_left
  rcases hown.2 with ⟨hv, hk0⟩ | ⟨b, cap', cur, hv, hbg, hg, hnc, hcm, hcs, htake⟩
  · have hg0 : g = none := by
      cases g with
      | none => rfl
      | some b => simp [rv] at hv
    subst hg0
    have hc0 : cap = 0 := by simpa [rv, hk0] using hv
    subst hc0
    subst hk0
    have hx : xs = [] := List.eq_nil_of_length_eq_zero hxl
    subst hx
    have hr := run_append_nil_string (P := P) w t u ty e i (.int .u8 0) ht hu hi hz s (by omega) (by omega) (by rw [hby]; omega)
    have hgr := grown 0 (by omega) none
    simp only [Nat.zero_add, List.nil_append, Array.empty_append] at hgr ⊢
    have e1 : (s.data.map fun b => Value.int .u8 b.toNat) = (Lib.strCells s).toArray := by
      apply Array.ext'
      simp [Lib.strCells]
    rw [e1] at hr
    exact ⟨w.heap.size, _, _, hr, hgr.1, hgr.2, .inr rfl⟩
  · have hgb : g = some b := by rw [← ownBlock_rv g k cap, hv]; rfl
    subst hgb
    have hcc : cap = cap' := by simpa [rv] using hv
    subst hcc
    by_cases hroom : k + s.size ≤ cap
    · have hcs' : cur.size = cap := by simpa using hcs
      have hr := Lib.run_append_room_string (P := P) w t u ty e i ht hu hi hsize b k cap cur hg s hroom (by omega)
      refine ⟨b, cap, _, hr, ⟨hlen, .inr ⟨b, cap, _, rfl, hbg, setRow_heap w b cur _ e _ hg, hroom, hcm, ?_, ?_⟩⟩, ⟨rfl, rfl, rfl, by simp, fun q _ hq => setRow_other w b q _ (fun e => hq (by rw [e]))⟩, .inl rfl⟩
      · simp only [List.size_toArray, List.length_append, List.length_take, List.length_drop, Array.length_toList, Lib.strCells_length]
        omega
      · have ht' : cur.toList.take k = xs := by simpa using htake
        rw [ht', ← hlen]
        exact List.take_left
    · have holds : ∀ j u, xs[j]? = some u → w.cell? ((⟨b, 0, none⟩ : Addr).add j) = some u := hown.cells (g := b) rfl
      have hr := Lib.run_append_grow_string (P := P) w t u ty e i (.int .u8 0) ht hu hi hz ⟨b, 0, none⟩ k cap xs (by rw [hsize]; simpa using hxl) holds s (by omega) (by omega) (by rw [hby]; exact growslice_fits (by omega) (by omega))
      have hgr := grown cap (by omega) (some b)
      exact ⟨w.heap.size, _, _, hr, hgr.1, hgr.2, .inr rfl⟩
theorem WA.appendS {w : World} (h : WA w0 base its w) {i : Nat} {t u e : Nat} {inf : TypeInfo} (ht : P.underlying t = some (.slice e)) (hu : P.underlying u = some .string) (hinf : P.info? e = some inf) (hz : inf.zero = some (.int .u8 0)) (hsize : inf.size = 1) (hby : inf.bytes = 1)
    {g : Option Nat} {cap k : Nat} {xs : List Value} (hi : its[i]? = some (.row g cap k e 1 xs)) (s : ByteArray) (h0 : 0 < s.size) (hb : k + s.size ≤ 1000000000) (ty : TypeId) :
    ∃ b' cap' w', (Builtin.append_ #[t, u] ty #[rv g k cap, .string s]).run P w = .ok (rv (some b') (k + s.size) cap') w' ∧ WA w0 base (its.set i (.row (some b') cap' (k + s.size) e 1 (xs ++ Lib.strCells s))) w' := by
  obtain ⟨b', cap', w', r1, r2, r3, r4⟩ := run_appendS_rv (P := P) w base t u ty e inf ht hu hinf hz hsize hby g k cap xs (h.get hi) s h0 (by unfold maxLen; omega) (by omega) h.fits
  refine ⟨b', cap', w', r1, h.others hi r3.os r3.tape r3.output r3.size (fun q hq hne => r3.block q hq fun e => hne e.symm) r2 fun q hq => ?_⟩
  rcases r4 with h1 | rfl
  · exact .inl (by rw [← hq]; exact h1.symm)
  · cases hq; exact .inr (Nat.le_refl _)
theorem run_appendS0 {t u e : TypeId} {g : Option Addr} {m cp : Nat} (he : P.underlying t = some (.slice e)) (hu : P.underlying u = some .string) (hs : ∃ i, P.info? e = some i) (hm : m ≤ cp) (ty : TypeId) (w : World) :
    (Builtin.append_ #[t, u] ty #[.slice g m cp, .string ⟨#[]⟩]).run P w = .ok (.slice g m cp) w := by
  obtain ⟨i, hi⟩ := hs
  have e1 := run_underlying he w
  have e2 := run_underlying hu w
  have h0 : (ByteArray.mk #[]).size = 0 := rfl
  cases g <;> simp [Builtin.append_, e1, e2, h0, sizeOf, typeInfo, hi, Builtin.lenOf, hm, Builtin.firstCells, loadCells, loadCellsFrom, storeCells]
/-- 'append(x, s...)' of a text -/
theorem LX.appendS (i : Nat) {t u e cap k : Nat} {g : Option Nat} {xs : List Value} {s : List UInt8} {ats : Array TypeId} {inf : TypeInfo} (ht : P.underlying t = some (.slice e)) (hu : P.underlying u = some .string) (hinf : P.info? e = some inf) (hz : inf.zero = some (.int .u8 0)) (hsize : inf.size = 1) (hby : inf.bytes = 1)
    (ho : o.op = .call { callee := .builtin .append, args := #[x, y], argTypes := ats }) (hat : ats = #[t, u]) (hx : evl l x = some (rv g k cap)) (hy : evl l y = some (str s)) (hi : its[i]? = some (.row g cap k e 1 xs)) (hb : k + s.length ≤ 1000000000) (hg : o.guard = none) (hd : o.dst = some d) (hdn : Nat.blt d n = true)
    (h : ∀ g' cap', LX P ops n D (.plain Q) ((d, rv g' (k + s.length) cap') :: l) (WA w0 base (its.set i (.row g' cap' (k + s.length) e 1 (xs ++ s.map b8)))) rest) : LX P ops n D (.plain Q) l (WA w0 base its) (o :: rest) := by
  have hc : Lib.strCells ⟨s.toArray⟩ = s.map b8 := by unfold Lib.strCells; simp; intro a _; rfl
  have hl : (ByteArray.mk s.toArray).size = s.length := size_mk s
  refine LX.effx (τ := Option Nat × Nat) (v := fun p => rv p.1 (k + s.length) p.2) (W' := fun p => WA w0 base (its.set i (.row p.1 p.2 (k + s.length) e 1 (xs ++ s.map b8)))) (fun σ hσ w hW => ?_) hg hd hdn (fun p => h p.1 p.2)
  subst hat
  rcases Nat.eq_zero_or_pos s.length with h0 | h0
  · obtain rfl : s = [] := List.eq_nil_of_length_eq_zero h0
    have hr := run_appendS0 (P := P) (g := g.map fun b => ⟨b, 0, none⟩) (m := k) (cp := cap) ht hu ⟨inf, hinf⟩ (row_len (hW.get hi)).2 o.type w
    refine ⟨(g, cap), w, ?_, ?_⟩
    · simp only [execOp, ho, resolve, invoke, builtin, Sem.run_bind, Sem.run_pure, Result.andThen_ok, List.map_toArray, List.map_cons, List.map_nil, hσ _ _ hx, hσ _ _ hy]
      rw [show (str []) = Value.string ⟨#[]⟩ from rfl, hr]
      rfl
    · have : its.set i (.row g cap (k + ([] : List UInt8).length) e 1 (xs ++ List.map b8 [])) = its := by
        simp only [List.length_nil, Nat.add_zero, List.map_nil, List.append_nil]
        obtain ⟨hlt, he⟩ := List.getElem?_eq_some_iff.1 hi
        rw [← he]; exact List.set_getElem_self hlt
      rw [this]; exact hW
  · obtain ⟨b', cap', w', r1, r2⟩ := WA.appendS (P := P) hW ht hu hinf hz hsize hby hi ⟨s.toArray⟩ (by rw [hl]; exact h0) (by rw [hl]; exact hb) o.type
    rw [hl, hc] at r2
    rw [hl] at r1
    refine ⟨(some b', cap'), w', ?_, r2⟩
    simp only [execOp, ho, resolve, invoke, builtin, Sem.run_bind, Sem.run_pure, Result.andThen_ok, List.map_toArray, List.map_cons, List.map_nil, hσ _ _ hx, hσ _ _ hy]
    rw [show str s = Value.string ⟨s.toArray⟩ from rfl, r1]
    rfl
end
end Go.SX
