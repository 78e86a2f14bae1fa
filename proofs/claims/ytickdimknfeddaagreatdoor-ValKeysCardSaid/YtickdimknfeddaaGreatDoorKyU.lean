/-
  Proved here: what a call that lays a key comes to, in plain terms.
-/
import Derived.Test.YtickdimknfeddaaGreatDoorKyT
import Derived.Test.YtickdimknfeddaaGreatDoorTrV
set_option linter.unusedSimpArgs false
namespace Go.SX
open Go.RowKit Go.EX Go.EB Go.Ky
section
variable {P : Program} {ops : Array Oper} {n d : Nat} {D : List Deferred} {l : Fr} {W : World → Prop} {rest : List Oper} {o : Oper} {x y z : Operand} {t ty : TypeId} {w0 : World} {base : Nat} {its : List It} {Q : Exit → Act → World → Prop} {v : Value}
theorem run_appendS0 {t u e : TypeId} {g : Option Addr} {m cp : Nat} (he : P.underlying t = some (.slice e)) (hu : P.underlying u = some .string) (hs : ∃ i, P.info? e = some i) (hm : m ≤ cp) (ty : TypeId) (w : World) :
    (Builtin.append_ #[t, u] ty #[.slice g m cp, .string ⟨#[]⟩]).run P w = .ok (.slice g m cp) w := by
  obtain ⟨i, hi⟩ := hs
  have e1 := run_underlying he w
  have e2 := run_underlying hu w
  have h0 : (ByteArray.mk #[]).size = 0 := rfl
  cases g <;> simp [Builtin.append_, e1, e2, h0, sizeOf, typeInfo, hi, Builtin.lenOf, hm, Builtin.firstCells, loadCells, loadCellsFrom, storeCells]
theorem LX.appendS (i : Nat) {t u e cap k : Nat} {g : Option Nat} {xs : List Value} {s : List UInt8} {ats : Array TypeId} {inf : TypeInfo} (ht : P.underlying t = some (.slice e)) (hu : P.underlying u = some .string) (hinf : P.info? e = some inf) (hz : inf.zero = some (.int .u8 0)) (hsize : inf.size = 1) (hby : inf.bytes = 1)
    (ho : o.op = .call { callee := .builtin .append, args := #[x, y], argTypes := ats }) (hat : ats = #[t, u]) (hx : evl l x = some (rv g k cap)) (hy : evl l y = some (str s)) (hi : its[i]? = some (.row g cap k e 1 xs)) (hb : k + s.length ≤ 1000000000) (hg : o.guard = none) (hd : o.dst = some d) (hdn : Nat.blt d n = true)
    (h : ∀ g' cap', LX P ops n D (.plain Q) ((d, rv g' (k + s.length) cap') :: l) (WA w0 base (its.set i (.row g' cap' (k + s.length) e 1 (xs ++ s.map b8)))) rest) : LX P ops n D (.plain Q) l (WA w0 base its) (o :: rest) := by
  have hc : Lib.strCells ⟨s.toArray⟩ = s.map b8 := by unfold Lib.strCells; simp; intro a _; rfl
  have hl : (ByteArray.mk s.toArray).size = s.length := size_mk s
  refine LX.effx (τ := Option Nat × Nat) (v := fun p => rv p.1 (k + s.length) p.2) (W' := fun p => WA w0 base (its.set i (.row p.1 p.2 (k + s.length) e 1 (xs ++ s.map b8)))) (fun σ hσ w hW => ?_) hg hd hdn (fun p => h p.1 p.2)
  subst hat
  rcases Nat.eq_zero_or_pos s.length with h0 | h0
  · obtain rfl : s = [] := List.eq_nil_of_length_eq_zero h0
    have hr := run_appendS0 (P := P) (g := g.map fun b => ⟨b, 0, none⟩) (m := k) (cp := cap) ht hu ⟨inf, hinf⟩ (row_len (hW.get hi)).2 o.type w
    refine ⟨(g, cap), w, ?_, ?_⟩
    · simp only [execOp, ho, resolve, invoke, builtin, Sem.run_bind, Sem.run_pure, Result.andThen_ok, List.map_toArray, List.map_cons, List.map_nil, hσ _ _ hx, hσ _ _ hy]
      rw [show (str []) = Value.string ⟨#[]⟩ from rfl, hr]
      rfl
    · have : its.set i (.row g cap (k + ([] : List UInt8).length) e 1 (xs ++ List.map b8 [])) = its := by
        simp only [List.length_nil, Nat.add_zero, List.map_nil, List.append_nil]
        obtain ⟨hlt, he⟩ := List.getElem?_eq_some_iff.1 hi
        rw [← he]; exact List.set_getElem_self hlt
      rw [this]; exact hW
  · obtain ⟨b', cap', w', r1, r2⟩ := WA.appendS (P := P) hW ht hu hinf hz hsize hby hi ⟨s.toArray⟩ (by rw [hl]; exact h0) (by rw [hl]; exact hb) o.type
    rw [hl, hc] at r2
    rw [hl] at r1
    refine ⟨(some b', cap'), w', ?_, r2⟩
    simp only [execOp, ho, resolve, invoke, builtin, Sem.run_bind, Sem.run_pure, Result.andThen_ok, List.map_toArray, List.map_cons, List.map_nil, hσ _ _ hx, hσ _ _ hy]
    rw [show str s = Value.string ⟨s.toArray⟩ from rfl, r1]
    rfl
/-- an error, or none -/
@[reducible] def eV (o : Option (TypeId × Value)) : Value := match o with | none => .nilIface | some p => .iface p.1 p.2
theorem Y.neE {q : Option (TypeId × Value)} {ms : Array (String × TypeId)} {ty2 : TypeId} (h : P.underlying t = some (.interface ms)) (hx : evl l x = some (eV q)) : Y P l W (.binOp .neq t x (.const .nilIface) ty2) ty (.bool q.isSome) := by
  cases q with
  | none => exact Y.neNilNil h hx
  | some p => exact Y.neNil h hx rfl
end
end Go.SX
namespace Go.Ky
open Go.SX Go.RowKit
/-- a key laid behind what was there, or an error -/
structure Kn (sl : Nat) (t : Tr) (dd : Nat) (bs : T) (L : Int) (bs' : T) (L' : Int) : Prop where
  h : hsh t = true
  e : bs' = bs ++ enc t
  l : L' = L - sz t
  l0 : 0 ≤ L'
  d : dd + dp t ≤ 60
  b : (bs'.length : Int) + sl ≤ 1000 * (4096 - L')
/-- a Tuple's items, up to one -/
structure Kt (sl : Nat) (xs : List Tr) (dd : Nat) (bs : T) (L : Int) (i : Nat) (bs' : T) (L' : Int) : Prop where
  le : i ≤ xs.length
  h : hshL (xs.take i) = true
  e : bs' = bs ++ [84] ++ encL (xs.take i)
  l : L' = L - 1 - szL (xs.take i)
  l0 : 0 ≤ L'
  d : dd + 1 + dpL (xs.take i) ≤ 60
  b : (bs'.length : Int) + (sl + 990 : Nat) ≤ 1000 * (4096 - L')
theorem hshL_snoc : ∀ (xs : List Tr) (x : Tr), hshL (xs ++ [x]) = (hshL xs && hsh x)
  | [], x => by simp [hshL]
  | y :: ys, x => by rw [List.cons_append, hshL, hshL_snoc ys x, hshL, Bool.and_assoc]
theorem Kt.start {sl : Nat} {xs : List Tr} {dd : Nat} {bs : T} {L : Int} (hL : 1 ≤ L) (hd : dd < 60) (hb : (bs.length : Int) + sl ≤ 1000 * (4096 - L)) : Kt sl xs dd bs L 0 (bs ++ [84]) (L - 1) :=
  ⟨Nat.zero_le _, rfl, by simp [encL], by simp [szL], by omega, by simp [dpL]; omega, by simp; omega⟩
theorem Kt.next {sl : Nat} {xs : List Tr} {x : Tr} {dd : Nat} {bs bs1 bs2 : T} {L L1 L2 : Int} {i : Nat} (h : Kt sl xs dd bs L i bs1 L1) (hx : xs[i]? = some x) (hk : Kn (sl + 990) x (dd + 1) bs1 L1 bs2 L2) : Kt sl xs dd bs L (i + 1) bs2 L2 := by
  have hi := (List.getElem?_eq_some_iff.1 hx).1
  refine ⟨by omega, ?_, ?_, ?_, hk.l0, ?_, hk.b⟩
  · rw [take_snoc hx, hshL_snoc, h.h, hk.h]; rfl
  · rw [take_snoc hx, app_snoc enc, hk.e, h.e, List.append_assoc]
  · rw [take_snoc hx, szL_snoc, hk.l, h.l]; omega
  · rw [take_snoc hx, dpL_snoc]
    have h1 := h.d
    have h2 := hk.d
    omega
theorem Kt.fin {sl : Nat} {xs : List Tr} {dd : Nat} {bs bs1 : T} {L L1 : Int} (h : Kt sl xs dd bs L xs.length bs1 L1) : Kn sl (.tup xs) dd bs L (bs1 ++ [69] ++ [59]) L1 := by
  have h1 := h.e
  have h2 := h.l
  have h3 := h.d
  have h4 := h.b
  have h5 := h.h
  rw [List.take_length] at h1 h2 h3 h5
  refine ⟨by rw [hsh]; exact h5, by rw [h1, enc]; simp, by rw [sz]; omega, h.l0, by rw [dp]; omega, ?_⟩
  simp only [List.length_append, List.length_singleton]
  omega
theorem itoa_len {z : Int} (h : (Go.Vo.digs z.natAbs).length ≤ 80) : (Go.Lib.itoa z).length ≤ 722 := by
  by_cases h0 : Go.Vo.digs z.natAbs = []
  · have hz : z = 0 := by
      have := Go.Vo.valD_digs z.natAbs
      rw [h0] at this
      have h2 : 0 = z.natAbs := this
      omega
    subst hz
    rw [itoa_pos (by decide)]
    show (Go.Lib.decDigits 0).length ≤ _
    rw [Go.Lib.decDigits, dif_pos (by decide)]
    decide
  · have h1 := px_len _ (Go.Vo.digs_lt z.natAbs) _ (Nat.le_refl _)
    rw [← text_eq h0, List.length_reverse, List.length_append]
    have h2 : (if z < 0 then [45] else [] : T).length ≤ 1 := by split <;> simp
    omega
/-- a key as a whole -/
structure Kd (t : Tr) (s : T) : Prop where
  h : hsh t = true
  e : s = enc t
  l : sz t ≤ 4096
  d : dp t ≤ 60
theorem tf_len (b : Bool) : (tf b).length ≤ 5 := by cases b <;> decide
end Go.Ky

namespace Go.Ky
/-- an entry by its key -/
def lk {α : Type} (k : T) : List T → List α → Option α
  | k' :: ks, e :: es => if k = k' then some e else lk k ks es
  | _, _ => none
theorem lk_some {α : Type} {k : T} : ∀ {ks : List T} {es : List α} {e : α}, lk k ks es = some e → ∃ i : Nat, ks[i]? = some k ∧ es[i]? = some e
  | [], _, _, h => by simp [lk] at h
  | _ :: _, [], _, h => by simp [lk] at h
  | k' :: ks, e' :: es, e, h => by
    unfold lk at h
    split at h
    · next q => cases h; exact ⟨0, by rw [q]; rfl, rfl⟩
    · obtain ⟨i, h1, h2⟩ := lk_some h
      exact ⟨i + 1, by simpa using h1, by simpa using h2⟩
theorem lk_none {α : Type} {k : T} : ∀ {ks : List T} {es : List α}, es.length = ks.length → lk k ks es = none → k ∉ ks
  | [], _, _, _ => by simp
  | _ :: _, [], h, _ => by cases h
  | k' :: ks, e' :: es, hl, h => by
    unfold lk at h
    split at h
    · cases h
    · next q =>
      intro hm
      rcases List.mem_cons.1 hm with rfl | hm
      · exact q rfl
      · exact lk_none (by simpa using hl) h hm
end Go.Ky
namespace Go.SX
open Go.RowKit Go.EX Go.EB Go.Ky
theorem Y.lookO {P : Program} {l : Fr} {W : World → Prop} {x y : Operand} {t ty kt et : TypeId} {b : Nat} {s : T} {ks : List T} {es : List (Nat × Value × Value)} {bs : List Nat} {ck : Nat} (ht : P.underlying t = some (.map kt et)) (hk : P.underlying kt = some .string) (hzv : zeroW P et = some (.pointer none))
    (hx : evl l x = some (.map (some b))) (hy : evl l y = some (SX.str s)) (hm : ∀ w, W w → w.heap[b]? = some (.map (mkEs (ks.map SX.str) (es.map ptrV) bs).toArray ck)) (h1 : es.length = ks.length) (h2 : bs.length = ks.length) (hn : ks.Nodup) :
    Y P l W (.lookup t x y false) ty (.pointer ((lk s ks es).map fun e => (⟨e.1, 0, none⟩ : Addr))) := by
  cases h : lk s ks es with
  | none => exact Y.lookN ht hk hzv hx hy hm (by simpa using h1) h2 (lk_none h1 h)
  | some e =>
    obtain ⟨i, hi, he⟩ := lk_some h
    exact Y.lookH ht hk hzv hx hy hm (by simpa using h1) h2 hn hi (by rw [List.getElem?_map, he]; rfl)
end Go.SX
namespace Go.Ky
open Go.SX Go.RowKit
/-- how many pairs are left -/
structure Ew (L : Int) (er : Option (TypeId × Value)) (L' : Int) : Prop where
  lo : -1 ≤ L'
  hi : L' ≤ L
  ok : er = none → 0 ≤ L'
/-- two values -/
structure Er (t u : Tr) (dd : Nat) (L : Int) (er : Option (TypeId × Value)) (is : Bool) (L' : Int) : Prop where
  w : Ew L er L'
  eq : er = none → hsh t = true → hsh u = true → (is = true ↔ t = u)
  same : t = u → hsh t = true → (sz t : Int) ≤ L → dd + dp t ≤ 60 → er = none ∧ is = true ∧ L' = L - sz t
/-- two rows -/
structure Ea (xs ys : List Tr) (dd : Nat) (L : Int) (er : Option (TypeId × Value)) (is : Bool) (L' : Int) : Prop where
  w : Ew L er L'
  eq : er = none → hshL xs = true → hshL ys = true → (is = true ↔ xs = ys)
  same : xs = ys → hshL xs = true → (szL xs : Int) ≤ L → dd + 1 + dpL xs ≤ 60 → er = none ∧ is = true ∧ L' = L - szL xs
/-- up to one -/
structure Ei (xs ys : List Tr) (dd : Nat) (L : Int) (i : Nat) (L' : Int) : Prop where
  le : i ≤ xs.length
  l0 : 0 ≤ L'
  l : L' ≤ L
  eq : hshL xs = true → hshL ys = true → xs.take i = ys.take i
  same : xs = ys → hshL xs = true → (szL xs : Int) ≤ L → dd + 1 + dpL xs ≤ 60 → L' = L - szL (xs.take i)
theorem Ei.start {xs ys : List Tr} {dd : Nat} {L : Int} (hL : 0 ≤ L) : Ei xs ys dd L 0 L := ⟨Nat.zero_le _, hL, Int.le_refl _, fun _ _ => rfl, fun _ _ _ _ => by simp [szL]⟩
theorem sz_at : ∀ {xs : List Tr} {i : Nat} {x : Tr}, xs[i]? = some x → szL (xs.take i) + sz x ≤ szL xs
  | [], i, x, h => by cases h
  | y :: ys, 0, x, h => by cases h; simp [szL]
  | y :: ys, i + 1, x, h => by have := sz_at (xs := ys) (i := i) (x := x) (by simpa using h); simp only [List.take_succ_cons, szL]; omega
theorem dp_at : ∀ {xs : List Tr} {i : Nat} {x : Tr}, xs[i]? = some x → dp x ≤ dpL xs
  | [], i, x, h => by cases h
  | y :: ys, 0, x, h => by cases h; simp only [dpL]; omega
  | y :: ys, i + 1, x, h => by have := dp_at (xs := ys) (i := i) (x := x) (by simpa using h); simp only [dpL]; omega
section
variable {xs ys : List Tr} {dd i : Nat} {L L1 L2 : Int} {x y : Tr} {er : Option (TypeId × Value)} {is : Bool}
theorem Ei.good (h : Ei xs ys dd L i L1) (hx : xs[i]? = some x) (hy : ys[i]? = some y) (he : Er x y (dd + 1) L1 er is L2) (e : xs = ys) (hh : hshL xs = true) (hs : (szL xs : Int) ≤ L) (hd : dd + 1 + dpL xs ≤ 60) : er = none ∧ is = true ∧ L2 = L - szL (xs.take (i + 1)) := by
  have h1 := h.same e hh hs hd
  have h2 := sz_at hx
  have h3 := dp_at hx
  obtain ⟨q1, q2, q3⟩ := he.same (by rw [e, hy] at hx; exact (Option.some.inj hx).symm) (hshL_at hh hx) (by omega) (by omega)
  refine ⟨q1, q2, ?_⟩
  rw [take_snoc hx, szL_snoc]
  omega
theorem Ei.next (h : Ei xs ys dd L i L1) (hx : xs[i]? = some x) (hy : ys[i]? = some y) (he : Er x y (dd + 1) L1 none true L2) : Ei xs ys dd L (i + 1) L2 := by
  have hi := (List.getElem?_eq_some_iff.1 hx).1
  refine ⟨by omega, he.w.ok rfl, Int.le_trans he.w.hi h.l, fun h1 h2 => ?_, fun e hh hs hd => (h.good hx hy he e hh hs hd).2.2⟩
  have e := (he.eq rfl (hshL_at h1 hx) (hshL_at h2 hy)).1 rfl
  rw [take_snoc hx, take_snoc hy, h.eq h1 h2, e]
theorem Ei.stop (h : Ei xs ys dd L i L1) (hx : xs[i]? = some x) (hy : ys[i]? = some y) (he : Er x y (dd + 1) L1 er is L2) (hb : is = true → er = none → False) : Ea xs ys dd L er false L2 := by
  refine ⟨⟨he.w.lo, Int.le_trans he.w.hi h.l, he.w.ok⟩, fun h0 h1 h2 => ⟨fun q => (by cases q), fun e => ?_⟩, fun e hh hs hd => ?_⟩
  · subst e
    have hxy : x = y := Option.some.inj (hx.symm.trans hy)
    exact (hb ((he.eq h0 (hshL_at h1 hx) (hshL_at h2 hy)).2 hxy) h0).elim
  · obtain ⟨q1, q2, _⟩ := h.good hx hy he e hh hs hd
    exact (hb q2 q1).elim
theorem Ei.fin (h : Ei xs ys dd L xs.length L1) (hl : xs.length = ys.length) : Ea xs ys dd L none true L1 := by
  refine ⟨⟨by have := h.l0; omega, h.l, fun _ => h.l0⟩, fun _ h1 h2 => ⟨fun _ => ?_, fun _ => rfl⟩, fun e hh hs hd => ⟨rfl, rfl, ?_⟩⟩
  · have := h.eq h1 h2
    rwa [List.take_length, hl, List.take_length] at this
  · have := h.same e hh hs hd
    rwa [List.take_length] at this
theorem Ei.low {p : TypeId × Value} (h : Ei xs ys dd L xs.length L1) (hd : 60 ≤ dd) : Ea xs ys dd L (some p) false L1 :=
  ⟨⟨by have := h.l0; omega, h.l, fun q => (by cases q)⟩, fun q => (by cases q), fun _ _ _ hq => absurd hq (by omega)⟩
theorem Ea.len (hl : xs.length ≠ ys.length) (hL : 0 ≤ L) : Ea xs ys dd L none false L :=
  ⟨⟨by omega, Int.le_refl _, fun _ => hL⟩, fun _ _ _ => ⟨fun q => (by cases q), fun e => absurd (congrArg List.length e) hl⟩, fun e => absurd (congrArg List.length e) hl⟩
/-- a pair was looked at -/
theorem Ea.up (h : Ea xs ys dd (L - 1) er is L2) (hL : 1 ≤ L) (hd : dd ≤ 60) : Er (.tup xs) (.tup ys) dd L er is L2 := by
  refine ⟨⟨h.w.lo, by have := h.w.hi; omega, h.w.ok⟩, fun h0 h1 h2 => ?_, fun e hh hs hdd => ?_⟩
  · rw [h.eq h0 (by simpa [hsh] using h1) (by simpa [hsh] using h2)]
    exact ⟨fun e => by rw [e], fun e => by injection e⟩
  · rw [sz] at hs ⊢
    rw [dp] at hdd
    obtain ⟨q1, q2, q3⟩ := h.same (by injection e) (by simpa [hsh] using hh) (by omega) (by omega)
    exact ⟨q1, q2, by omega⟩
theorem Er.unh {t u : Tr} (h : Ew (L - 1) er L2) (hh : hsh t = false) (hL : 1 ≤ L) : Er t u dd L er is L2 :=
  ⟨⟨h.lo, by have := h.hi; omega, h.ok⟩, fun _ h1 => (by rw [hh] at h1; cases h1), fun _ h1 => (by rw [hh] at h1; cases h1)⟩
theorem Er.bad {t u : Tr} {p : TypeId × Value} (hq : ¬(1 ≤ L ∧ dd ≤ 60)) (hL : 0 ≤ L) : Er t u dd L (some p) false (L - 1) :=
  ⟨⟨by omega, by omega, fun q => (by cases q)⟩, fun q => (by cases q), fun _ _ hs hd => (by have := sz_pos t; exact absurd ⟨by omega, by omega⟩ hq)⟩
theorem Er.ne {t u : Tr} (h : t ≠ u) (hL : 1 ≤ L) : Er t u dd L none false (L - 1) :=
  ⟨⟨by omega, by omega, fun _ => by omega⟩, fun _ _ _ => ⟨fun q => (by cases q), fun e => absurd e h⟩, fun e => absurd e h⟩
theorem Er.leaf {t u : Tr} (hL : 1 ≤ L) (hs : sz t = 1) (hb : is = true ↔ t = u) : Er t u dd L none is (L - 1) :=
  ⟨⟨by omega, by omega, fun _ => by omega⟩, fun _ _ _ => hb, fun e _ _ _ => ⟨rfl, hb.2 e, by rw [hs]; omega⟩⟩
theorem cmp3_zero {a b : Int} : Go.Vo.cmp3 a b = 0 ↔ a = b := by
  unfold Go.Vo.cmp3
  split
  · constructor
    · intro h; cases h
    · omega
  · split
    · constructor
      · intro h; cases h
      · omega
    · constructor
      · omega
      · intro _; rfl
theorem Ew.start (hL : 0 ≤ L) : Ew L none L := ⟨by omega, Int.le_refl _, fun _ => hL⟩
theorem Ew.trans {q : Option (TypeId × Value)} (h : Ew L none L1) (h2 : Ew L1 q L2) : Ew L q L2 := ⟨h2.lo, Int.le_trans h2.hi h.hi, h2.ok⟩
end
end Go.Ky

namespace Go.SX
open Go.RowKit
section
variable {P : Program} {ops : Array Oper} {n d : Nat} {D : List Deferred} {l : Fr} {W : World → Prop} {x y z : Operand} {t ty : TypeId}
theorem Y.mulK {a b : Nat} {k : IntKind} {ty2 : TypeId} (hx : evl l x = some (.int k (a : Int))) (hy : evl l y = some (.int k (b : Int))) (hw : k.wrap ((a * b : Nat) : Int) = ((a * b : Nat) : Int)) : Y P l W (.binOp .mul t x y ty2) ty (.int k ((a * b : Nat) : Int)) := by
  refine Y.bin hx hy fun w _ => ?_
  have e : (a : Int) * (b : Int) = ((a * b : Nat) : Int) := (Int.natCast_mul a b).symm
  simp only [eqGuard_mul, binOp_mul, Op.intArith, e, hw]
  rfl
theorem Y.subK {a b : Nat} {k : IntKind} {ty2 : TypeId} (hx : evl l x = some (.int k (a : Int))) (hy : evl l y = some (.int k (b : Int))) (hb : b ≤ a) (hw : k.wrap ((a - b : Nat) : Int) = ((a - b : Nat) : Int)) : Y P l W (.binOp .sub t x y ty2) ty (.int k ((a - b : Nat) : Int)) := by
  refine Y.bin hx hy fun w _ => ?_
  have e : (a : Int) - (b : Int) = ((a - b : Nat) : Int) := by omega
  simp only [eqGuard_sub, binOp_sub, Op.intArith, e, hw]
  rfl
end
/-- what a call leaves, laid on what was owned -/
theorem onto_c {P : Program} {τ : Type} {f : FuncId} {args : Array Value} {v : τ → Value} {w0 : World} {base : Nat} {its : List It} {R : τ → Prop} {new : τ → List It} (h : ∀ w, WA w0 base its w → FnC P f args (WA w w.heap.size []) v (fun q w' => R q ∧ WA w w.heap.size (new q) w')) :
    FnC P f args (WA w0 base its) v (fun q w' => R q ∧ WA w0 base (new q ++ its) w') := fun w hw => (h w hw w (WA.start w)).mono fun _ _ ⟨q, he, hr, hn⟩ => ⟨q, he, hr, hw.onto hn⟩
end Go.SX
namespace Go.Ky
open Go.SX Go.RowKit Go.Vo Go.Tr
/-! numbers -/
theorem valD_pos {l : List Nat} (h : l ≠ []) (ht : l.getLast h ≠ 0) : 0 < valD l := by
  rcases Nat.eq_zero_or_pos (valD l) with h0 | h0
  · exfalso
    have key : ∀ (l : List Nat), valD l = 0 → ∀ x ∈ l, x = 0 := by
      intro l
      induction l with
      | nil => intro _ x hx; cases hx
      | cons a l ih =>
        intro h x hx
        have h : a + B * valD l = 0 := h
        have h1 : a = 0 := by omega
        have h2 : valD l = 0 := by
          rcases Nat.eq_zero_or_pos (valD l) with q | q
          · exact q
          · exfalso; have := Nat.mul_pos (show 0 < B by decide) q; omega
        rcases List.mem_cons.1 hx with rfl | hx
        · exact h1
        · exact ih h2 x hx
    exact ht (key _ h0 _ (List.getLast_mem _))
  · exact h0
/-- a number of digits without needless ones -/
theorem num_of {M : Rd} {l : List Nat} {av : Option Addr} {c k : Nat} (ng : Bool) (hs : SlAt 1 digA M av l) (hb : ∀ d ∈ l, d < B) (hl : l.length ≤ 80) (hk : k ≤ l.length) (hc : k ≤ c) (ht : 0 < k → l.getD (k - 1) 0 ≠ 0) : ∃ z, NumM M z (.agg #[.bool (ng && decide (0 < k)), .slice av k c]) := by
  have hlen : (l.take k).length = k := by rw [List.length_take]; omega
  have htop : ∀ h : l.take k ≠ [], (l.take k).getLast h ≠ 0 := fun h => by
    have hp : 0 < k := by have := List.length_pos_iff.2 h; omega
    have := ht hp
    rw [List.getLast_eq_getElem, List.getElem_take]
    rw [List.getD_eq_getElem?_getD, List.getElem?_eq_getElem (by omega)] at this
    simp only [hlen]
    exact this
  have hd : digs (valD (l.take k)) = l.take k := digs_val _ (fun d h => hb d (List.mem_of_mem_take h)) htop
  have hpos : 0 < k → 0 < valD (l.take k) := fun h => by
    have hne : l.take k ≠ [] := List.length_pos_iff.1 (by omega)
    exact valD_pos hne (htop hne)
  have hz0 : k = 0 → valD (l.take k) = 0 := fun h => by subst h; rfl
  refine ⟨if ng then -(valD (l.take k) : Int) else (valD (l.take k) : Int), ⟨av, c - k, ?_, ?_⟩, ?_⟩
  · have e1 : (if ng then -(valD (l.take k) : Int) else (valD (l.take k) : Int)).natAbs = valD (l.take k) := by split <;> omega
    have e2 : decide ((if ng then -(valD (l.take k) : Int) else (valD (l.take k) : Int)) < 0) = (ng && decide (0 < k)) := by
      cases ng with
      | false => simp
      | true =>
        rcases Nat.eq_zero_or_pos k with h | h
        · rw [hz0 h, h]; rfl
        · have := hpos h
          simp [h]
          omega
    rw [e1, e2, hd, hlen, show k + (c - k) = c by omega]
  · have e1 : (if ng then -(valD (l.take k) : Int) else (valD (l.take k) : Int)).natAbs = valD (l.take k) := by split <;> omega
    rw [e1, hd]
    exact hs.take k
  · have e1 : (if ng then -(valD (l.take k) : Int) else (valD (l.take k) : Int)).natAbs = valD (l.take k) := by split <;> omega
    rw [e1, hd, hlen]
    omega
theorem num_zero {M : Rd} {c : Nat} : NumM M 0 (.agg #[.bool false, .slice none 0 c]) := ⟨⟨none, c, by simp [digs_0], fun i x h => by rw [show (0 : Int).natAbs = 0 from rfl, digs_0] at h; cases h⟩, by rw [show (0 : Int).natAbs = 0 from rfl, digs_0]; simp⟩
/-- a row that is owned, as a slice of things -/
theorem row_its {α : Type} {A : Rd → List Value → α → Prop} {ds : List It} {g : Option Nat} {c n e : Nat} {ys : List Value} {xs : List α} (hm : It.row g c n e 1 ys ∈ ds) (hl : ys.length = xs.length) (hg : 0 < xs.length → g.isSome = true)
    (hA : ∀ i z, xs[i]? = some z → A (InIts ds) ((ys.drop i).take 1) z) : SlAt 1 A (InIts ds) (g.map fun b => ⟨b, 0, none⟩) xs := fun i z hz => by
  have hi : i < xs.length := (List.getElem?_eq_some_iff.1 hz).1
  obtain ⟨b, rfl⟩ := Option.isSome_iff_exists.1 (hg (by omega))
  have hln : ((ys.drop (i * 1)).take 1).length = 1 := by rw [List.length_take, List.length_drop]; omega
  refine ⟨⟨b, 0, none⟩, (ys.drop (i * 1)).take 1, rfl, hln, .inl ⟨b, c, n, e, 1, ys, i * 1, hm, by rw [Addr.add_mid, Nat.zero_add], by rw [hln]⟩, ?_⟩
  rw [Nat.mul_one]
  exact hA i z hz
theorem row_digs {ds : List It} {g : Option Nat} {c n e : Nat} {l : List Nat} (hm : It.row g c n e 1 (dv l) ∈ ds) (hg : 0 < l.length → g.isSome = true) : SlAt 1 digA (InIts ds) (g.map fun b => ⟨b, 0, none⟩) l :=
  row_its hm (by simp [dv]) hg fun i z hz => by
    show _ = _
    rw [List.drop_eq_getElem?_toList_append]
    unfold dv
    rw [List.getElem?_map, hz]
    rfl
theorem row_vals {ds : List It} {g : Option Nat} {c n e : Nat} {vs : List Value} (hm : It.row g c n e 1 vs ∈ ds) (hg : 0 < vs.length → g.isSome = true) : SlAt 1 valA (InIts ds) (g.map fun b => ⟨b, 0, none⟩) vs :=
  row_its hm rfl hg fun i z hz => by
    show _ = _
    rw [List.drop_eq_getElem?_toList_append, hz]
    rfl
/-- a row that is owned has its block -/
theorem row_some {w0 w : World} {base : Nat} {its : List It} {g : Option Nat} {c n e : Nat} {ys : List Value} (hw : WA w0 base its w) (hm : It.row g c n e 1 ys ∈ its) : 0 < n → g.isSome = true := fun h => by
  obtain ⟨j, hj⟩ := List.mem_iff_getElem?.1 hm
  cases g with
  | some _ => rfl
  | none => have := row_none2 (hw.get hj); omega
/-- a block that is owned -/
theorem blk_its {ds : List It} {b T : Nat} {cs : List Value} (hm : blk b cs T ∈ ds) : InIts ds ⟨b, 0, none⟩ cs := .inr ⟨b, T, cs, 0, hm, rfl, by simp⟩
/-! trees that may be -/
structure Good (l : List Nd) : Prop where
  kids : ∀ (k : Nat) x, l[k]? = some x → ∀ q ∈ x.kids, 0 ≤ q ∧ q < (k : Int)
  neg : ∀ (k : Nat) x, l[k]? = some x → x.op = 16 → x.kids.length = 1
  two : ∀ (k : Nat) x, l[k]? = some x → x.op = 9 → x.kids.length % 2 = 0
theorem scan_good {l : List Nd} {B : List UInt8 → Bool} : ∀ (r : List Nd) (i : Nat) (u : List Bool), scan l B r i u = none → ∀ (k : Nat) x, r[k]? = some x → (∀ q ∈ x.kids, 0 ≤ q ∧ q < ((i + k : Nat) : Int)) ∧ fitsB l B (i + k + 1) x = true
  | [], _, _, _, k, x, h => by cases h
  | y :: r, i, u, hs, k, x, h => by
    unfold scan at hs
    cases hf : fresh y.kids i u with
    | none => rw [hf] at hs; cases hs
    | some u2 =>
      rw [hf] at hs
      dsimp only at hs
      split at hs
      · cases hs
      · next hn =>
        cases k with
        | zero =>
          cases h
          refine ⟨fresh_in hf, ?_⟩
          cases hq : fitsB l B (i + 1) y with
          | true => rfl
          | false => exact absurd (.inr hq) hn
        | succ k =>
          have := scan_good r (i + 1) u2 hs k x (by simpa using h)
          rw [show i + (k + 1) = i + 1 + k by omega]
          exact this
theorem kidsB_neg {l : List Nd} {n : Nat} {x : Nd} (h : kidsB l n x = true) (ho : x.op = 16) : x.kids.length = 1 := by
  unfold kidsB at h
  rw [if_neg (by omega), if_neg (by omega), if_neg (by omega), if_pos (by omega)] at h
  unfold exprs at h
  simp only [Bool.and_eq_true, decide_eq_true_eq] at h
  omega
theorem kidsB_two {l : List Nd} {n : Nat} {x : Nd} (h : kidsB l n x = true) (ho : x.op = 9) : x.kids.length % 2 = 0 := by
  unfold kidsB at h
  rw [if_neg (by omega), if_neg (by omega), if_pos ho] at h
  simp only [Bool.and_eq_true, decide_eq_true_eq] at h
  exact h.1
theorem fitsB_kids {l : List Nd} {B : List UInt8 → Bool} {n : Nat} {x : Nd} (h : fitsB l B n x = true) : kidsB l n x = true := by
  unfold fitsB at h
  split at h
  · simp only [Bool.and_eq_true] at h; exact h.2
  · split at h
    · simp only [Bool.and_eq_true] at h; exact h.2
    · split at h
      · exact h
      · simp only [Bool.and_eq_true] at h; exact h.2
theorem valid_scan {l : List Nd} {B : List UInt8 → Bool} (h : valid l B = none) : scan l B l 0 (List.replicate l.length false) = none := by
  cases hs : scan l B l 0 (List.replicate l.length false) with
  | none => rfl
  | some i => rw [valid_some hs] at h; cases h
theorem valid_good {l r : List Nd} {B : List UInt8 → Bool} (h : valid (l ++ r) B = none) : Good l := by
  have key : ∀ (k : Nat) x, l[k]? = some x → (∀ q ∈ x.kids, 0 ≤ q ∧ q < (k : Int)) ∧ kidsB (l ++ r) (k + 1) x = true := fun k x hx => by
    have hk := (List.getElem?_eq_some_iff.1 hx).1
    have := scan_good _ _ _ (valid_scan h) k x (by rw [List.getElem?_append_left hk]; exact hx)
    rw [Nat.zero_add] at this
    exact ⟨this.1, fitsB_kids this.2⟩
  exact ⟨fun k x hx => (key k x hx).1, fun k x hx => kidsB_neg (key k x hx).2, fun k x hx => kidsB_two (key k x hx).2⟩
/-- values one by one, in what is owned -/
structure Own (ts : List Tr) (vs : List Value) (ds : List It) : Prop where
  len : vs.length = ts.length
  at_ : ∀ (i : Nat) t v, ts[i]? = some t → vs[i]? = some v → VI ds t v
theorem Own.nil (ds : List It) : Own [] [] ds := ⟨rfl, fun i t v h => by cases h⟩
theorem Own.more {ts : List Tr} {vs : List Value} {ds ds' : List It} (h : Own ts vs ds) (hs : ∀ it ∈ ds, it ∈ ds') : Own ts vs ds' := ⟨h.len, fun i t v h1 h2 => (h.at_ i t v h1 h2).more hs⟩
theorem Own.snoc {ts : List Tr} {vs : List Value} {ds : List It} {t : Tr} {v : Value} (h : Own ts vs ds) (hv : VI ds t v) : Own (ts ++ [t]) (vs ++ [v]) ds := ⟨by simp [h.len], fun i t' v' h1 h2 => by
  rcases Nat.lt_or_ge i ts.length with hi | hi
  · rw [List.getElem?_append_left hi] at h1
    rw [List.getElem?_append_left (by rw [h.len]; exact hi)] at h2
    exact h.at_ i _ _ h1 h2
  · have : i = ts.length := by
      have := (List.getElem?_eq_some_iff.1 h1).1
      simp at this; omega
    subst this
    rw [List.getElem?_append_right (Nat.le_refl _), Nat.sub_self] at h1
    rw [List.getElem?_append_right (by rw [h.len]; exact Nat.le_refl _), h.len, Nat.sub_self] at h2
    cases h1; cases h2
    exact hv⟩
theorem Own.iface {ts : List Tr} {vs : List Value} {ds : List It} (h : Own ts vs ds) {v : Value} (hv : v ∈ vs) : ∃ k u, v = .iface k u := by
  obtain ⟨i, hi⟩ := List.mem_iff_getElem?.1 hv
  have hl := (List.getElem?_eq_some_iff.1 hi).1
  exact (h.at_ i _ v (List.getElem?_eq_getElem (by rw [← h.len]; exact hl)) hi).iface
theorem Own.one {ts : List Tr} {vs : List Value} {ds : List It} (h : Own ts vs ds) : vs.all (·.oneCell') = true := List.all_eq_true.2 fun v hv => by
  obtain ⟨k, u, rfl⟩ := h.iface hv
  rfl
end Go.Ky

namespace Go.Ky
open Go.SX Go.RowKit Go.Vo Go.EX Go.EB
/-- an entry, as it lies -/
@[reducible] def entB (k : T) (e : Nat × Value × Value) : It := blk e.1 [str k, e.2.1, e.2.2] 177
/-- what a Dict is -/
structure DS where
  g : Option Nat
  c : Nat
  ks : List T
  es : List (Nat × Value × Value)
  bs : List Nat
  ck : Nat
  en : List It
/-- what it owns -/
@[reducible] def DIt (d bm : Nat) (s : DS) (r : List It) : List It :=
  blk d [rv s.g s.es.length s.c, .map (some bm), .bool false, .int .i64 0] 174 :: .row s.g s.c s.es.length 175 1 (s.es.map ptrV) :: mapI bm s.ks (s.es.map ptrV) s.bs s.ck :: (s.en ++ r)
structure DOk (s : DS) : Prop where
  kl : s.ks.length = s.es.length
  bl : s.bs.length = s.es.length
  nd : s.ks.Nodup
  bn : s.bs.Nodup ∧ ∀ q ∈ s.bs, q < s.ck
  en : ∀ (i : Nat) k e, s.ks[i]? = some k → s.es[i]? = some e → entB k e ∈ s.en
def DS.nil : DS := ⟨none, 0, [], [], [], 0, []⟩
theorem DOk.nil : DOk DS.nil := ⟨rfl, rfl, List.Pairwise.nil, ⟨List.Pairwise.nil, fun q h => by cases h⟩, fun i k e h => by cases h⟩
/-- one more -/
@[reducible] def DS.add (s : DS) (k : T) (e : Nat × Value × Value) (g : Option Nat) (c : Nat) (bs : List Nat) (ck : Nat) : DS := ⟨g, c, s.ks ++ [k], s.es ++ [e], bs, ck, entB k e :: s.en⟩
theorem DOk.add {s : DS} (h : DOk s) {k : T} (hk : k ∉ s.ks) (e : Nat × Value × Value) (g : Option Nat) (c : Nat) {bs : List Nat} {ck : Nat} (hl : bs.length = s.es.length + 1) (hb : bs.Nodup ∧ ∀ q ∈ bs, q < ck) : DOk (s.add k e g c bs ck) := by
  refine ⟨by simp [h.kl], by simp [hl], ?_, hb, fun i k' e' h1 h2 => ?_⟩
  · rw [List.nodup_append]
    refine ⟨h.nd, List.pairwise_singleton _ _, fun a ha b hb => ?_⟩
    rw [List.mem_singleton.1 hb]
    exact fun e => hk (e ▸ ha)
  · rcases Nat.lt_or_ge i s.es.length with hi | hi
    · rw [List.getElem?_append_left (by rw [h.kl]; exact hi)] at h1
      rw [List.getElem?_append_left hi] at h2
      exact List.mem_cons_of_mem _ (h.en i _ _ h1 h2)
    · have : i = s.es.length := by
        have := (List.getElem?_eq_some_iff.1 h2).1
        simp at this; omega
      subst this
      rw [List.getElem?_append_right (Nat.le_refl _), Nat.sub_self] at h2
      rw [List.getElem?_append_right (by rw [h.kl]; exact Nat.le_refl _), h.kl, Nat.sub_self] at h1
      cases h1; cases h2
      exact List.mem_cons_self
theorem DOk.at_ {s : DS} (h : DOk s) {i : Nat} {k : T} {e : Nat × Value × Value} (h1 : s.ks[i]? = some k) (h2 : s.es[i]? = some e) (d bm : Nat) (r : List It) : ∃ j : Nat, (DIt d bm s r)[j]? = some (entB k e) := by
  obtain ⟨j, hj⟩ := List.mem_iff_getElem?.1 (h.en i k e h1 h2)
  refine ⟨j + 3, ?_⟩
  show (s.en ++ r)[j]? = _
  rw [List.getElem?_append_left (List.getElem?_eq_some_iff.1 hj).1, hj]
theorem ky_add {w0 w : World} {base d bm c ck : Nat} {s : DS} {r : List It} {k : T} {e : Nat × Value × Value} {g : Option Nat} {bs : List Nat}
    (hw : WA w0 base (entB k e :: blk d [rv g (s.es.length + 1) c, .map (some bm), .bool false, .int .i64 0] 174 :: .row g c (s.es.length + 1) 175 1 (s.es.map ptrV ++ [ptrV e]) :: mapI bm (s.ks ++ [k]) (s.es.map ptrV ++ [ptrV e]) bs ck :: (s.en ++ r)) w) : WA w0 base (DIt d bm (s.add k e g c bs ck) r) w := by
  have h2 := hw.perm (List.perm_append_comm_assoc [_, _, _] [entB k e] (s.en ++ r))
  show WA w0 base (blk d [rv g (s.es ++ [e]).length c, .map (some bm), .bool false, .int .i64 0] 174 :: .row g c (s.es ++ [e]).length 175 1 ((s.es ++ [e]).map ptrV) :: mapI bm (s.ks ++ [k]) ((s.es ++ [e]).map ptrV) bs ck :: (entB k e :: (s.en ++ r))) w
  rw [List.length_append, List.map_append]
  exact h2
/-- what is seen of it later -/
theorem DOk.val {s : DS} (h : DOk s) {d bm : Nat} {xs : List Tr} {M : Rd} {O : Ro} (hxl : xs.length = s.es.length) (h3 : xs.length ≤ 300) (hg : 0 < s.es.length → s.g.isSome = true) (hv : ∀ (i : Nat) x e, xs[i]? = some x → s.es[i]? = some e → VAt M O x e.2.2) (hM : ∀ a c, InIts (DIt d bm s []) a c → M a c) (hO : ∀ m o, InObj (DIt d bm s []) m o → O m o) :
    VAt M O (.dict s.ks xs) (.iface 124 (.pointer (some ⟨d, 0, none⟩))) := by
  refine .dict (es := s.es) (c := s.c) (m := bm) (ck := s.ck) (bs := s.bs) (av := s.g.map fun b => ⟨b, 0, none⟩) (r := [.bool false, .int .i64 0]) ?_ ?_ ?_ (by omega) (by rw [h.kl]; omega) (by rw [h.bl]; omega) h.nd h3 ?_ hv
  · rw [hxl]
    exact hM _ _ (blk_its List.mem_cons_self)
  · exact hO _ _ (List.mem_cons_of_mem _ (List.mem_cons_of_mem _ List.mem_cons_self))
  · exact (row_vals (List.mem_cons_of_mem _ List.mem_cons_self) (by simpa using hg)).mono hM
  · intro i k e h1 h2
    refine hM _ _ (blk_its (T := 177) ?_)
    exact List.mem_cons_of_mem _ (List.mem_cons_of_mem _ (List.mem_cons_of_mem _ (List.mem_append_left _ (h.en i k e h1 h2))))
end Go.Ky
namespace Go.Ky
open Go.SX Go.RowKit
/-- a value in what there was and in what is new -/
def Mix (M : Rd) (O : Ro) (ds : List It) (v : Value) : Prop := ∃ t, ∀ (M' : Rd) (O' : Ro), (∀ a c, M a c → M' a c) → (∀ m o, O m o → O' m o) → (∀ a c, InIts ds a c → M' a c) → (∀ m o, InObj ds m o → O' m o) → VAt M' O' t v
/-- what a call that makes a value comes to -/
structure Pm (M : Rd) (O : Ro) (er : Option (TypeId × Value)) (v : Value) (ds : List It) : Prop where
  ok : er = none → Mix M O ds v
  no : er ≠ none → v = .nilIface
/-- a Dict, so far -/
structure Pd (M : Rd) (O : Ro) (n i : Nat) (s : DS) (xs : List Tr) : Prop where
  le : i ≤ n
  two : i % 2 = 0
  ok : DOk s
  len : xs.length = s.es.length
  few : 2 * s.es.length ≤ i
  v : ∀ (j : Nat) x e, xs[j]? = some x → s.es[j]? = some e → VAt M O x e.2.2
theorem Pd.start (M : Rd) (O : Ro) (n : Nat) : Pd M O n 0 DS.nil [] := ⟨Nat.zero_le _, rfl, DOk.nil, rfl, Nat.zero_le _, fun j x e h => by cases h⟩
theorem Pd.same {M : Rd} {O : Ro} {n i : Nat} {s : DS} {xs : List Tr} (h : Pd M O n i s xs) (hn : i + 2 ≤ n) : Pd M O n (i + 2) s xs := ⟨hn, by have := h.two; omega, h.ok, h.len, by have := h.few; omega, h.v⟩
theorem Pd.add {M : Rd} {O : Ro} {n i : Nat} {s : DS} {xs : List Tr} (h : Pd M O n i s xs) (hn : i + 2 ≤ n) {k : T} (hk : k ∉ s.ks) {p c ck : Nat} {kv vv : Value} {g : Option Nat} {bs : List Nat} (hl : bs.length = s.es.length + 1) (hb : bs.Nodup ∧ ∀ q ∈ bs, q < ck) {t : Tr} (hv : VAt M O t vv) : Pd M O n (i + 2) (s.add k (p, kv, vv) g c bs ck) (xs ++ [t]) := by
  refine ⟨hn, by have := h.two; omega, h.ok.add hk _ g c hl hb, by simp [h.len], by have := h.few; simp; omega, fun j x e h1 h2 => ?_⟩
  rcases Nat.lt_or_ge j s.es.length with hj | hj
  · rw [List.getElem?_append_left (by rw [h.len]; exact hj)] at h1
    rw [List.getElem?_append_left hj] at h2
    exact h.v j _ _ h1 h2
  · have : j = s.es.length := by
      have := (List.getElem?_eq_some_iff.1 h2).1
      simp at this; omega
    subst this
    rw [List.getElem?_append_right (Nat.le_refl _), Nat.sub_self] at h2
    rw [List.getElem?_append_right (by rw [h.len]; exact Nat.le_refl _), h.len, Nat.sub_self] at h1
    cases h1; cases h2
    exact hv
theorem Pd.fin {M : Rd} {O : Ro} {n : Nat} {s : DS} {xs : List Tr} {d bm : Nat} (h : Pd M O n n s xs) (h3 : n ≤ 300) (hg : 0 < s.es.length → s.g.isSome = true) : Mix M O (DIt d bm s []) (.iface 124 (.pointer (some ⟨d, 0, none⟩))) :=
  ⟨_, fun _ _ h1 h2 h4 h5 => h.ok.val h.len (by have := h.len; have := h.few; omega) hg (fun i x e hx he => (h.v i x e hx he).mono h1 h2) h4 h5⟩
end Go.Ky
namespace Go.Ky
open Go.SX Go.RowKit Go.Tr
/-- what a node's value comes to -/
structure Pv (er : Option (TypeId × Value)) (v : Value) (ds : List It) : Prop where
  ok : er = none → ∃ t, VI ds t v
  no : er ≠ none → v = .nilIface
theorem Pv.good {t : Tr} {v : Value} {ds : List It} (h : VI ds t v) : Pv none v ds := ⟨fun _ => ⟨t, h⟩, fun h => absurd rfl h⟩
theorem Pv.bad {p : TypeId × Value} {ds : List It} : Pv (some p) .nilIface ds := ⟨fun h => (by cases h), fun _ => rfl⟩
theorem Pv.mix {er : Option (TypeId × Value)} {v : Value} {ds d2 : List It} (h : Pm (InIts ds) (InObj ds) er v d2) : Pv er v (d2 ++ ds) := ⟨fun e => by
  obtain ⟨t, ht⟩ := h.ok e
  exact ⟨t, ht _ _ (InIts.more fun _ h => List.mem_append_right _ h) (fun _ _ h => List.mem_append_right _ h) (InIts.more fun _ h => List.mem_append_left _ h) (fun _ _ h => List.mem_append_left _ h)⟩, h.no⟩
/-- what is owned is seen -/
theorem its_lies {w0 w : World} {base : Nat} {its ds : List It} (hw : WA w0 base its w) (hs : ∀ it ∈ ds, it ∈ its) : ∀ a c, InIts ds a c → Lies w w.heap.size a c := fun a c h => InIts.lies hw a c (InIts.more hs a c h)
theorem obj_lies {w0 w : World} {base : Nat} {its ds : List It} (hw : WA w0 base its w) (hs : ∀ it ∈ ds, it ∈ its) : ∀ m o, InObj ds m o → LiesO w w.heap.size m o := fun m o h => InObj.lies hw m o (hs _ h)
theorem row_lies {w0 w : World} {base : Nat} {its : List It} {g : Option Nat} {c n e : Nat} {vs : List Value} (hw : WA w0 base its w) (hm : It.row g c n e 1 vs ∈ its) (hn : n = vs.length) : SlAt 1 valA (Lies w w.heap.size) (g.map fun b => ⟨b, 0, none⟩) vs :=
  (row_vals hm (by subst hn; exact row_some hw hm)).mono (InIts.lies hw)
/-- kids, so far -/
structure Ok (x : Nd) (j : Nat) (ts : List Tr) (vs : List Value) (ds : List It) : Prop where
  le : j ≤ x.kids.length
  len : vs.length = j
  own : Own ts vs ds
theorem Ok.start (x : Nd) : Ok x 0 [] [] [] := ⟨Nat.zero_le _, rfl, Own.nil _⟩
theorem Ok.next {x : Nd} {j : Nat} {ts : List Tr} {vs : List Value} {ds d2 : List It} {v : Value} (h : Ok x j ts vs ds) (hj : j < x.kids.length) {t : Tr} (hv : VI d2 t v) : Ok x (j + 1) (ts ++ [t]) (vs ++ [v]) (d2 ++ ds) :=
  ⟨hj, by simp [h.len], (h.own.more fun _ h => List.mem_append_right _ h).snoc (hv.more fun _ h => List.mem_append_left _ h)⟩
theorem nd_of {l : List Nd} {M : Rd} {al : Option Addr} (hl : SlAt 5 ndA M al l) {k : Nat} {x : Nd} (hx : l[k]? = some x) : ∃ a ak ck, al = some a ∧ M (a.add (k * 5)) [.int .i64 x.op, .int .i64 x.n, .int .i64 x.pos, str x.s, .slice ak x.kids.length ck] ∧ (x.kids.length ≤ 9223372036854775807 ∧ x.kids.length ≤ ck) ∧ SlAt 1 intA M ak x.kids := by
  obtain ⟨a, cs, hav, _, hL, vk, rfl, hks, _⟩ := hl k x hx
  obtain ⟨ak, ck, rfl, hk, hka⟩ := hks.sl
  exact ⟨a, ak, ck, hav, hL, hk, hka⟩
end Go.Ky
namespace Go.SX
open Go.RowKit
theorem onto_d {P : Program} {τ : Type} {f : FuncId} {args : Array Value} {v : τ → Value} {w0 : World} {base : Nat} {its : List It} {new : τ → List It} (h : ∀ w, WA w0 base its w → FnC P f args (WA w w.heap.size []) v (fun q w' => WA w w.heap.size (new q) w')) :
    FnC P f args (WA w0 base its) v (fun q w' => WA w0 base (new q ++ its) w') := fun w hw => (h w hw w (WA.start w)).mono fun _ _ ⟨q, he, hn⟩ => ⟨q, he, hw.onto hn⟩
end Go.SX
namespace Go.Ky
open Go.SX Go.RowKit
theorem list_vi {ds : List It} {ts : List Tr} {vs : List Value} (ho : Own ts vs ds) (h3 : vs.length ≤ 300) {b c : Nat} {g : Option Nat} (hg : 0 < vs.length → g.isSome = true) :
    VI (blk b [rv g vs.length c, .bool false, .int .i64 0] 123 :: .row g c vs.length 26 1 vs :: ds) (.list ts) (.iface 104 (.pointer (some ⟨b, 0, none⟩))) := by
  have hl := ho.len
  refine .list (r := [.bool false, .int .i64 0]) (c := c) ?_ (row_vals (List.mem_cons_of_mem _ List.mem_cons_self) hg) hl (by omega) (fun j t v h1 h2 => (ho.at_ j t v h1 h2).more fun it h => List.mem_cons_of_mem _ (List.mem_cons_of_mem _ h))
  rw [← hl]
  exact blk_its List.mem_cons_self
theorem tup_vi {ds : List It} {ts : List Tr} {vs : List Value} (ho : Own ts vs ds) (h3 : vs.length ≤ 300) {b c : Nat} {g : Option Nat} (hg : 0 < vs.length → g.isSome = true) :
    VI (blk b [rv g vs.length c] 117 :: .row g c vs.length 26 1 vs :: ds) (.tup ts) (.iface 115 (.pointer (some ⟨b, 0, none⟩))) := by
  have hl := ho.len
  refine .tup (c := c) ?_ (row_vals (List.mem_cons_of_mem _ List.mem_cons_self) hg) hl (by omega) (fun j t v h1 h2 => (ho.at_ j t v h1 h2).more fun it h => List.mem_cons_of_mem _ (List.mem_cons_of_mem _ h))
  rw [← hl]
  exact blk_its List.mem_cons_self
end Go.Ky
