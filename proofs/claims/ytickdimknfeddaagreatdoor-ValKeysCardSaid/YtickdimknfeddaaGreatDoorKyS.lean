/-
  Proved here: values, as trees, where they lie in memory that was there, or in what is owned.
-/
import Derived.Test.YtickdimknfeddaaGreatDoorKyM
import Derived.Test.YtickdimknfeddaaGreatDoorTrQ
namespace Go.Ky
open Go.SX Go.RowKit Go.Vo Go.EX Go.EB
/-- one value in a cell -/
def valA (_ : Rd) (cs : List Value) (v : Value) : Prop := cs = [v]
instance : Kept valA := ⟨fun _ h => h⟩
/-- one digit in a cell -/
def digA (_ : Rd) (cs : List Value) (d : Nat) : Prop := cs = [.int .u32 (d : Int)]
instance : Kept digA := ⟨fun _ h => h⟩
/-- who tells which objects there are -/
abbrev Ro := Nat → Obj → Prop
def LiesO (w0 : World) (base : Nat) : Ro := fun m o => m < base ∧ w0.heap[m]? = some o
theorem LiesO.push {w0 w : World} {base : Nat} {its : List It} {m : Nat} {o : Obj} (h : LiesO w0 base m o) (hw : WA w0 base its w) : LiesO w w.heap.size m o := ⟨Nat.lt_of_lt_of_le h.1 hw.fits, (hw.below.block m h.1).trans h.2⟩
/-- in what is owned -/
def InIts (ds : List It) : Rd := fun a cs => InRow ds a cs ∨ ∃ b T ys off, blk b ys T ∈ ds ∧ a = ⟨b, off, none⟩ ∧ (ys.drop off).take cs.length = cs
def InObj (ds : List It) : Ro := fun m o => It.obj m o ∈ ds
theorem InIts.more {ds ds' : List It} (h : ∀ it ∈ ds, it ∈ ds') : ∀ a c, InIts ds a c → InIts ds' a c := fun a c h1 => h1.elim (fun ⟨b, c', n, e, size, ys, off, hm, h2⟩ => .inl ⟨b, c', n, e, size, ys, off, h _ hm, h2⟩) fun ⟨b, T, ys, off, hm, h2⟩ => .inr ⟨b, T, ys, off, h _ hm, h2⟩
theorem InIts.lies {w0 w : World} {base : Nat} {its : List It} (hw : WA w0 base its w) : ∀ a c, InIts its a c → Lies w w.heap.size a c := fun a c h => by
  rcases h with h | ⟨b, T, ys, off, hm, rfl, ht⟩
  · exact See.lies hw a c (.inr h)
  · obtain ⟨j, hj⟩ := List.mem_iff_getElem?.1 hm
    refine ⟨fun k u hk => ?_⟩
    rw [← ht, List.getElem?_take] at hk
    split at hk
    · rw [List.getElem?_drop] at hk
      have h1 := hw.cell hj hk
      rw [Addr.add_mid]
      have h2 := World.block_lt_of_cell? _ _ h1
      exact ⟨h2, h1⟩
    · cases hk
theorem InObj.lies {w0 w : World} {base : Nat} {its : List It} (hw : WA w0 base its w) : ∀ m o, InObj its m o → LiesO w w.heap.size m o := fun m o h => by
  obtain ⟨j, hj⟩ := List.mem_iff_getElem?.1 h
  have := (hw.get hj).2
  exact ⟨(Array.getElem?_eq_some_iff.1 this).1, this⟩
/-- a number -/
structure NumM (M : Rd) (z : Int) (v : Value) : Prop where
  ex : ∃ av c, v = .agg #[.bool (decide (z < 0)), .slice av (digs z.natAbs).length ((digs z.natAbs).length + c)] ∧ SlAt 1 digA M av (digs z.natAbs)
  small : (digs z.natAbs).length ≤ 80
theorem NumM.mono {M M' : Rd} {z : Int} {v : Value} (hM : ∀ a c, M a c → M' a c) (h : NumM M z v) : NumM M' z v := by
  obtain ⟨⟨av, c, e, h1⟩, h2⟩ := h
  exact ⟨⟨av, c, e, h1.mono hM⟩, h2⟩
/-- an entry's address, as a value -/
@[reducible] def ptrV (e : Nat × Value × Value) : Value := .pointer (some ⟨e.1, 0, none⟩)
/-- a value where it lies -/
inductive VAt (M : Rd) (O : Ro) : Tr → Value → Prop where
  | none : VAt M O .none (.iface 110 (.agg #[]))
  | bool (b : Bool) : VAt M O (.bool b) (.iface 111 (.bool b))
  | int {z : Int} {u : Value} (h : NumM M z u) : VAt M O (.int z) (.iface 74 u)
  | str {s : T} (h : s.length ≤ 300) : VAt M O (.str s) (.iface 78 (str s))
  | tup {xs : List Tr} {vs : List Value} {b c : Nat} {av : Option Addr} (hb : M ⟨b, 0, none⟩ [.slice av xs.length c]) (hs : SlAt 1 valA M av vs) (hl : vs.length = xs.length) (h3 : xs.length ≤ 300)
      (h : ∀ (i : Nat) x v, xs[i]? = some x → vs[i]? = some v → VAt M O x v) : VAt M O (.tup xs) (.iface 115 (.pointer (some ⟨b, 0, none⟩)))
  | list {xs : List Tr} {vs : List Value} {b c : Nat} {av : Option Addr} {r : List Value} (hb : M ⟨b, 0, none⟩ (.slice av xs.length c :: r)) (hs : SlAt 1 valA M av vs) (hl : vs.length = xs.length) (h3 : xs.length ≤ 300)
      (h : ∀ (i : Nat) x v, xs[i]? = some x → vs[i]? = some v → VAt M O x v) : VAt M O (.list xs) (.iface 104 (.pointer (some ⟨b, 0, none⟩)))
  | dict {ks : List T} {xs : List Tr} {es : List (Nat × Value × Value)} {b c m ck : Nat} {bs : List Nat} {av : Option Addr} {r : List Value} (hb : M ⟨b, 0, none⟩ (.slice av xs.length c :: .map (some m) :: r)) (ho : O m (.map (mkEs (ks.map str) (es.map ptrV) bs).toArray ck))
      (hs : SlAt 1 valA M av (es.map ptrV)) (hl : es.length = xs.length) (hkl : ks.length = xs.length) (hbl : bs.length = xs.length) (hn : ks.Nodup) (h3 : xs.length ≤ 300)
      (he : ∀ (i : Nat) k e, ks[i]? = some k → es[i]? = some e → M ⟨e.1, 0, none⟩ [str k, e.2.1, e.2.2])
      (h : ∀ (i : Nat) x e, xs[i]? = some x → es[i]? = some e → VAt M O x e.2.2) : VAt M O (.dict ks xs) (.iface 124 (.pointer (some ⟨b, 0, none⟩)))
theorem VAt.mono {M M' : Rd} {O O' : Ro} {t : Tr} {v : Value} (hM : ∀ a c, M a c → M' a c) (hO : ∀ m o, O m o → O' m o) (h : VAt M O t v) : VAt M' O' t v := by
  induction h with
  | none => exact .none
  | bool b => exact .bool b
  | int h => exact .int (h.mono hM)
  | str h => exact .str h
  | tup hb hs hl h3 _ ih => exact .tup (hM _ _ hb) (hs.mono hM) hl h3 ih
  | list hb hs hl h3 _ ih => exact .list (hM _ _ hb) (hs.mono hM) hl h3 ih
  | dict hb ho hs hl hkl hbl hn h3 he _ ih => exact .dict (hM _ _ hb) (hO _ _ ho) (hs.mono hM) hl hkl hbl hn h3 (fun i k e h1 h2 => hM _ _ (he i k e h1 h2)) ih
/-- in memory that was there -/
abbrev VL (w0 : World) (base : Nat) (t : Tr) (v : Value) : Prop := VAt (Lies w0 base) (LiesO w0 base) t v
/-- in what is owned -/
abbrev VI (ds : List It) (t : Tr) (v : Value) : Prop := VAt (InIts ds) (InObj ds) t v
theorem VL.push {w0 w : World} {base : Nat} {its : List It} {t : Tr} {v : Value} (h : VL w0 base t v) (hw : WA w0 base its w) : VL w w.heap.size t v := h.mono (fun _ _ q => q.push hw) (fun _ _ q => q.push hw)
theorem VI.more {ds ds' : List It} {t : Tr} {v : Value} (h : VI ds t v) (hs : ∀ it ∈ ds, it ∈ ds') : VI ds' t v := h.mono (InIts.more hs) (fun _ _ q => hs _ q)
theorem VI.lies {w0 w : World} {base : Nat} {its ds : List It} {t : Tr} {v : Value} (h : VI ds t v) (hs : ∀ it ∈ ds, it ∈ its) (hw : WA w0 base its w) : VL w w.heap.size t v := (h.more hs).mono (InIts.lies hw) (InObj.lies hw)
theorem VAt.iface {M : Rd} {O : Ro} {t : Tr} {v : Value} (h : VAt M O t v) : ∃ k u, v = .iface k u := by
  cases h <;> exact ⟨_, _, rfl⟩
theorem VAt.one {M : Rd} {O : Ro} {t : Tr} {v : Value} (h : VAt M O t v) : v.oneCell' = true := by
  obtain ⟨k, u, rfl⟩ := h.iface; rfl
/-- one of a row -/
theorem val_at {M : Rd} {av : Option Addr} {vs : List Value} (h : SlAt 1 valA M av vs) {i : Nat} {v : Value} (hi : vs[i]? = some v) : ∃ a, av = some a ∧ M (a.add (i * 1)) [v] := by
  obtain ⟨a, cs, e1, _, e3, rfl⟩ := h i v hi
  exact ⟨a, e1, e3⟩
theorem dig_at {M : Rd} {av : Option Addr} {l : List Nat} (h : SlAt 1 digA M av l) {i : Nat} (hi : i < l.length) : ∃ a, av = some a ∧ M (a.add (i * 1)) [.int .u32 ((l.getD i 0 : Nat) : Int)] := by
  obtain ⟨a, cs, e1, _, e3, rfl⟩ := h i _ (List.getElem?_eq_getElem hi)
  refine ⟨a, e1, ?_⟩
  rw [List.getD_eq_getElem?_getD, List.getElem?_eq_getElem hi]
  exact e3
end Go.Ky
