/-
  Proved here: a slice turned round, and a number's letters, as they are computed; further steps.
-/
import Derived.Test.YtickdimknfeddaaGreatDoorKyS
import Derived.Test.YtickdimknfeddaaGreatDoorMg
namespace Go.SX
open Go.RowKit
section
variable {P : Program} {ops : Array Oper} {n d : Nat} {D : List Deferred} {l : Fr} {W : World → Prop} {rest : List Oper} {o : Oper} {x y z : Operand} {t ty : TypeId} {w0 : World} {base : Nat} {its : List It} {Q : Exit → Act → World → Prop} {v : Value}
theorem Y.addK {a b : Nat} {k : IntKind} {ty2 : TypeId} (hx : evl l x = some (.int k (a : Int))) (hy : evl l y = some (.int k (b : Int))) (hw : k.wrap ((a + b : Nat) : Int) = ((a + b : Nat) : Int)) : Y P l W (.binOp .add t x y ty2) ty (.int k ((a + b : Nat) : Int)) := by
  refine Y.bin hx hy fun w _ => ?_
  have e : (a : Int) + (b : Int) = ((a + b : Nat) : Int) := by omega
  simp only [eqGuard_add, binOp_add, Op.intArith, e, hw]
  rfl
theorem PX.retA2 {n : Nat} {R : Ending → World → Prop} {fn : Func} {r s b T k i : Nat} {cs : List Value} {u : Value} {e : Exit} (he : e = .ret ∨ e = .normal) (hr : fn.results = #[.cell r t, .tmp s]) (ht : AggT P t k) (hv : get l r = some (.pointer (some ⟨b, 0, none⟩))) (hu : get l s = some u) (hi : its[i]? = some (blk b cs T)) (hk : cs.length = k)
    (h : ∀ w, WA w0 base its w → R (.returned (.tuple #[.agg cs.toArray, u])) w) : PX n [] (bodyPost P fn R) l (WA w0 base its) e := by
  intro a w ha hW
  obtain ⟨d, hd1, hd⟩ := ht.un
  have hp : a.tmps[r]?.getD undef = .pointer (some ⟨b, 0, none⟩) := by simpa using getD_of ha hv
  have hq : a.tmps[s]?.getD undef = u := by simpa using getD_of ha hu
  have h1 : (results fn a.tmps).run P w = .ok (.tuple #[.agg cs.toArray, u]) w := by
    have hl := run_loadVar_row w b T t cs.toArray (0, 0) d (hW.get hi).2 hd1 (by cases d <;> first | rfl | cases hd) (by rw [ht.info]; simp [hk])
    simp [results, hr, hp, hq, asAddr, hl]
  rcases he with rfl | rfl
  · exact ⟨ha.defs, _, h1, h w hW⟩
  · exact ⟨ha.defs, _, h1, h w hW⟩
end
end Go.SX
namespace Go.Ky
open Go.SX Go.RowKit Go.Vo
theorem b8_nat {n : Nat} (h : n < 256) : (Value.int .u8 (n : Int)) = b8 n.toUInt8 := by
  show Value.int .u8 (n : Int) = Value.int .u8 ((n.toUInt8.toNat : Nat) : Int)
  rw [show n.toUInt8.toNat = n from by simp; omega]
/-- so many letters exchanged, from both ends -/
def swp (n : Nat) : Nat → List UInt8 → List UInt8
  | 0, xs => xs
  | i + 1, xs => ((swp n i xs).set i ((swp n i xs).getD (n - 1 - i) 0)).set (n - 1 - i) ((swp n i xs).getD i 0)
theorem swp_len (n : Nat) (xs : List UInt8) : ∀ i, (swp n i xs).length = xs.length
  | 0 => rfl
  | i + 1 => by
    unfold swp
    rw [List.length_set, List.length_set, swp_len n xs i]
theorem b8_at {bs : List UInt8} {i : Nat} (h : i < bs.length) : (bs.map b8)[i]? = some (b8 (bs.getD i 0)) := by
  rw [List.getElem?_map, List.getElem?_eq_getElem h, List.getD_eq_getElem?_getD, List.getElem?_eq_getElem h]; rfl
theorem swp_at (n : Nat) (xs : List UInt8) (hn : n = xs.length) : ∀ (i : Nat), 2 * i ≤ n → ∀ k, k < n → (swp n i xs)[k]? = if k < i ∨ n - 1 - i < k then xs[n - 1 - k]? else xs[k]?
  | 0, _, k, hk => by rw [if_neg (by omega)]; rfl
  | i + 1, hi, k, hk => by
    have ih := swp_at n xs hn i (by omega)
    have hl := swp_len n xs i
    have ei : (swp n i xs)[i]? = xs[i]? := by rw [ih i (by omega), if_neg (by omega)]
    have ej : (swp n i xs)[n - 1 - i]? = xs[n - 1 - i]? := by rw [ih (n - 1 - i) (by omega), if_neg (by omega)]
    have gi : (swp n i xs).getD i 0 = xs[i]'(by omega) := by rw [List.getD_eq_getElem?_getD, ei, List.getElem?_eq_getElem (by omega)]; rfl
    have gj : (swp n i xs).getD (n - 1 - i) 0 = xs[n - 1 - i]'(by omega) := by rw [List.getD_eq_getElem?_getD, ej, List.getElem?_eq_getElem (by omega)]; rfl
    show ((((swp n i xs).set i ((swp n i xs).getD (n - 1 - i) 0)).set (n - 1 - i) ((swp n i xs).getD i 0)))[k]? = _
    rw [gi, gj, List.getElem?_set]
    split
    · next h =>
      subst h
      rw [if_pos (by rw [List.length_set]; omega), if_pos (by omega), show n - 1 - (n - 1 - i) = i by omega, List.getElem?_eq_getElem (by omega)]
    · next h =>
      rw [List.getElem?_set]
      split
      · next h2 =>
        subst h2
        rw [if_pos (by omega), if_pos (by omega), List.getElem?_eq_getElem (by omega)]
      · next h2 =>
        rw [ih k hk]
        by_cases hc : k < i ∨ n - 1 - i < k
        · rw [if_pos hc, if_pos (by omega)]
        · rw [if_neg hc, if_neg (by omega)]
theorem turned_rev (xs : List UInt8) : swp xs.length (xs.length / 2) xs = xs.reverse := by
  refine List.ext_getElem? fun k => ?_
  rcases Nat.lt_or_ge k xs.length with hk | hk
  · rw [swp_at _ xs rfl _ (by omega) k hk, List.getElem?_reverse hk]
    split
    · rfl
    · next h => congr 1; omega
  · rw [List.getElem?_eq_none (by rw [swp_len]; omega), List.getElem?_eq_none (by rw [List.length_reverse]; omega)]
/-! a number's letters, one digit of the base after the other -/
/-- what follows a last digit's -/
def tl (v : Nat) : T := if v = 0 then [] else revD v
theorem tl_step {v : Nat} (h : 0 < v) : tl v = UInt8.ofNat (48 + v % 10) :: tl (v / 10) := by
  unfold tl; rw [if_neg (by omega), revD_step h]
/-- the letters of the first digits -/
def px : List Nat → Nat → T
  | _, 0 => []
  | [], _ + 1 => []
  | [d], _ + 1 => revD d
  | d :: e :: r, i + 1 => lowk 9 d ++ px (e :: r) i
theorem px_0 (l : List Nat) : px l 0 = [] := by cases l <;> rfl
theorem px_all : ∀ (l : List Nat), px l l.length = txR l
  | [] => rfl
  | [d] => rfl
  | d :: e :: r => by rw [List.length_cons, px, txR, px_all (e :: r)]
theorem px_next : ∀ (l : List Nat) (i : Nat) (d : Nat), l[i]? = some d → i + 1 < l.length → px l (i + 1) = px l i ++ lowk 9 d
  | [], i, d, h, _ => by cases h
  | [a], i, d, _, h => by simp at h
  | a :: e :: r, 0, d, h, _ => by
    cases h
    rw [px]
    cases r <;> simp [px]
  | a :: e :: r, i + 1, d, h, hl => by
    rw [px, px_next (e :: r) i d (by simpa using h) (by simpa using hl), px, List.append_assoc]
theorem px_last : ∀ (l : List Nat) (i : Nat) (d : Nat), l[i]? = some d → i + 1 = l.length → px l (i + 1) = px l i ++ revD d
  | [], i, d, h, _ => by cases h
  | [a], i, d, h, hl => by
    have : i = 0 := by simpa using hl
    subst this
    cases h
    rfl
  | a :: e :: r, 0, d, h, hl => by simp at hl
  | a :: e :: r, i + 1, d, h, hl => by
    rw [px, px_last (e :: r) i d (by simpa using h) (by simpa using hl), px, List.append_assoc]
theorem revD_len : ∀ (k d : Nat), d < 10 ^ (k + 1) → (revD d).length ≤ k + 1
  | 0, d, h => by rw [revD_lt (by simpa using h)]; simp
  | k + 1, d, h => by
    by_cases hd : d < 10
    · rw [revD_lt hd]; simp
    · rw [revD_ge hd, List.length_cons]
      have := revD_len k (d / 10) (by rw [Nat.div_lt_iff_lt_mul (by decide)]; rw [Nat.pow_succ] at h; omega)
      omega
theorem px_len (l : List Nat) (hb : ∀ d ∈ l, d < B) : ∀ i, i ≤ l.length → (px l i).length ≤ 9 * i
  | 0, _ => by cases l <;> simp [px]
  | i + 1, hi => by
    have ih := px_len l hb i (by omega)
    have hd : l[i]? = some l[i] := List.getElem?_eq_getElem (by omega)
    rcases Nat.lt_or_ge (i + 1) l.length with h | h
    · rw [px_next l i _ hd h, List.length_append, lowk_len]; omega
    · have h1 := revD_len 8 l[i] (hb _ (List.getElem_mem _))
      rw [px_last l i _ hd (by omega), List.length_append]; omega
theorem revD_pos (d : Nat) : 1 ≤ (revD d).length := by
  by_cases h : d < 10
  · rw [revD_lt h]; simp
  · rw [revD_ge h]; simp
theorem px_pos {l : List Nat} (h : 0 < l.length) : 1 ≤ (px l l.length).length := by
  rw [px_all]
  match l, h with
  | [d], _ => exact revD_pos d
  | d :: e :: r, _ => rw [txR, List.length_append, lowk_len]; omega
/-- a number as a text -/
theorem text_eq {z : Int} (hz : digs z.natAbs ≠ []) : (px (digs z.natAbs) (digs z.natAbs).length ++ (if z < 0 then [45] else [])).reverse = Go.Lib.itoa z := by
  have hp : 0 < z.natAbs := by
    rcases Nat.eq_zero_or_pos z.natAbs with h | h
    · rw [h, digs_0] at hz; exact absurd rfl hz
    · exact h
  have ht : ∀ h : digs z.natAbs ≠ [], (digs z.natAbs).getLast h ≠ 0 := fun h => by
    have := digs_top z.natAbs (List.length_pos_iff.2 h)
    rwa [List.getLast_eq_getElem, ← Go.Tr.getD_get (d := 0)]
  rw [px_all, txR_val _ hz (digs_lt _) (by rw [valD_digs]; exact hp) ht, valD_digs]
  unfold revD
  split
  · next h => rw [itoa_neg h]; simp
  · next h => rw [itoa_pos h]; simp
end Go.Ky
