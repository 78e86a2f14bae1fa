/-
  Proved here: values as trees, their keys as texts, and that keys part what is not equal. No program stands here.
-/
import Derived.Test.YtickdimknfeddaaGreatDoorVoP
import Derived.Lib.ItoaLen
namespace Go.Ky
open Go.Lib Go.Vo
abbrev T := List UInt8
/-! numerals -/
def revD (u : Nat) : T := (decDigits u).reverse
theorem revD_lt {u : Nat} (h : u < 10) : revD u = [UInt8.ofNat (48 + u)] := by unfold revD; rw [decDigits, dif_pos h]; rfl
theorem revD_ge {u : Nat} (h : ¬u < 10) : revD u = UInt8.ofNat (48 + u % 10) :: revD (u / 10) := by unfold revD; rw [decDigits, dif_neg h]; simp
def valR : T → Nat
  | [] => 0
  | c :: l => (c.toNat - 48) + 10 * valR l
theorem dig_nat {v : Nat} (h : v < 10) : (UInt8.ofNat (48 + v)).toNat = 48 + v := by
  rw [UInt8.toNat_ofNat', Nat.mod_eq_of_lt (by omega)]
theorem valR_revD (u : Nat) : valR (revD u) = u := by
  induction u using Nat.strongRecOn with
  | _ u ih =>
    by_cases h : u < 10
    · rw [revD_lt h]
      show ((UInt8.ofNat (48 + u)).toNat - 48) + 10 * 0 = u
      rw [dig_nat h]; omega
    · rw [revD_ge h]
      show ((UInt8.ofNat (48 + u % 10)).toNat - 48) + 10 * valR (revD (u / 10)) = u
      rw [dig_nat (Nat.mod_lt _ (by decide)), ih _ (by omega)]; omega
theorem revD_dig (u : Nat) : ∀ c ∈ revD u, 48 ≤ c.toNat ∧ c.toNat ≤ 57 := by
  induction u using Nat.strongRecOn with
  | _ u ih =>
    by_cases h : u < 10
    · rw [revD_lt h]
      intro c hc
      rw [List.mem_singleton.1 hc, dig_nat h]; omega
    · rw [revD_ge h]
      intro c hc
      rcases List.mem_cons.1 hc with rfl | hc
      · have := Nat.mod_lt u (show 0 < 10 by decide)
        rw [dig_nat this]; omega
      · exact ih _ (by omega) c hc
theorem dec_dig {u : Nat} : ∀ c ∈ decDigits u, 48 ≤ c.toNat ∧ c.toNat ≤ 57 := fun c hc => revD_dig u c (List.mem_reverse.2 hc)
theorem dec_inj {a b : Nat} (h : decDigits a = decDigits b) : a = b := by
  rw [← valR_revD a, ← valR_revD b]; unfold revD; rw [h]
theorem itoa_neg {z : Int} (h : z < 0) : itoa z = 45 :: decDigits z.natAbs := by unfold itoa; rw [if_pos h]
theorem itoa_pos {z : Int} (h : ¬z < 0) : itoa z = decDigits z.natAbs := by
  unfold itoa; rw [if_neg h]
  congr 1; omega
theorem dec_no45 {u : Nat} : (45 : UInt8) ∉ decDigits u := fun h => by
  have := dec_dig _ h
  have e : (45 : UInt8).toNat = 45 := rfl
  omega
theorem itoa_inj {a b : Int} (h : itoa a = itoa b) : a = b := by
  by_cases ha : a < 0 <;> by_cases hb : b < 0
  · rw [itoa_neg ha, itoa_neg hb] at h
    injection h with _ h
    have := dec_inj h; omega
  · rw [itoa_neg ha, itoa_pos hb] at h
    exact absurd (by rw [← h]; exact List.mem_cons_self ..) (dec_no45 (u := b.natAbs))
  · rw [itoa_pos ha, itoa_neg hb] at h
    exact absurd (by rw [h]; exact List.mem_cons_self ..) (dec_no45 (u := a.natAbs))
  · rw [itoa_pos ha, itoa_pos hb] at h
    have := dec_inj h; omega
theorem itoa_no {z : Int} {c : UInt8} (hc : 58 ≤ c.toNat) : c ∉ itoa z := fun h => by
  by_cases hz : z < 0
  · rw [itoa_neg hz] at h
    rcases List.mem_cons.1 h with rfl | h
    · exact absurd hc (by decide)
    · have := dec_dig _ h; omega
  · rw [itoa_pos hz] at h
    have := dec_dig _ h; omega
theorem split_at {c : UInt8} : ∀ {a b : T} {r s : T}, c ∉ a → c ∉ b → a ++ c :: r = b ++ c :: s → a = b ∧ r = s
  | [], [], r, s, _, _, h => by injection h with _ h; exact ⟨rfl, h⟩
  | [], y :: b, r, s, _, hb, h => by injection h with h _; exact absurd (by rw [h]; exact List.mem_cons_self ..) hb
  | x :: a, [], r, s, ha, _, h => by injection h with h _; exact absurd (by rw [← h]; exact List.mem_cons_self ..) ha
  | x :: a, y :: b, r, s, ha, hb, h => by
    injection h with h1 h2
    obtain ⟨e1, e2⟩ := split_at (fun q => ha (List.mem_cons_of_mem _ q)) (fun q => hb (List.mem_cons_of_mem _ q)) h2
    exact ⟨by rw [h1, e1], e2⟩
/-! values -/
inductive Tr where
  | none
  | bool (b : Bool)
  | int (z : Int)
  | str (s : T)
  | tup (xs : List Tr)
  | list (xs : List Tr)
  | dict (ks : List T) (xs : List Tr)
mutual
/-- can it be hashed? -/
def hsh : Tr → Bool
  | .tup xs => hshL xs
  | .list _ => false
  | .dict _ _ => false
  | _ => true
def hshL : List Tr → Bool
  | [] => true
  | x :: xs => hsh x && hshL xs
end
def tf (b : Bool) : T := if b then [116, 114, 117, 101] else [102, 97, 108, 115, 101]
mutual
/-- a value's key -/
def enc : Tr → T
  | .none => [78, 59]
  | .bool b => 66 :: (tf b ++ [59])
  | .int z => 73 :: (itoa z ++ [59])
  | .str s => 83 :: (itoa s.length ++ 58 :: (s ++ [59]))
  | .tup xs => 84 :: (encL xs ++ [69, 59])
  | .list _ => []
  | .dict _ _ => []
def encL : List Tr → T
  | [] => []
  | x :: xs => enc x ++ encL xs
end
mutual
/-- how many pairs it takes to hold it against itself -/
def sz : Tr → Nat
  | .tup xs => 1 + szL xs
  | _ => 1
def szL : List Tr → Nat
  | [] => 0
  | x :: xs => sz x + szL xs
end
mutual
/-- how deep its Tuples stand -/
def dp : Tr → Nat
  | .tup xs => 1 + dpL xs
  | _ => 0
def dpL : List Tr → Nat
  | [] => 0
  | x :: xs => max (dp x) (dpL xs)
end
theorem sz_pos : ∀ t, 1 ≤ sz t
  | .none | .bool _ | .int _ | .str _ | .list _ | .dict _ _ => by simp [sz]
  | .tup xs => by simp [sz]
theorem tf_inj {a b : Bool} {r s : T} (h : tf a ++ 59 :: r = tf b ++ 59 :: s) : a = b ∧ r = s := by
  cases a <;> cases b <;> simp [tf] at h ⊢ <;> exact h
theorem enc_head : ∀ (t : Tr), hsh t = true → ∃ c r, enc t = c :: r ∧ c ≠ 69
  | .none, _ => ⟨78, [59], rfl, by decide⟩
  | .bool b, _ => ⟨66, _, rfl, by decide⟩
  | .int z, _ => ⟨73, _, rfl, by decide⟩
  | .str s, _ => ⟨83, _, rfl, by decide⟩
  | .tup xs, _ => ⟨84, _, by rw [enc], by decide⟩
  | .list _, h => by simp [hsh] at h
  | .dict _ _, h => by simp [hsh] at h
theorem app_len {a b : T} {c : UInt8} {r s : T} (hl : a.length = b.length) (h : a ++ c :: r = b ++ c :: s) : a = b ∧ r = s := by
  obtain ⟨h1, h2⟩ := List.append_inj h hl
  injection h2 with _ h2
  exact ⟨h1, h2⟩
mutual
theorem enc_inj : ∀ (t u : Tr), hsh t = true → hsh u = true → ∀ r s, enc t ++ r = enc u ++ s → t = u ∧ r = s
  | .none, u, _, hu, r, s, h => by
    cases u with
    | none => simp [enc] at h; exact ⟨rfl, h⟩
    | bool | int | str | tup => simp [enc] at h
    | list | dict => simp [hsh] at hu
  | .bool a, u, _, hu, r, s, h => by
    cases u with
    | bool b =>
      simp only [enc, List.cons_append, List.append_assoc, List.singleton_append, List.nil_append] at h
      injection h with _ h
      obtain ⟨e, h⟩ := tf_inj h
      exact ⟨by rw [e], h⟩
    | none | int | str | tup => simp [enc] at h
    | list | dict => simp [hsh] at hu
  | .int a, u, _, hu, r, s, h => by
    cases u with
    | int b =>
      simp only [enc, List.cons_append, List.append_assoc, List.nil_append] at h
      injection h with _ h
      obtain ⟨e, h⟩ := split_at (itoa_no (by decide)) (itoa_no (by decide)) h
      exact ⟨by rw [itoa_inj e], h⟩
    | none | bool | str | tup => simp [enc] at h
    | list | dict => simp [hsh] at hu
  | .str a, u, _, hu, r, s, h => by
    cases u with
    | str b =>
      simp only [enc, List.cons_append, List.append_assoc, List.nil_append] at h
      injection h with _ h
      obtain ⟨e, h⟩ := split_at (itoa_no (by decide)) (itoa_no (by decide)) h
      obtain ⟨e2, h⟩ := app_len (by have := itoa_inj e; omega) h
      exact ⟨by rw [e2], h⟩
    | none | bool | int | tup => simp [enc] at h
    | list | dict => simp [hsh] at hu
  | .tup xs, u, ht, hu, r, s, h => by
    cases u with
    | tup ys =>
      simp only [enc, List.cons_append, List.append_assoc, List.nil_append] at h
      injection h with _ h
      obtain ⟨e, h⟩ := encL_inj xs ys (by simpa [hsh] using ht) (by simpa [hsh] using hu) _ _ h
      injection h with _ h
      exact ⟨by rw [e], h⟩
    | none | bool | int | str => simp [enc] at h
    | list | dict => simp [hsh] at hu
  | .list _, _, ht, _, _, _, _ => by simp [hsh] at ht
  | .dict _ _, _, ht, _, _, _, _ => by simp [hsh] at ht
theorem encL_inj : ∀ (xs ys : List Tr), hshL xs = true → hshL ys = true → ∀ r s, encL xs ++ 69 :: r = encL ys ++ 69 :: s → xs = ys ∧ r = s
  | [], [], _, _, r, s, h => by simp [encL] at h; exact ⟨rfl, h⟩
  | [], y :: ys, _, hy, r, s, h => by
    simp only [hshL, Bool.and_eq_true] at hy
    obtain ⟨c, q, e, hc⟩ := enc_head y hy.1
    simp only [encL, e, List.cons_append, List.nil_append] at h
    injection h with h _
    exact absurd h.symm hc
  | x :: xs, [], hx, _, r, s, h => by
    simp only [hshL, Bool.and_eq_true] at hx
    obtain ⟨c, q, e, hc⟩ := enc_head x hx.1
    simp only [encL, e, List.cons_append, List.nil_append] at h
    injection h with h _
    exact absurd h hc
  | x :: xs, y :: ys, hx, hy, r, s, h => by
    simp only [hshL, Bool.and_eq_true] at hx hy
    simp only [encL, List.append_assoc] at h
    obtain ⟨e1, h⟩ := enc_inj x y hx.1 hy.1 _ _ h
    obtain ⟨e2, h⟩ := encL_inj xs ys hx.2 hy.2 _ _ h
    exact ⟨by rw [e1, e2], h⟩
end
theorem enc_eq {t u : Tr} (ht : hsh t = true) (hu : hsh u = true) : enc t = enc u ↔ t = u := ⟨fun h => (enc_inj t u ht hu [] [] (by rw [h])).1, fun h => by rw [h]⟩
/-! lists of them, one by one -/
theorem hshL_at : ∀ {xs : List Tr} {i : Nat} {x : Tr}, hshL xs = true → xs[i]? = some x → hsh x = true
  | [], i, x, _, h => by cases h
  | y :: ys, 0, x, hh, h => by cases h; simp only [hshL, Bool.and_eq_true] at hh; exact hh.1
  | y :: ys, i + 1, x, hh, h => by simp only [hshL, Bool.and_eq_true] at hh; exact hshL_at hh.2 (by simpa using h)
theorem app_snoc : ∀ (f : Tr → T) (xs : List Tr) (x : Tr), encL (xs ++ [x]) = encL xs ++ enc x
  | _, [], x => by simp [encL]
  | f, y :: ys, x => by rw [List.cons_append, encL, app_snoc f ys x, encL, List.append_assoc]
theorem szL_snoc : ∀ (xs : List Tr) (x : Tr), szL (xs ++ [x]) = szL xs + sz x
  | [], x => by simp [szL]
  | y :: ys, x => by rw [List.cons_append, szL, szL_snoc ys x, szL]; omega
theorem dpL_snoc : ∀ (xs : List Tr) (x : Tr), dpL (xs ++ [x]) = max (dpL xs) (dp x)
  | [], x => by simp [dpL]
  | y :: ys, x => by rw [List.cons_append, dpL, dpL_snoc ys x, dpL]; omega
theorem take_snoc {xs : List Tr} {i : Nat} {x : Tr} (h : xs[i]? = some x) : xs.take (i + 1) = xs.take i ++ [x] := by
  rw [List.take_add_one, h]; rfl
/-! a number's digits, as they are written down, the lowest first -/
def lowk : Nat → Nat → T
  | 0, _ => []
  | k + 1, v => UInt8.ofNat (48 + v % 10) :: lowk k (v / 10)
theorem lowk_len : ∀ (k v : Nat), (lowk k v).length = k
  | 0, _ => rfl
  | k + 1, v => by rw [lowk, List.length_cons, lowk_len k]
theorem lowk_snoc : ∀ (k v : Nat), lowk (k + 1) v = lowk k v ++ [UInt8.ofNat (48 + v / 10 ^ k % 10)]
  | 0, v => by simp [lowk]
  | k + 1, v => by
    rw [lowk, lowk_snoc k (v / 10), lowk, Nat.div_div_eq_div_mul, List.cons_append, Nat.pow_succ, Nat.mul_comm]
theorem revD_split : ∀ (k d m : Nat), d < 10 ^ k → 0 < m → revD (d + 10 ^ k * m) = lowk k d ++ revD m
  | 0, d, m, h, _ => by
    have : d = 0 := by simpa using h
    subst this
    simp [lowk]
  | k + 1, d, m, h, hm => by
    rw [Nat.pow_succ] at h ⊢
    have hp : 0 < 10 ^ k := Nat.pow_pos (by decide)
    have e : d + 10 ^ k * 10 * m = d + 10 * (10 ^ k * m) := by rw [Nat.mul_comm (10 ^ k) 10, Nat.mul_assoc]
    have hpm : 0 < 10 ^ k * m := Nat.mul_pos hp hm
    rw [e, revD_ge (by omega), lowk, Nat.add_mul_mod_self_left, Nat.add_mul_div_left _ _ (by decide), revD_split k (d / 10) m (by omega) hm]
    rfl
/-- a last digit's, the way that it is written -/
theorem revD_step {v : Nat} (h : 0 < v) : revD v = UInt8.ofNat (48 + v % 10) :: (if v / 10 = 0 then [] else revD (v / 10)) := by
  by_cases h1 : v < 10
  · rw [revD_lt h1, if_pos (by omega), Nat.mod_eq_of_lt h1]
  · rw [revD_ge h1, if_neg (by omega)]
def txR : List Nat → T
  | [] => []
  | [d] => revD d
  | d :: e :: r => lowk 9 d ++ txR (e :: r)
theorem txR_val : ∀ (l : List Nat), l ≠ [] → (∀ d ∈ l, d < B) → 0 < valD l → (∀ h : l ≠ [], l.getLast h ≠ 0) → txR l = revD (valD l)
  | [], h, _, _, _ => absurd rfl h
  | [d], _, _, _, _ => by simp [txR, valD]
  | d :: e :: r, _, hb, _, hl => by
    have hl2 : ∀ h : e :: r ≠ [], (e :: r).getLast h ≠ 0 := fun h => by have := hl (by simp); rwa [List.getLast_cons h] at this
    have hpos : 0 < valD (e :: r) := by
      rcases Nat.eq_zero_or_pos (valD (e :: r)) with h0 | h0
      · exfalso
        have key : ∀ (l : List Nat), valD l = 0 → ∀ x ∈ l, x = 0 := by
          intro l
          induction l with
          | nil => intro _ x hx; cases hx
          | cons a l ih =>
            intro h x hx
            have h : a + B * valD l = 0 := h
            have h1 : a = 0 := by omega
            have h2 : valD l = 0 := by
              rcases Nat.eq_zero_or_pos (valD l) with q | q
              · exact q
              · exfalso; have := Nat.mul_pos (show 0 < B by decide) q; omega
            rcases List.mem_cons.1 hx with rfl | hx
            · exact h1
            · exact ih h2 x hx
        exact hl2 (by simp) (key _ h0 _ (List.getLast_mem _))
      · exact h0
    rw [txR, txR_val (e :: r) (by simp) (fun x hx => hb x (List.mem_cons_of_mem _ hx)) hpos hl2]
    show _ = revD (d + B * valD (e :: r))
    rw [show B = 10 ^ 9 from rfl, revD_split 9 d _ (hb d (List.mem_cons_self ..)) hpos]
/-- digits without needless ones are a number's -/
theorem digs_val : ∀ (l : List Nat), (∀ d ∈ l, d < B) → (∀ h : l ≠ [], l.getLast h ≠ 0) → digs (valD l) = l
  | [], _, _ => digs_0
  | d :: r, hb, hl => by
    have hd := hb d (List.mem_cons_self ..)
    have ih := digs_val r (fun x hx => hb x (List.mem_cons_of_mem _ hx)) (fun h => by have := hl (by simp); rwa [List.getLast_cons h] at this)
    have hv : valD (d :: r) = d + B * valD r := rfl
    have hpos : 0 < valD (d :: r) := by
      rcases Nat.eq_zero_or_pos (valD r) with h0 | h0
      · have : r = [] := by rw [← ih, h0, digs_0]
        subst this
        have := hl (by simp)
        simp at this
        omega
      · have := Nat.mul_pos (show 0 < B by decide) h0
        omega
    rw [digs_pos hpos, hv, Nat.add_mul_mod_self_left, Nat.mod_eq_of_lt hd, Nat.add_mul_div_left _ _ (by decide), Nat.div_eq_of_lt hd, Nat.zero_add, ih]
end Go.Ky
