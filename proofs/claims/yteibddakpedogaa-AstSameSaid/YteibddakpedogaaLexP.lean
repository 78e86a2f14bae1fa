/-
  Proved here: plain functions on lists of bytes: what package lex's scanner does, step by step.
-/
import Derived.Test.YteibddakpedogaaSx
import Derived.Lib.Bytealg
namespace Go.Lex
open Go.SX
def isDig (c : Nat) : Bool := decide (48 ≤ c) && decide (c ≤ 57)
def isLet (c : Nat) : Bool := decide (97 ≤ c) && decide (c ≤ 122) || decide (65 ≤ c) && decide (c ≤ 90) || decide (c = 95)
structure Tok where
  kind : Nat
  text : List UInt8
  pos : Nat
  deriving DecidableEq
/-- the scanner -/
structure Sc where
  s : List UInt8
  pos : Nat
  out : List Tok
  blocks : List Nat
  brk : List Nat
  line : Bool
def Sc.tok (σ : Sc) (k : Nat) (t : List UInt8) (pos : Nat) : Sc := { σ with out := σ.out ++ [⟨k, t, pos⟩] }
def Sc.nl (σ : Sc) : Sc := { (if σ.line then σ.tok 5 [] σ.pos else σ) with line := false }
/-- how far a comment goes, or where it is wrong -/
def comL : List UInt8 → Nat → Except Nat Nat
  | [], i => .ok i
  | c :: r, i => if c.toNat = 10 then .ok i else if c.toNat < 32 ∨ c.toNat = 127 then .error i else comL r (i + 1)
def Sc.comment (σ : Sc) : Except Nat Sc := (comL (σ.s.drop σ.pos) σ.pos).map fun i => { σ with pos := i }
/-- how long a name or word is -/
def wordL : List UInt8 → Nat
  | [] => 0
  | c :: r => if isLet c.toNat || isDig c.toNat then wordL r + 1 else 0
/-- how long a number is; none: a letter is in it -/
def numL : List UInt8 → Option Nat
  | [] => some 0
  | c :: r => if isLet c.toNat then none else if isDig c.toNat then (numL r).map (· + 1) else some 0
def wordsList : List (List UInt8) := [[70, 97, 108, 115, 101], [78, 111, 110, 101], [84, 114, 117, 101], [97, 110, 100], [98, 114, 101, 97, 107], [99, 111, 110, 116, 105, 110, 117, 101], [100, 101, 102], [101, 108, 105, 102], [101, 108, 115, 101], [102, 111, 114], [105, 102], [105, 110], [108, 111, 97, 100], [110, 111, 116], [111, 114], [112, 97, 115, 115], [114, 101, 116, 117, 114, 110]]
def signsList : List (List UInt8) := [[61, 61], [33, 61], [60, 61], [62, 61], [43, 61], [47, 47], [60], [62], [61], [43], [45], [42], [37], [40], [41], [91], [93], [123], [125], [44], [58], [46]]
def Sc.word (σ : Sc) : Sc :=
  let n := wordL (σ.s.drop σ.pos)
  let w := (σ.s.drop σ.pos).take n
  { σ with pos := σ.pos + n }.tok (if wordsList.contains w then 4 else 1) w σ.pos
def Sc.number (σ : Sc) : Except Nat Sc :=
  match numL (σ.s.drop σ.pos) with
  | none => .error σ.pos
  | some n =>
    let w := (σ.s.drop σ.pos).take n
    if 600 < n ∨ (bt w 0 = 48 ∧ 1 < n) then .error σ.pos else .ok ({ σ with pos := σ.pos + n }.tok 2 w σ.pos)
/-- where a string ends, behind its quote -/
def endL (q : Nat) : List UInt8 → Nat → Option Nat
  | [], _ => none
  | c :: r, i =>
    if c.toNat = 10 then none else if c.toNat = q then some (i + 1) else
    if c.toNat = 92 then
      match r with
      | [] => none
      | d :: r' => if d.toNat = 10 then none else endL q r' (i + 2)
    else endL q r (i + 1)
/-- a hexadecimal digit's number -/
def hexD (c : Nat) : Option Nat := if isDig c then some (c - 48) else if 97 ≤ c ∧ c ≤ 102 then some (c - 87) else if 65 ≤ c ∧ c ≤ 70 then some (c - 55) else none
def hexL : List UInt8 → Option Nat
  | a :: b :: _ => match hexD a.toNat, hexD b.toNat with
    | some x, some y => some (16 * x + y)
    | _, _ => none
  | _ => none
/-- what stands behind a backslash: the byte, and how many bytes say it (0: it is none) -/
def pieceL : List UInt8 → Nat × Nat
  | [] => (0, 0)
  | c :: r => if c.toNat = 110 then (10, 1) else if c.toNat = 116 then (9, 1) else if c.toNat = 92 ∨ c.toNat = 34 ∨ c.toNat = 39 then (c.toNat, 1) else
    if c.toNat = 120 then match hexL r with
      | some v => (v, 3)
      | none => (0, 0)
    else (0, 0)
/-- what a string says: its body, from place i on; so many bytes are passed over first -/
def txtL : List UInt8 → Nat → Nat → List UInt8 → Except Nat (List UInt8)
  | [], _, _, acc => .ok acc
  | _ :: r, i, k + 1, acc => txtL r (i + 1) k acc
  | c :: r, i, 0, acc =>
    if c.toNat = 92 then
      if (pieceL r).2 = 0 then .error i else txtL r (i + 1) (pieceL r).2 (acc ++ [UInt8.ofNat (pieceL r).1])
    else if c.toNat < 32 ∨ c.toNat = 127 then .error i else txtL r (i + 1) 0 (acc ++ [c])
def Sc.text (σ : Sc) (q : Nat) : Except Nat Sc :=
  match endL q (σ.s.drop (σ.pos + 1)) (σ.pos + 1) with
  | none => .error σ.pos
  | some e =>
    let body := (σ.s.take (e - 1)).drop (σ.pos + 1)
    (txtL body (σ.pos + 1) 0 []).map fun t => { σ with pos := e }.tok 3 t σ.pos
/-- the sign that stands at the head -/
def signL (l : List UInt8) : List UInt8 := (signsList.find? (·.isPrefixOf l)).getD []
def Sc.found (σ : Sc) : List UInt8 := signL (σ.s.drop σ.pos)
def opens (c : Nat) : Option Nat := if c = 40 then some 41 else if c = 91 then some 93 else if c = 123 then some 125 else none
def closes (c : Nat) : Bool := decide (c = 41) || decide (c = 93) || decide (c = 125)
def Sc.sign (σ : Sc) : Except Nat Sc :=
  let x := σ.found
  if x = [] then .error σ.pos else
  let c := bt x 0
  let go (σ' : Sc) : Except Nat Sc := .ok { σ'.tok 4 x σ.pos with pos := σ.pos + x.length }
  match opens c with
  | some e => if 60 ≤ σ.brk.length then .error σ.pos else go { σ with brk := σ.brk ++ [e] }
  | none =>
    if closes c then
      if σ.brk.getLast? = some c then go { σ with brk := σ.brk.dropLast } else .error σ.pos
    else go σ
/-- how far in place i lies: behind the last newline ahead of it -/
def colL : List UInt8 → Nat → Nat
  | [], k => k
  | c :: r, k => if c.toNat = 10 then colL r 0 else colL r (k + 1)
def Sc.col (σ : Sc) : Nat := colL (σ.s.take σ.pos) 0
def Sc.begins (σ : Sc) : Bool :=
  let c := bt σ.s σ.pos
  isLet c || isDig c || decide (c = 34) || decide (c = 39) || decide (σ.found ≠ [])
/-- blocks are left, innermost first, while a line is less far in -/
def Sc.outdent (i : Nat) : Nat → Sc → Sc
  | 0, σ => σ
  | f + 1, σ => if i < σ.blocks.getLastD 0 then Sc.outdent i f ({ σ with blocks := σ.blocks.dropLast }.tok 7 [] σ.pos) else σ
def Sc.begin (σ : Sc) : Except Nat Sc :=
  if !σ.begins then .error σ.pos else
  let i := σ.col
  let σ1 := { σ with line := true }
  if σ.blocks.getLastD 0 < i then
    if 60 < σ.blocks.length then .error σ.pos else .ok ({ σ1 with blocks := σ.blocks ++ [i] }.tok 6 [] σ.pos)
  else
    let σ2 := Sc.outdent i σ1.blocks.length σ1
    if i = σ2.blocks.getLastD 0 then .ok σ2 else .error σ.pos
def Sc.token (σ : Sc) (c : Nat) : Except Nat Sc :=
  if isLet c then .ok σ.word else if isDig c then σ.number else if c = 34 ∨ c = 39 then σ.text c else σ.sign
def Sc.step (σ : Sc) : Except Nat Sc :=
  let c := bt σ.s σ.pos
  if c = 10 then .ok (let σ1 := if σ.brk = [] then σ.nl else σ; { σ1 with pos := σ.pos + 1 })
  else if c = 32 then .ok { σ with pos := σ.pos + 1 }
  else if c = 35 then σ.comment
  else if σ.line then σ.token c
  else match σ.begin with
    | .error e => .error e
    | .ok σ1 => σ1.token c
def Sc.loop : Nat → Sc → Except Nat Sc
  | 0, σ => .ok σ
  | f + 1, σ => if σ.pos < σ.s.length then match σ.step with
    | .error e => .error e
    | .ok σ1 => Sc.loop f σ1
    else .ok σ
def Sc.start (s : List UInt8) : Sc := ⟨s, 0, [], [0], [], false⟩
def dedents (n : Nat) (p : Nat) : List Tok := List.replicate n ⟨7, [], p⟩
/-- a text's tokens, or where it is wrong -/
def scan (s : List UInt8) : Except Nat (List Tok) :=
  match Sc.loop s.length (Sc.start s) with
  | .error e => .error e
  | .ok σ =>
    if σ.brk ≠ [] then .error s.length
    else .ok (σ.nl.out ++ dedents (σ.blocks.length - 1) s.length ++ [⟨8, [], s.length⟩])

/-! loops, a step at a time -/
theorem drop_bt {s : List UInt8} {k : Nat} (h : k < s.length) : s.drop k = s.getD k 0 :: s.drop (k + 1) := by
  rw [List.drop_eq_getElem_cons h]
  simp [List.getD, h]
theorem comL_next {s : List UInt8} {k : Nat} (h : k < s.length) (h1 : bt s k ≠ 10) (h2 : 32 ≤ bt s k) (h3 : bt s k ≠ 127) : comL (s.drop (k + 1)) (k + 1) = comL (s.drop k) k := by
  unfold bt at *
  rw [drop_bt h, comL, if_neg h1, if_neg (by omega)]
theorem Sc.comment_ok {σ : Sc} {k : Nat} (h : comL (σ.s.drop k) k = comL (σ.s.drop σ.pos) σ.pos) (hk : k < σ.s.length → bt σ.s k = 10) : σ.comment = .ok { σ with pos := k } := by
  have : comL (σ.s.drop k) k = .ok k := by
    by_cases hlt : k < σ.s.length
    · have := hk hlt
      unfold bt at this
      rw [drop_bt hlt]
      rw [comL, if_pos this]
    · rw [List.drop_of_length_le (by omega)]
      rfl
  unfold Sc.comment
  rw [← h, this]; rfl
theorem Sc.comment_bad {σ : Sc} {k : Nat} (h : comL (σ.s.drop k) k = comL (σ.s.drop σ.pos) σ.pos) (hk : k < σ.s.length) (h1 : bt σ.s k ≠ 10) (h2 : bt σ.s k < 32 ∨ bt σ.s k = 127) : σ.comment = .error k := by
  have : comL (σ.s.drop k) k = .error k := by
    unfold bt at *
    rw [drop_bt hk]
    rw [comL, if_neg h1, if_pos h2]
  unfold Sc.comment
  rw [← h, this]; rfl

/-! leaves -/
/-- the place of a text among others, -1: it is none of them -/
def idxI (x : List UInt8) : List (List UInt8) → Nat → Int
  | [], _ => -1
  | y :: r, i => if x = y then (i : Int) else idxI x r (i + 1)
theorem idxI_ge (x : List UInt8) : ∀ (l : List (List UInt8)) (i : Nat), (0 ≤ idxI x l i ↔ x ∈ l) ∧ -1 ≤ idxI x l i
  | [], i => by simp [idxI]
  | y :: r, i => by
    have ih := idxI_ge x r (i + 1)
    unfold idxI
    split
    · rename_i h; subst h; exact ⟨by simp, by omega⟩
    · rename_i h
      exact ⟨by rw [ih.1]; simp [h], ih.2⟩
theorem idxI_next {x : List UInt8} {l : List (List UInt8)} {k : Nat} (h : k < l.length) (hne : x ≠ l.getD k []) : idxI x (l.drop (k + 1)) (k + 1) = idxI x (l.drop k) k := by
  rw [List.drop_eq_getElem_cons h, idxI, if_neg (by simpa [List.getD, h] using hne)]
theorem idxI_hit {x : List UInt8} {l : List (List UInt8)} {k : Nat} (h : k < l.length) (he : x = l.getD k []) : idxI x (l.drop k) k = (k : Int) := by
  rw [List.drop_eq_getElem_cons h, idxI, if_pos (by simpa [List.getD, h] using he)]
theorem idxI_end {x : List UInt8} {l : List (List UInt8)} {k : Nat} (h : l.length ≤ k) : idxI x (l.drop k) k = -1 := by
  rw [List.drop_of_length_le h]; rfl
/-- the last place of a byte in the first k of a text, -1: none -/
def lastI (s : List UInt8) (c : Nat) : Nat → Int
  | 0 => -1
  | k + 1 => if bt s k = c then (k : Int) else lastI s c k
theorem lastI_ge (s : List UInt8) (c k : Nat) : -1 ≤ lastI s c k ∧ lastI s c k < k := by
  induction k with
  | zero => simp [lastI]
  | succ k ih => unfold lastI; split <;> omega

theorem prefix_take (x s : List UInt8) : (decide (x.length ≤ s.length) && decide (s.take x.length = x)) = x.isPrefixOf s := by
  rw [Bool.eq_iff_iff]
  simp only [Bool.and_eq_true, decide_eq_true_eq, List.isPrefixOf_iff_prefix]
  constructor
  · rintro ⟨_, h⟩; rw [← h]; exact List.take_prefix _ _
  · intro h; exact ⟨h.length_le, (List.prefix_iff_eq_take.1 h).symm⟩
/-- the first of some signs that stands at the head -/
def firstS (l : List UInt8) : List (List UInt8) → List UInt8
  | [] => []
  | x :: r => if x.isPrefixOf l then x else firstS l r
theorem firstS_eq (l : List UInt8) : ∀ ss : List (List UInt8), firstS l ss = (ss.find? (·.isPrefixOf l)).getD []
  | [] => rfl
  | x :: r => by
    unfold firstS
    rw [List.find?_cons]
    split
    · rename_i h; simp [h]
    · rename_i h; simp [h, firstS_eq l r]
theorem firstS_hit {l : List UInt8} {ss : List (List UInt8)} {k : Nat} (h : k < ss.length) (hp : (ss.getD k []).isPrefixOf l = true) : firstS l (ss.drop k) = ss.getD k [] := by
  rw [List.drop_eq_getElem_cons h, firstS, if_pos (by simpa [List.getD, h] using hp)]
  simp [List.getD, h]
theorem firstS_next {l : List UInt8} {ss : List (List UInt8)} {k : Nat} (h : k < ss.length) (hp : (ss.getD k []).isPrefixOf l = false) : firstS l (ss.drop (k + 1)) = firstS l (ss.drop k) := by
  have hp' : ss[k].isPrefixOf l = false := by simpa [List.getD, h] using hp
  rw [List.drop_eq_getElem_cons h, firstS, if_neg (by rw [hp']; simp)]
theorem endL_cons (q : Nat) (c : UInt8) (r : List UInt8) (i : Nat) : endL q (c :: r) i = if c.toNat = 10 then none else if c.toNat = q then some (i + 1) else
    if c.toNat = 92 then (match r with
      | [] => none
      | d :: r' => if d.toNat = 10 then none else endL q r' (i + 2)) else endL q r (i + 1) := by
  cases r <;> simp only [endL]
theorem endL_eq {q : Nat} {s : List UInt8} {i : Nat} : endL q (s.drop i) i = if i < s.length then (if bt s i = 10 then none else if bt s i = q then some (i + 1) else if bt s i = 92 then (if i + 1 < s.length then (if bt s (i + 1) = 10 then none else endL q (s.drop (i + 2)) (i + 2)) else none) else endL q (s.drop (i + 1)) (i + 1)) else none := by
  by_cases hi : i < s.length
  · rw [if_pos hi, drop_bt hi, endL_cons]
    unfold bt
    by_cases h1 : (s.getD i 0).toNat = 10
    · rw [if_pos h1, if_pos h1]
    · rw [if_neg h1, if_neg h1]
      by_cases h2 : (s.getD i 0).toNat = q
      · rw [if_pos h2, if_pos h2]
      · rw [if_neg h2, if_neg h2]
        by_cases h3 : (s.getD i 0).toNat = 92
        · rw [if_pos h3, if_pos h3]
          by_cases h4 : i + 1 < s.length
          · rw [drop_bt h4, if_pos h4]
          · rw [if_neg h4, List.drop_of_length_le (by omega)]
        · rw [if_neg h3, if_neg h3]
  · rw [if_neg hi, List.drop_of_length_le (by omega)]; rfl

def hexes : List UInt8 := [48, 49, 50, 51, 52, 53, 54, 55, 56, 57, 97, 98, 99, 100, 101, 102]
theorem hex_idx : ∀ c : Nat, c < 256 → (decide (Lib.indexByte hexes (c ||| 32).toUInt8 < 0) || decide (c < 48)) = (hexD c).isNone ∧ ((hexD c).isSome = true → Lib.indexByte hexes (c ||| 32).toUInt8 = (((hexD c).getD 0 : Nat) : Int) ∧ (hexD c).getD 0 < 16) := by
  decide +kernel
theorem hex_or : ∀ a : Nat, a < 16 → ∀ b : Nat, b < 16 → ((a * 2 ^ 4) % 256) ||| b = 16 * a + b := by decide +kernel
theorem bt_lt (s : List UInt8) (i : Nat) : bt s i < 256 := UInt8.toNat_lt _
/-- the number that the first i hexadecimal digits say -/
def hexN (s : List UInt8) : Nat → Nat
  | 0 => 0
  | i + 1 => 16 * hexN s i + (hexD (bt s i)).getD 0
theorem hexL_eq {s : List UInt8} (h : 2 ≤ s.length) : hexL s = match hexD (bt s 0), hexD (bt s 1) with
    | some x, some y => some (16 * x + y)
    | _, _ => none := by
  match s, h with
  | a :: b :: r, _ => rfl
theorem bt_zero (c : UInt8) (r : List UInt8) : bt (c :: r) 0 = c.toNat := rfl

theorem wordL_next {s : List UInt8} {k : Nat} (h : k < s.length) (hc : isLet (bt s k) = true ∨ isDig (bt s k) = true) : k + 1 + wordL (s.drop (k + 1)) = k + wordL (s.drop k) := by
  unfold bt at hc
  rw [drop_bt h, wordL, if_pos (by simpa using hc)]; omega
theorem wordL_end {s : List UInt8} {k : Nat} (hc : k < s.length → isLet (bt s k) = false ∧ isDig (bt s k) = false) : wordL (s.drop k) = 0 := by
  by_cases h : k < s.length
  · have := hc h
    unfold bt at this
    rw [drop_bt h, wordL, if_neg (by rw [this.1, this.2]; simp)]
  · rw [List.drop_of_length_le (by omega)]; rfl
theorem wordL_le (l : List UInt8) : wordL l ≤ l.length := by
  induction l with
  | nil => simp [wordL]
  | cons c r ih => unfold wordL; split <;> simp <;> omega
theorem numL_next {s : List UInt8} {k : Nat} (h : k < s.length) (hc : isDig (bt s k) = true) (hl : isLet (bt s k) = false) : numL (s.drop k) = (numL (s.drop (k + 1))).map (· + 1) := by
  unfold bt at *
  rw [drop_bt h, numL, if_neg (by rw [hl]; simp), if_pos hc]
theorem numL_bad {s : List UInt8} {k : Nat} (h : k < s.length) (hl : isLet (bt s k) = true) : numL (s.drop k) = none := by
  unfold bt at *
  rw [drop_bt h, numL, if_pos hl]
theorem numL_end {s : List UInt8} {k : Nat} (hc : k < s.length → isLet (bt s k) = false ∧ isDig (bt s k) = false) : numL (s.drop k) = some 0 := by
  by_cases h : k < s.length
  · have := hc h
    unfold bt at this
    rw [drop_bt h, numL, if_neg (by rw [this.1]; simp), if_neg (by rw [this.2]; simp)]
  · rw [List.drop_of_length_le (by omega)]; rfl
theorem take_drop (s : List UInt8) (a n : Nat) : (s.take (a + n)).drop a = (s.drop a).take n := by
  rw [List.drop_take, Nat.add_sub_cancel_left]
theorem bt_take {s : List UInt8} {n i : Nat} (h : i < n) : bt (s.take n) i = bt s i := by
  unfold bt
  simp [List.getD, h]

theorem Sc.word_eq {σ : Sc} {k : Nat} (h : k + wordL (σ.s.drop k) = σ.pos + wordL (σ.s.drop σ.pos)) (hk : k < σ.s.length → isLet (bt σ.s k) = false ∧ isDig (bt σ.s k) = false) (kind : Nat)
    (hkind : kind = if (σ.s.take k).drop σ.pos ∈ wordsList then 4 else 1) : { σ with pos := k }.tok kind ((σ.s.take k).drop σ.pos) σ.pos = σ.word := by
  rw [wordL_end hk, Nat.add_zero] at h
  subst h
  subst hkind
  unfold Sc.word
  simp only [take_drop, List.contains_iff_mem]
theorem Sc.number_ok {σ : Sc} {k : Nat} (hkp : σ.pos ≤ k) (hkl : k ≤ σ.s.length) (h : numL (σ.s.drop σ.pos) = (numL (σ.s.drop k)).map (· + (k - σ.pos))) (hk : k < σ.s.length → isLet (bt σ.s k) = false ∧ isDig (bt σ.s k) = false)
    (hn : ¬ (600 < ((σ.s.take k).drop σ.pos).length ∨ (bt ((σ.s.take k).drop σ.pos) 0 = 48 ∧ 1 < ((σ.s.take k).drop σ.pos).length))) : σ.number = .ok ({ σ with pos := k }.tok 2 ((σ.s.take k).drop σ.pos) σ.pos) := by
  rw [numL_end hk] at h
  simp only [Option.map_some, Nat.zero_add] at h
  have hl : ((σ.s.take k).drop σ.pos).length = k - σ.pos := by simp; omega
  rw [hl] at hn
  have e : (σ.s.drop σ.pos).take (k - σ.pos) = (σ.s.take k).drop σ.pos := by rw [← take_drop, Nat.add_sub_cancel' hkp]
  unfold Sc.number
  rw [h]
  simp only [e]
  rw [if_neg hn, Nat.add_sub_cancel' hkp]
theorem Sc.number_bad {σ : Sc} {k : Nat} (hkp : σ.pos ≤ k) (hkl : k ≤ σ.s.length) (h : numL (σ.s.drop σ.pos) = (numL (σ.s.drop k)).map (· + (k - σ.pos))) (hk : k < σ.s.length → isLet (bt σ.s k) = false ∧ isDig (bt σ.s k) = false)
    (hn : 600 < ((σ.s.take k).drop σ.pos).length ∨ (bt ((σ.s.take k).drop σ.pos) 0 = 48 ∧ 1 < ((σ.s.take k).drop σ.pos).length)) : σ.number = .error σ.pos := by
  rw [numL_end hk] at h
  simp only [Option.map_some, Nat.zero_add] at h
  have hl : ((σ.s.take k).drop σ.pos).length = k - σ.pos := by simp; omega
  rw [hl] at hn
  have e : (σ.s.drop σ.pos).take (k - σ.pos) = (σ.s.take k).drop σ.pos := by rw [← take_drop, Nat.add_sub_cancel' hkp]
  unfold Sc.number
  rw [h]
  simp only [e]
  rw [if_pos hn]
theorem Sc.number_bad2 {σ : Sc} {k : Nat} (h : numL (σ.s.drop σ.pos) = (numL (σ.s.drop k)).map (· + (k - σ.pos))) (hk : k < σ.s.length) (hl : isLet (bt σ.s k) = true) : σ.number = .error σ.pos := by
  rw [numL_bad hk hl] at h
  unfold Sc.number
  rw [h]
  rfl
theorem numL_step {s : List UInt8} {p k : Nat} (hp : p ≤ k) (h : numL (s.drop p) = (numL (s.drop k)).map (· + (k - p))) (hk : k < s.length) (hc : isDig (bt s k) = true) (hl : isLet (bt s k) = false) : numL (s.drop p) = (numL (s.drop (k + 1))).map (· + (k + 1 - p)) := by
  rw [h, numL_next hk hc hl, Option.map_map]
  congr 1
  funext q
  simp only [Function.comp]
  omega

theorem endL_bd {q : Nat} : ∀ (l : List UInt8) (i e : Nat), endL q l i = some e → i < e ∧ e ≤ i + l.length
  | [], i, e, h => by cases h
  | [c], i, e, h => by
    rw [endL_cons] at h
    split at h
    · cases h
    · split at h
      · cases h; simp
      · split at h
        · cases h
        · cases h
  | c :: d :: r, i, e, h => by
    rw [endL_cons] at h
    split at h
    · cases h
    · split at h
      · cases h; simp
      · split at h
        · simp only at h
          split at h
          · cases h
          · have := endL_bd r (i + 2) e h
            simp; omega
        · have := endL_bd (d :: r) (i + 1) e h
          simp at this ⊢; omega
theorem txtL_skip : ∀ (k : Nat) (l : List UInt8) (i : Nat) (acc : List UInt8), k ≤ l.length → txtL l i k acc = txtL (l.drop k) (i + k) 0 acc
  | 0, l, i, acc, _ => rfl
  | k + 1, [], i, acc, h => by simp at h
  | k + 1, c :: r, i, acc, h => by
    rw [txtL, txtL_skip k r (i + 1) acc (by simpa using h), List.drop_succ_cons, show i + 1 + k = i + (k + 1) by omega]
theorem hexL_len {l : List UInt8} {v : Nat} (h : hexL l = some v) : 2 ≤ l.length := by
  match l, h with
  | [], h => cases h
  | [a], h => cases h
  | a :: b :: r, _ => simp
theorem pieceL_len (l : List UInt8) : (pieceL l).2 ≤ l.length := by
  cases l with
  | nil => simp [pieceL]
  | cons c r =>
    simp only [pieceL]
    cases hh : hexL r with
    | none => (repeat' split) <;> first | (simp; done) | (exfalso; simp_all; done)
    | some v =>
      have := hexL_len hh
      (repeat' split) <;> first | (simp; done) | (simp; omega) | (exfalso; simp_all; done)
theorem hexD_lt {c v : Nat} (h : hexD c = some v) : v < 16 := by
  unfold hexD isDig at h
  split at h
  · rename_i h1; simp at h1; cases h; omega
  · split at h
    · cases h; omega
    · split at h
      · cases h; omega
      · cases h
theorem hexL_lt {l : List UInt8} {v : Nat} (h : hexL l = some v) : v < 256 := by
  have hl := hexL_len h
  rw [hexL_eq hl] at h
  cases e0 : hexD (bt l 0) with
  | none => rw [e0] at h; cases h
  | some a =>
    cases e1 : hexD (bt l 1) with
    | none => rw [e0, e1] at h; cases h
    | some b =>
      rw [e0, e1] at h
      cases h
      have := hexD_lt e0
      have := hexD_lt e1
      omega
theorem pieceL_lt (l : List UInt8) : (pieceL l).1 < 256 := by
  cases l with
  | nil => simp [pieceL]
  | cons c r =>
    simp only [pieceL]
    cases hh : hexL r with
    | none => (repeat' split) <;> first | (simp; done) | exact UInt8.toNat_lt _ | (exfalso; simp_all; done)
    | some v =>
      have := hexL_lt hh
      (repeat' split) <;> first | exact this | (simp; done) | exact UInt8.toNat_lt _ | (rename_i heq; cases heq; exact this) | (exfalso; simp_all; done)
theorem drop_take_bt {s : List UInt8} {m i : Nat} (h : i < m) (hm : m ≤ s.length) : (s.take m).drop i = s.getD i 0 :: (s.take m).drop (i + 1) := by
  rw [drop_bt (by simp; omega)]
  simp [List.getD, h]
theorem txt_plain {s : List UInt8} {m i : Nat} {acc : List UInt8} (h : i < m) (hm : m ≤ s.length) (h1 : bt s i ≠ 92) (h2 : ¬ (bt s i < 32 ∨ bt s i = 127)) :
    txtL ((s.take m).drop i) i 0 acc = txtL ((s.take m).drop (i + 1)) (i + 1) 0 (acc ++ [s.getD i 0]) := by
  unfold bt at h1 h2
  rw [drop_take_bt h hm, txtL, if_neg h1, if_neg h2]
theorem txt_bad {s : List UInt8} {m i : Nat} {acc : List UInt8} (h : i < m) (hm : m ≤ s.length) (h1 : bt s i ≠ 92) (h2 : bt s i < 32 ∨ bt s i = 127) : txtL ((s.take m).drop i) i 0 acc = .error i := by
  unfold bt at h1 h2
  rw [drop_take_bt h hm, txtL, if_neg h1, if_pos h2]
theorem txt_esc {s : List UInt8} {m i : Nat} {acc : List UInt8} (h : i < m) (hm : m ≤ s.length) (h1 : bt s i = 92) (h2 : (pieceL ((s.take m).drop (i + 1))).2 ≠ 0) :
    txtL ((s.take m).drop i) i 0 acc = txtL ((s.take m).drop (i + (pieceL ((s.take m).drop (i + 1))).2 + 1)) (i + (pieceL ((s.take m).drop (i + 1))).2 + 1) 0 (acc ++ [UInt8.ofNat (pieceL ((s.take m).drop (i + 1))).1]) := by
  unfold bt at h1
  rw [drop_take_bt h hm, txtL, if_pos h1, if_neg h2, txtL_skip _ _ _ _ (pieceL_len _), List.drop_drop]
  have : i + 1 + (pieceL ((s.take m).drop (i + 1))).2 = i + (pieceL ((s.take m).drop (i + 1))).2 + 1 := by omega
  rw [this]
theorem txt_esc_bad {s : List UInt8} {m i : Nat} {acc : List UInt8} (h : i < m) (hm : m ≤ s.length) (h1 : bt s i = 92) (h2 : (pieceL ((s.take m).drop (i + 1))).2 = 0) : txtL ((s.take m).drop i) i 0 acc = .error i := by
  unfold bt at h1
  rw [drop_take_bt h hm, txtL, if_pos h1, if_pos h2]
theorem txt_end {s : List UInt8} {m i : Nat} {acc : List UInt8} (h : m ≤ i) : txtL ((s.take m).drop i) i 0 acc = .ok acc := by
  rw [List.drop_of_length_le (by simp; omega)]; rfl
theorem txt_esc_lt {s : List UInt8} {m i : Nat} (h : i < m) (hm : m ≤ s.length) : i + (pieceL ((s.take m).drop (i + 1))).2 + 1 ≤ m := by
  have := pieceL_len ((s.take m).drop (i + 1))
  simp at this; omega
theorem Sc.text_bad {σ : Sc} {q e pos : Nat} (he : endL q (σ.s.drop (σ.pos + 1)) (σ.pos + 1) = some e) (h : txtL ((σ.s.take (e - 1)).drop (σ.pos + 1)) (σ.pos + 1) 0 [] = .error pos) : σ.text q = .error pos := by
  unfold Sc.text
  rw [he]
  simp only [h]
  rfl
theorem Sc.text_none {σ : Sc} {q : Nat} (he : endL q (σ.s.drop (σ.pos + 1)) (σ.pos + 1) = none) : σ.text q = .error σ.pos := by
  unfold Sc.text
  rw [he]
theorem Sc.text_ok {σ : Sc} {q e : Nat} {t : List UInt8} (he : endL q (σ.s.drop (σ.pos + 1)) (σ.pos + 1) = some e) (h : txtL ((σ.s.take (e - 1)).drop (σ.pos + 1)) (σ.pos + 1) 0 [] = .ok t) : σ.text q = .ok ({ σ with pos := e }.tok 3 t σ.pos) := by
  unfold Sc.text
  rw [he]
  simp only [h]
  rfl

/-! signs -/
theorem opens_yes : ∀ c : Nat, c < 256 → 0 ≤ Lib.indexByte [40, 91, 123] c.toUInt8 → Lib.indexByte [40, 91, 123] c.toUInt8 = (((Lib.indexByte [40, 91, 123] c.toUInt8).toNat : Nat) : Int) ∧ (Lib.indexByte [40, 91, 123] c.toUInt8).toNat < 3 ∧
    opens c = some (bt [41, 93, 125] (Lib.indexByte [40, 91, 123] c.toUInt8).toNat) ∧ Lib.indexByte [41, 93, 125] c.toUInt8 < 0 := by decide +kernel
theorem opens_ex (c : Nat) (h : c < 256) (h0 : 0 ≤ Lib.indexByte [40, 91, 123] c.toUInt8) : ∃ k : Nat, Lib.indexByte [40, 91, 123] c.toUInt8 = (k : Int) ∧ k < 3 ∧ opens c = some (bt [41, 93, 125] k) ∧ Lib.indexByte [41, 93, 125] c.toUInt8 < 0 := ⟨_, opens_yes c h h0⟩
theorem opens_no : ∀ c : Nat, c < 256 → Lib.indexByte [40, 91, 123] c.toUInt8 < 0 → opens c = none := by decide +kernel
theorem closes_yes : ∀ c : Nat, c < 256 → 0 ≤ Lib.indexByte [41, 93, 125] c.toUInt8 → closes c = true := by decide +kernel
theorem closes_no : ∀ c : Nat, c < 256 → Lib.indexByte [41, 93, 125] c.toUInt8 < 0 → closes c = false := by decide +kernel
theorem signL_len (l : List UInt8) : (signL l).length ≤ 2 := by
  unfold signL
  cases h : signsList.find? (·.isPrefixOf l) with
  | none => simp
  | some x =>
    have := List.mem_of_find?_eq_some h
    have h2 : ∀ x ∈ signsList, x.length ≤ 2 := by decide
    exact h2 x this
theorem last_get {l : List Nat} (h : 0 < l.length) : l.getLast? = some (l.getD (l.length - 1) 0) := by
  rw [List.getLast?_eq_getElem?]; simp only [List.getD]; rw [List.getElem?_eq_getElem (by omega)]; rfl
theorem lastD_get {l : List Nat} (h : 0 < l.length) : l.getLastD 0 = l.getD (l.length - 1) 0 := by
  rw [List.getLastD_eq_getLast?, last_get h]; rfl
theorem Sc.sign_none {σ : Sc} (h : signL (σ.s.drop σ.pos) = []) : σ.sign = .error σ.pos := by simp [Sc.sign, Sc.found, h]
theorem Sc.sign_deep {σ : Sc} {e : Nat} (h : signL (σ.s.drop σ.pos) ≠ []) (ho : opens (bt (signL (σ.s.drop σ.pos)) 0) = some e) (hb : 60 ≤ σ.brk.length) : σ.sign = .error σ.pos := by simp [Sc.sign, Sc.found, h, ho, hb]
theorem Sc.sign_open {σ : Sc} {e : Nat} (h : signL (σ.s.drop σ.pos) ≠ []) (ho : opens (bt (signL (σ.s.drop σ.pos)) 0) = some e) (hb : σ.brk.length < 60) : σ.sign = .ok { ({ σ with brk := σ.brk ++ [e] } : Sc).tok 4 (signL (σ.s.drop σ.pos)) σ.pos with pos := σ.pos + (signL (σ.s.drop σ.pos)).length } := by
  simp [Sc.sign, Sc.found, h, ho, Nat.not_le.2 hb]
theorem Sc.sign_plain {σ : Sc} (h : signL (σ.s.drop σ.pos) ≠ []) (ho : opens (bt (signL (σ.s.drop σ.pos)) 0) = none) (hc : closes (bt (signL (σ.s.drop σ.pos)) 0) = false) : σ.sign = .ok { σ.tok 4 (signL (σ.s.drop σ.pos)) σ.pos with pos := σ.pos + (signL (σ.s.drop σ.pos)).length } := by
  simp [Sc.sign, Sc.found, h, ho, hc]
theorem Sc.sign_close {σ : Sc} (h : signL (σ.s.drop σ.pos) ≠ []) (ho : opens (bt (signL (σ.s.drop σ.pos)) 0) = none) (hc : closes (bt (signL (σ.s.drop σ.pos)) 0) = true) (hl : 0 < σ.brk.length) (he : σ.brk.getD (σ.brk.length - 1) 0 = bt (signL (σ.s.drop σ.pos)) 0) :
    σ.sign = .ok { ({ σ with brk := σ.brk.dropLast } : Sc).tok 4 (signL (σ.s.drop σ.pos)) σ.pos with pos := σ.pos + (signL (σ.s.drop σ.pos)).length } := by
  simp only [Sc.sign, Sc.found, if_neg h, ho, hc, if_true, last_get hl, he]
theorem Sc.sign_shut {σ : Sc} (h : signL (σ.s.drop σ.pos) ≠ []) (ho : opens (bt (signL (σ.s.drop σ.pos)) 0) = none) (hc : closes (bt (signL (σ.s.drop σ.pos)) 0) = true) (hl : σ.brk.length = 0 ∨ (0 < σ.brk.length ∧ σ.brk.getD (σ.brk.length - 1) 0 ≠ bt (signL (σ.s.drop σ.pos)) 0)) :
    σ.sign = .error σ.pos := by
  rcases hl with hl | ⟨hl, he⟩
  · rw [List.length_eq_zero_iff] at hl
    simp [Sc.sign, Sc.found, h, ho, hc, hl]
  · simp only [Sc.sign, Sc.found, if_neg h, ho, hc, if_true, last_get hl, Option.some.injEq, if_neg he]
theorem shut_of {l : List Nat} {c : Nat} (h : (l.length : Int) - 1 < 0 ∨ ¬ l[l.length - 1]?.getD 0 = c) : l.length = 0 ∨ (0 < l.length ∧ l.getD (l.length - 1) 0 ≠ c) := by
  rcases Nat.eq_zero_or_pos l.length with h0 | h0
  · exact .inl h0
  · rcases h with h | h
    · omega
    · exact .inr ⟨h0, by simpa [List.getD] using h⟩
theorem shut_no {l : List Nat} {c : Nat} (h : 1 ≤ (l.length : Int) ∧ l[l.length - 1]?.getD 0 = c) : 0 < l.length ∧ l.getD (l.length - 1) 0 = c :=
  ⟨by omega, by simpa [List.getD] using h.2⟩

/-! the head of a line -/
theorem colL_snoc : ∀ (l : List UInt8) (c : UInt8) (k : Nat), colL (l ++ [c]) k = if c.toNat = 10 then 0 else colL l k + 1
  | [], c, k => by simp [colL]
  | d :: r, c, k => by
    rw [List.cons_append, colL, colL]
    by_cases h : d.toNat = 10
    · rw [if_pos h, if_pos h, colL_snoc r c 0]
    · rw [if_neg h, if_neg h, colL_snoc r c (k + 1)]
theorem col_lastI (l : List UInt8) : ∀ n : Nat, n ≤ l.length → (colL (l.take n) 0 : Int) + (lastI l 10 n + 1) = n
  | 0, _ => by simp [colL, lastI]
  | n + 1, h => by
    have ih := col_lastI l n (by omega)
    have ht : l.take (n + 1) = l.take n ++ [l.getD n 0] := by
      rw [List.take_add_one]; simp [List.getD, show n < l.length by omega]
    rw [ht, colL_snoc, lastI]
    unfold bt
    split
    · simp
    · push_cast; omega
theorem Sc.col_eq {σ : Sc} (h : σ.pos ≤ σ.s.length) : (σ.col : Int) + (lastI (σ.s.take σ.pos) 10 (σ.s.take σ.pos).length + 1) = σ.pos := by
  have h1 := col_lastI (σ.s.take σ.pos) (σ.s.take σ.pos).length (Nat.le_refl _)
  rw [List.take_length] at h1
  have h2 : (σ.s.take σ.pos).length = σ.pos := by simp; omega
  rw [h2] at h1 ⊢
  exact h1
theorem Sc.begin_bad {σ : Sc} (h : σ.begins = false) : σ.begin = .error σ.pos := by simp [Sc.begin, h]
theorem Sc.begin_deep {σ : Sc} (h : σ.begins = true) (hc : σ.blocks.getLastD 0 < σ.col) (hl : 60 < σ.blocks.length) : σ.begin = .error σ.pos := by
  unfold Sc.begin; simp only [h, Bool.not_true, Bool.false_eq_true, if_false, if_pos hc, if_pos hl]
theorem Sc.begin_in {σ : Sc} (h : σ.begins = true) (hc : σ.blocks.getLastD 0 < σ.col) (hl : σ.blocks.length ≤ 60) : σ.begin = .ok (({ σ with line := true, blocks := σ.blocks ++ [σ.col] } : Sc).tok 6 [] σ.pos) := by
  unfold Sc.begin; simp only [h, Bool.not_true, Bool.false_eq_true, if_false, if_pos hc, if_neg (Nat.not_lt.2 hl)]
theorem Sc.begin_out {σ σ2 : Sc} (h : σ.begins = true) (hc : σ.col ≤ σ.blocks.getLastD 0) (h2 : Sc.outdent σ.col σ.blocks.length { σ with line := true } = σ2) (hi : σ.col = σ2.blocks.getLastD 0) : σ.begin = .ok σ2 := by
  unfold Sc.begin; simp only [h, Bool.not_true, Bool.false_eq_true, if_false, if_neg (Nat.not_lt.2 hc), h2]; exact if_pos hi
theorem Sc.begin_err {σ σ2 : Sc} (h : σ.begins = true) (hc : σ.col ≤ σ.blocks.getLastD 0) (h2 : Sc.outdent σ.col σ.blocks.length { σ with line := true } = σ2) (hi : σ.col ≠ σ2.blocks.getLastD 0) : σ.begin = .error σ.pos := by
  unfold Sc.begin; simp only [h, Bool.not_true, Bool.false_eq_true, if_false, if_neg (Nat.not_lt.2 hc), h2]; exact if_neg hi
theorem outdent_step {i : Nat} {σ : Sc} (hl : 0 < σ.blocks.length) (h : i < σ.blocks.getLastD 0) : Sc.outdent i σ.blocks.length σ = Sc.outdent i σ.blocks.dropLast.length (({ σ with blocks := σ.blocks.dropLast } : Sc).tok 7 [] σ.pos) := by
  rw [List.length_dropLast]
  obtain ⟨n, hn⟩ : ∃ n, σ.blocks.length = n + 1 := ⟨σ.blocks.length - 1, by omega⟩
  rw [hn, Sc.outdent, if_pos h]; rfl
theorem outdent_end {i n : Nat} {σ : Sc} (h : ¬ i < σ.blocks.getLastD 0) : Sc.outdent i n σ = σ := by
  cases n with
  | zero => rfl
  | succ n => rw [Sc.outdent, if_neg h]
theorem head_drop {l : List Nat} {i : Nat} (hz : l.getD 0 0 = 0) (hl : 0 < l.length) (h : i < l.getLastD 0) : 0 < l.dropLast.length ∧ l.dropLast.getD 0 0 = 0 := by
  have h2 : 1 < l.length := by
    rcases Nat.lt_or_ge 1 l.length with h1 | h1
    · exact h1
    · exfalso
      have h1 : l.length = 1 := by omega
      rw [lastD_get hl, h1] at h
      simp only [Nat.sub_self] at h; omega
  refine ⟨by rw [List.length_dropLast]; omega, ?_⟩
  match l, h2 with
  | a :: b :: r, _ => simpa using hz

/-! one step -/
theorem outdent_keeps (i : Nat) : ∀ (f : Nat) (σ : Sc), (Sc.outdent i f σ).s = σ.s ∧ (Sc.outdent i f σ).pos = σ.pos ∧ (Sc.outdent i f σ).brk = σ.brk ∧ (Sc.outdent i f σ).line = σ.line ∧
    (σ.blocks.getD 0 0 = 0 → 0 < σ.blocks.length → (Sc.outdent i f σ).blocks.getD 0 0 = 0 ∧ 0 < (Sc.outdent i f σ).blocks.length) ∧ (0 < σ.blocks.length → σ.blocks.getD 0 0 = 0 → (Sc.outdent i f σ).out.length + (Sc.outdent i f σ).blocks.length = σ.out.length + σ.blocks.length) ∧
    (Sc.outdent i f σ).blocks.length ≤ σ.blocks.length
  | 0, σ => ⟨rfl, rfl, rfl, rfl, fun h h' => ⟨h, h'⟩, fun _ _ => rfl, Nat.le_refl _⟩
  | f + 1, σ => by
    unfold Sc.outdent
    split
    · rename_i h
      have ih := outdent_keeps i f ((({ σ with blocks := σ.blocks.dropLast } : Sc).tok 7 [] σ.pos))
      refine ⟨ih.1, ih.2.1, ih.2.2.1, ih.2.2.2.1, fun hz hl => ?_, fun hl hz => ?_, ?_⟩
      · have := head_drop hz hl h
        exact ih.2.2.2.2.1 this.2 this.1
      · have h2 := head_drop hz hl h
        refine (ih.2.2.2.2.2.1 h2.1 h2.2).trans ?_
        simp only [Sc.tok, List.length_append, List.length_singleton, List.length_dropLast]
        omega
      · refine Nat.le_trans ih.2.2.2.2.2.2 ?_
        simp only [Sc.tok, List.length_dropLast]
        exact Nat.sub_le _ _
    · exact ⟨rfl, rfl, rfl, rfl, fun h h' => ⟨h, h'⟩, fun _ _ => rfl, Nat.le_refl _⟩
/-- what a step keeps of the scanner -/
structure Keeps (σ σ1 : Sc) : Prop where
  s : σ1.s = σ.s
  head : σ1.blocks.getD 0 0 = 0
  some : 0 < σ1.blocks.length
  deep : σ1.blocks.length ≤ 61
  brk : σ1.brk.length ≤ 60
theorem Sc.begin_ok {σ σ1 : Sc} (h : σ.begin = .ok σ1) (hz : σ.blocks.getD 0 0 = 0) (hn : 0 < σ.blocks.length) (hd : σ.blocks.length ≤ 61) (hb : σ.brk.length ≤ 60) :
    Keeps σ σ1 ∧ σ1.pos = σ.pos ∧ σ1.brk = σ.brk ∧ σ1.line = true ∧ σ1.out.length + σ1.blocks.length ≤ σ.out.length + σ.blocks.length + 2 := by
  unfold Sc.begin at h
  split at h
  · cases h
  · simp only at h
    split at h
    · split at h
      · cases h
      · rename_i h1 h2 h3
        cases h
        refine ⟨⟨rfl, ?_, by simp [Sc.tok], by simp [Sc.tok]; omega, hb⟩, rfl, rfl, rfl, by simp [Sc.tok]; omega⟩
        simp only [Sc.tok]
        cases hbl : σ.blocks with
        | nil => rw [hbl] at hn; cases hn
        | cons a r => rw [hbl] at hz; simpa using hz
    · have hk := outdent_keeps σ.col σ.blocks.length { σ with line := true }
      split at h
      · cases h
        have h1 := hk.2.2.2.2.1 hz hn
        have h2 := hk.2.2.2.2.2.1 hn hz
        simp only at h2
        exact ⟨⟨hk.1, h1.1, h1.2, Nat.le_trans hk.2.2.2.2.2.2 hd, by rw [hk.2.2.1]; exact hb⟩, hk.2.1, hk.2.2.1, hk.2.2.2.1, by omega⟩
      · cases h
theorem Sc.nl_pos (σ : Sc) : σ.nl.pos = σ.pos := by unfold Sc.nl; split <;> rfl
theorem Sc.step_nl {σ : Sc} (hc : bt σ.s σ.pos = 10) (hb : σ.brk = []) : σ.step = .ok { σ.nl with pos := σ.nl.pos + 1 } := by
  rw [Sc.nl_pos]; simp [Sc.step, hc, hb]
theorem Sc.step_br {σ : Sc} (hc : bt σ.s σ.pos = 10) (hb : σ.brk ≠ []) : σ.step = .ok { σ with pos := σ.pos + 1 } := by simp [Sc.step, hc, hb]
theorem Sc.step_sp {σ : Sc} (hc : bt σ.s σ.pos = 32) : σ.step = .ok { σ with pos := σ.pos + 1 } := by simp [Sc.step, hc]
theorem Sc.step_com {σ : Sc} (hc : bt σ.s σ.pos = 35) : σ.step = σ.comment := by simp [Sc.step, hc]
theorem Sc.step_line {σ : Sc} (h1 : bt σ.s σ.pos ≠ 10) (h2 : bt σ.s σ.pos ≠ 32) (h3 : bt σ.s σ.pos ≠ 35) (hl : σ.line = true) : σ.step = σ.token (bt σ.s σ.pos) := by simp [Sc.step, h1, h2, h3, hl]
theorem Sc.step_beg {σ σ1 : Sc} (h1 : bt σ.s σ.pos ≠ 10) (h2 : bt σ.s σ.pos ≠ 32) (h3 : bt σ.s σ.pos ≠ 35) (hl : σ.line = false) (hb : σ.begin = .ok σ1) : σ.step = σ1.token (bt σ.s σ.pos) := by simp [Sc.step, h1, h2, h3, hl, hb]
theorem Sc.step_err {σ : Sc} {e : Nat} (h1 : bt σ.s σ.pos ≠ 10) (h2 : bt σ.s σ.pos ≠ 32) (h3 : bt σ.s σ.pos ≠ 35) (hl : σ.line = false) (hb : σ.begin = .error e) : σ.step = .error e := by simp [Sc.step, h1, h2, h3, hl, hb]
theorem Sc.token_word {σ : Sc} {c : Nat} (h : isLet c = true) : σ.token c = .ok σ.word := by simp [Sc.token, h]
theorem Sc.token_num {σ : Sc} {c : Nat} (h : isLet c = false) (h1 : isDig c = true) : σ.token c = σ.number := by simp [Sc.token, h, h1]
theorem Sc.token_text {σ : Sc} {c : Nat} (h : isLet c = false) (h1 : isDig c = false) (h2 : c = 34 ∨ c = 39) : σ.token c = σ.text c := by simp [Sc.token, h, h1, h2]
theorem Sc.token_sign {σ : Sc} {c : Nat} (h : isLet c = false) (h1 : isDig c = false) (h2 : ¬ (c = 34 ∨ c = 39)) : σ.token c = σ.sign := by simp [Sc.token, h, h1, h2]

/-! the whole scan -/
structure Inv (σ : Sc) : Prop where
  le : σ.pos ≤ σ.s.length
  head : σ.blocks.getD 0 0 = 0
  some : 0 < σ.blocks.length
  deep : σ.blocks.length ≤ 61
  brk : σ.brk.length ≤ 60
  few : σ.out.length + σ.blocks.length ≤ 3 * σ.pos + 1
theorem comL_bd : ∀ (l : List UInt8) (i j : Nat), comL l i = .ok j → i ≤ j ∧ j ≤ i + l.length
  | [], i, j, h => by cases h; simp
  | c :: r, i, j, h => by
    unfold comL at h
    split at h
    · cases h; simp
    · split at h
      · cases h
      · have := comL_bd r (i + 1) j h
        simp only [List.length_cons]; omega
theorem signL_pre (l : List UInt8) (h : signL l ≠ []) : (signL l).length ≤ l.length := by
  unfold signL at *
  cases hf : signsList.find? (·.isPrefixOf l) with
  | none => rw [hf] at h; exact absurd rfl h
  | some x =>
    have := List.find?_some hf
    have := (List.isPrefixOf_iff_prefix.1 this).length_le
    simpa using this
theorem numL_bd : ∀ (l : List UInt8) (n : Nat), numL l = some n → n ≤ l.length
  | [], n, h => by cases h; simp
  | c :: r, n, h => by
    unfold numL at h
    split at h
    · cases h
    · split at h
      · cases hr : numL r with
        | none => rw [hr] at h; cases h
        | some m => rw [hr] at h; cases h; have := numL_bd r m hr; simp; omega
      · cases h; simp
theorem Sc.sign_ok {σ σ1 : Sc} (h : σ.sign = .ok σ1) (hb : σ.brk.length ≤ 60) : σ1.s = σ.s ∧ σ1.blocks = σ.blocks ∧ σ1.brk.length ≤ 60 ∧ σ1.out.length = σ.out.length + 1 ∧ σ1.pos = σ.pos + σ.found.length ∧ σ.found ≠ [] := by
  unfold Sc.sign at h
  simp only at h
  split at h
  · cases h
  · rename_i hf
    split at h
    · split at h
      · cases h
      · cases h
        exact ⟨rfl, rfl, by simp [Sc.tok]; omega, by simp [Sc.tok], rfl, hf⟩
    · split at h
      · split at h
        · cases h; exact ⟨rfl, rfl, by simp [Sc.tok]; omega, by simp [Sc.tok], rfl, hf⟩
        · cases h
      · cases h; exact ⟨rfl, rfl, hb, by simp [Sc.tok], rfl, hf⟩
/-- what a token's reading keeps and moves -/
theorem Sc.token_ok {σ σ1 : Sc} (h : σ.token (bt σ.s σ.pos) = .ok σ1) (hp : σ.pos < σ.s.length) (hb : σ.brk.length ≤ 60) :
    σ1.s = σ.s ∧ σ1.blocks = σ.blocks ∧ σ1.brk.length ≤ 60 ∧ σ1.out.length = σ.out.length + 1 ∧ σ.pos < σ1.pos ∧ σ1.pos ≤ σ.s.length := by
  have hd := drop_bt hp
  unfold Sc.token at h
  split at h
  · rename_i hl
    cases h
    have h1 := wordL_le (σ.s.drop σ.pos)
    have h2 : 0 < wordL (σ.s.drop σ.pos) := by
      rw [hd, wordL]
      unfold bt at hl
      rw [if_pos (by rw [hl]; rfl)]; omega
    refine ⟨rfl, rfl, hb, by simp [Sc.word, Sc.tok], ?_, ?_⟩
    · simp [Sc.word, Sc.tok]; exact h2
    · simp [Sc.word, Sc.tok]; simp at h1; omega
  · rename_i hl
    split at h
    · rename_i hdg
      unfold Sc.number at h
      cases hn : numL (σ.s.drop σ.pos) with
      | none => rw [hn] at h; cases h
      | some n =>
        rw [hn] at h
        simp only at h
        split at h
        · cases h
        · cases h
          have h1 := numL_bd _ _ hn
          have h2 : 0 < n := by
            rw [hd, numL] at hn
            unfold bt at hl hdg
            simp only [hl, hdg, if_true] at hn
            cases hr : numL (σ.s.drop (σ.pos + 1)) with
            | none => rw [hr] at hn; simp at hn
            | some m => rw [hr] at hn; simp at hn; omega
          refine ⟨rfl, rfl, hb, by simp [Sc.tok], ?_, ?_⟩
          · simp [Sc.tok]; exact h2
          · simp [Sc.tok]; simp at h1; omega
    · split at h
      · unfold Sc.text at h
        cases he : endL (bt σ.s σ.pos) (σ.s.drop (σ.pos + 1)) (σ.pos + 1) with
        | none => rw [he] at h; cases h
        | some e =>
          rw [he] at h
          simp only at h
          have hbd := endL_bd _ _ _ he
          simp at hbd
          cases ht : txtL ((σ.s.take (e - 1)).drop (σ.pos + 1)) (σ.pos + 1) 0 [] with
          | error x => rw [ht] at h; cases h
          | ok t =>
            rw [ht] at h
            cases h
            refine ⟨rfl, rfl, hb, by simp [Sc.tok], ?_, ?_⟩
            · simp only [Sc.tok]; omega
            · simp only [Sc.tok]; omega
      · have hs := Sc.sign_ok h hb
        have h1 := signL_pre (σ.s.drop σ.pos) hs.2.2.2.2.2
        have h2 := List.length_pos_iff.2 hs.2.2.2.2.2
        simp at h1
        refine ⟨hs.1, hs.2.1, hs.2.2.1, hs.2.2.2.1, by rw [hs.2.2.2.2.1]; omega, by rw [hs.2.2.2.2.1]; simp only [Sc.found]; omega⟩
theorem Sc.nl_keeps (σ : Sc) : σ.nl.s = σ.s ∧ σ.nl.blocks = σ.blocks ∧ σ.nl.brk = σ.brk ∧ σ.nl.out.length ≤ σ.out.length + 1 := by
  unfold Sc.nl; split <;> simp [Sc.tok]
theorem Sc.step_ok {σ σ1 : Sc} (h : σ.step = .ok σ1) (hI : Inv σ) (hp : σ.pos < σ.s.length) : Inv σ1 ∧ σ1.s = σ.s ∧ σ.pos < σ1.pos := by
  obtain ⟨hle, hz, hn, hd, hb, hf⟩ := hI
  by_cases h10 : bt σ.s σ.pos = 10
  · by_cases hk : σ.brk = []
    · rw [Sc.step_nl h10 hk] at h
      cases h
      have h1 := Sc.nl_keeps σ
      have h2 := Sc.nl_pos σ
      refine ⟨⟨?_, ?_, ?_, ?_, ?_, ?_⟩, h1.1, ?_⟩ <;> simp only [h1.1, h1.2.1, h1.2.2.1, h2] <;> first | assumption | omega
    · rw [Sc.step_br h10 hk] at h
      cases h
      exact ⟨⟨hp, hz, hn, hd, hb, by simp only; omega⟩, rfl, Nat.lt_succ_self _⟩
  by_cases h32 : bt σ.s σ.pos = 32
  · rw [Sc.step_sp h32] at h
    cases h
    exact ⟨⟨hp, hz, hn, hd, hb, by simp only; omega⟩, rfl, Nat.lt_succ_self _⟩
  by_cases h35 : bt σ.s σ.pos = 35
  · rw [Sc.step_com h35] at h
    unfold Sc.comment at h
    cases hc : comL (σ.s.drop σ.pos) σ.pos with
    | error e => rw [hc] at h; cases h
    | ok j =>
      rw [hc] at h
      cases h
      have hd' := drop_bt hp
      rw [hd', comL] at hc
      unfold bt at h35
      rw [if_neg (by omega), if_neg (by omega)] at hc
      have := comL_bd _ _ _ hc
      simp at this
      exact ⟨⟨by simp only; omega, hz, hn, hd, hb, by simp only; omega⟩, rfl, by simp only; omega⟩
  by_cases hl : σ.line = true
  · rw [Sc.step_line h10 h32 h35 hl] at h
    have := Sc.token_ok h hp hb
    refine ⟨⟨by rw [this.1]; exact this.2.2.2.2.2, by rw [this.2.1]; exact hz, by rw [this.2.1]; exact hn, by rw [this.2.1]; exact hd, this.2.2.1, by rw [this.2.1]; omega⟩, this.1, this.2.2.2.2.1⟩
  · simp only [Bool.not_eq_true] at hl
    cases hbg : σ.begin with
    | error e => rw [Sc.step_err h10 h32 h35 hl hbg] at h; cases h
    | ok σ2 =>
      rw [Sc.step_beg h10 h32 h35 hl hbg] at h
      have hB := Sc.begin_ok hbg hz hn hd hb
      rw [← hB.1.s, ← hB.2.1] at h
      have := Sc.token_ok h (by rw [hB.1.s, hB.2.1]; exact hp) hB.1.brk
      have e1 := hB.1.s
      have e2 := hB.2.1
      refine ⟨⟨by rw [this.1]; exact this.2.2.2.2.2, by rw [this.2.1]; exact hB.1.head, by rw [this.2.1]; exact hB.1.some, by rw [this.2.1]; exact hB.1.deep, this.2.2.1, by rw [this.2.1]; omega⟩, this.1.trans e1, by omega⟩
theorem loop_fuel : ∀ (f f' : Nat) (σ : Sc), Inv σ → σ.s.length - σ.pos ≤ f → σ.s.length - σ.pos ≤ f' → Sc.loop f σ = Sc.loop f' σ
  | 0, 0, _, _, _, _ => rfl
  | 0, f' + 1, σ, _, h, _ => by rw [Sc.loop, Sc.loop, if_neg (by omega)]
  | f + 1, 0, σ, _, _, h => by rw [Sc.loop, Sc.loop, if_neg (by omega)]
  | f + 1, f' + 1, σ, hI, h, h' => by
    rw [Sc.loop, Sc.loop]
    split
    · rename_i hp
      cases hs : σ.step with
      | error e => rfl
      | ok σ1 =>
        have := Sc.step_ok hs hI hp
        have e := this.2.1
        have e2 := this.2.2
        exact loop_fuel f f' σ1 this.1 (by rw [e]; omega) (by rw [e]; omega)
    · rfl
/-- the scan from here on -/
def Sc.go (σ : Sc) : Except Nat Sc := Sc.loop (σ.s.length - σ.pos) σ
theorem go_step {σ σ1 : Sc} (h : σ.step = .ok σ1) (hI : Inv σ) (hp : σ.pos < σ.s.length) : σ1.go = σ.go := by
  have hs := Sc.step_ok h hI hp
  unfold Sc.go
  obtain ⟨n, hn⟩ : ∃ n, σ.s.length - σ.pos = n + 1 := ⟨σ.s.length - σ.pos - 1, by omega⟩
  rw [hn, Sc.loop, if_pos hp, h]
  have e := hs.2.1
  have e2 := hs.2.2
  exact loop_fuel _ _ σ1 hs.1 (Nat.le_refl _) (by rw [e]; omega)
theorem go_err {σ : Sc} {e : Nat} (h : σ.step = .error e) (hp : σ.pos < σ.s.length) : σ.go = .error e := by
  unfold Sc.go
  obtain ⟨n, hn⟩ : ∃ n, σ.s.length - σ.pos = n + 1 := ⟨σ.s.length - σ.pos - 1, by omega⟩
  rw [hn, Sc.loop, if_pos hp, h]
theorem go_end {σ : Sc} (hp : ¬ σ.pos < σ.s.length) : σ.go = .ok σ := by
  unfold Sc.go
  rw [show σ.s.length - σ.pos = 0 by omega]; rfl
theorem start_inv (s : List UInt8) : Inv (Sc.start s) := ⟨Nat.zero_le _, rfl, Nat.lt_succ_self _, by simp [Sc.start], by simp [Sc.start], by simp [Sc.start]⟩
theorem scan_go (s : List UInt8) : scan s = match (Sc.start s).go with
  | .error e => .error e
  | .ok σ => if σ.brk ≠ [] then .error s.length else .ok (σ.nl.out ++ dedents (σ.blocks.length - 1) s.length ++ [⟨8, [], s.length⟩]) := rfl
theorem scan_err {s : List UInt8} {e : Nat} (h : (Sc.start s).go = .error e) : scan s = .error e := by rw [scan_go, h]
theorem scan_brk {s : List UInt8} {σ : Sc} (h : (Sc.start s).go = .ok σ) (hb : σ.brk ≠ []) : scan s = .error s.length := by rw [scan_go, h]; exact if_pos hb
theorem scan_ok {s : List UInt8} {σ : Sc} (h : (Sc.start s).go = .ok σ) (hb : σ.brk = []) : scan s = .ok (σ.nl.out ++ dedents (σ.blocks.length - 1) s.length ++ [⟨8, [], s.length⟩]) := by
  rw [scan_go, h]; exact if_neg (by simpa using hb)
theorem dedents_next (n p : Nat) : dedents (n + 1) p = dedents n p ++ [⟨7, [], p⟩] := by
  unfold dedents; rw [List.replicate_succ']
end Go.Lex
