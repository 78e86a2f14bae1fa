/-
  Proved here: plain functions on lists of bytes: what package lex's scanner does, step by step.
-/
import Derived.Test.YtickdimknfeddaaGreatDoorSx
import Derived.Lib.Bytealg
namespace Go.Lex
open Go.SX
def isDig (c : Nat) : Bool := decide (48 ≤ c) && decide (c ≤ 57)
def isLet (c : Nat) : Bool := decide (97 ≤ c) && decide (c ≤ 122) || decide (65 ≤ c) && decide (c ≤ 90) || decide (c = 95)
structure Tok where
  kind : Nat
  text : List UInt8
  pos : Nat
  deriving DecidableEq
/-- the scanner -/
structure Sc where
  s : List UInt8
  pos : Nat
  out : List Tok
  blocks : List Nat
  brk : List Nat
  line : Bool
def Sc.tok (σ : Sc) (k : Nat) (t : List UInt8) (pos : Nat) : Sc := { σ with out := σ.out ++ [⟨k, t, pos⟩] }
def Sc.nl (σ : Sc) : Sc := { (if σ.line then σ.tok 5 [] σ.pos else σ) with line := false }
/-- how far a comment goes, or where it is wrong -/
def comL : List UInt8 → Nat → Except Nat Nat
  | [], i => .ok i
  | c :: r, i => if c.toNat = 10 then .ok i else if c.toNat < 32 ∨ c.toNat = 127 then .error i else comL r (i + 1)
def Sc.comment (σ : Sc) : Except Nat Sc := (comL (σ.s.drop σ.pos) σ.pos).map fun i => { σ with pos := i }
/-- how long a name or word is -/
def wordL : List UInt8 → Nat
  | [] => 0
  | c :: r => if isLet c.toNat || isDig c.toNat then wordL r + 1 else 0
/-- how long a number is; none: a letter is in it -/
def numL : List UInt8 → Option Nat
  | [] => some 0
  | c :: r => if isLet c.toNat then none else if isDig c.toNat then (numL r).map (· + 1) else some 0
def wordsList : List (List UInt8) := [[70, 97, 108, 115, 101], [78, 111, 110, 101], [84, 114, 117, 101], [97, 110, 100], [98, 114, 101, 97, 107], [99, 111, 110, 116, 105, 110, 117, 101], [100, 101, 102], [101, 108, 105, 102], [101, 108, 115, 101], [102, 111, 114], [105, 102], [105, 110], [108, 111, 97, 100], [110, 111, 116], [111, 114], [112, 97, 115, 115], [114, 101, 116, 117, 114, 110]]
def signsList : List (List UInt8) := [[61, 61], [33, 61], [60, 61], [62, 61], [43, 61], [47, 47], [60], [62], [61], [43], [45], [42], [37], [40], [41], [91], [93], [123], [125], [44], [58], [46]]
def Sc.word (σ : Sc) : Sc :=
  let n := wordL (σ.s.drop σ.pos)
  let w := (σ.s.drop σ.pos).take n
  { σ with pos := σ.pos + n }.tok (if wordsList.contains w then 4 else 1) w σ.pos
def Sc.number (σ : Sc) : Except Nat Sc :=
  match numL (σ.s.drop σ.pos) with
  | none => .error σ.pos
  | some n =>
    let w := (σ.s.drop σ.pos).take n
    if 600 < n ∨ (bt w 0 = 48 ∧ 1 < n) then .error σ.pos else .ok ({ σ with pos := σ.pos + n }.tok 2 w σ.pos)
/-- where a string ends, behind its quote -/
def endL (q : Nat) : List UInt8 → Nat → Option Nat
  | [], _ => none
  | c :: r, i =>
    if c.toNat = 10 then none else if c.toNat = q then some (i + 1) else
    if c.toNat = 92 then
      match r with
      | [] => none
      | d :: r' => if d.toNat = 10 then none else endL q r' (i + 2)
    else endL q r (i + 1)
/-- a hexadecimal digit's number -/
def hexD (c : Nat) : Option Nat := if isDig c then some (c - 48) else if 97 ≤ c ∧ c ≤ 102 then some (c - 87) else if 65 ≤ c ∧ c ≤ 70 then some (c - 55) else none
def hexL : List UInt8 → Option Nat
  | a :: b :: _ => match hexD a.toNat, hexD b.toNat with
    | some x, some y => some (16 * x + y)
    | _, _ => none
  | _ => none
/-- what stands behind a backslash: the byte, and how many bytes say it (0: it is none) -/
def pieceL : List UInt8 → Nat × Nat
  | [] => (0, 0)
  | c :: r => if c.toNat = 110 then (10, 1) else if c.toNat = 116 then (9, 1) else if c.toNat = 92 ∨ c.toNat = 34 ∨ c.toNat = 39 then (c.toNat, 1) else
    if c.toNat = 120 then match hexL r with
      | some v => (v, 3)
      | none => (0, 0)
    else (0, 0)
/-- what a string says: its body, from place i on; so many bytes are passed over first -/
def txtL : List UInt8 → Nat → Nat → List UInt8 → Except Nat (List UInt8)
  | [], _, _, acc => .ok acc
  | _ :: r, i, k + 1, acc => txtL r (i + 1) k acc
  | c :: r, i, 0, acc =>
    if c.toNat = 92 then
      if (pieceL r).2 = 0 then .error i else txtL r (i + 1) (pieceL r).2 (acc ++ [UInt8.ofNat (pieceL r).1])
    else if c.toNat < 32 ∨ c.toNat = 127 then .error i else txtL r (i + 1) 0 (acc ++ [c])
def Sc.text (σ : Sc) (q : Nat) : Except Nat Sc :=
  match endL q (σ.s.drop (σ.pos + 1)) (σ.pos + 1) with
  | none => .error σ.pos
  | some e =>
    let body := (σ.s.take (e - 1)).drop (σ.pos + 1)
    (txtL body (σ.pos + 1) 0 []).map fun t => { σ with pos := e }.tok 3 t σ.pos
/-- the sign that stands at the head -/
def signL (l : List UInt8) : List UInt8 := (signsList.find? (·.isPrefixOf l)).getD []
def Sc.found (σ : Sc) : List UInt8 := signL (σ.s.drop σ.pos)
def opens (c : Nat) : Option Nat := if c = 40 then some 41 else if c = 91 then some 93 else if c = 123 then some 125 else none
def closes (c : Nat) : Bool := decide (c = 41) || decide (c = 93) || decide (c = 125)
def Sc.sign (σ : Sc) : Except Nat Sc :=
  let x := σ.found
  if x = [] then .error σ.pos else
  let c := bt x 0
  let go (σ' : Sc) : Except Nat Sc := .ok { σ'.tok 4 x σ.pos with pos := σ.pos + x.length }
  match opens c with
  | some e => if 60 ≤ σ.brk.length then .error σ.pos else go { σ with brk := σ.brk ++ [e] }
  | none =>
    if closes c then
      if σ.brk.getLast? = some c then go { σ with brk := σ.brk.dropLast } else .error σ.pos
    else go σ
/-- how far in place i lies: behind the last newline ahead of it -/
def colL : List UInt8 → Nat → Nat
  | [], k => k
  | c :: r, k => if c.toNat = 10 then colL r 0 else colL r (k + 1)
def Sc.col (σ : Sc) : Nat := colL (σ.s.take σ.pos) 0
def Sc.begins (σ : Sc) : Bool :=
  let c := bt σ.s σ.pos
  isLet c || isDig c || decide (c = 34) || decide (c = 39) || decide (σ.found ≠ [])
/-- blocks are left, innermost first, while a line is less far in -/
def Sc.outdent (i : Nat) : Nat → Sc → Sc
  | 0, σ => σ
  | f + 1, σ => if i < σ.blocks.getLastD 0 then Sc.outdent i f ({ σ with blocks := σ.blocks.dropLast }.tok 7 [] σ.pos) else σ
def Sc.begin (σ : Sc) : Except Nat Sc :=
  if !σ.begins then .error σ.pos else
  let i := σ.col
  let σ1 := { σ with line := true }
  if σ.blocks.getLastD 0 < i then
    if 60 < σ.blocks.length then .error σ.pos else .ok ({ σ1 with blocks := σ.blocks ++ [i] }.tok 6 [] σ.pos)
  else
    let σ2 := Sc.outdent i σ1.blocks.length σ1
    if i = σ2.blocks.getLastD 0 then .ok σ2 else .error σ.pos
def Sc.token (σ : Sc) (c : Nat) : Except Nat Sc :=
  if isLet c then .ok σ.word else if isDig c then σ.number else if c = 34 ∨ c = 39 then σ.text c else σ.sign
def Sc.step (σ : Sc) : Except Nat Sc :=
  let c := bt σ.s σ.pos
  if c = 10 then .ok (let σ1 := if σ.brk = [] then σ.nl else σ; { σ1 with pos := σ.pos + 1 })
  else if c = 32 then .ok { σ with pos := σ.pos + 1 }
  else if c = 35 then σ.comment
  else if σ.line then σ.token c
  else match σ.begin with
    | .error e => .error e
    | .ok σ1 => σ1.token c
def Sc.loop : Nat → Sc → Except Nat Sc
  | 0, σ => .ok σ
  | f + 1, σ => if σ.pos < σ.s.length then match σ.step with
    | .error e => .error e
    | .ok σ1 => Sc.loop f σ1
    else .ok σ
def Sc.start (s : List UInt8) : Sc := ⟨s, 0, [], [0], [], false⟩
def dedents (n : Nat) (p : Nat) : List Tok := List.replicate n ⟨7, [], p⟩
/-- a text's tokens, or where it is wrong -/
def scan (s : List UInt8) : Except Nat (List Tok) :=
  match Sc.loop s.length (Sc.start s) with
  | .error e => .error e
  | .ok σ =>
    if σ.brk ≠ [] then .error s.length
    else .ok (σ.nl.out ++ dedents (σ.blocks.length - 1) s.length ++ [⟨8, [], s.length⟩])

/-! loops, a step at a time -/
/-! leaves -/
/-- the place of a text among others, -1: it is none of them -/
def idxI (x : List UInt8) : List (List UInt8) → Nat → Int
  | [], _ => -1
  | y :: r, i => if x = y then (i : Int) else idxI x r (i + 1)
theorem idxI_ge (x : List UInt8) : ∀ (l : List (List UInt8)) (i : Nat), (0 ≤ idxI x l i ↔ x ∈ l) ∧ -1 ≤ idxI x l i
  | [], i => by simp [idxI]
  | y :: r, i => by
    have ih := idxI_ge x r (i + 1)
    unfold idxI
    split
    · rename_i h; subst h; exact ⟨by simp, by omega⟩
    · rename_i h
      exact ⟨by rw [ih.1]; simp [h], ih.2⟩
theorem idxI_next {x : List UInt8} {l : List (List UInt8)} {k : Nat} (h : k < l.length) (hne : x ≠ l.getD k []) : idxI x (l.drop (k + 1)) (k + 1) = idxI x (l.drop k) k := by
  rw [List.drop_eq_getElem_cons h, idxI, if_neg (by simpa [List.getD, h] using hne)]
theorem idxI_hit {x : List UInt8} {l : List (List UInt8)} {k : Nat} (h : k < l.length) (he : x = l.getD k []) : idxI x (l.drop k) k = (k : Int) := by
  rw [List.drop_eq_getElem_cons h, idxI, if_pos (by simpa [List.getD, h] using he)]
theorem idxI_end {x : List UInt8} {l : List (List UInt8)} {k : Nat} (h : l.length ≤ k) : idxI x (l.drop k) k = -1 := by
  rw [List.drop_of_length_le h]; rfl
/-! signs -/
/-! the head of a line -/
/-! one step -/
/-- what a step keeps of the scanner -/
structure Keeps (σ σ1 : Sc) : Prop where
  s : σ1.s = σ.s
  head : σ1.blocks.getD 0 0 = 0
  some : 0 < σ1.blocks.length
  deep : σ1.blocks.length ≤ 61
  brk : σ1.brk.length ≤ 60
/-! the whole scan -/
structure Inv (σ : Sc) : Prop where
  le : σ.pos ≤ σ.s.length
  head : σ.blocks.getD 0 0 = 0
  some : 0 < σ.blocks.length
  deep : σ.blocks.length ≤ 61
  brk : σ.brk.length ≤ 60
  few : σ.out.length + σ.blocks.length ≤ 3 * σ.pos + 1
end Go.Lex
