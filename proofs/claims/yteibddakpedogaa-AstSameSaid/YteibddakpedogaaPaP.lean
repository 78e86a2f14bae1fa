/-
  Proved here: nothing yet but the plain form of a parser: what each of its functions does with tokens. No program stands here.
-/
import Derived.Test.YteibddakpedogaaTrP
namespace Go.Pa
abbrev B := List UInt8
structure Tk where
  kind : Int
  text : B
  pos : Int
abbrev Nd := Go.Tr.Nd
structure St where
  at_ : Nat
  out : List Nd
  deep : Nat
  defs : Bool
  fors : Nat
@[reducible] def St.adv (s : St) : St := ⟨s.at_ + 1, s.out, s.deep, s.defs, s.fors⟩
@[reducible] def St.nod (s : St) (op pos : Int) (x : List UInt8) (ks : List Int) : St := ⟨s.at_, s.out ++ [⟨op, 0, pos, x, ks⟩], s.deep, s.defs, s.fors⟩
inductive Rs (α : Type) where
  | ok (a : α) (s : St)
  | stop (pos : Int) (lim : Bool)
abbrev M (α : Type) := St → Option (Rs α)
@[reducible] def bnd {α β : Type} (x : M α) (f : α → M β) : M β := fun s => match x s with
  | none => none
  | some (.ok a s') => f a s'
  | some (.stop p e) => some (.stop p e)
@[reducible] def ret {α : Type} (a : α) : M α := fun s => some (.ok a s)
section
variable (L : List Tk)
def tok : M Tk := fun s => match L[s.at_]? with | some t => some (.ok t s) | none => none
def isB (t : Tk) (ss : List B) : Bool := decide (t.kind = 4) && ss.contains t.text
def is_ (ss : List B) : M Bool := bnd (tok L) fun t => ret (isB t ss)
def adv : M Unit := fun s => some (.ok () { s with at_ := s.at_ + 1 })
def bad {α : Type} : M α := bnd (tok L) fun t => fun _ => some (.stop t.pos false)
def take (x : B) : M Bool := bnd (is_ L [x]) fun b => if b then bnd adv fun _ => ret true else ret false
def must (x : B) : M Int := bnd (tok L) fun t => bnd (take L x) fun b => if b then ret t.pos else bad L
def kinds (k : Int) : M (B × Int) := bnd (tok L) fun t => if t.kind ≠ k then bad L else if k ≠ 8 then bnd adv fun _ => ret (t.text, t.pos) else ret (t.text, t.pos)
def inn (pos : Int) : M Unit := fun s => if 60 ≤ s.deep then some (.stop pos true) else some (.ok () { s with deep := s.deep + 1 })
def outn : M Unit := fun s => match s.deep with | 0 => none | d + 1 => if d < 1000000 then some (.ok () { s with deep := d }) else none
def node (op pos : Int) (x : B) (kids : List Int) : M Int := fun s => if s.out.length < 1000000 then some (.ok s.out.length { s with out := s.out ++ [⟨op, 0, pos, x, kids⟩] }) else none
/-- a node that is there -/
def nodeAt (k : Int) : M Nd := fun s => if k < 0 then none else match s.out[k.toNat]? with | some x => some (.ok x s) | none => none
def setPos (k pos : Int) : M Unit := fun s => if k < 0 then none else match s.out[k.toNat]? with | some x => some (.ok () { s with out := s.out.set k.toNat { x with pos := pos } }) | none => none
/-- a list that grows: as long as it is not too long -/
def grow {α β : Type} (l : List α) (x : M β) : M β := fun s => if l.length < 1000000 then x s else none
def getFors : M Nat := fun s => some (.ok s.fors s)
def getDefs : M Bool := fun s => some (.ok s.defs s)
def setFors (k : Nat) : M Unit := fun s => if k < 1000000 then some (.ok () { s with fors := k }) else none
def setDefs (b : Bool) : M Unit := fun s => some (.ok () { s with defs := b })
/-- the sign behind the next token -/
def ahead (x : B) : M Bool := fun s => some (.ok (match L[s.at_ + 1]? with | some t => decide (t.kind = 4) && decide (t.text = x) | none => false) s)
/-- signs, by their texts -/
def opOf (x : B) : Option Int :=
  if x = [111, 114] then some 19 else if x = [97, 110, 100] then some 18 else if x = [61, 61] then some 26 else if x = [33, 61] then some 27 else if x = [60] then some 28 else if x = [60, 61] then some 29
  else if x = [62] then some 30 else if x = [62, 61] then some 31 else if x = [105, 110] then some 32 else if x = [43] then some 21 else if x = [45] then some 22 else if x = [42] then some 23 else if x = [47, 47] then some 24 else if x = [37] then some 25 else none
def op_ (x : B) : M Int := fun s => match opOf x with | some k => some (.ok k s) | none => none
/-- the levels of signs between: or, and, sum, product -/
def signs : Nat → List B
  | 0 => [[111, 114]]
  | 1 => [[97, 110, 100]]
  | 2 => [[43], [45]]
  | _ => [[42], [47, 47], [37]]
/-- the parser's functions, and their loops -/
inductive F : Type → Type 1 where
  | test : F Int
  | left (lv : Nat) : F Int
  | leftGo (lv : Nat) (k : Int) : F Int
  | not_ : F Int
  | compare : F Int
  | unary : F Int
  | primary : F Int
  | primGo (k : Int) : F Int
  | call (k : Int) : F Int
  | callGo (kids : List Int) (names : List B) : F (List Int)
  | index (k : Int) : F Int
  | atom : F Int
  | strGo (s : B) : F B
  | round : F Int
  | square : F Int
  | sqGo (pos : Int) (l : List Int) : F Int
  | comp (pos item : Int) : F Int
  | curly : F Int
  | curlyGo (l : List Int) : F (List Int)
  | many : F (Int × Bool)
  | manyGo (l : List Int) (c : Bool) : F (List Int × Bool)
  | some_ (e : B) : F (Int × Bool)
  | someGo (e : B) (l : List Int) (c : Bool) : F (List Int × Bool)
  | one : F Int
  | target (k : Int) : F Bool
  | targetGo (ks : List Int) : F Bool
  | statement (whole : Bool) : F Int
  | simple (whole : Bool) : F Int
  | answer : F Int
  | load : F Int
  | loadGo (l : List Int) : F (List Int)
  | block : F Int
  | blockGo (l : List Int) : F (List Int)
  | cond : F Int
  | loop : F Int
  | def_ : F Int
  | defGo (l : List Int) (names : List B) (given : Bool) : F (List Int)
  | file : F Unit
  | fileGo (l : List Int) : F (List Int)
def part : Nat → F Int
  | 0 => .left 1
  | 1 => .not_
  | 2 => .left 3
  | _ => .unary
variable (nameB : B → Bool) (rec : ∀ {α : Type}, F α → M α)
def body : ∀ {α : Type}, F α → M α
  | _, .test => bnd (rec (.left 0)) fun a => bnd (is_ L [[105, 102]]) fun b => if b then
      bnd (must L [105, 102]) fun pos => bnd (inn pos) fun _ => bnd (rec (.left 0)) fun c => bnd (must L [101, 108, 115, 101]) fun _ => bnd (rec .test) fun last => bnd outn fun _ => node 20 pos [] [c, a, last]
    else ret a
  | _, .left lv => bnd (rec (part lv)) fun k => rec (.leftGo lv k)
  | _, .leftGo lv k => bnd (is_ L (signs lv)) fun b => if b then bnd (tok L) fun t => bnd adv fun _ => bnd (op_ t.text) fun o => bnd (rec (part lv)) fun k2 => bnd (node o t.pos [] [k, k2]) fun n => rec (.leftGo lv n) else ret k
  | _, .not_ => bnd (is_ L [[110, 111, 116]]) fun b => if b then bnd (must L [110, 111, 116]) fun pos => bnd (inn pos) fun _ => bnd (rec .not_) fun k => bnd outn fun _ => node 17 pos [] [k] else rec .compare
  | _, .compare => bnd (rec (.left 2)) fun a => bnd (tok L) fun t => if isB t [[110, 111, 116]] then bnd adv fun _ => bnd (must L [105, 110]) fun _ => bnd (rec (.left 2)) fun b => node 33 t.pos [] [a, b]
      else if isB t [[61, 61], [33, 61], [60], [60, 61], [62], [62, 61], [105, 110]] then bnd adv fun _ => bnd (op_ t.text) fun o => bnd (rec (.left 2)) fun b => node o t.pos [] [a, b] else ret a
  | _, .unary => bnd (is_ L [[45]]) fun b => if b then bnd (must L [45]) fun pos => bnd (inn pos) fun _ => bnd (rec .unary) fun k => bnd outn fun _ => node 16 pos [] [k] else rec .primary
  | _, .primary => bnd (rec .atom) fun k => rec (.primGo k)
  | _, .primGo k => bnd (tok L) fun t => bnd (take L [46]) fun b => if b then bnd (kinds L 1) fun x => bnd (node 12 t.pos x.1 [k]) fun n => rec (.primGo n)
      else if isB t [[40]] then bnd (rec (.call k)) fun n => rec (.primGo n) else if isB t [[91]] then bnd (rec (.index k)) fun n => rec (.primGo n) else ret k
  | _, .call k => bnd (must L [40]) fun pos => bnd (inn pos) fun _ => bnd (rec (.callGo [k] [])) fun kids => bnd (must L [41]) fun _ => bnd outn fun _ => node 10 pos [] kids
  | _, .callGo kids names => bnd (tok L) fun t => if isB t [[41]] then ret kids else bnd (ahead L [61]) fun a =>
      bnd (if decide (t.kind = 1) && a then
        (if names.contains t.text then bad L else bnd (kinds L 1) fun x => bnd (must L [61]) fun _ => bnd (rec .test) fun k => bnd (node 11 t.pos x.1 [k]) fun n => ret (kids ++ [n], names ++ [x.1]))
      else if names ≠ [] then bad L else bnd (rec .test) fun k => ret (kids ++ [k], names)) fun x => bnd (take L [44]) fun b => grow x.1 (if b then rec (.callGo x.1 x.2) else ret x.1)
  | _, .index k => bnd (must L [91]) fun pos => bnd (inn pos) fun _ => bnd (tok L) fun t => bnd (if isB t [[58]] then node 15 t.pos [] [] else rec .test) fun fr => bnd (take L [93]) fun b =>
      if b then bnd outn fun _ => node 13 pos [] [k, fr]
      else bnd (must L [58]) fun _ => bnd (tok L) fun t => bnd (if isB t [[93]] then node 15 t.pos [] [] else rec .test) fun to => bnd (must L [93]) fun _ => bnd outn fun _ => node 14 pos [] [k, fr, to]
  | _, .atom => bnd (tok L) fun t => if t.kind = 1 then bnd adv fun _ => node 6 t.pos t.text [] else if t.kind = 2 then bnd adv fun _ => node 4 t.pos t.text []
      else if t.kind = 3 then bnd (rec (.strGo [])) fun x => node 5 t.pos x []
      else bnd (take L [78, 111, 110, 101]) fun b => if b then node 1 t.pos [] [] else bnd (take L [84, 114, 117, 101]) fun b => if b then node 2 t.pos [] [] else bnd (take L [70, 97, 108, 115, 101]) fun b => if b then node 3 t.pos [] []
      else if isB t [[40]] then rec .round else if isB t [[91]] then rec .square else if isB t [[123]] then rec .curly else bad L
  | _, .strGo x => bnd (tok L) fun t => if t.kind = 3 then (if x.length + t.text.length < 1000000 then bnd adv fun _ => rec (.strGo (x ++ t.text)) else fun _ => none) else ret x
  | _, .round => bnd (must L [40]) fun pos => bnd (inn pos) fun _ => bnd (take L [41]) fun b => if b then bnd outn fun _ => node 8 pos [] []
      else bnd (rec .many) fun x => bnd (must L [41]) fun _ => bnd outn fun _ => if x.2 then bnd (setPos x.1 pos) fun _ => ret x.1 else ret x.1
  | _, .square => bnd (must L [91]) fun pos => bnd (inn pos) fun _ => rec (.sqGo pos [])
  | _, .sqGo pos l => bnd (is_ L [[93]]) fun b => if b then bnd (must L [93]) fun _ => bnd outn fun _ => node 7 pos [] l
      else bnd (rec .test) fun k => bnd (tok L) fun t => if decide (l = []) && isB t [[102, 111, 114]] then rec (.comp pos k)
      else bnd (take L [44]) fun b => grow l (if b then rec (.sqGo pos (l ++ [k])) else bnd (must L [93]) fun _ => bnd outn fun _ => node 7 pos [] (l ++ [k]))
  | _, .comp pos item => bnd (must L [102, 111, 114]) fun _ => bnd (rec (.some_ [105, 110])) fun to => bnd (must L [105, 110]) fun _ => bnd (rec (.left 0)) fun o => bnd (take L [105, 102]) fun b =>
      bnd (if b then bnd (rec (.left 0)) fun c => ret [item, to.1, o, c] else ret [item, to.1, o]) fun kids => bnd (must L [93]) fun _ => bnd outn fun _ => node 34 pos [] kids
  | _, .curly => bnd (must L [123]) fun pos => bnd (inn pos) fun _ => bnd (rec (.curlyGo [])) fun l => bnd (must L [125]) fun _ => bnd outn fun _ => node 9 pos [] l
  | _, .curlyGo l => bnd (is_ L [[125]]) fun b => if b then ret l else bnd (rec .test) fun k => bnd (must L [58]) fun _ => bnd (rec .test) fun v => bnd (take L [44]) fun b => grow l (if b then rec (.curlyGo (l ++ [k] ++ [v])) else ret (l ++ [k] ++ [v]))
  | _, .many => bnd (tok L) fun t => bnd (rec .test) fun k => bnd (rec (.manyGo [k] false)) fun x => if x.2 then bnd (node 8 t.pos [] x.1) fun n => ret (n, true) else ret (x.1.headD 0, false)
  | _, .manyGo l c => bnd (take L [44]) fun b => if b then bnd (tok L) fun t => if decide (t.kind = 5) || decide (t.kind = 8) || isB t [[41], [93], [125], [61], [43, 61], [58]] then ret (l, true)
      else bnd (rec .test) fun k => grow l (rec (.manyGo (l ++ [k]) true)) else ret (l, c)
  | _, .some_ e => bnd (tok L) fun t => bnd (rec .one) fun k => bnd (rec (.someGo e [k] false)) fun x => if x.2 then bnd (node 8 t.pos [] x.1) fun n => ret (n, true) else ret (x.1.headD 0, false)
  | _, .someGo e l c => bnd (take L [44]) fun b => if b then bnd (is_ L [e]) fun b => if b then ret (l, true) else bnd (rec .one) fun k => grow l (rec (.someGo e (l ++ [k]) true)) else ret (l, c)
  | _, .one => bnd (tok L) fun t => if isB t [[40]] then bnd (must L [40]) fun p2 => bnd (inn p2) fun _ => bnd (rec (.some_ [41])) fun x => bnd (must L [41]) fun _ => bnd outn fun _ => if x.2 then bnd (setPos x.1 t.pos) fun _ => ret x.1 else ret x.1
      else if t.kind ≠ 1 then bad L else bnd (rec .primary) fun k => bnd (nodeAt k) fun x => if x.op ≠ 6 ∧ x.op ≠ 13 then fun _ => some (.stop t.pos false) else ret k
  | _, .target k => bnd (nodeAt k) fun x => if x.op ≠ 8 then ret (decide (x.op = 6) || decide (x.op = 13)) else bnd (rec (.targetGo x.kids)) fun b => ret (b && decide (0 < x.kids.length))
  | _, .targetGo [] => ret true
  | _, .targetGo (k :: ks) => bnd (rec (.target k)) fun b => if b then rec (.targetGo ks) else ret false
  | _, .statement whole => bnd (tok L) fun t => if isB t [[105, 102]] then rec .cond else if isB t [[102, 111, 114]] then rec .loop else if isB t [[100, 101, 102]] then (if whole then rec .def_ else bad L)
      else bnd (rec (.simple whole)) fun k => bnd (kinds L 5) fun _ => ret k
  | _, .simple whole => bnd (tok L) fun t => bnd (take L [112, 97, 115, 115]) fun b => if b then node 38 t.pos [] []
      else if isB t [[98, 114, 101, 97, 107], [99, 111, 110, 116, 105, 110, 117, 101]] then bnd getFors fun n => if n = 0 then bad L else bnd (take L [98, 114, 101, 97, 107]) fun b => if b then node 39 t.pos [] [] else bnd adv fun _ => node 40 t.pos [] []
      else if isB t [[114, 101, 116, 117, 114, 110]] then rec .answer
      else if isB t [[108, 111, 97, 100]] then (if whole then rec .load else bad L)
      else bnd (rec .many) fun a => bnd (tok L) fun t2 => if isB t2 [[61]] then bnd (rec (.target a.1)) fun ok => if ok then bnd adv fun _ => bnd (rec .many) fun b => node 36 t2.pos [] [a.1, b.1] else bad L
        else if isB t2 [[43, 61]] then bnd (nodeAt a.1) fun x => if x.op ≠ 6 ∧ x.op ≠ 13 then bad L else bnd adv fun _ => bnd (rec .many) fun b => node 37 t2.pos [] [a.1, b.1]
        else bnd (nodeAt a.1) fun x => node 35 x.pos [] [a.1]
  | _, .answer => bnd getDefs fun d => if d then bnd (must L [114, 101, 116, 117, 114, 110]) fun pos => bnd (tok L) fun t => if t.kind = 5 then node 41 pos [] [] else bnd (rec .many) fun k => node 41 pos [] [k.1] else bad L
  | _, .load => bnd (must L [108, 111, 97, 100]) fun pos => bnd (must L [40]) fun p2 => bnd (inn p2) fun _ => bnd (kinds L 3) fun m => bnd (rec (.loadGo [])) fun l => if l = [] then bad L else bnd (must L [41]) fun _ => bnd outn fun _ => node 42 pos m.1 l
  | _, .loadGo l => bnd (take L [44]) fun b => if b then bnd (tok L) fun t => if decide (l ≠ []) && isB t [[41]] then ret l
      else if t.kind = 1 then bnd (kinds L 1) fun nm => bnd (must L [61]) fun _ => bnd (kinds L 3) fun th => bnd (node 5 th.2 th.1 []) fun n => bnd (node 46 t.pos nm.1 [n]) fun q => grow l (rec (.loadGo (l ++ [q])))
      else if t.kind ≠ 3 ∨ nameB t.text = false then bad L else bnd (kinds L 3) fun nm => bnd (node 5 t.pos nm.1 []) fun n => bnd (node 46 t.pos nm.1 [n]) fun q => grow l (rec (.loadGo (l ++ [q])))
    else ret l
  | _, .block => bnd (must L [58]) fun p1 => bnd (inn p1) fun _ => bnd (tok L) fun t =>
      bnd (if t.kind = 5 then bnd adv fun _ => bnd (kinds L 6) fun _ => bnd (rec (.blockGo [])) fun l => bnd adv fun _ => ret l else bnd (rec (.simple false)) fun k => bnd (kinds L 5) fun _ => ret [k]) fun l =>
      bnd outn fun _ => bnd (nodeAt (l.headD 0)) fun x => node 47 x.pos [] l
  | _, .blockGo l => bnd (tok L) fun t => if l = [] ∨ t.kind ≠ 7 then bnd (rec (.statement false)) fun k => grow l (rec (.blockGo (l ++ [k]))) else ret l
  | _, .cond => bnd (tok L) fun t => bnd adv fun _ => bnd (rec .test) fun c => bnd (rec .block) fun b => bnd (tok L) fun t2 =>
      if isB t2 [[101, 108, 105, 102]] then bnd (inn t2.pos) fun _ => bnd (rec .cond) fun k => bnd outn fun _ => bnd (node 47 t2.pos [] [k]) fun n => node 43 t.pos [] [c, b, n]
      else bnd (take L [101, 108, 115, 101]) fun e => if e then bnd (rec .block) fun n => node 43 t.pos [] [c, b, n] else node 43 t.pos [] [c, b]
  | _, .loop => bnd (must L [102, 111, 114]) fun pos => bnd (rec (.some_ [105, 110])) fun to => bnd (must L [105, 110]) fun _ => bnd (rec .many) fun over => bnd getFors fun n => bnd (setFors (n + 1)) fun _ => bnd (rec .block) fun b => bnd getFors fun m =>
      match m with | 0 => fun _ => none | m + 1 => bnd (setFors m) fun _ => node 44 pos [] [to.1, over.1, b]
  | _, .def_ => bnd (must L [100, 101, 102]) fun pos => bnd (kinds L 1) fun nm => bnd (must L [40]) fun _ => bnd (rec (.defGo [] [] false)) fun l => bnd (must L [41]) fun _ => bnd (setDefs true) fun _ => bnd getFors fun fs => bnd (setFors 0) fun _ => bnd (rec .block) fun b =>
      bnd (setDefs false) fun _ => bnd (setFors fs) fun _ => node 45 pos nm.1 (l ++ [b])
  | _, .defGo l names given => bnd (tok L) fun t => if isB t [[41]] then ret l else bnd (ahead L [61]) fun a => if t.kind ≠ 1 ∨ names.contains t.text = true ∨ (given = true ∧ a = false) then bad L
      else bnd (kinds L 1) fun x => bnd (take L [61]) fun e => bnd (if e then bnd (rec .test) fun k => bnd (node 46 x.2 x.1 [k]) fun n => ret (n, true) else bnd (node 46 x.2 x.1 []) fun n => ret (n, given)) fun y =>
      bnd (take L [44]) fun b => grow l (if b then rec (.defGo (l ++ [y.1]) (names ++ [x.1]) y.2) else ret (l ++ [y.1]))
  | _, .file => bnd (rec (.fileGo [])) fun l => bnd (if l = [] then bnd (node 38 0 [] []) fun n => ret [n] else ret l) fun l => bnd (nodeAt (l.headD 0)) fun x => bnd (node 47 x.pos [] l) fun _ => ret ()
  | _, .fileGo l => bnd (tok L) fun t => if t.kind ≠ 8 then bnd (rec (.statement true)) fun k => grow l (rec (.fileGo (l ++ [k]))) else ret l
def run : Nat → ∀ {α : Type}, F α → M α
  | 0, _, _ => fun _ => none
  | n + 1, _, f => body L nameB (fun {_} g => run n g) f
end
end Go.Pa
