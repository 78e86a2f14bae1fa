/-
  Proved here: programs of code as plain values, where they lie in memory. No program of Go's stands here.
-/
import Derived.Test.YtgijpgkckiknjaaGreatDoorAt
import Derived.Test.YtgijpgkckiknjaaGreatDoorCkP
namespace Go.Ck
open Go.SX Go.RowKit
open Go.Tr (ndA)
def insCs (i : Ins) : List Value := [.int .i64 i.op, .int .i64 i.a, .int .i64 i.b, .int .i64 i.pos]
@[reducible] def insV (i : Ins) : Value := .agg #[.int .i64 i.op, .int .i64 i.a, .int .i64 i.b, .int .i64 i.pos]
def insA (_ : Rd) (cs : List Value) (i : Ins) : Prop := cs = insCs i ∧ inI i.op ∧ inI i.a ∧ inI i.b ∧ inI i.pos
instance : Kept insA := ⟨fun _ h => h⟩
def fnA (M : Rd) (cs : List Value) (f : Fc) : Prop := ∃ vn vc, cs = [str f.name, .int .i64 f.params, .int .i64 f.given, .int .i64 f.slots, vn, vc] ∧ SlA 1 strA M vn f.names ∧ SlA 4 insA M vc f.code ∧ inI f.params ∧ inI f.given ∧ inI f.slots
instance : Kept fnA := ⟨fun hM ⟨vn, vc, h1, h2, h3, h4⟩ => ⟨vn, vc, h1, h2.mono hM, h3.mono hM, h4⟩⟩
def pgCs (M : Rd) (cs : List Value) (p : Pg) : Prop := ∃ vf vc vg vn, cs = [vf, vc, vg, vn] ∧ SlA 6 fnA M vf p.funcs ∧ SlA 5 ndA M vc p.consts ∧ SlA 1 strA M vg p.globals ∧ SlA 1 strA M vn p.names
instance : Kept pgCs := ⟨fun hM ⟨vf, vc, vg, vn, h0, h1, h2, h3, h4⟩ => ⟨vf, vc, vg, vn, h0, h1.mono hM, h2.mono hM, h3.mono hM, h4.mono hM⟩⟩
/-- a program and one of its functions, where they lie -/
structure Cx where
  af : Option Addr
  ac : Option Addr
  ag : Option Addr
  an : Option Addr
  am : Option Addr
  ad : Option Addr
  cf : Nat
  cc : Nat
  cg : Nat
  cn : Nat
  cm : Nat
  cd : Nat
structure CkAt (M : Rd) (X : Cx) (p : Pg) (f : Fc) : Prop where
  hF : SlAt 6 fnA M X.af p.funcs
  hC : SlAt 5 ndA M X.ac p.consts
  hG : SlAt 1 strA M X.ag p.globals
  hN : SlAt 1 strA M X.an p.names
  hM : SlAt 1 strA M X.am f.names
  hD : SlAt 4 insA M X.ad f.code
  small : inI f.params ∧ inI f.given ∧ inI f.slots
@[reducible] def Cx.pcs (X : Cx) (p : Pg) : List Value := [.slice X.af p.funcs.length X.cf, .slice X.ac p.consts.length X.cc, .slice X.ag p.globals.length X.cg, .slice X.an p.names.length X.cn]
@[reducible] def Cx.fcs (X : Cx) (f : Fc) : List Value := [str f.name, .int .i64 f.params, .int .i64 f.given, .int .i64 f.slots, .slice X.am f.names.length X.cm, .slice X.ad f.code.length X.cd]
@[reducible] def Cx.all (X : Cx) (p : Pg) (f : Fc) : List Value := [.slice X.af p.funcs.length X.cf, .slice X.ac p.consts.length X.cc, .slice X.ag p.globals.length X.cg, .slice X.an p.names.length X.cn, str f.name, .int .i64 f.params, .int .i64 f.given, .int .i64 f.slots, .slice X.am f.names.length X.cm, .slice X.ad f.code.length X.cd]
theorem cutWy {w0 w : World} {base : Nat} {a : It} {r : List It} {g : Option Nat} {cap q T : Nat} {Wk0 : List (Nat × Int)} {x : Nat × Int} (hw : WA w0 base (a :: .row g cap (q + 1) T 2 ((Wk0 ++ [x]).flatMap wy) :: r) w) (h : Wk0.length = q) :
    WA w0 base (a :: .row g cap q T 2 (Wk0.flatMap wy) :: r) w := by
  have h1 := hw.cut (i := 1) rfl (k := q) (by omega)
  rw [← (wy_snoc Wk0 x).1, h]
  exact h1
/-- a walker's cells -/
@[reducible] def Cx.wall (X : Cx) (p : Pg) (f : Fc) (gb : Nat) (g : Option Nat) (m cap : Nat) : List Value := [.slice X.af p.funcs.length X.cf, .slice X.ac p.consts.length X.cc, .slice X.ag p.globals.length X.cg, .slice X.an p.names.length X.cn, str f.name, .int .i64 f.params, .int .i64 f.given, .int .i64 f.slots, .slice X.am f.names.length X.cm, .slice X.ad f.code.length X.cd, rv (some gb) f.code.length f.code.length, rv g m cap]
def vn (k : Nat) : Value := .int .i64 (k : Int)
theorem vn_one (l : List Nat) : (l.map vn).all (·.oneCell') = true := by
  rw [List.all_eq_true]
  intro v hv
  obtain ⟨x, _, rfl⟩ := List.mem_map.1 hv
  rfl
theorem cutVn {w0 w : World} {base : Nat} {a b : It} {r : List It} {g : Option Nat} {cap q T : Nat} {Wk0 : List Nat} {x : Nat} (hw : WA w0 base (a :: b :: .row g cap (q + 1) T 1 ((Wk0 ++ [x]).map vn) :: r) w) (h : Wk0.length = q) :
    WA w0 base (a :: b :: .row g cap q T 1 (Wk0.map vn) :: r) w := by
  have h1 := hw.cut (i := 2) rfl (k := q) (by omega)
  have e : ((Wk0 ++ [x]).map vn).take (q * 1) = Wk0.map vn := by
    rw [Nat.mul_one, List.map_append, ← h, ← List.length_map (f := vn) (as := Wk0), List.take_left]
  rw [e] at h1
  exact h1
theorem vn_last {Wk0 : List Nat} {x q : Nat} (h : Wk0.length = q) : ((Wk0 ++ [x]).map vn)[q * 1]? = some (.int .i64 (x : Int)) := by
  rw [Nat.mul_one, List.map_append, ← h, List.getElem?_append_right (by simp)]
  simp [vn]
end Go.Ck
