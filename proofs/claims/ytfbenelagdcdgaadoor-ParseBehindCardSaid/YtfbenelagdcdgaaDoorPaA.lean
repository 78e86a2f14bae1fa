/-
  Proved here: the parser's looks.
-/
import Derived.Test.YtfbenelagdcdgaaDoorPaP
import Derived.Test.YtfbenelagdcdgaaDoorTrF
import Derived.Test.YtfbenelagdcdgaaDoorPr
import Derived.Test.YtfbenelagdcdgaaDoorMt
import Derived.Test.YtfbenelagdcdgaaDoorEnvQ
set_option linter.unusedSimpArgs false
namespace Go.Proofs.YtfbenelagdcdgaaDoor
open Go.SX Go.RowKit Go.Tr Go.Lex
namespace Pa
theorem en13 : Enters Tryd.prog 13 := Enters.of Tryd.func13 (by kernel_rfl) (by kernel_rfl)
theorem fa41_0 : FieldOffA Tryd.prog 41 0 0 := fun a w => by kernel_rfl
theorem fa41_1 : FieldOffA Tryd.prog 41 1 1 := fun a w => by kernel_rfl
theorem fa57_0 : FieldOffA Tryd.prog 57 0 0 := fun a w => by kernel_rfl
theorem fa57_1 : FieldOffA Tryd.prog 57 1 1 := fun a w => by kernel_rfl
theorem fa57_2 : FieldOffA Tryd.prog 57 2 2 := fun a w => by kernel_rfl
theorem fo41_0 : FieldOff Tryd.prog 41 0 0 := fun b o w => by kernel_rfl
theorem fo41_1 : FieldOff Tryd.prog 41 1 1 := fun b o w => by kernel_rfl
theorem fo57_0 : FieldOff Tryd.prog 57 0 0 := fun b o w => by kernel_rfl
theorem fo57_1 : FieldOff Tryd.prog 57 1 1 := fun b o w => by kernel_rfl
theorem fo57_2 : FieldOff Tryd.prog 57 2 2 := fun b o w => by kernel_rfl
theorem one3 : One Tryd.prog 3 := fun w => by kernel_rfl
theorem one37 : One Tryd.prog 37 := fun w => by kernel_rfl
theorem sz57 : SizeIs Tryd.prog 57 3 := fun w => by kernel_rfl
theorem un37 : Tryd.prog.underlying 37 = some (.slice 57) := by kernel_rfl
end Pa
open Go.Proofs.YtfbenelagdcdgaaDoor.Env (EnvS errV sentG)
open Go.Pa (Tk)
/-- a token, in cells -/
def tokA (_ : Rd) (cs : List Value) (t : Tk) : Prop := cs = [.int .i64 t.kind, str t.text, .int .i64 t.pos] ∧ inI t.kind ∧ inI t.pos
instance : Kept tokA := ⟨fun _ h => h⟩
/-- what the parser holds: its nodes' row, and what else -/
structure Mm where
  g : Option Nat
  c : Nat
  cells : List Value
  rs : List It
@[reducible] def psC (al : Option Addr) (n cl : Nat) (s : Go.Pa.St) (m : Mm) : List Value := [.slice al n cl, .int .i64 (s.at_ : Int), rv m.g s.out.length m.c, .int .i64 (s.deep : Int), .bool s.defs, .int .i64 (s.fors : Int)]
@[reducible] def Mm.put (m : Mm) (q : Option Nat × Nat) (op pos : Int) (x : List UInt8) (v : Value) (rs : List It) : Mm := ⟨q.1, q.2, m.cells ++ [.int .i64 op, .int .i64 0, .int .i64 pos, str x, v], rs⟩
@[reducible] def PBl (bp : Nat) (al : Option Addr) (L : List Tk) (cl : Nat) (s : Go.Pa.St) (m : Mm) : It := blk bp (psC al L.length cl s m) 41
@[reducible] def ROl (s : Go.Pa.St) (m : Mm) : It := .row m.g m.c s.out.length 31 5 m.cells
@[reducible] def PWl (bp : Nat) (al : Option Addr) (L : List Tk) (cl : Nat) (s : Go.Pa.St) (m : Mm) (fr : List It) : List It := PBl bp al L cl s m :: ROl s m :: (m.rs ++ fr)
theorem z1 (s : Go.Pa.St) (op pos : Int) (x : List UInt8) (ks : List Int) : s.nod op pos x ks = ⟨s.at_, s.out ++ [⟨op, 0, pos, x, ks⟩], s.deep, s.defs, s.fors⟩ := rfl
theorem z2 (s : Go.Pa.St) : s.adv = ⟨s.at_ + 1, s.out, s.deep, s.defs, s.fors⟩ := rfl
theorem z3 (m : Mm) (q : Option Nat × Nat) (op pos : Int) (x : List UInt8) (v : Value) (rs : List It) : m.put q op pos x v rs = ⟨q.1, q.2, m.cells ++ [.int .i64 op, .int .i64 0, .int .i64 pos, str x, v], rs⟩ := rfl
theorem z4 {α : Type} (x : α) (a b : List α) : cnt x (a ++ b) = cnt x a + cnt x b := cnt_append x a b
theorem z5 {α : Type} (x y : α) (r : List α) : cnt x (y :: r) = (open Classical in if y = x then 1 else 0) + cnt x r := rfl
theorem z6 {α : Type} (x : α) : cnt x [] = 0 := rfl
theorem blkL {w0 w : World} {base : Nat} {its : List It} (hw : WA w0 base its w) {i b T : Nat} {cs : List Value} (hi : its[i]? = some (blk b cs T)) : Lies w w.heap.size ⟨b, 0, none⟩ cs := ⟨fun j u hj => by
  have h1 := hw.cell hi hj
  have e : (⟨b, 0, none⟩ : Addr).add j = ⟨b, j, none⟩ := by rw [Addr.add_mid, Nat.zero_add]
  rw [e]
  have h2 := World.block_lt_of_cell? w ⟨b, j, none⟩ h1
  exact ⟨h2, h1⟩⟩
theorem kind_c {w0 : World} {base : Nat} {bp : Nat} {al : Option Addr} {cl : Nat} {L : List Tk} {s : Go.Pa.St} {m : Mm} {t : Tk} (ht : L[s.at_]? = some t)  (hB : Lies w0 base ⟨bp, 0, none⟩ (psC al L.length cl s m)) (hL : SlAt 3 tokA (Lies w0 base) al L) : FnC Tryd.prog 13 #[.pointer (some ⟨bp, 0, none⟩)] (WA w0 base []) (fun _ : Unit => .int .i64 t.kind) (fun _ => WA w0 base []) := by
  obtain ⟨a0, cs, hav, hcl, hLt, rfl, hin1, hin2⟩ := hL _ _ ht
  have hj : s.at_ < L.length := (List.getElem?_eq_some_iff.1 ht).1
  refine FnC.of_body (fn := Tryd.f13) [(0, _)] Tryd.func13 rfl Tryd.ntmps13 rfl ⟨rfl, trivial⟩ ?_
  refine CX.seq <| CX.region <| LX.pure (Y.assign rfl) rfl rfl rfl <| LX.sub (l' := [(0, _), (2, _)]) ⟨rfl, rfl, trivial⟩ <| LX.next <| PX.thenN <| CX.seq <| CX.regionQ rfl (by kernel_rfl) <| LX.pure (Y.move rfl) rfl rfl rfl <| LX.pure (Y.nilCheck rfl) rfl rfl rfl <| LX.pure (Y.fieldAddr0 Pa.fo41_0 rfl) rfl rfl rfl <| LX.pure (Y.ldB0 Pa.one37 rfl hB rfl) rfl rfl rfl <| LX.pure (Y.move rfl) rfl rfl rfl <| LX.pure (Y.nilCheck rfl) rfl rfl rfl <| LX.pure (Y.fieldAddr0 Pa.fo41_1 rfl) rfl rfl rfl <| LX.pure (Y.ldB0 Pa.one3 rfl hB rfl) rfl rfl rfl <| LX.pure (Y.idxZ Pa.un37 Pa.sz57 rfl rfl hav (j := s.at_) rfl hj) rfl rfl rfl <| LX.pure (Y.fieldA Pa.fa57_0 rfl) rfl rfl rfl <| LX.pure (Y.ldFO (v := .int .i64 t.kind) Pa.one3 rfl hLt rfl) rfl rfl rfl <| LX.pure (Y.assign rfl) rfl rfl rfl <| LX.sub (l' := [(2, _)]) ⟨rfl, trivial⟩ <| LX.nextQ <| PX.thenN <| CX.ret <| PX.ret1 (by simp) Tryd.results13 rfl ?_
  exact fun w hw => ⟨(), rfl, hw⟩
theorem kind_q {W : World → Prop} [Stab W] {bp : Nat} {al : Option Addr} {cl : Nat} {L : List Tk} {s : Go.Pa.St} {m : Mm} {t : Tk} (ht : L[s.at_]? = some t)  (hB : ∀ w, W w → Lies w w.heap.size ⟨bp, 0, none⟩ (psC al L.length cl s m)) (hL : ∀ w, W w → SlAt 3 tokA (Lies w w.heap.size) al L) : FnQ Tryd.prog 13 #[.pointer (some ⟨bp, 0, none⟩)] W (.int .i64 t.kind) := FnC.quiet fun w hw => kind_c ht (hB w hw) (hL w hw)
theorem pos_c {w0 : World} {base : Nat} {bp : Nat} {al : Option Addr} {cl : Nat} {L : List Tk} {s : Go.Pa.St} {m : Mm} {t : Tk} (ht : L[s.at_]? = some t)  (hB : Lies w0 base ⟨bp, 0, none⟩ (psC al L.length cl s m)) (hL : SlAt 3 tokA (Lies w0 base) al L) : FnC Tryd.prog 36 #[.pointer (some ⟨bp, 0, none⟩)] (WA w0 base []) (fun _ : Unit => .int .i64 t.pos) (fun _ => WA w0 base []) := by
  obtain ⟨a0, cs, hav, hcl, hLt, rfl, hin1, hin2⟩ := hL _ _ ht
  have hj : s.at_ < L.length := (List.getElem?_eq_some_iff.1 ht).1
  refine FnC.of_body (fn := Tryd.f36) [(0, _)] Tryd.func36 rfl Tryd.ntmps36 rfl ⟨rfl, trivial⟩ ?_
  refine CX.seq <| CX.region <| LX.pure (Y.assign rfl) rfl rfl rfl <| LX.sub (l' := [(0, _), (2, _)]) ⟨rfl, rfl, trivial⟩ <| LX.next <| PX.thenN <| CX.seq <| CX.regionQ rfl (by kernel_rfl) <| LX.pure (Y.move rfl) rfl rfl rfl <| LX.pure (Y.nilCheck rfl) rfl rfl rfl <| LX.pure (Y.fieldAddr0 Pa.fo41_0 rfl) rfl rfl rfl <| LX.pure (Y.ldB0 Pa.one37 rfl hB rfl) rfl rfl rfl <| LX.pure (Y.move rfl) rfl rfl rfl <| LX.pure (Y.nilCheck rfl) rfl rfl rfl <| LX.pure (Y.fieldAddr0 Pa.fo41_1 rfl) rfl rfl rfl <| LX.pure (Y.ldB0 Pa.one3 rfl hB rfl) rfl rfl rfl <| LX.pure (Y.idxZ Pa.un37 Pa.sz57 rfl rfl hav (j := s.at_) rfl hj) rfl rfl rfl <| LX.pure (Y.fieldA Pa.fa57_2 rfl) rfl rfl rfl <| LX.pure (Y.ldFO (v := .int .i64 t.pos) Pa.one3 rfl hLt rfl) rfl rfl rfl <| LX.pure (Y.assign rfl) rfl rfl rfl <| LX.sub (l' := [(2, _)]) ⟨rfl, trivial⟩ <| LX.nextQ <| PX.thenN <| CX.ret <| PX.ret1 (by simp) Tryd.results36 rfl ?_
  exact fun w hw => ⟨(), rfl, hw⟩
theorem pos_q {W : World → Prop} [Stab W] {bp : Nat} {al : Option Addr} {cl : Nat} {L : List Tk} {s : Go.Pa.St} {m : Mm} {t : Tk} (ht : L[s.at_]? = some t)  (hB : ∀ w, W w → Lies w w.heap.size ⟨bp, 0, none⟩ (psC al L.length cl s m)) (hL : ∀ w, W w → SlAt 3 tokA (Lies w w.heap.size) al L) : FnQ Tryd.prog 36 #[.pointer (some ⟨bp, 0, none⟩)] W (.int .i64 t.pos) := FnC.quiet fun w hw => pos_c ht (hB w hw) (hL w hw)
theorem is_c {w0 : World} {base : Nat} {bp : Nat} {al : Option Addr} {cl : Nat} {L : List Tk} {s : Go.Pa.St} {m : Mm} {t : Tk} (ht : L[s.at_]? = some t) {av : Option Addr} (ck : Nat) {ss : List (List UInt8)} (hl : ss.length ≤ 9223372036854775807)  (hB : Lies w0 base ⟨bp, 0, none⟩ (psC al L.length cl s m)) (hL : SlAt 3 tokA (Lies w0 base) al L) (hss : SlAt 1 strA (Lies w0 base) av ss) : FnC Tryd.prog 20 #[.pointer (some ⟨bp, 0, none⟩), .slice av ss.length ck] (WA w0 base []) (fun _ : Unit => .bool (Go.Pa.isB t ss)) (fun _ => WA w0 base []) := by
  obtain ⟨a0, cs, hav, hcl, hLt, rfl, hin1, hin2⟩ := hL _ _ ht
  have hj : s.at_ < L.length := (List.getElem?_eq_some_iff.1 ht).1
  refine FnC.of_body (fn := Tryd.f20) [(0, _), (1, _)] Tryd.func20 rfl Tryd.ntmps20 rfl ⟨rfl, rfl, trivial⟩ ?_
  refine CX.seq <| CX.region <| LX.pure (Y.assign rfl) rfl rfl rfl <| LX.sub (l' := [(0, _), (1, _), (4, _)]) ⟨rfl, rfl, rfl, trivial⟩ <| LX.next <| PX.thenN <| CX.seq <| CX.regionQ rfl (by kernel_rfl) <| LX.pure (Y.move rfl) rfl rfl rfl <| LX.callQ (kind_q ht (fun w hw => hB.push hw) (fun w hw => hL.push hw)) Pa.en13 rfl rfl rfl rfl rfl <| LX.pure (Y.eqI rfl rfl) rfl rfl rfl <| LX.pure (Y.move rfl) rfl rfl rfl <| LX.sub (l' := [(0, _), (1, _), (4, _), (8, _)]) ⟨rfl, rfl, rfl, rfl, trivial⟩ ?_
  apply LX.joinAnd 14 22 8 rfl
  · intro hb1
    have hb1p := hb1
    try simp at hb1p
    refine LX.gT rfl rfl rfl hb1 (Y.move rfl) rfl rfl <| LX.gT rfl rfl rfl hb1 (Y.move rfl) rfl rfl <| LX.gT rfl rfl rfl hb1 (Y.nilCheck rfl) rfl rfl <| LX.gT rfl rfl rfl hb1 (Y.fieldAddr0 Pa.fo41_0 rfl) rfl rfl <| LX.gT rfl rfl rfl hb1 (Y.ldB0 Pa.one37 rfl hB rfl) rfl rfl <| LX.gT rfl rfl rfl hb1 (Y.move rfl) rfl rfl <| LX.gT rfl rfl rfl hb1 (Y.nilCheck rfl) rfl rfl <| LX.gT rfl rfl rfl hb1 (Y.fieldAddr0 Pa.fo41_1 rfl) rfl rfl <| LX.gT rfl rfl rfl hb1 (Y.ldB0 Pa.one3 rfl hB rfl) rfl rfl <| LX.gT rfl rfl rfl hb1 (Y.idxZ Pa.un37 Pa.sz57 rfl rfl hav (j := s.at_) rfl hj) rfl rfl <| LX.gT rfl rfl rfl hb1 (Y.fieldA Pa.fa57_1 rfl) rfl rfl <| LX.gT rfl rfl rfl hb1 (Y.ldFO (v := str t.text) Fy.one9 rfl hLt rfl) rfl rfl <| LX.callQT rfl rfl rfl hb1 (hasStr_q ck hl t.text (fun w hw => hss.push hw)) Fy.en35 rfl rfl rfl rfl <| LX.pure (Y.pickT rfl hb1 rfl) rfl rfl rfl ?_
    exact LX.left ⟨rfl, rfl, rfl, rfl, rfl, trivial⟩
  · intro hb1
    have hb1p := hb1
    try simp at hb1p
    refine LX.gF rfl rfl rfl hb1 rfl rfl <| LX.gF rfl rfl rfl hb1 rfl rfl <| LX.gF rfl rfl rfl hb1 rfl rfl <| LX.gF rfl rfl rfl hb1 rfl rfl <| LX.gF rfl rfl rfl hb1 rfl rfl <| LX.gF rfl rfl rfl hb1 rfl rfl <| LX.gF rfl rfl rfl hb1 rfl rfl <| LX.gF rfl rfl rfl hb1 rfl rfl <| LX.gF rfl rfl rfl hb1 rfl rfl <| LX.gF rfl rfl rfl hb1 rfl rfl <| LX.gF rfl rfl rfl hb1 rfl rfl <| LX.gF rfl rfl rfl hb1 rfl rfl <| LX.gF rfl rfl rfl hb1 rfl rfl <| LX.pure (Y.pickF rfl hb1 rfl) rfl rfl rfl ?_
    exact LX.left ⟨rfl, rfl, rfl, rfl, rfl, trivial⟩
  refine LX.pure (Y.assign rfl) rfl rfl rfl <| LX.sub (l' := [(4, _)]) ⟨rfl, trivial⟩ <| LX.nextQ <| PX.thenN <| CX.ret <| PX.ret1 (by simp) Tryd.results20 rfl ?_
  exact fun w hw => ⟨(), congrArg (fun z => Ending.returned (Value.bool z)) (by unfold Go.Pa.isB; simp), hw⟩
theorem is_q {W : World → Prop} [Stab W] {bp : Nat} {al : Option Addr} {cl : Nat} {L : List Tk} {s : Go.Pa.St} {m : Mm} {t : Tk} (ht : L[s.at_]? = some t) {av : Option Addr} (ck : Nat) {ss : List (List UInt8)} (hl : ss.length ≤ 9223372036854775807)  (hB : ∀ w, W w → Lies w w.heap.size ⟨bp, 0, none⟩ (psC al L.length cl s m)) (hL : ∀ w, W w → SlAt 3 tokA (Lies w w.heap.size) al L) (hss : ∀ w, W w → SlAt 1 strA (Lies w w.heap.size) av ss) : FnQ Tryd.prog 20 #[.pointer (some ⟨bp, 0, none⟩), .slice av ss.length ck] W (.bool (Go.Pa.isB t ss)) := FnC.quiet fun w hw => is_c ht ck hl (hB w hw) (hL w hw) (hss w hw)
theorem aheadY_c {w0 : World} {base : Nat} {bp : Nat} {al : Option Addr} {cl : Nat} {L : List Tk} {s : Go.Pa.St} {m : Mm} (x : List UInt8) (hln : L.length ≤ 1099511627776) {t : Tk} (ht : L[s.at_ + 1]? = some t)  (hB : Lies w0 base ⟨bp, 0, none⟩ (psC al L.length cl s m)) (hL : SlAt 3 tokA (Lies w0 base) al L) : FnC Tryd.prog 45 #[.pointer (some ⟨bp, 0, none⟩), str x] (WA w0 base []) (fun _ : Unit => .bool (decide (t.kind = 4) && decide (t.text = x))) (fun _ => WA w0 base []) := by
  obtain ⟨a0, cs, hav, hcl, hLt, rfl, hin1, hin2⟩ := hL _ _ ht
  have hj : s.at_ + 1 < L.length := (List.getElem?_eq_some_iff.1 ht).1
  refine FnC.of_body (fn := Tryd.f45) [(0, _), (1, _)] Tryd.func45 rfl Tryd.ntmps45 rfl ⟨rfl, rfl, trivial⟩ ?_
  refine CX.seq <| CX.region <| LX.pure (Y.assign rfl) rfl rfl rfl <| LX.sub (l' := [(0, _), (1, _), (4, _)]) ⟨rfl, rfl, rfl, trivial⟩ <| LX.next <| PX.thenN <| CX.seq <| CX.regionQ rfl (by kernel_rfl) <| LX.pure (Y.move rfl) rfl rfl rfl <| LX.pure (Y.nilCheck rfl) rfl rfl rfl <| LX.pure (Y.fieldAddr0 Pa.fo41_1 rfl) rfl rfl rfl <| LX.pure (Y.ldB0 Pa.one3 rfl hB rfl) rfl rfl rfl <| LX.pure (Y.addN rfl rfl (by (simp only []; omega))) rfl rfl rfl <| LX.pure (Y.move rfl) rfl rfl rfl <| LX.pure (Y.nilCheck rfl) rfl rfl rfl <| LX.pure (Y.fieldAddr0 Pa.fo41_0 rfl) rfl rfl rfl <| LX.pure (Y.ldB0 Pa.one37 rfl hB rfl) rfl rfl rfl <| LX.pure (Y.lenSl rfl Pa.un37 rfl) rfl rfl rfl <| LX.pure (Y.ltN rfl rfl) rfl rfl rfl <| LX.pure (Y.move rfl) rfl rfl rfl <| LX.sub (l' := [(0, _), (1, _), (4, _), (16, _)]) ⟨rfl, rfl, rfl, rfl, trivial⟩ ?_
  apply LX.joinAnd 14 30 16 rfl
  · intro hb1
    have hb1p := hb1
    try simp at hb1p
    refine LX.gT rfl rfl rfl hb1 (Y.move rfl) rfl rfl <| LX.gT rfl rfl rfl hb1 (Y.nilCheck rfl) rfl rfl <| LX.gT rfl rfl rfl hb1 (Y.fieldAddr0 Pa.fo41_0 rfl) rfl rfl <| LX.gT rfl rfl rfl hb1 (Y.ldB0 Pa.one37 rfl hB rfl) rfl rfl <| LX.gT rfl rfl rfl hb1 (Y.move rfl) rfl rfl <| LX.gT rfl rfl rfl hb1 (Y.nilCheck rfl) rfl rfl <| LX.gT rfl rfl rfl hb1 (Y.fieldAddr0 Pa.fo41_1 rfl) rfl rfl <| LX.gT rfl rfl rfl hb1 (Y.ldB0 Pa.one3 rfl hB rfl) rfl rfl <| LX.gT rfl rfl rfl hb1 (Y.addN rfl rfl (by (simp only []; omega))) rfl rfl <| LX.gT rfl rfl rfl hb1 (Y.idxZ Pa.un37 Pa.sz57 rfl rfl hav (j := s.at_ + 1) rfl hj) rfl rfl <| LX.gT rfl rfl rfl hb1 (Y.fieldAddr Pa.fo57_0 rfl) rfl rfl <| LX.gT rfl rfl rfl hb1 (Y.ldFO (a := a0.add ((s.at_ + 1) * 3)) (j := 0) (v := .int .i64 t.kind) Pa.one3 rfl hLt rfl) rfl rfl <| LX.gT rfl rfl rfl hb1 (Y.eqI rfl rfl) rfl rfl <| LX.pure (Y.pickT rfl hb1 rfl) rfl rfl rfl ?_
    exact LX.left ⟨rfl, rfl, rfl, rfl, rfl, trivial⟩
  · intro hb1
    have hb1p := hb1
    try simp at hb1p
    refine LX.gF rfl rfl rfl hb1 rfl rfl <| LX.gF rfl rfl rfl hb1 rfl rfl <| LX.gF rfl rfl rfl hb1 rfl rfl <| LX.gF rfl rfl rfl hb1 rfl rfl <| LX.gF rfl rfl rfl hb1 rfl rfl <| LX.gF rfl rfl rfl hb1 rfl rfl <| LX.gF rfl rfl rfl hb1 rfl rfl <| LX.gF rfl rfl rfl hb1 rfl rfl <| LX.gF rfl rfl rfl hb1 rfl rfl <| LX.gF rfl rfl rfl hb1 rfl rfl <| LX.gF rfl rfl rfl hb1 rfl rfl <| LX.gF rfl rfl rfl hb1 rfl rfl <| LX.gF rfl rfl rfl hb1 rfl rfl <| LX.pure (Y.pickF rfl hb1 rfl) rfl rfl rfl ?_
    exact LX.left ⟨rfl, rfl, rfl, rfl, rfl, trivial⟩
  refine LX.pure (Y.move rfl) rfl rfl rfl <| LX.sub (l' := [(0, _), (1, _), (4, _), (31, _)]) ⟨rfl, rfl, rfl, rfl, trivial⟩ ?_
  apply LX.joinAnd 15 46 31 rfl
  · intro hb2
    have hb2p := hb2
    try simp at hb2p
    refine LX.gT rfl rfl rfl hb2 (Y.move rfl) rfl rfl <| LX.gT rfl rfl rfl hb2 (Y.nilCheck rfl) rfl rfl <| LX.gT rfl rfl rfl hb2 (Y.fieldAddr0 Pa.fo41_0 rfl) rfl rfl <| LX.gT rfl rfl rfl hb2 (Y.ldB0 Pa.one37 rfl hB rfl) rfl rfl <| LX.gT rfl rfl rfl hb2 (Y.move rfl) rfl rfl <| LX.gT rfl rfl rfl hb2 (Y.nilCheck rfl) rfl rfl <| LX.gT rfl rfl rfl hb2 (Y.fieldAddr0 Pa.fo41_1 rfl) rfl rfl <| LX.gT rfl rfl rfl hb2 (Y.ldB0 Pa.one3 rfl hB rfl) rfl rfl <| LX.gT rfl rfl rfl hb2 (Y.addN rfl rfl (by (simp only []; omega))) rfl rfl <| LX.gT rfl rfl rfl hb2 (Y.idxZ Pa.un37 Pa.sz57 rfl rfl hav (j := s.at_ + 1) rfl hj) rfl rfl <| LX.gT rfl rfl rfl hb2 (Y.fieldAddr Pa.fo57_1 rfl) rfl rfl <| LX.gT rfl rfl rfl hb2 (Y.ldFO (a := a0.add ((s.at_ + 1) * 3)) (j := 1) (v := str t.text) Fy.one9 rfl hLt rfl) rfl rfl <| LX.gT rfl rfl rfl hb2 (Y.move rfl) rfl rfl <| LX.gT rfl rfl rfl hb2 (Y.eqS rfl rfl) rfl rfl <| LX.pure (Y.pickT rfl hb2 rfl) rfl rfl rfl ?_
    exact LX.left ⟨rfl, rfl, rfl, rfl, rfl, trivial⟩
  · intro hb2
    have hb2p := hb2
    try simp at hb2p
    refine LX.gF rfl rfl rfl hb2 rfl rfl <| LX.gF rfl rfl rfl hb2 rfl rfl <| LX.gF rfl rfl rfl hb2 rfl rfl <| LX.gF rfl rfl rfl hb2 rfl rfl <| LX.gF rfl rfl rfl hb2 rfl rfl <| LX.gF rfl rfl rfl hb2 rfl rfl <| LX.gF rfl rfl rfl hb2 rfl rfl <| LX.gF rfl rfl rfl hb2 rfl rfl <| LX.gF rfl rfl rfl hb2 rfl rfl <| LX.gF rfl rfl rfl hb2 rfl rfl <| LX.gF rfl rfl rfl hb2 rfl rfl <| LX.gF rfl rfl rfl hb2 rfl rfl <| LX.gF rfl rfl rfl hb2 rfl rfl <| LX.gF rfl rfl rfl hb2 rfl rfl <| LX.pure (Y.pickF rfl hb2 rfl) rfl rfl rfl ?_
    exact LX.left ⟨rfl, rfl, rfl, rfl, rfl, trivial⟩
  refine LX.pure (Y.assign rfl) rfl rfl rfl <| LX.sub (l' := [(4, _)]) ⟨rfl, trivial⟩ <| LX.nextQ <| PX.thenN <| CX.ret <| PX.ret1 (by simp) Tryd.results45 rfl ?_
  exact fun w hw => ⟨(), congrArg (fun z => Ending.returned (Value.bool z)) (by simp [hj]), hw⟩
theorem aheadY_q {W : World → Prop} [Stab W] {bp : Nat} {al : Option Addr} {cl : Nat} {L : List Tk} {s : Go.Pa.St} {m : Mm} (x : List UInt8) (hln : L.length ≤ 1099511627776) {t : Tk} (ht : L[s.at_ + 1]? = some t)  (hB : ∀ w, W w → Lies w w.heap.size ⟨bp, 0, none⟩ (psC al L.length cl s m)) (hL : ∀ w, W w → SlAt 3 tokA (Lies w w.heap.size) al L) : FnQ Tryd.prog 45 #[.pointer (some ⟨bp, 0, none⟩), str x] W (.bool (decide (t.kind = 4) && decide (t.text = x))) := FnC.quiet fun w hw => aheadY_c x hln ht (hB w hw) (hL w hw)
theorem aheadN_c {w0 : World} {base : Nat} {bp : Nat} {al : Option Addr} {cl : Nat} {L : List Tk} {s : Go.Pa.St} {m : Mm} (x : List UInt8) (hln : L.length ≤ 1099511627776) (hat : s.at_ ≤ L.length) (ht : L.length ≤ s.at_ + 1)  (hB : Lies w0 base ⟨bp, 0, none⟩ (psC al L.length cl s m)) : FnC Tryd.prog 45 #[.pointer (some ⟨bp, 0, none⟩), str x] (WA w0 base []) (fun _ : Unit => .bool false) (fun _ => WA w0 base []) := by
  refine FnC.of_body (fn := Tryd.f45) [(0, _), (1, _)] Tryd.func45 rfl Tryd.ntmps45 rfl ⟨rfl, rfl, trivial⟩ ?_
  refine CX.seq <| CX.region <| LX.pure (Y.assign rfl) rfl rfl rfl <| LX.sub (l' := [(0, _), (1, _), (4, _)]) ⟨rfl, rfl, rfl, trivial⟩ <| LX.next <| PX.thenN <| CX.seq <| CX.regionQ rfl (by kernel_rfl) <| LX.pure (Y.move rfl) rfl rfl rfl <| LX.pure (Y.nilCheck rfl) rfl rfl rfl <| LX.pure (Y.fieldAddr0 Pa.fo41_1 rfl) rfl rfl rfl <| LX.pure (Y.ldB0 Pa.one3 rfl hB rfl) rfl rfl rfl <| LX.pure (Y.addN rfl rfl (by (simp only []; omega))) rfl rfl rfl <| LX.pure (Y.move rfl) rfl rfl rfl <| LX.pure (Y.nilCheck rfl) rfl rfl rfl <| LX.pure (Y.fieldAddr0 Pa.fo41_0 rfl) rfl rfl rfl <| LX.pure (Y.ldB0 Pa.one37 rfl hB rfl) rfl rfl rfl <| LX.pure (Y.lenSl rfl Pa.un37 rfl) rfl rfl rfl <| LX.pure (Y.ltN rfl rfl) rfl rfl rfl <| LX.pure (Y.move rfl) rfl rfl rfl <| LX.sub (l' := [(0, _), (1, _), (4, _), (16, _)]) ⟨rfl, rfl, rfl, rfl, trivial⟩ ?_
  apply LX.joinAnd 14 30 16 (y := true) rfl
  · intro hb1
    simp at hb1; omega
  · intro hb1
    have hb1p := hb1
    try simp at hb1p
    refine LX.gF rfl rfl rfl hb1 rfl rfl <| LX.gF rfl rfl rfl hb1 rfl rfl <| LX.gF rfl rfl rfl hb1 rfl rfl <| LX.gF rfl rfl rfl hb1 rfl rfl <| LX.gF rfl rfl rfl hb1 rfl rfl <| LX.gF rfl rfl rfl hb1 rfl rfl <| LX.gF rfl rfl rfl hb1 rfl rfl <| LX.gF rfl rfl rfl hb1 rfl rfl <| LX.gF rfl rfl rfl hb1 rfl rfl <| LX.gF rfl rfl rfl hb1 rfl rfl <| LX.gF rfl rfl rfl hb1 rfl rfl <| LX.gF rfl rfl rfl hb1 rfl rfl <| LX.gF rfl rfl rfl hb1 rfl rfl <| LX.pure (Y.pickF rfl hb1 rfl) rfl rfl rfl ?_
    exact LX.left ⟨rfl, rfl, rfl, rfl, rfl, trivial⟩
  refine LX.pure (Y.move rfl) rfl rfl rfl <| LX.sub (l' := [(0, _), (1, _), (4, _), (31, _)]) ⟨rfl, rfl, rfl, rfl, trivial⟩ ?_
  apply LX.joinAnd 15 46 31 (y := true) rfl
  · intro hb2
    (simp at hb2; omega)
  · intro hb2
    have hb2p := hb2
    try simp at hb2p
    refine LX.gF rfl rfl rfl hb2 rfl rfl <| LX.gF rfl rfl rfl hb2 rfl rfl <| LX.gF rfl rfl rfl hb2 rfl rfl <| LX.gF rfl rfl rfl hb2 rfl rfl <| LX.gF rfl rfl rfl hb2 rfl rfl <| LX.gF rfl rfl rfl hb2 rfl rfl <| LX.gF rfl rfl rfl hb2 rfl rfl <| LX.gF rfl rfl rfl hb2 rfl rfl <| LX.gF rfl rfl rfl hb2 rfl rfl <| LX.gF rfl rfl rfl hb2 rfl rfl <| LX.gF rfl rfl rfl hb2 rfl rfl <| LX.gF rfl rfl rfl hb2 rfl rfl <| LX.gF rfl rfl rfl hb2 rfl rfl <| LX.gF rfl rfl rfl hb2 rfl rfl <| LX.pure (Y.pickF rfl hb2 rfl) rfl rfl rfl ?_
    exact LX.left ⟨rfl, rfl, rfl, rfl, rfl, trivial⟩
  refine LX.pure (Y.assign rfl) rfl rfl rfl <| LX.sub (l' := [(4, _)]) ⟨rfl, trivial⟩ <| LX.nextQ <| PX.thenN <| CX.ret <| PX.ret1 (by simp) Tryd.results45 rfl ?_
  exact fun w hw => ⟨(), congrArg (fun z => Ending.returned (Value.bool z)) (by rw [decide_eq_false (show ¬s.at_ + 1 < L.length by omega)]; rfl), hw⟩
theorem aheadN_q {W : World → Prop} [Stab W] {bp : Nat} {al : Option Addr} {cl : Nat} {L : List Tk} {s : Go.Pa.St} {m : Mm} (x : List UInt8) (hln : L.length ≤ 1099511627776) (hat : s.at_ ≤ L.length) (ht : L.length ≤ s.at_ + 1)  (hB : ∀ w, W w → Lies w w.heap.size ⟨bp, 0, none⟩ (psC al L.length cl s m)) : FnQ Tryd.prog 45 #[.pointer (some ⟨bp, 0, none⟩), str x] W (.bool false) := FnC.quiet fun w hw => aheadN_c x hln hat ht (hB w hw)
end Go.Proofs.YtfbenelagdcdgaaDoor
