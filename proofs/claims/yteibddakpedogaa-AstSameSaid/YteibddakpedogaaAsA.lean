/-
  Proved here: the document's parser: its looks.
-/
import Derived.Test.YteibddakpedogaaSh
import Derived.Test.YteibddakpedogaaProg
import Derived.Test.YteibddakpedogaaAsP
import Derived.Test.YteibddakpedogaaAsQ
import Derived.Test.YteibddakpedogaaTrQ
set_option linter.unusedSimpArgs false
namespace Go.Proofs.Yteibddakpedogaa
open Go.SX Go.RowKit Go.Tr Go.As Go.Ck
namespace Pa
theorem ag44 : AggT Try.prog 44 3 := AggT.of (by kernel_rfl) (by kernel_rfl)
theorem en13 : Enters Try.prog 13 := Enters.of Try.func13 (by kernel_rfl) (by kernel_rfl)
theorem en27 : Enters Try.prog 27 := Enters.of Try.func27 (by kernel_rfl) (by kernel_rfl)
theorem fa42_0 : FieldOffA Try.prog 42 0 0 := fun a w => by kernel_rfl
theorem fa42_1 : FieldOffA Try.prog 42 1 1 := fun a w => by kernel_rfl
theorem fa42_7 : FieldOffA Try.prog 42 7 7 := fun a w => by kernel_rfl
theorem fa44_0 : FieldOffA Try.prog 44 0 0 := fun a w => by kernel_rfl
theorem fa44_1 : FieldOffA Try.prog 44 1 1 := fun a w => by kernel_rfl
theorem fo42_0 : FieldOff Try.prog 42 0 0 := fun b o w => by kernel_rfl
theorem fo42_1 : FieldOff Try.prog 42 1 1 := fun b o w => by kernel_rfl
theorem fo42_7 : FieldOff Try.prog 42 7 7 := fun b o w => by kernel_rfl
theorem fo44_0 : FieldOff Try.prog 44 0 0 := fun b o w => by kernel_rfl
theorem fo44_1 : FieldOff Try.prog 44 1 1 := fun b o w => by kernel_rfl
theorem one3 : One Try.prog 3 := fun w => by kernel_rfl
theorem one37 : One Try.prog 37 := fun w => by kernel_rfl
theorem one9 : One Try.prog 9 := fun w => by kernel_rfl
theorem sz44 : SizeIs Try.prog 44 3 := fun w => by kernel_rfl
theorem sz9 : SizeIs Try.prog 9 1 := fun w => by kernel_rfl
theorem un37 : Try.prog.underlying 37 = some (.slice 44) := by kernel_rfl
theorem un64 : Try.prog.underlying 64 = some (.slice 9) := by kernel_rfl
theorem zv44 : ∀ w, (zeroValue 44).run Try.prog w = .ok (.agg #[.int .i64 0, .string ⟨#[]⟩, .int .i64 0]) w := fun w => by kernel_rfl
end Pa
open Go.Pa (Tk)
/-- a token, in cells -/
def tokA (_ : Rd) (cs : List Value) (t : Tk) : Prop := cs = [.int .i64 t.kind, str t.text, .int .i64 t.pos] ∧ inI t.kind ∧ inI t.pos
instance : Kept tokA := ⟨fun _ h => h⟩
/-- what the parser holds: its nodes' row, and the rows of their kids -/
structure Mm where
  g : Option Nat
  c : Nat
  cells : List Value
  rs : List It
@[reducible] def psC (al : Option Addr) (n cl : Nat) (s : RS) (m : Mm) : List Value := [.slice al n cl, .int .i64 (s.at_ : Int), rv m.g s.ns.length m.c, .int .i64 s.deep, .bool s.df, .bool s.lp, .bool s.tp, .int .i64 s.code, .int .i64 s.pos]
@[reducible] def PBl (bp : Nat) (al : Option Addr) (L : List Tk) (cl : Nat) (s : RS) (m : Mm) : It := blk bp (psC al L.length cl s m) 42
@[reducible] def ROl (s : RS) (m : Mm) : It := .row m.g m.c s.ns.length 31 5 m.cells
@[reducible] def PWl (bp : Nat) (al : Option Addr) (L : List Tk) (cl : Nat) (s : RS) (m : Mm) (fr : List It) : List It := PBl bp al L cl s m :: ROl s m :: (m.rs ++ fr)
@[reducible] def Tb (b : Nat) (k : Tk) : It := blk b [.int .i64 k.kind, str k.text, .int .i64 k.pos] 44
theorem blkL {w0 w : World} {base : Nat} {its : List It} (hw : WA w0 base its w) {i b T : Nat} {cs : List Value} (hi : its[i]? = some (blk b cs T)) : Lies w w.heap.size ⟨b, 0, none⟩ cs := ⟨fun j u hj => by
  have h1 := hw.cell hi hj
  have e : (⟨b, 0, none⟩ : Addr).add j = ⟨b, j, none⟩ := by rw [Addr.add_mid, Nat.zero_add]
  rw [e]
  have h2 := World.block_lt_of_cell? w ⟨b, j, none⟩ h1
  exact ⟨h2, h1⟩⟩
/-- is a token this sign? -/
def isS (t : Tk) (x : List UInt8) : Bool := decide (t.kind = 4) && decide (t.text = x)
theorem isS_kind {t : Tk} {x : List UInt8} (h : isS t x = true) : t.kind ≠ 8 := by
  unfold isS at h
  simp only [Bool.and_eq_true, decide_eq_true_eq] at h
  omega
theorem tok_in {M : Rd} {al : Option Addr} {L : List Tk} (hL : SlAt 3 tokA M al L) {i : Nat} {t : Tk} (h : L[i]? = some t) : inI t.kind ∧ inI t.pos := by
  obtain ⟨_, _, _, _, _, _, h1, h2⟩ := hL i t h
  exact ⟨h1, h2⟩
theorem bad_c {w0 : World} {base : Nat} {bp : Nat} {al : Option Addr} {cl : Nat} {L : List Tk} {s : RS} {m : Mm}  (hB : Lies w0 base ⟨bp, 0, none⟩ (psC al L.length cl s m)) : FnC Try.prog 12 #[.pointer (some ⟨bp, 0, none⟩)] (WA w0 base []) (fun _ : Unit => .bool (decide (s.code ≠ 0))) (fun _ => WA w0 base []) := by
  refine FnC.of_body (fn := Try.f12) [(0, _)] Try.func12 rfl Try.ntmps12 rfl ⟨rfl, trivial⟩ ?_
  refine CX.sr <| LX.mv rfl <| LX.su [0, 2] rfl <| LX.nt <| CX.sr <| LX.ms 2 rfl <| LX.p (Y.fieldAddr0 Pa.fo42_7 rfl) rfl <| LX.p (Y.ldB0 Pa.one3 rfl hB rfl) rfl <| LX.p (Y.neI rfl rfl) rfl <| LX.mv rfl <| LX.su [2] rfl <| LX.nt <| CX.ret <| PX.ret1 (by simp) Try.results12 rfl ?_
  exact fun w hw => ⟨(), congrArg (fun z => Ending.returned (Value.bool z)) (by simp), hw⟩
theorem bad_q {W : World → Prop} [Stab W] {bp : Nat} {al : Option Addr} {cl : Nat} {L : List Tk} {s : RS} {m : Mm}  (hB : ∀ w, W w → Lies w w.heap.size ⟨bp, 0, none⟩ (psC al L.length cl s m)) : FnQ Try.prog 12 #[.pointer (some ⟨bp, 0, none⟩)] W (.bool (decide (s.code ≠ 0))) := FnC.quiet fun w hw => bad_c  (hB w hw)
theorem now_c {w0 : World} {base : Nat} {bp : Nat} {al : Option Addr} {cl : Nat} {L : List Tk} {s : RS} {m : Mm} {t : Tk} (ht : L[s.at_]? = some t)  (hB : Lies w0 base ⟨bp, 0, none⟩ (psC al L.length cl s m)) (hL : SlAt 3 tokA (Lies w0 base) al L) : FnC Try.prog 13 #[.pointer (some ⟨bp, 0, none⟩)] (WA w0 base []) (fun _ : Unit => .agg #[.int .i64 t.kind, str t.text, .int .i64 t.pos]) (fun _ => WA w0 base []) := by
  obtain ⟨a0, cs, hav, hcl, hLt, rfl, hin1, hin2⟩ := hL _ _ ht
  have hj : s.at_ < L.length := (List.getElem?_eq_some_iff.1 ht).1
  refine FnC.of_body (fn := Try.f13) [(0, _)] Try.func13 rfl Try.ntmps13 rfl ⟨rfl, trivial⟩ ?_
  refine CX.sr <| LX.alloc rfl Pa.zv44 rfl rfl rfl ?_
  intro bt2
  refine LX.su [0, 2] rfl <| LX.nt <| CX.seq <| CX.regionM [(0, .anywhere), (1, .anywhere), (2, .anywhere), (3, .held), (4, .anywhere), (5, .anywhere), (6, .anywhere), (7, .held), (8, .held), (9, .held), (10, .alone)] rfl (by kernel_rfl) <| MX.lift0 (i := 0) rfl (Y.move rfl) rfl rfl rfl <| MX.lift0 (i := 1) rfl (Y.nilCheck rfl) rfl rfl rfl <| MX.lift0 (i := 2) rfl (Y.fieldAddr0 Pa.fo42_0 rfl) rfl rfl rfl <| MX.lift1 (i := 3) (pend' := []) rfl (fun w hw => by exact hw) (Y.ldB0 Pa.one37 rfl hB rfl) rfl rfl rfl (by kernel_rfl) <| MX.lift0 (i := 4) rfl (Y.move rfl) rfl rfl rfl <| MX.lift0 (i := 5) rfl (Y.nilCheck rfl) rfl rfl rfl <| MX.lift0 (i := 6) rfl (Y.fieldAddr0 Pa.fo42_1 rfl) rfl rfl rfl <| MX.lift1 (i := 7) (pend' := [3]) rfl (fun w hw => by exact hw) (Y.ldB0 Pa.one3 rfl hB rfl) rfl rfl rfl (by kernel_rfl) <| MX.lift1 (i := 8) (pend' := []) rfl (fun w hw => by exact hw) (Y.idxZ Pa.un37 Pa.sz44 rfl rfl hav (j := s.at_) rfl hj) rfl rfl rfl (by kernel_rfl) <| MX.lift1 (i := 9) (pend' := []) rfl (fun w hw => by exact hw) (Y.ldAO (cs := [.int .i64 t.kind, str t.text, .int .i64 t.pos]) Pa.ag44 rfl hLt rfl) rfl rfl rfl (by kernel_rfl) <| MX.force (i := 10) rfl <| LX.storeA 0 Pa.ag44 rfl rfl rfl rfl rfl rfl rfl rfl rfl <| LX.nextM [] (by kernel_rfl) (fun h => absurd rfl h) <| MX.sub (l' := [(2, _)]) ⟨rfl, trivial⟩ <| MX.done <| PX.thenN <| CX.ret <| PX.retA (i := 0) (by simp) Try.results13 Pa.ag44 rfl rfl rfl ?_
  exact fun w hw => ⟨(), rfl, hw.drop (List.nil_sublist _)⟩
theorem now_q {W : World → Prop} [Stab W] {bp : Nat} {al : Option Addr} {cl : Nat} {L : List Tk} {s : RS} {m : Mm} {t : Tk} (ht : L[s.at_]? = some t)  (hB : ∀ w, W w → Lies w w.heap.size ⟨bp, 0, none⟩ (psC al L.length cl s m)) (hL : ∀ w, W w → SlAt 3 tokA (Lies w w.heap.size) al L) : FnQ Try.prog 13 #[.pointer (some ⟨bp, 0, none⟩)] W (.agg #[.int .i64 t.kind, str t.text, .int .i64 t.pos]) := FnC.quiet fun w hw => now_c ht (hB w hw) (hL w hw)
theorem is_c {w0 : World} {base : Nat} {bp : Nat} {al : Option Addr} {cl : Nat} {L : List Tk} {s : RS} {m : Mm} {t : Tk} (ht : L[s.at_]? = some t) (x : List UInt8)  (hB : Lies w0 base ⟨bp, 0, none⟩ (psC al L.length cl s m)) (hL : SlAt 3 tokA (Lies w0 base) al L) : FnC Try.prog 32 #[.pointer (some ⟨bp, 0, none⟩), str x] (WA w0 base []) (fun _ : Unit => .bool (isS t x)) (fun _ => WA w0 base []) := by
  refine FnC.of_body (fn := Try.f32) [(0, _), (1, _)] Try.func32 rfl Try.ntmps32 rfl ⟨rfl, rfl, trivial⟩ ?_
  refine CX.sr <| LX.mv rfl <| LX.su [0, 1, 4] rfl <| LX.nt <| CX.sr <| LX.mv rfl <| LX.callQ (now_q ht (fun w hw => hB.push hw) (fun w hw => hL.push hw)) Pa.en13 rfl rfl rfl rfl rfl <| LX.alloc rfl Pa.zv44 rfl rfl rfl ?_
  intro bt5
  refine LX.storeA 0 Pa.ag44 rfl rfl rfl rfl rfl rfl rfl rfl rfl <| LX.su [1, 4, 5] rfl <| LX.nt <| CX.sr <| LX.p (Y.fieldAddr0 Pa.fo44_0 rfl) rfl <| LX.p (Y.ldB 0 Pa.one3 rfl rfl rfl) rfl <| LX.p (Y.eqI rfl rfl) rfl <| LX.mv rfl <| LX.su [1, 4, 5, 11] rfl ?_
  apply LX.joinAnd 5 16 11 rfl
  · intro hb1
    refine LX.gT rfl rfl rfl hb1 (Y.fieldAddr0 Pa.fo44_1 rfl) rfl rfl <| LX.gT rfl rfl rfl hb1 (Y.ldB 0 Pa.one9 rfl rfl rfl) rfl rfl <| LX.gT rfl rfl rfl hb1 (Y.move rfl) rfl rfl <| LX.gT rfl rfl rfl hb1 (Y.eqS rfl rfl) rfl rfl <| LX.p (Y.pickT rfl hb1 rfl) rfl ?_
    exact LX.left ⟨rfl, rfl, rfl, rfl, rfl, trivial⟩
  · intro hb1
    refine LX.gF rfl rfl rfl hb1 rfl rfl <| LX.gF rfl rfl rfl hb1 rfl rfl <| LX.gF rfl rfl rfl hb1 rfl rfl <| LX.gF rfl rfl rfl hb1 rfl rfl <| LX.p (Y.pickF rfl hb1 rfl) rfl ?_
    exact LX.left ⟨rfl, rfl, rfl, rfl, rfl, trivial⟩
  refine LX.mv rfl <| LX.su [4] rfl <| LX.nt <| CX.ret <| PX.ret1 (by simp) Try.results32 rfl ?_
  exact fun w hw => ⟨(), rfl, hw.drop (List.nil_sublist _)⟩
theorem is_q {W : World → Prop} [Stab W] {bp : Nat} {al : Option Addr} {cl : Nat} {L : List Tk} {s : RS} {m : Mm} {t : Tk} (ht : L[s.at_]? = some t) (x : List UInt8)  (hB : ∀ w, W w → Lies w w.heap.size ⟨bp, 0, none⟩ (psC al L.length cl s m)) (hL : ∀ w, W w → SlAt 3 tokA (Lies w w.heap.size) al L) : FnQ Try.prog 32 #[.pointer (some ⟨bp, 0, none⟩), str x] W (.bool (isS t x)) := FnC.quiet fun w hw => is_c ht x (hB w hw) (hL w hw)
theorem among6_0 {w0 : World} {base : Nat} {av : Option Addr} (ck : Nat) {ss : List (List UInt8)} (hl : ss.length ≤ 1000000) (s : List UInt8) (hk : SlAt 1 strA (Lies w0 base) av ss) : FnC Try.prog 27 #[.slice av ss.length ck, str s] (WA w0 base []) (fun b : Int => .int .i64 b) (fun b w => (-1 ≤ b ∧ b < (ss.length : Int)) ∧ WA w0 base [] w) := by
  refine FnC.of_body (fn := Try.f27) [(0, _), (1, _)] Try.func27 rfl Try.ntmps27 rfl ⟨rfl, rfl, trivial⟩ ?_
  refine CX.sr <| LX.mv rfl <| LX.su [0, 1, 4] rfl <| LX.nt <| CX.seq <| CX.sr <| LX.mv rfl <| LX.su [0, 1, 4, 5] rfl <| LX.nt <| CX.block <| CX.loop (fun j : Nat => [(0, .slice av ss.length ck), (1, str s), (5, .int .i64 (j : Int))]) (fun (j : Nat) w => j ≤ ss.length ∧ WA w0 base [] w) (fun j => ss.length - j) 0 ⟨rfl, rfl, rfl, trivial⟩ (fun w hw => ⟨Nat.zero_le _, hw⟩) ?_
  intro j
  refine CX.have fun hj0 => ?_
  replace hj0 : j ≤ ss.length := hj0
  refine CX.seq <| CX.sr <| LX.ms 2 rfl <| LX.p (Y.lenSl rfl Pa.un64 rfl) rfl <| LX.p (Y.ltN rfl rfl) rfl <| LX.su [0, 1, 5, 9] rfl <| LX.nt ?_
  refine CX.cond rfl (fun hb1 => ?_) (fun hb1 => ?_)
  · try simp at hb1
    have hj : j < ss.length := by omega
    obtain ⟨a0, _, hav0, hL0⟩ := strA_at hk hj
    refine CX.skip <| PX.thenN <| CX.seq <| CX.block <| CX.sr <| LX.ms 2 rfl <| LX.p (Y.idxZ Pa.un64 Pa.sz9 rfl rfl hav0 (j := j) rfl hj) rfl <| LX.p (Y.ldO1 Pa.one9 rfl hL0) rfl <| LX.mv rfl <| LX.p (Y.eqS rfl rfl) rfl <| LX.su [0, 1, 5, 17] rfl <| LX.nt ?_
    refine CX.cond rfl (fun hb2 => ?_) (fun hb2 => ?_)
    · try simp at hb2
      refine CX.sr <| LX.ms 2 rfl <| LX.su [0, 1, 4, 5] rfl <| LX.nt <| CX.ret <| PX.blockR <| PX.thenR <| PX.thenR <| PX.blockR <| PX.thenR <| PX.ret1 (by simp) Try.results27 rfl ?_
      exact fun w hw => ⟨(j : Int), rfl, (by omega), hw.drop (List.nil_sublist _)⟩
    try simp at hb2
    refine CX.skip <| PX.blockN <| PX.thenN <| CX.region <| LX.mv rfl <| LX.p (Y.addN rfl rfl (by (simp only []; omega))) rfl <| LX.mv rfl <| LX.su [0, 1, 5] rfl <| LX.next ?_
    exact PX.again (i := j) (j + 1) (by show ss.length - (j + 1) < ss.length - j; omega) ⟨rfl, rfl, rfl, trivial⟩ (fun w hw => ⟨by show j + 1 ≤ ss.length; omega, hw⟩)
  try simp at hb1
  refine CX.exit <| PX.thenE <| PX.thenE <| PX.blockE <| PX.thenN <| CX.sr <| LX.mv rfl <| LX.su [4] rfl <| LX.nt <| CX.ret <| PX.ret1 (by simp) Try.results27 rfl ?_
  exact fun w hw => ⟨-1, rfl, (by omega), hw.drop (List.nil_sublist _)⟩
theorem among6_w {W : World → Prop} [Stab W] {av : Option Addr} (ck : Nat) {ss : List (List UInt8)} (hl : ss.length ≤ 1000000) (s : List UInt8) (hk : ∀ w, W w → SlAt 1 strA (Lies w w.heap.size) av ss) : FnC Try.prog 27 #[.slice av ss.length ck, str s] W (fun b : Int => .int .i64 b) (fun b w => (-1 ≤ b ∧ b < (ss.length : Int)) ∧ W w) := FnC.reO fun w hw => among6_0 ck hl s (hk w hw)
theorem begins_0 {w0 : World} {base : Nat} {bp : Nat} {al : Option Addr} {cl : Nat} {L : List Tk} {s : RS} {m : Mm} {t : Tk} (ht : L[s.at_]? = some t)  (hB : Lies w0 base ⟨bp, 0, none⟩ (psC al L.length cl s m)) (hL : SlAt 3 tokA (Lies w0 base) al L) : FnC Try.prog 36 #[.pointer (some ⟨bp, 0, none⟩)] (WA w0 base []) (fun b : Bool => .bool b) (fun b w => (b = true → t.kind ≠ 8) ∧ WA w0 base [] w) := by
  refine FnC.of_body (fn := Try.f36) [(0, _)] Try.func36 rfl Try.ntmps36 rfl ⟨rfl, trivial⟩ ?_
  refine CX.sr <| LX.mv rfl <| LX.su [0, 2] rfl <| LX.nt <| CX.sr <| LX.mv rfl <| LX.callQ (now_q ht (fun w hw => hB.push hw) (fun w hw => hL.push hw)) Pa.en13 rfl rfl rfl rfl rfl <| LX.alloc rfl Pa.zv44 rfl rfl rfl ?_
  intro bt3
  refine LX.storeA 0 Pa.ag44 rfl rfl rfl rfl rfl rfl rfl rfl rfl <| LX.su [2, 3] rfl <| LX.nt <| CX.seq <| CX.sr <| LX.p (Y.fieldAddr0 Pa.fo44_0 rfl) rfl <| LX.p (Y.ldB 0 Pa.one3 rfl rfl rfl) rfl <| LX.su [2, 3, 7] rfl <| LX.nt <| CX.block <| CX.sub (l' := [(2, _), (3, _), (7, _)]) ⟨rfl, rfl, rfl, trivial⟩ ?_
  apply CX.seqSw 8
  ·
    refine CX.sr <| LX.p (Y.eqI rfl rfl) rfl <| LX.mv rfl <| LX.nt ?_
    apply CX.swOr
    · rfl
    · exact ⟨rfl, rfl, rfl, rfl, trivial⟩
    intro hb1
    try simp at hb1
    refine CX.sr <| LX.p (Y.eqI rfl rfl) rfl <| LX.mv rfl <| LX.nt ?_
    apply CX.swOr
    · rfl
    · exact ⟨rfl, rfl, rfl, rfl, trivial⟩
    intro hb2
    try simp at hb2
    refine CX.region <| LX.p (Y.eqI rfl rfl) rfl <| LX.mv rfl <| LX.next ?_
    exact PX.sw ⟨rfl, rfl, rfl, rfl, trivial⟩
  refine CX.cond rfl (fun hb3 => ?_) (fun hb3 => ?_)
  · try simp at hb3
    refine CX.sr <| LX.mv rfl <| LX.su [2] rfl <| LX.nt <| CX.ret <| PX.blockR <| PX.thenR <| PX.ret1 (by simp) Try.results36 rfl ?_
    exact fun w hw => ⟨_, rfl, (fun h9 => by omega), hw.drop (List.nil_sublist _)⟩
  try simp at hb3
  refine CX.sr <| LX.p (Y.eqI rfl rfl) rfl <| LX.mv rfl <| LX.su [2, 3, 12] rfl <| LX.nt ?_
  refine CX.cond rfl (fun hb4 => ?_) (fun hb4 => ?_)
  · try simp at hb4
    refine CX.sr <| LX.buildSlice (e := 9) (size := 1) rfl rfl (fun _ => by kernel_rfl) rfl dc rfl rfl rfl ?_
    intro gt16
    refine LX.p (Y.fieldAddr0 Pa.fo44_1 rfl) rfl <| LX.p (Y.ldB 1 Pa.one9 rfl rfl rfl) rfl <| LX.call (among6_w 8 (ss := [[40], [91], [123], [45], [110, 111, 116], [78, 111, 110, 101], [84, 114, 117, 101], [70, 97, 108, 115, 101]]) dc t.text (fun w hw => Go.Tr.row_at (ys := [[40], [91], [123], [45], [110, 111, 116], [78, 111, 110, 101], [84, 114, 117, 101], [70, 97, 108, 115, 101]].map str) hw (j := 0) rfl rfl dc (fun i z h => map_A h))) Pa.en27 rfl rfl rfl rfl rfl ?_
    intro z9
    refine LX.have fun hz9 => ?_
    replace hz9 : -1 ≤ z9 ∧ z9 < 8 := hz9
    refine LX.p (Y.geI rfl rfl) rfl <| LX.mv rfl <| LX.su [2] rfl <| LX.nt <| CX.ret <| PX.blockR <| PX.thenR <| PX.ret1 (by simp) Try.results36 rfl ?_
    exact fun w hw => ⟨_, rfl, (fun h9 => by omega), hw.drop (List.nil_sublist _)⟩
  try simp at hb4
  refine CX.skip <| PX.blockN <| PX.thenN <| CX.sr <| LX.mv rfl <| LX.su [2] rfl <| LX.nt <| CX.ret <| PX.ret1 (by simp) Try.results36 rfl ?_
  exact fun w hw => ⟨_, rfl, (fun h9 => by (simp_all; done)), hw.drop (List.nil_sublist _)⟩
theorem begins_w {W : World → Prop} [Stab W] {bp : Nat} {al : Option Addr} {cl : Nat} {L : List Tk} {s : RS} {m : Mm} {t : Tk} (ht : L[s.at_]? = some t)  (hB : ∀ w, W w → Lies w w.heap.size ⟨bp, 0, none⟩ (psC al L.length cl s m)) (hL : ∀ w, W w → SlAt 3 tokA (Lies w w.heap.size) al L) : FnC Try.prog 36 #[.pointer (some ⟨bp, 0, none⟩)] W (fun b : Bool => .bool b) (fun b w => (b = true → t.kind ≠ 8) ∧ W w) := FnC.reO fun w hw => begins_0 ht (hB w hw) (hL w hw)
theorem rel_0 {w0 : World} {base : Nat} {bp : Nat} {al : Option Addr} {cl : Nat} {L : List Tk} {s : RS} {m : Mm} {t : Tk} (ht : L[s.at_]? = some t)  (hB : Lies w0 base ⟨bp, 0, none⟩ (psC al L.length cl s m)) (hL : SlAt 3 tokA (Lies w0 base) al L) : FnC Try.prog 71 #[.pointer (some ⟨bp, 0, none⟩)] (WA w0 base []) (fun b : Int => .int .i64 b) (fun b w => ((0 ≤ b ∧ b ≤ 33) ∧ (b ≠ 0 → t.kind ≠ 8)) ∧ WA w0 base [] w) := by
  refine FnC.of_body (fn := Try.f71) [(0, _)] Try.func71 rfl Try.ntmps71 rfl ⟨rfl, trivial⟩ ?_
  refine CX.sr <| LX.mv rfl <| LX.su [0, 2] rfl <| LX.nt <| CX.sr <| LX.mv rfl <| LX.callQ (now_q ht (fun w hw => hB.push hw) (fun w hw => hL.push hw)) Pa.en13 rfl rfl rfl rfl rfl <| LX.alloc rfl Pa.zv44 rfl rfl rfl ?_
  intro bt3
  refine LX.storeA 0 Pa.ag44 rfl rfl rfl rfl rfl rfl rfl rfl rfl <| LX.su [2, 3] rfl <| LX.nt <| CX.seq <| CX.sr <| LX.p (Y.fieldAddr0 Pa.fo44_0 rfl) rfl <| LX.p (Y.ldB 0 Pa.one3 rfl rfl rfl) rfl <| LX.p (Y.neI rfl rfl) rfl <| LX.su [2, 3, 9] rfl <| LX.nt ?_
  refine CX.cond rfl (fun hb1 => ?_) (fun hb1 => ?_)
  · try simp at hb1
    refine CX.sr <| LX.mv rfl <| LX.su [2, 3] rfl <| LX.nt <| CX.ret <| PX.thenR <| PX.ret1 (by simp) Try.results71 rfl ?_
    exact fun w hw => ⟨_, rfl, (by omega), hw.drop (List.nil_sublist _)⟩
  try simp at hb1
  refine CX.skip <| PX.thenN <| CX.sr <| LX.buildSlice (e := 9) (size := 1) rfl rfl (fun _ => by kernel_rfl) rfl dc rfl rfl rfl ?_
  intro gt9
  refine LX.p (Y.fieldAddr0 Pa.fo44_1 rfl) rfl <| LX.p (Y.ldB 1 Pa.one9 rfl rfl rfl) rfl <| LX.call (among6_w 7 (ss := [[61, 61], [33, 61], [60], [60, 61], [62], [62, 61], [105, 110]]) dc t.text (fun w hw => Go.Tr.row_at (ys := [[61, 61], [33, 61], [60], [60, 61], [62], [62, 61], [105, 110]].map str) hw (j := 0) rfl rfl dc (fun i z h => map_A h))) Pa.en27 rfl rfl rfl rfl rfl ?_
  intro z9
  refine LX.have fun hz9 => ?_
  replace hz9 : -1 ≤ z9 ∧ z9 < 7 := hz9
  refine LX.mv rfl <| LX.su [2, 3, 4] rfl <| LX.nt <| CX.seq <| CX.sr <| LX.mv rfl <| LX.p (Y.geI rfl rfl) rfl <| LX.su [2, 3, 4, 15] rfl <| LX.nt ?_
  refine CX.cond rfl (fun hb2 => ?_) (fun hb2 => ?_)
  · try simp at hb2
    refine CX.sr <| LX.mv rfl <| LX.p (Y.add rfl rfl (by omega)) rfl <| LX.mv rfl <| LX.su [2, 3] rfl <| LX.nt <| CX.ret <| PX.thenR <| PX.ret1 (by simp) Try.results71 rfl ?_
    exact fun w hw => ⟨_, rfl, (by omega), hw.drop (List.nil_sublist _)⟩
  try simp at hb2
  refine CX.skip <| PX.thenN <| CX.seq <| CX.sr <| LX.p (Y.fieldAddr0 Pa.fo44_1 rfl) rfl <| LX.p (Y.ldB 1 Pa.one9 rfl rfl rfl) rfl <| LX.p (Y.eqS rfl rfl) rfl <| LX.su [2, 20] rfl <| LX.nt ?_
  refine CX.cond rfl (fun hb3 => ?_) (fun hb3 => ?_)
  · try simp at hb3
    refine CX.sr <| LX.mv rfl <| LX.su [2] rfl <| LX.nt <| CX.ret <| PX.thenR <| PX.ret1 (by simp) Try.results71 rfl ?_
    exact fun w hw => ⟨_, rfl, (by omega), hw.drop (List.nil_sublist _)⟩
  try simp at hb3
  refine CX.skip <| PX.thenN <| CX.sr <| LX.mv rfl <| LX.su [2] rfl <| LX.nt <| CX.ret <| PX.ret1 (by simp) Try.results71 rfl ?_
  exact fun w hw => ⟨_, rfl, (by omega), hw.drop (List.nil_sublist _)⟩
theorem rel_w {W : World → Prop} [Stab W] {bp : Nat} {al : Option Addr} {cl : Nat} {L : List Tk} {s : RS} {m : Mm} {t : Tk} (ht : L[s.at_]? = some t)  (hB : ∀ w, W w → Lies w w.heap.size ⟨bp, 0, none⟩ (psC al L.length cl s m)) (hL : ∀ w, W w → SlAt 3 tokA (Lies w w.heap.size) al L) : FnC Try.prog 71 #[.pointer (some ⟨bp, 0, none⟩)] W (fun b : Int => .int .i64 b) (fun b w => ((0 ≤ b ∧ b ≤ 33) ∧ (b ≠ 0 → t.kind ≠ 8)) ∧ W w) := FnC.reO fun w hw => rel_0 ht (hB w hw) (hL w hw)
end Go.Proofs.Yteibddakpedogaa
