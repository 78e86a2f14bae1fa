/-
  Proved here: package lex's scanner: each of its functions does what the plain one does.
-/
import Derived.Test.YtfbenelagdcdgaaDoorFa
import Derived.Test.YtfbenelagdcdgaaDoorLexP
import Derived.KernelRfl
set_option linter.unusedSimpArgs false
namespace Go.Proofs.YtfbenelagdcdgaaDoor.Lx
open Go.SX Go.RowKit Go.Lex
theorem build_at {e : Value} (he : e.oneCell' = true) (pos : Nat) (w : World) : (Instr.build 64 [(0, .int .i64 (pos : Int)), (1, e)].toArray).run Tryd.prog w = .ok (.agg #[.int .i64 (pos : Int), e]) w := by
  cases e <;> first | (cases he; done) | kernel_rfl
/-- a token's cells -/
def tokC (t : Tok) : List Value := [.int .i64 (t.kind : Int), str t.text, .int .i64 (t.pos : Int)]
def natV (k : Nat) : Value := .int .i64 (k : Int)
def bytV (k : Nat) : Value := .int .u8 (k : Int)
/-- where the scanner's three slices lie -/
structure Sl where
  go : Option Nat
  co : Nat
  gb : Option Nat
  cb : Nat
  gk : Option Nat
  ck : Nat
/-- the scanner in memory -/
@[reducible] def scI (B : Nat) (σ : Sc) (p : Sl) (fr : List It) : List It :=
  blk B [str σ.s, .int .i64 (σ.pos : Int), rv p.go σ.out.length p.co, rv p.gb σ.blocks.length p.cb, rv p.gk σ.brk.length p.ck, .bool σ.line] 52 ::
  .row p.go p.co σ.out.length 57 3 (σ.out.flatMap tokC) :: .row p.gb p.cb σ.blocks.length 3 1 (σ.blocks.map natV) :: .row p.gk p.ck σ.brk.length 5 1 (σ.brk.map bytV) :: fr
theorem digit_c (W : World → Prop) (c : Nat) : FnC Tryd.prog 31 #[.int .u8 (c : Int)] W (fun _ : Unit => .bool (isDig c)) (fun _ => W) := by
  refine FnC.of_body (fn := Tryd.f31) [(0, _)] Tryd.func31 rfl Tryd.ntmps31 rfl ⟨rfl, trivial⟩ ?_
  refine CX.seq <| CX.region <| LX.pure (Y.assign rfl) rfl rfl rfl <| LX.sub (l' := [(0, _), (2, _)]) ⟨rfl, rfl, trivial⟩ <| LX.next <| PX.thenN <| CX.seq <| CX.region <| LX.pure (Y.move rfl) rfl rfl rfl <| LX.pure (Y.geN rfl rfl) rfl rfl rfl <| LX.pure (Y.move rfl) rfl rfl rfl <| LX.sub (l' := [(0, _), (2, _), (5, _)]) ⟨rfl, rfl, rfl, trivial⟩ ?_
  apply LX.joinAnd 3 8 5 rfl
  · intro hb1
    have hb1p := hb1
    try simp at hb1p
    refine LX.gT rfl rfl rfl hb1 (Y.move rfl) rfl rfl <| LX.gT rfl rfl rfl hb1 (Y.leN rfl rfl) rfl rfl <| LX.pure (Y.pickT rfl hb1 rfl) rfl rfl rfl ?_
    exact LX.left ⟨rfl, rfl, rfl, rfl, trivial⟩
  · intro hb1
    have hb1p := hb1
    try simp at hb1p
    refine LX.gF rfl rfl rfl hb1 rfl rfl <| LX.gF rfl rfl rfl hb1 rfl rfl <| LX.pure (Y.pickF rfl hb1 rfl) rfl rfl rfl ?_
    exact LX.left ⟨rfl, rfl, rfl, rfl, trivial⟩
  refine LX.pure (Y.assign rfl) rfl rfl rfl <| LX.sub (l' := [(2, _)]) ⟨rfl, trivial⟩ <| LX.next <| PX.thenN <| CX.ret <| PX.ret1 (by simp) Tryd.results31 rfl ?_
  exact fun w hw => ⟨(), rfl, hw⟩

theorem letter_c (W : World → Prop) (c : Nat) : FnC Tryd.prog 29 #[.int .u8 (c : Int)] W (fun _ : Unit => .bool (isLet c)) (fun _ => W) := by
  refine FnC.of_body (fn := Tryd.f29) [(0, _)] Tryd.func29 rfl Tryd.ntmps29 rfl ⟨rfl, trivial⟩ ?_
  refine CX.seq <| CX.region <| LX.pure (Y.assign rfl) rfl rfl rfl <| LX.sub (l' := [(0, _), (2, _)]) ⟨rfl, rfl, trivial⟩ <| LX.next <| PX.thenN <| CX.seq <| CX.region <| LX.pure (Y.move rfl) rfl rfl rfl <| LX.pure (Y.geN rfl rfl) rfl rfl rfl <| LX.pure (Y.move rfl) rfl rfl rfl <| LX.sub (l' := [(0, _), (2, _), (5, _)]) ⟨rfl, rfl, rfl, trivial⟩ ?_
  apply LX.joinAnd 3 8 5 rfl
  · intro hb1
    have hb1p := hb1
    try simp at hb1p
    refine LX.gT rfl rfl rfl hb1 (Y.move rfl) rfl rfl <| LX.gT rfl rfl rfl hb1 (Y.leN rfl rfl) rfl rfl <| LX.pure (Y.pickT rfl hb1 rfl) rfl rfl rfl ?_
    exact LX.left ⟨rfl, rfl, rfl, rfl, trivial⟩
  · intro hb1
    have hb1p := hb1
    try simp at hb1p
    refine LX.gF rfl rfl rfl hb1 rfl rfl <| LX.gF rfl rfl rfl hb1 rfl rfl <| LX.pure (Y.pickF rfl hb1 rfl) rfl rfl rfl ?_
    exact LX.left ⟨rfl, rfl, rfl, rfl, trivial⟩
  refine LX.pure (Y.move rfl) rfl rfl rfl <| LX.sub (l' := [(0, _), (2, _), (9, _)]) ⟨rfl, rfl, rfl, trivial⟩ ?_
  apply LX.joinOr 7 16 9 rfl
  · intro hb2
    have hb2p := hb2
    try simp at hb2p
    refine LX.gF rfl rfl rfl hb2 rfl rfl <| LX.gF rfl rfl rfl hb2 rfl rfl <| LX.gF rfl rfl rfl hb2 rfl rfl <| LX.gU rfl rfl rfl rfl rfl <| LX.gU rfl rfl rfl rfl rfl <| LX.gF rfl rfl rfl hb2 rfl rfl <| LX.pure (Y.pickT rfl hb2 rfl) rfl rfl rfl ?_
    exact LX.left ⟨rfl, rfl, rfl, rfl, trivial⟩
  · intro hb2
    have hb2p := hb2
    try simp at hb2p
    refine LX.gT rfl rfl rfl hb2 (Y.move rfl) rfl rfl <| LX.gT rfl rfl rfl hb2 (Y.geN rfl rfl) rfl rfl <| LX.gT rfl rfl rfl hb2 (Y.move rfl) rfl rfl <| LX.sub (l' := [(0, _), (2, _), (9, _), (12, _)]) ⟨rfl, rfl, rfl, rfl, trivial⟩ ?_
    apply LX.joinAnd 3 15 12 rfl
    · intro hb3
      have hb3p := hb3
      try simp at hb3p
      refine LX.gT rfl rfl rfl hb3 (Y.move rfl) rfl rfl <| LX.gT rfl rfl rfl hb3 (Y.leN rfl rfl) rfl rfl <| LX.gT rfl rfl rfl hb2 (Y.pickT rfl hb3 rfl) rfl rfl ?_
      exact LX.left ⟨rfl, rfl, rfl, rfl, rfl, trivial⟩
    · intro hb3
      have hb3p := hb3
      try simp at hb3p
      refine LX.gF rfl rfl rfl hb3 rfl rfl <| LX.gF rfl rfl rfl hb3 rfl rfl <| LX.gT rfl rfl rfl hb2 (Y.pickF rfl hb3 rfl) rfl rfl ?_
      exact LX.left ⟨rfl, rfl, rfl, rfl, rfl, trivial⟩
    refine LX.pure (Y.pickF rfl hb2 rfl) rfl rfl rfl ?_
    exact LX.left ⟨rfl, rfl, rfl, rfl, trivial⟩
  refine LX.pure (Y.move rfl) rfl rfl rfl <| LX.sub (l' := [(0, _), (2, _), (17, _)]) ⟨rfl, rfl, rfl, trivial⟩ ?_
  apply LX.joinOr 3 20 17 rfl
  · intro hb4
    have hb4p := hb4
    try simp at hb4p
    refine LX.gF rfl rfl rfl hb4 rfl rfl <| LX.gF rfl rfl rfl hb4 rfl rfl <| LX.pure (Y.pickT rfl hb4 rfl) rfl rfl rfl ?_
    exact LX.left ⟨rfl, rfl, rfl, rfl, trivial⟩
  · intro hb4
    have hb4p := hb4
    try simp at hb4p
    refine LX.gT rfl rfl rfl hb4 (Y.move rfl) rfl rfl <| LX.gT rfl rfl rfl hb4 (Y.eqN rfl rfl) rfl rfl <| LX.pure (Y.pickF rfl hb4 rfl) rfl rfl rfl ?_
    exact LX.left ⟨rfl, rfl, rfl, rfl, trivial⟩
  refine LX.pure (Y.assign rfl) rfl rfl rfl <| LX.sub (l' := [(2, _)]) ⟨rfl, trivial⟩ <| LX.next <| PX.thenN <| CX.ret <| PX.ret1 (by simp) Tryd.results29 rfl ?_
  exact fun w hw => ⟨(), rfl, hw⟩

theorem digit_q (W : World → Prop) (c : Nat) : FnQ Tryd.prog 31 #[.int .u8 (c : Int)] W (.bool (isDig c)) := fun w _ => ((digit_c (fun w' => w' = w) c) w rfl).mono fun e w' ⟨_, he, hw⟩ => ⟨he, by rw [hw]; exact Below.refl _ _⟩
theorem letter_q (W : World → Prop) (c : Nat) : FnQ Tryd.prog 29 #[.int .u8 (c : Int)] W (.bool (isLet c)) := fun w _ => ((letter_c (fun w' => w' = w) c) w rfl).mono fun e w' ⟨_, he, hw⟩ => ⟨he, by rw [hw]; exact Below.refl _ _⟩
/-- an error with its place -/
def atV (b : Nat) : Value := .iface 42 (.pointer (some ⟨b, 0, none⟩))
@[reducible] def atI (b pos : Nat) (e : Value) : It := blk b [.int .i64 (pos : Int), e] 64
/-- the variable api.ErrLex -/
structure EnvLex (w0 : World) (base : Nat) (eLex : Value) : Prop where
  lex : w0.cell? ⟨1, 0, none⟩ = some eLex
  lt : 1 < base
  one : eLex.oneCell' = true

theorem bad_c {w0 : World} {base : Nat} {eLex : Value} (hE : EnvLex w0 base eLex) {its : List It} (pos : Nat) (_hp : pos ≤ 1000000) : FnC Tryd.prog 17 #[.int .i64 (pos : Int)] (WA w0 base its) (fun b : Nat => atV b) (fun b => WA w0 base (atI b pos eLex :: its)) := by
  refine FnC.of_body (fn := Tryd.f17) [(0, _)] Tryd.func17 rfl Tryd.ntmps17 rfl ⟨rfl, trivial⟩ ?_
  refine CX.seq <| CX.region <| LX.pure (Y.assign rfl) rfl rfl rfl <| LX.sub (l' := [(0, _), (2, _)]) ⟨rfl, rfl, trivial⟩ <| LX.next <| PX.thenN <| CX.seq <| CX.region <| LX.pure (Y.move rfl) rfl rfl rfl <| LX.pure (Y.ldO F.one25 rfl hE.lex hE.lt) rfl rfl rfl <| LX.pure (Y.build (v := .agg #[.int .i64 (pos : Int), eLex]) rfl (build_at hE.one pos)) rfl rfl rfl <| LX.box rfl rfl rfl rfl rfl ?_
  intro bx4
  refine LX.pure (Y.mkI F.ni42 rfl) rfl rfl rfl <| LX.pure (Y.assign rfl) rfl rfl rfl <| LX.sub (l' := [(2, _)]) ⟨rfl, trivial⟩ <| LX.next <| PX.thenN <| CX.ret <| PX.ret1 (by simp) Tryd.results17 rfl ?_
  exact fun w hw => ⟨_, rfl, hw⟩

theorem token_c {w0 : World} {base : Nat} {B : Nat} {σ : Sc} {p : Sl} {fr : List It} (k : Nat) (t : List UInt8) (pos : Nat) (ho : σ.out.length ≤ 1000000) : FnC Tryd.prog 19 #[.pointer (some ⟨B, 0, none⟩), .int .i64 (k : Int), str t, .int .i64 (pos : Int)] (WA w0 base (scI B σ p fr)) (fun _ : Sl => .tuple #[]) (fun p' => WA w0 base (scI B (σ.tok k t pos) p' fr)) := by
  refine FnC.of_body (fn := Tryd.f19) [(0, _), (1, _), (2, _), (3, _)] Tryd.func19 rfl Tryd.ntmps19 rfl ⟨rfl, rfl, rfl, rfl, trivial⟩ ?_
  refine CX.region <| LX.pure (Y.move rfl) rfl rfl rfl <| LX.pure (Y.move rfl) rfl rfl rfl <| LX.pure (Y.nilCheck rfl) rfl rfl rfl <| LX.pure (Y.fieldAddr0 F.fo52_2 rfl) rfl rfl rfl <| LX.pure (Y.ldB 0 F.one37 rfl rfl rfl) rfl rfl rfl <| LX.pure (Y.move rfl) rfl rfl rfl <| LX.pure (Y.move rfl) rfl rfl rfl <| LX.pure (Y.move rfl) rfl rfl rfl <| LX.pure (Y.build (v := .agg #[.int .i64 (k : Int), str t, .int .i64 (pos : Int)]) rfl (fun _ => by kernel_rfl)) rfl rfl rfl <| LX.buildSlice (e := 57) (size := 3) rfl rfl (fun _ => by kernel_rfl) rfl (by decide) rfl rfl rfl ?_
  intro gt9
  refine LX.appendT 1 F.el37 rfl rfl rfl rfl rfl rfl rfl (by omega) (by omega) rfl rfl rfl ?_
  intro g' cap'
  refine LX.pure (Y.nilCheck rfl) rfl rfl rfl <| LX.pure (Y.fieldAddr0 F.fo52_2 rfl) rfl rfl rfl <| LX.storeB 0 F.sz37 rfl rfl rfl rfl rfl rfl rfl rfl <| LX.sub (l' := []) trivial <| LX.next <| PX.ret0 (by simp) Tryd.results19 ?_
  exact fun w hw => ⟨{ p with go := g', co := cap' }, rfl, by simpa [Sc.tok, scI, tokC, flat, Value.cells] using hw⟩

theorem index_q {W : World → Prop} [Stab W] (b off c : Nat) (ss : List (List UInt8)) (s : List UInt8) (hc : ∀ w, W w → Cells b off (ss.map str) w) (hl : ss.length ≤ 1000000) : FnQ Tryd.prog 56 #[.slice (some ⟨b, off, none⟩) ss.length c, str s] W (.int .i64 (idxI s ss 0)) := by
  refine FnQ.all fun W' _ hW => ?_
  refine FnC.of_body (fn := Tryd.f56) [(0, _), (1, _)] Tryd.func56 rfl Tryd.ntmps56 rfl ⟨rfl, rfl, trivial⟩ ?_
  refine CX.seq <| CX.region <| LX.pure (Y.assign rfl) rfl rfl rfl <| LX.sub (l' := [(0, _), (1, _), (4, _)]) ⟨rfl, rfl, rfl, trivial⟩ <| LX.next <| PX.thenN <| CX.seq <| CX.seq <| CX.region <| LX.pure (Y.move rfl) rfl rfl rfl <| LX.pure (Y.lenSl rfl F.un65 rfl) rfl rfl rfl <| LX.pure (Y.move rfl) rfl rfl rfl <| LX.sub (l' := [(0, _), (1, _), (4, _), (7, _), (8, _)]) ⟨rfl, rfl, rfl, rfl, rfl, trivial⟩ <| LX.next <| PX.thenN <| CX.block <| CX.loop (τ := Nat) (fun k => [(0, .slice (some ⟨b, off, none⟩) ss.length c), (1, str s), (7, .int .i64 (ss.length : Int)), (8, .int .i64 (k : Int))]) (fun k w => (k ≤ ss.length ∧ idxI s (ss.drop k) k = idxI s ss 0) ∧ W' w) (fun k => ss.length - k) 0 ⟨rfl, rfl, rfl, rfl, trivial⟩ (fun w hw => ⟨⟨Nat.zero_le _, rfl⟩, hw⟩) ?_
  intro k
  refine CX.have fun ⟨hk, hi⟩ => CX.seq <| CX.region <| LX.pure (Y.ltN rfl rfl) rfl rfl rfl <| LX.sub (l' := [(0, _), (1, _), (7, _), (8, _), (9, _)]) ⟨rfl, rfl, rfl, rfl, rfl, trivial⟩ <| LX.next <| PX.thenN <| CX.seq ?_
  refine CX.cond rfl (fun hb1 => ?_) (fun hb1 => ?_)
  · try simp at hb1
    refine CX.skip <| PX.thenN <| CX.seq <| CX.block <| CX.seq <| CX.region <| LX.pure (Y.move rfl) rfl rfl rfl <| LX.pure (Y.assign rfl) rfl rfl rfl <| LX.sub (l' := [(0, _), (1, _), (5, _), (7, _), (8, _)]) ⟨rfl, rfl, rfl, rfl, rfl, trivial⟩ <| LX.next <| PX.thenN <| CX.seq <| CX.region <| LX.pure (Y.move rfl) rfl rfl rfl <| LX.pure (Y.move rfl) rfl rfl rfl <| LX.pure (Y.move rfl) rfl rfl rfl <| LX.pure (Y.idx F.un65 F.sz9 rfl rfl (by omega)) rfl rfl rfl <| LX.pure (Y.load F.one9 rfl (fun w hw => (hc w (hW w hw)) k (str (ss.getD k [])) (by simp [List.getD, show k < ss.length by omega]) |> fun h => by simpa using h)) rfl rfl rfl <| LX.pure (Y.eqS rfl rfl) rfl rfl rfl <| LX.sub (l' := [(0, _), (1, _), (5, _), (7, _), (8, _), (16, _)]) ⟨rfl, rfl, rfl, rfl, rfl, rfl, trivial⟩ <| LX.next <| PX.thenN ?_
    refine CX.cond rfl (fun hb2 => ?_) (fun hb2 => ?_)
    · try simp at hb2
      refine CX.seq <| CX.region <| LX.pure (Y.move rfl) rfl rfl rfl <| LX.pure (Y.assign rfl) rfl rfl rfl <| LX.sub (l' := [(0, _), (1, _), (4, _), (7, _), (8, _)]) ⟨rfl, rfl, rfl, rfl, rfl, trivial⟩ <| LX.next <| PX.thenN <| CX.ret <| PX.blockR <| PX.thenR <| PX.thenR <| PX.blockR <| PX.thenR <| PX.ret1 (by simp) Tryd.results56 rfl ?_
      exact fun w hw => ⟨(), by rw [← hi, idxI_hit (by omega) (by simpa [List.getD] using ‹_›)], hw⟩
    try simp at hb2
    refine CX.skip <| PX.blockN <| PX.thenN <| CX.region <| LX.pure (Y.addN rfl rfl (by (simp only []; omega))) rfl rfl rfl <| LX.pure (Y.move rfl) rfl rfl rfl <| LX.sub (l' := [(0, _), (1, _), (7, _), (8, _)]) ⟨rfl, rfl, rfl, rfl, trivial⟩ <| LX.next ?_
    exact PX.again (k + 1) (by show ss.length - (k + 1) < ss.length - k; omega) ⟨rfl, rfl, rfl, rfl, trivial⟩ (fun w hw => ⟨⟨by omega, (idxI_next (by omega) (by simpa [List.getD] using ‹_›)).trans hi⟩, hw⟩)
  try simp at hb1
  refine CX.exit <| PX.thenE <| PX.thenE <| PX.blockE <| PX.thenN <| CX.seq <| CX.region <| LX.pure (Y.assign rfl) rfl rfl rfl <| LX.sub (l' := [(4, _)]) ⟨rfl, trivial⟩ <| LX.next <| PX.thenN <| CX.ret <| PX.ret1 (by simp) Tryd.results56 rfl ?_
  exact fun w hw => ⟨(), by rw [← hi, idxI_end (by omega)], hw⟩

theorem contains_q {W : World → Prop} [Stab W] (b off c : Nat) (ss : List (List UInt8)) (s : List UInt8) (hc : ∀ w, W w → Cells b off (ss.map str) w) (hl : ss.length ≤ 1000000) : FnQ Tryd.prog 35 #[.slice (some ⟨b, off, none⟩) ss.length c, str s] W (.bool (decide (s ∈ ss))) := by
  refine FnQ.all fun W' _ hW => ?_
  refine FnC.of_body (fn := Tryd.f35) [(0, _), (1, _)] Tryd.func35 rfl Tryd.ntmps35 rfl ⟨rfl, rfl, trivial⟩ ?_
  refine CX.seq <| CX.region <| LX.pure (Y.assign rfl) rfl rfl rfl <| LX.sub (l' := [(0, _), (1, _), (4, _)]) ⟨rfl, rfl, rfl, trivial⟩ <| LX.next <| PX.thenN <| CX.seq <| CX.region <| LX.pure (Y.move rfl) rfl rfl rfl <| LX.pure (Y.move rfl) rfl rfl rfl <| LX.callQ (index_q b off c ss s (fun w hw => hc w (hW w hw)) hl) F.en56 rfl rfl rfl rfl rfl <| LX.pure (Y.geI rfl rfl) rfl rfl rfl <| LX.pure (Y.assign rfl) rfl rfl rfl <| LX.sub (l' := [(4, _)]) ⟨rfl, trivial⟩ <| LX.next <| PX.thenN <| CX.ret <| PX.ret1 (by simp) Tryd.results35 rfl ?_
  exact fun w hw => ⟨(), by rw [decide_eq_decide.2 (idxI_ge s ss 0).1], hw⟩

theorem ext_ibs (args : Array Value) (w : World) : (callFunc 71 args).run Tryd.prog w = ((do let v ← Extern.BytealgIndexByte.indexByte args; pure (Next.value v)) : Sem Next).run Tryd.prog w := by kernel_rfl
theorem run_ibs (s : List UInt8) (c : Nat) (w : World) : (callFunc 71 [str s, .int .u8 (c : Int)].toArray).run Tryd.prog w = .ok (.value (.int .i64 (Lib.indexByte s c.toUInt8))) w := by
  rw [ext_ibs, Sem.run_bind]
  have := Lib.run_indexByteString (P := Tryd.prog) ⟨s.toArray⟩ (c : Int) w
  rw [show [str s, Value.int .u8 (c : Int)].toArray = #[.string ⟨s.toArray⟩, .int .u8 (c : Int)] from rfl, this]
  simp

theorem slIndexByte_q {W : World → Prop} [Stab W] (s : List UInt8) (c : Nat) : FnQ Tryd.prog 65 #[str s, .int .u8 (c : Int)] W (.int .i64 (Lib.indexByte s c.toUInt8)) := by
  refine FnQ.all fun W' _ _ => ?_
  refine FnC.of_body (fn := Tryd.f65) [(0, _), (1, _)] Tryd.func65 rfl Tryd.ntmps65 rfl ⟨rfl, rfl, trivial⟩ ?_
  refine CX.seq <| CX.region <| LX.pure (Y.assign rfl) rfl rfl rfl <| LX.sub (l' := [(0, _), (1, _), (4, _)]) ⟨rfl, rfl, rfl, trivial⟩ <| LX.next <| PX.thenN <| CX.seq <| CX.region <| LX.pure (Y.move rfl) rfl rfl rfl <| LX.pure (Y.move rfl) rfl rfl rfl <| LX.pure (Y.ext rfl (run_ibs s c)) rfl rfl rfl <| LX.pure (Y.assign rfl) rfl rfl rfl <| LX.sub (l' := [(4, _)]) ⟨rfl, trivial⟩ <| LX.next <| PX.thenN <| CX.ret <| PX.ret1 (by simp) Tryd.results65 rfl ?_
  exact fun w hw => ⟨(), rfl, hw⟩

theorem indexByte_q {W : World → Prop} [Stab W] (s : List UInt8) (c : Nat) : FnQ Tryd.prog 55 #[str s, .int .u8 (c : Int)] W (.int .i64 (Lib.indexByte s c.toUInt8)) := by
  refine FnQ.all fun W' _ _ => ?_
  refine FnC.of_body (fn := Tryd.f55) [(0, _), (1, _)] Tryd.func55 rfl Tryd.ntmps55 rfl ⟨rfl, rfl, trivial⟩ ?_
  refine CX.seq <| CX.region <| LX.pure (Y.assign rfl) rfl rfl rfl <| LX.sub (l' := [(0, _), (1, _), (4, _)]) ⟨rfl, rfl, rfl, trivial⟩ <| LX.next <| PX.thenN <| CX.seq <| CX.region <| LX.pure (Y.move rfl) rfl rfl rfl <| LX.pure (Y.move rfl) rfl rfl rfl <| LX.callQ (slIndexByte_q s c) F.en65 rfl rfl rfl rfl rfl <| LX.pure (Y.assign rfl) rfl rfl rfl <| LX.sub (l' := [(4, _)]) ⟨rfl, trivial⟩ <| LX.next <| PX.thenN <| CX.ret <| PX.ret1 (by simp) Tryd.results55 rfl ?_
  exact fun w hw => ⟨(), rfl, hw⟩

theorem lastIndexByteString_q {W : World → Prop} [Stab W] (s : List UInt8) (c : Nat) (hs : s.length ≤ 1000000) : FnQ Tryd.prog 61 #[str s, .int .u8 (c : Int)] W (.int .i64 (lastI s c s.length)) := by
  refine FnQ.all fun W' _ _ => ?_
  refine FnC.of_body (fn := Tryd.f61) [(0, _), (1, _)] Tryd.func61 rfl Tryd.ntmps61 rfl ⟨rfl, rfl, trivial⟩ ?_
  refine CX.seq <| CX.region <| LX.pure (Y.assign rfl) rfl rfl rfl <| LX.sub (l' := [(0, _), (1, _), (4, _)]) ⟨rfl, rfl, rfl, trivial⟩ <| LX.next <| PX.thenN <| CX.seq <| CX.seq <| CX.region <| LX.pure (Y.move rfl) rfl rfl rfl <| LX.pure (Y.lenStr rfl F.un9 rfl) rfl rfl rfl <| LX.pure (Y.sub (a := (s.length : Int)) (b := 1) rfl rfl (by omega)) rfl rfl rfl <| LX.pure (Y.assign rfl) rfl rfl rfl <| LX.sub (l' := [(0, _), (1, _), (4, _), (5, _)]) ⟨rfl, rfl, rfl, rfl, trivial⟩ <| LX.next <| PX.thenN <| CX.block <| CX.loop (τ := Nat) (fun k => [(0, str s), (1, .int .u8 (c : Int)), (5, .int .i64 ((k : Int) - 1))]) (fun k w => (k ≤ s.length ∧ lastI s c k = lastI s c s.length) ∧ W' w) (fun k => k) s.length ⟨rfl, rfl, rfl, trivial⟩ (fun w hw => ⟨⟨Nat.le_refl _, rfl⟩, hw⟩) ?_
  intro k
  refine CX.have fun ⟨hk, hi⟩ => CX.seq <| CX.seq <| CX.region <| LX.pure (Y.move rfl) rfl rfl rfl <| LX.pure (Y.geI rfl rfl) rfl rfl rfl <| LX.sub (l' := [(0, _), (1, _), (5, _), (10, _)]) ⟨rfl, rfl, rfl, rfl, trivial⟩ <| LX.next <| PX.thenN ?_
  refine CX.cond rfl (fun hb1 => ?_) (fun hb1 => ?_)
  · try simp at hb1
    obtain ⟨q, rfl⟩ : ∃ q, k = q + 1 := ⟨k - 1, by omega⟩
    rw [show (((q + 1 : Nat) : Int) - 1) = (q : Int) by omega]
    refine CX.skip <| PX.thenN <| CX.seq <| CX.block <| CX.seq <| CX.region <| LX.pure (Y.move rfl) rfl rfl rfl <| LX.pure (Y.move rfl) rfl rfl rfl <| LX.pure (Y.index rfl rfl F.un9 (by omega)) rfl rfl rfl <| LX.pure (Y.move rfl) rfl rfl rfl <| LX.pure (Y.eqN rfl rfl) rfl rfl rfl <| LX.sub (l' := [(0, _), (1, _), (5, _), (17, _)]) ⟨rfl, rfl, rfl, rfl, trivial⟩ <| LX.next <| PX.thenN ?_
    refine CX.cond rfl (fun hb2 => ?_) (fun hb2 => ?_)
    · try simp at hb2
      refine CX.seq <| CX.region <| LX.pure (Y.move rfl) rfl rfl rfl <| LX.pure (Y.assign rfl) rfl rfl rfl <| LX.sub (l' := [(0, _), (1, _), (4, _), (5, _)]) ⟨rfl, rfl, rfl, rfl, trivial⟩ <| LX.next <| PX.thenN <| CX.ret <| PX.blockR <| PX.thenR <| PX.thenR <| PX.blockR <| PX.thenR <| PX.ret1 (by simp) Tryd.results61 rfl ?_
      exact fun w hw => ⟨(), by rw [← hi, lastI, if_pos ‹_›], hw⟩
    try simp at hb2
    refine CX.skip <| PX.blockN <| PX.thenN <| CX.region <| LX.pure (Y.move rfl) rfl rfl rfl <| LX.pure (Y.sub rfl rfl (by omega)) rfl rfl rfl <| LX.pure (Y.assign rfl) rfl rfl rfl <| LX.sub (l' := [(0, _), (1, _), (5, _)]) ⟨rfl, rfl, rfl, trivial⟩ <| LX.next ?_
    exact PX.again q (Nat.lt_succ_self q) ⟨rfl, rfl, rfl, trivial⟩ (fun w hw => ⟨⟨by omega, by rw [← hi, lastI, if_neg ‹_›]⟩, hw⟩)
  try simp at hb1
  refine CX.exit <| PX.thenE <| PX.thenE <| PX.blockE <| PX.thenN <| CX.seq <| CX.region <| LX.pure (Y.assign rfl) rfl rfl rfl <| LX.sub (l' := [(4, _)]) ⟨rfl, trivial⟩ <| LX.next <| PX.thenN <| CX.ret <| PX.ret1 (by simp) Tryd.results61 rfl ?_
  exact fun w hw => ⟨(), by rw [← hi, show k = 0 by omega]; rfl, hw⟩

theorem lastIndexByte_q {W : World → Prop} [Stab W] (s : List UInt8) (c : Nat) (hs : s.length ≤ 1000000) : FnQ Tryd.prog 50 #[str s, .int .u8 (c : Int)] W (.int .i64 (lastI s c s.length)) := by
  refine FnQ.all fun W' _ _ => ?_
  refine FnC.of_body (fn := Tryd.f50) [(0, _), (1, _)] Tryd.func50 rfl Tryd.ntmps50 rfl ⟨rfl, rfl, trivial⟩ ?_
  refine CX.seq <| CX.region <| LX.pure (Y.assign rfl) rfl rfl rfl <| LX.sub (l' := [(0, _), (1, _), (4, _)]) ⟨rfl, rfl, rfl, trivial⟩ <| LX.next <| PX.thenN <| CX.seq <| CX.region <| LX.pure (Y.move rfl) rfl rfl rfl <| LX.pure (Y.move rfl) rfl rfl rfl <| LX.callQ (lastIndexByteString_q s c hs) F.en61 rfl rfl rfl rfl rfl <| LX.pure (Y.assign rfl) rfl rfl rfl <| LX.sub (l' := [(4, _)]) ⟨rfl, trivial⟩ <| LX.next <| PX.thenN <| CX.ret <| PX.ret1 (by simp) Tryd.results50 rfl ?_
  exact fun w hw => ⟨(), rfl, hw⟩

theorem slHasPrefix_q {W : World → Prop} [Stab W] (s x : List UInt8) (hs : s.length ≤ 1000000) (hx : x.length ≤ 1000000) : FnQ Tryd.prog 70 #[str s, str x] W (.bool (x.isPrefixOf s)) := by
  refine FnQ.all fun W' _ _ => ?_
  refine FnC.of_body (fn := Tryd.f70) [(0, _), (1, _)] Tryd.func70 rfl Tryd.ntmps70 rfl ⟨rfl, rfl, trivial⟩ ?_
  refine CX.seq <| CX.region <| LX.pure (Y.assign rfl) rfl rfl rfl <| LX.sub (l' := [(0, _), (1, _), (4, _)]) ⟨rfl, rfl, rfl, trivial⟩ <| LX.next <| PX.thenN <| CX.seq <| CX.region <| LX.pure (Y.move rfl) rfl rfl rfl <| LX.pure (Y.lenStr rfl F.un9 rfl) rfl rfl rfl <| LX.pure (Y.move rfl) rfl rfl rfl <| LX.pure (Y.lenStr rfl F.un9 rfl) rfl rfl rfl <| LX.pure (Y.geN rfl rfl) rfl rfl rfl <| LX.pure (Y.move rfl) rfl rfl rfl <| LX.sub (l' := [(0, _), (1, _), (4, _), (10, _)]) ⟨rfl, rfl, rfl, rfl, trivial⟩ ?_
  apply LX.joinAnd 7 17 10 rfl
  · intro hb1
    have hb1p := hb1
    try simp at hb1p
    refine LX.gT rfl rfl rfl hb1 (Y.move rfl) rfl rfl <| LX.gT rfl rfl rfl hb1 (Y.move rfl) rfl rfl <| LX.gT rfl rfl rfl hb1 (Y.lenStr rfl F.un9 rfl) rfl rfl <| LX.gT rfl rfl rfl hb1 (Y.sliceHi rfl rfl F.un9 (by omega)) rfl rfl <| LX.gT rfl rfl rfl hb1 (Y.move rfl) rfl rfl <| LX.gT rfl rfl rfl hb1 (Y.eqS rfl rfl) rfl rfl <| LX.pure (Y.pickT rfl hb1 rfl) rfl rfl rfl ?_
    exact LX.left ⟨rfl, rfl, rfl, rfl, rfl, trivial⟩
  · intro hb1
    have hb1p := hb1
    try simp at hb1p
    refine LX.gF rfl rfl rfl hb1 rfl rfl <| LX.gF rfl rfl rfl hb1 rfl rfl <| LX.gF rfl rfl rfl hb1 rfl rfl <| LX.gF rfl rfl rfl hb1 rfl rfl <| LX.gF rfl rfl rfl hb1 rfl rfl <| LX.gF rfl rfl rfl hb1 rfl rfl <| LX.pure (Y.pickF rfl hb1 rfl) rfl rfl rfl ?_
    exact LX.left ⟨rfl, rfl, rfl, rfl, rfl, trivial⟩
  refine LX.pure (Y.assign rfl) rfl rfl rfl <| LX.sub (l' := [(4, _)]) ⟨rfl, trivial⟩ <| LX.next <| PX.thenN <| CX.ret <| PX.ret1 (by simp) Tryd.results70 rfl ?_
  exact fun w hw => ⟨(), by rw [prefix_take], hw⟩

theorem hasPrefix_q {W : World → Prop} [Stab W] (s x : List UInt8) (hs : s.length ≤ 1000000) (hx : x.length ≤ 1000000) : FnQ Tryd.prog 64 #[str s, str x] W (.bool (x.isPrefixOf s)) := by
  refine FnQ.all fun W' _ _ => ?_
  refine FnC.of_body (fn := Tryd.f64) [(0, _), (1, _)] Tryd.func64 rfl Tryd.ntmps64 rfl ⟨rfl, rfl, trivial⟩ ?_
  refine CX.seq <| CX.region <| LX.pure (Y.assign rfl) rfl rfl rfl <| LX.sub (l' := [(0, _), (1, _), (4, _)]) ⟨rfl, rfl, rfl, trivial⟩ <| LX.next <| PX.thenN <| CX.seq <| CX.region <| LX.pure (Y.move rfl) rfl rfl rfl <| LX.pure (Y.move rfl) rfl rfl rfl <| LX.callQ (slHasPrefix_q s x hs hx) F.en70 rfl rfl rfl rfl rfl <| LX.pure (Y.assign rfl) rfl rfl rfl <| LX.sub (l' := [(4, _)]) ⟨rfl, trivial⟩ <| LX.next <| PX.thenN <| CX.ret <| PX.ret1 (by simp) Tryd.results64 rfl ?_
  exact fun w hw => ⟨(), rfl, hw⟩

theorem words_c {W : World → Prop} [Stab W] : FnC Tryd.prog 51 #[] W (fun b : Nat => .slice (some ⟨b, 0, none⟩) 17 17) (fun b w => W w ∧ Cells b 0 (wordsList.map str) w) := by
  refine FnC.of_body (fn := Tryd.f51) [] Tryd.func51 rfl Tryd.ntmps51 rfl trivial ?_
  refine CX.seq <| CX.region <| LX.pure (Y.assign rfl) rfl rfl rfl <| LX.sub (l' := [(0, _)]) ⟨rfl, trivial⟩ <| LX.next <| PX.thenN <| CX.seq <| CX.region <| LX.buildSliceW (e := 9) rfl rfl (fun _ => by kernel_rfl) rfl rfl rfl ?_
  intro b
  refine LX.pure (Y.assign rfl) rfl rfl rfl <| LX.sub (l' := [(0, _)]) ⟨rfl, trivial⟩ <| LX.next <| PX.thenN <| CX.ret <| PX.ret1 (by simp) Tryd.results51 rfl ?_
  exact fun w hw => ⟨b, rfl, hw⟩

theorem signs_c {W : World → Prop} [Stab W] : FnC Tryd.prog 63 #[] W (fun b : Nat => .slice (some ⟨b, 0, none⟩) 22 22) (fun b w => W w ∧ Cells b 0 (signsList.map str) w) := by
  refine FnC.of_body (fn := Tryd.f63) [] Tryd.func63 rfl Tryd.ntmps63 rfl trivial ?_
  refine CX.seq <| CX.region <| LX.pure (Y.assign rfl) rfl rfl rfl <| LX.sub (l' := [(0, _)]) ⟨rfl, trivial⟩ <| LX.next <| PX.thenN <| CX.seq <| CX.region <| LX.buildSliceW (e := 9) rfl rfl (fun _ => by kernel_rfl) rfl rfl rfl ?_
  intro b
  refine LX.pure (Y.assign rfl) rfl rfl rfl <| LX.sub (l' := [(0, _)]) ⟨rfl, trivial⟩ <| LX.next <| PX.thenN <| CX.ret <| PX.ret1 (by simp) Tryd.results63 rfl ?_
  exact fun w hw => ⟨b, rfl, hw⟩

/-- what is read of a scanner -/
structure Rd (W : World → Prop) (B : Nat) (s : List UInt8) (pos : Nat) : Prop where
  c0 : ∀ w, W w → w.cell? ⟨B, 0, none⟩ = some (str s)
  c1 : ∀ w, W w → w.cell? ⟨B, 1, none⟩ = some (.int .i64 (pos : Int))
theorem Rd.mono {W W' : World → Prop} {B : Nat} {s : List UInt8} {pos : Nat} (h : Rd W B s pos) (hw : ∀ w, W' w → W w) : Rd W' B s pos := ⟨fun w h' => h.c0 w (hw w h'), fun w h' => h.c1 w (hw w h')⟩
theorem rd_sc {w0 : World} {base B : Nat} {σ : Sc} {p : Sl} {fr : List It} : Rd (WA w0 base (scI B σ p fr)) B σ.s σ.pos := ⟨fun _ h => h.cell (i := 0) rfl rfl, fun _ h => h.cell (i := 0) rfl rfl⟩
theorem signs_len : ∀ x ∈ signsList, x.length ≤ 2 := by decide

theorem found_q {W : World → Prop} [Stab W] {B pos : Nat} {s : List UInt8} (hR : Rd W B s pos) (hp : pos ≤ s.length) (hs : s.length ≤ 1000000) : FnQ Tryd.prog 54 #[.pointer (some ⟨B, 0, none⟩)] W (str (signL (s.drop pos))) := by
  refine FnQ.all fun W' _ hW => ?_
  refine FnC.of_body (fn := Tryd.f54) [(0, _)] Tryd.func54 rfl Tryd.ntmps54 rfl ⟨rfl, trivial⟩ ?_
  refine CX.seq <| CX.region <| LX.pure (Y.assign rfl) rfl rfl rfl <| LX.sub (l' := [(0, _), (2, _)]) ⟨rfl, rfl, trivial⟩ <| LX.next <| PX.thenN <| CX.seq <| CX.seq <| CX.region <| LX.call (signs_c) F.en63 rfl rfl rfl rfl rfl ?_
  intro bs
  refine LX.pure (Y.lenSl rfl F.un65 rfl) rfl rfl rfl <| LX.pure (Y.move rfl) rfl rfl rfl <| LX.sub (l' := [(0, _), (2, _), (5, _), (6, _), (7, _)]) ⟨rfl, rfl, rfl, rfl, rfl, trivial⟩ <| LX.next <| PX.thenN <| CX.block <| CX.loop (τ := Nat) (fun k => [(0, .pointer (some ⟨B, 0, none⟩)), (5, .slice (some ⟨bs, 0, none⟩) 22 22), (6, .int .i64 (22 : Int)), (7, .int .i64 (k : Int))]) (fun k w => (k ≤ 22 ∧ firstS (s.drop pos) (signsList.drop k) = firstS (s.drop pos) signsList) ∧ (W' w ∧ Cells bs 0 (signsList.map str) w)) (fun k => 22 - k) 0 ⟨rfl, rfl, rfl, rfl, trivial⟩ (fun w hw => ⟨⟨Nat.zero_le _, rfl⟩, hw⟩) ?_
  intro k
  refine CX.have fun ⟨hk, hi⟩ => CX.seq <| CX.region <| LX.pure (Y.ltN rfl rfl) rfl rfl rfl <| LX.sub (l' := [(0, _), (5, _), (6, _), (7, _), (8, _)]) ⟨rfl, rfl, rfl, rfl, rfl, trivial⟩ <| LX.next <| PX.thenN <| CX.seq ?_
  refine CX.cond rfl (fun hb1 => ?_) (fun hb1 => ?_)
  · try simp at hb1
    refine CX.skip <| PX.thenN <| CX.seq <| CX.block <| CX.seq <| CX.region <| LX.pure (Y.idx F.un65 F.sz9 rfl rfl (by omega)) rfl rfl rfl <| LX.pure (Y.load F.one9 rfl (fun w hw => by have := hw.2 k (str (signsList.getD k [])) (by simp [List.getD, show k < signsList.length from hb1]); simpa using this)) rfl rfl rfl <| LX.pure (Y.assign rfl) rfl rfl rfl <| LX.sub (l' := [(0, _), (4, _), (5, _), (6, _), (7, _)]) ⟨rfl, rfl, rfl, rfl, rfl, trivial⟩ <| LX.next <| PX.thenN <| CX.seq <| CX.regionQ rfl (by kernel_rfl) <| LX.pure (Y.move rfl) rfl rfl rfl <| LX.pure (Y.nilCheck rfl) rfl rfl rfl <| LX.pure (Y.fieldAddr0 F.fo52_0 rfl) rfl rfl rfl <| LX.pure (Y.load F.one9 rfl (fun w hw => hR.c0 w (hW w hw.1))) rfl rfl rfl <| LX.pure (Y.move rfl) rfl rfl rfl <| LX.pure (Y.nilCheck rfl) rfl rfl rfl <| LX.pure (Y.fieldAddr0 F.fo52_1 rfl) rfl rfl rfl <| LX.pure (Y.load F.one3 rfl (fun w hw => hR.c1 w (hW w hw.1))) rfl rfl rfl <| LX.pure (Y.sliceLo rfl rfl F.un9 (by omega)) rfl rfl rfl <| LX.pure (Y.move rfl) rfl rfl rfl <| LX.callQ (hasPrefix_q _ _ (by simp; omega) (Nat.le_trans (signs_len _ (by simp [List.getD, show k < signsList.length from hb1])) (by decide))) F.en64 rfl rfl rfl rfl rfl <| LX.sub (l' := [(0, _), (4, _), (5, _), (6, _), (7, _), (21, _)]) ⟨rfl, rfl, rfl, rfl, rfl, rfl, trivial⟩ <| LX.nextQ <| PX.thenN ?_
    refine CX.cond rfl (fun hb2 => ?_) (fun hb2 => ?_)
    · try simp at hb2
      refine CX.seq <| CX.region <| LX.pure (Y.move rfl) rfl rfl rfl <| LX.pure (Y.assign rfl) rfl rfl rfl <| LX.sub (l' := [(0, _), (2, _), (5, _), (6, _), (7, _)]) ⟨rfl, rfl, rfl, rfl, rfl, trivial⟩ <| LX.next <| PX.thenN <| CX.ret <| PX.blockR <| PX.thenR <| PX.thenR <| PX.blockR <| PX.thenR <| PX.ret1 (by simp) Tryd.results54 rfl ?_
      exact fun w hw => ⟨(), by rw [signL, ← firstS_eq, ← hi, firstS_hit hb1 (by simpa [List.getD] using hb2)]; simp [List.getD], hw.1⟩
    try simp at hb2
    refine CX.skip <| PX.blockN <| PX.thenN <| CX.region <| LX.pure (Y.addN rfl rfl (by (simp only []; omega))) rfl rfl rfl <| LX.pure (Y.move rfl) rfl rfl rfl <| LX.sub (l' := [(0, _), (5, _), (6, _), (7, _)]) ⟨rfl, rfl, rfl, rfl, trivial⟩ <| LX.next ?_
    exact PX.again (k + 1) (by show 22 - (k + 1) < 22 - k; omega) ⟨rfl, rfl, rfl, rfl, trivial⟩ (fun w hw => ⟨⟨by omega, (firstS_next hb1 (by simpa [List.getD] using hb2)).trans hi⟩, hw⟩)
  try simp at hb1
  refine CX.exit <| PX.thenE <| PX.thenE <| PX.blockE <| PX.thenN <| CX.seq <| CX.region <| LX.pure (Y.assign rfl) rfl rfl rfl <| LX.sub (l' := [(2, _)]) ⟨rfl, trivial⟩ <| LX.next <| PX.thenN <| CX.ret <| PX.ret1 (by simp) Tryd.results54 rfl ?_
  exact fun w hw => ⟨(), by rw [signL, ← firstS_eq, ← hi, show k = 22 by omega]; rfl, hw.1⟩

theorem begins_q {W : World → Prop} [Stab W] {B pos : Nat} {s : List UInt8} (hR : Rd W B s pos) (hp : pos < s.length) (hs : s.length ≤ 1000000) : FnQ Tryd.prog 49 #[.pointer (some ⟨B, 0, none⟩)] W (.bool (isLet (bt s pos) || isDig (bt s pos) || decide (bt s pos = 34) || decide (bt s pos = 39) || decide (signL (s.drop pos) ≠ []))) := by
  refine FnQ.all fun W' _ hW => ?_
  refine FnC.of_body (fn := Tryd.f49) [(0, _)] Tryd.func49 rfl Tryd.ntmps49 rfl ⟨rfl, trivial⟩ ?_
  refine CX.seq <| CX.region <| LX.pure (Y.assign rfl) rfl rfl rfl <| LX.sub (l' := [(0, _), (2, _)]) ⟨rfl, rfl, trivial⟩ <| LX.next <| PX.thenN <| CX.seq <| CX.regionQ rfl (by kernel_rfl) <| LX.pure (Y.move rfl) rfl rfl rfl <| LX.pure (Y.nilCheck rfl) rfl rfl rfl <| LX.pure (Y.fieldAddr0 F.fo52_0 rfl) rfl rfl rfl <| LX.pure (Y.load F.one9 rfl (fun w hw => hR.c0 w (hW w hw))) rfl rfl rfl <| LX.pure (Y.move rfl) rfl rfl rfl <| LX.pure (Y.nilCheck rfl) rfl rfl rfl <| LX.pure (Y.fieldAddr0 F.fo52_1 rfl) rfl rfl rfl <| LX.pure (Y.load F.one3 rfl (fun w hw => hR.c1 w (hW w hw))) rfl rfl rfl <| LX.pure (Y.index rfl rfl F.un9 (by omega)) rfl rfl rfl <| LX.pure (Y.assign rfl) rfl rfl rfl <| LX.sub (l' := [(0, _), (2, _), (3, _)]) ⟨rfl, rfl, rfl, trivial⟩ <| LX.nextQ <| PX.thenN <| CX.seq <| CX.seq <| CX.region <| LX.pure (Y.move rfl) rfl rfl rfl <| LX.callQ (letter_q _ _) F.en29 rfl rfl rfl rfl rfl <| LX.pure (Y.move rfl) rfl rfl rfl <| LX.sub (l' := [(0, _), (2, _), (3, _), (15, _)]) ⟨rfl, rfl, rfl, rfl, trivial⟩ ?_
  apply LX.joinOr 3 18 15 rfl
  · intro hb1
    have hb1p := hb1
    try simp at hb1p
    refine LX.gF rfl rfl rfl hb1 rfl rfl <| LX.gF rfl rfl rfl hb1 rfl rfl <| LX.pure (Y.pickT rfl hb1 rfl) rfl rfl rfl ?_
    exact LX.left ⟨rfl, rfl, rfl, rfl, rfl, trivial⟩
  · intro hb1
    have hb1p := hb1
    try simp at hb1p
    refine LX.gT rfl rfl rfl hb1 (Y.move rfl) rfl rfl <| LX.callQT rfl rfl rfl hb1 (digit_q _ _) F.en31 rfl rfl rfl rfl <| LX.pure (Y.pickF rfl hb1 rfl) rfl rfl rfl ?_
    exact LX.left ⟨rfl, rfl, rfl, rfl, rfl, trivial⟩
  refine LX.pure (Y.move rfl) rfl rfl rfl <| LX.sub (l' := [(0, _), (2, _), (3, _), (19, _)]) ⟨rfl, rfl, rfl, rfl, trivial⟩ ?_
  apply LX.joinOr 3 22 19 rfl
  · intro hb2
    have hb2p := hb2
    try simp at hb2p
    refine LX.gF rfl rfl rfl hb2 rfl rfl <| LX.gF rfl rfl rfl hb2 rfl rfl <| LX.pure (Y.pickT rfl hb2 rfl) rfl rfl rfl ?_
    exact LX.left ⟨rfl, rfl, rfl, rfl, rfl, trivial⟩
  · intro hb2
    have hb2p := hb2
    try simp at hb2p
    refine LX.gT rfl rfl rfl hb2 (Y.move rfl) rfl rfl <| LX.gT rfl rfl rfl hb2 (Y.eqN rfl rfl) rfl rfl <| LX.pure (Y.pickF rfl hb2 rfl) rfl rfl rfl ?_
    exact LX.left ⟨rfl, rfl, rfl, rfl, rfl, trivial⟩
  refine LX.pure (Y.move rfl) rfl rfl rfl <| LX.sub (l' := [(0, _), (2, _), (3, _), (23, _)]) ⟨rfl, rfl, rfl, rfl, trivial⟩ ?_
  apply LX.joinOr 3 26 23 rfl
  · intro hb3
    have hb3p := hb3
    try simp at hb3p
    refine LX.gF rfl rfl rfl hb3 rfl rfl <| LX.gF rfl rfl rfl hb3 rfl rfl <| LX.pure (Y.pickT rfl hb3 rfl) rfl rfl rfl ?_
    exact LX.left ⟨rfl, rfl, rfl, rfl, rfl, trivial⟩
  · intro hb3
    have hb3p := hb3
    try simp at hb3p
    refine LX.gT rfl rfl rfl hb3 (Y.move rfl) rfl rfl <| LX.gT rfl rfl rfl hb3 (Y.eqN rfl rfl) rfl rfl <| LX.pure (Y.pickF rfl hb3 rfl) rfl rfl rfl ?_
    exact LX.left ⟨rfl, rfl, rfl, rfl, rfl, trivial⟩
  refine LX.sub (l' := [(0, _), (2, _), (26, _)]) ⟨rfl, rfl, rfl, trivial⟩ <| LX.next <| PX.thenN ?_
  refine CX.cond rfl (fun hb4 => ?_) (fun hb4 => ?_)
  · try simp at hb4
    refine CX.seq <| CX.region <| LX.pure (Y.assign rfl) rfl rfl rfl <| LX.sub (l' := [(0, _), (2, _)]) ⟨rfl, rfl, trivial⟩ <| LX.next <| PX.thenN <| CX.ret <| PX.thenR <| PX.ret1 (by simp) Tryd.results49 rfl ?_
    exact fun w hw => ⟨(), by rcases hb4 with ((h | h) | h) | h <;> simp [h], hw⟩
  try simp at hb4
  refine CX.skip <| PX.thenN <| CX.seq <| CX.region <| LX.pure (Y.move rfl) rfl rfl rfl <| LX.callQ (found_q (hR.mono hW) (by omega) hs) F.en54 rfl rfl rfl rfl rfl <| LX.pure (Y.neS rfl rfl) rfl rfl rfl <| LX.pure (Y.assign rfl) rfl rfl rfl <| LX.sub (l' := [(2, _)]) ⟨rfl, trivial⟩ <| LX.next <| PX.thenN <| CX.ret <| PX.ret1 (by simp) Tryd.results49 rfl ?_
  exact fun w hw => ⟨(), by simp [hb4], hw⟩

theorem end_q {W : World → Prop} [Stab W] {B pos : Nat} {s : List UInt8} (q : Nat) (hR : Rd W B s pos) (hp : pos < s.length) (hs : s.length ≤ 1000000) : FnQ Tryd.prog 52 #[.pointer (some ⟨B, 0, none⟩), .int .u8 (q : Int)] W (.int .i64 (match endL q (s.drop (pos + 1)) (pos + 1) with | some e => (e : Int) | none => -1)) := by
  refine FnQ.all fun W' _ hW => ?_
  refine FnC.of_body (fn := Tryd.f52) [(0, _), (1, _)] Tryd.func52 rfl Tryd.ntmps52 rfl ⟨rfl, rfl, trivial⟩ ?_
  refine CX.seq <| CX.region <| LX.pure (Y.assign rfl) rfl rfl rfl <| LX.sub (l' := [(0, _), (1, _), (4, _)]) ⟨rfl, rfl, rfl, trivial⟩ <| LX.next <| PX.thenN <| CX.seq <| CX.seq <| CX.region <| LX.pure (Y.move rfl) rfl rfl rfl <| LX.pure (Y.nilCheck rfl) rfl rfl rfl <| LX.pure (Y.fieldAddr0 F.fo52_1 rfl) rfl rfl rfl <| LX.pure (Y.load F.one3 rfl (fun w hw => hR.c1 w (hW w hw))) rfl rfl rfl <| LX.pure (Y.addN rfl rfl (by (simp only []; omega))) rfl rfl rfl <| LX.pure (Y.assign rfl) rfl rfl rfl <| LX.sub (l' := [(0, _), (1, _), (4, _), (5, _)]) ⟨rfl, rfl, rfl, rfl, trivial⟩ <| LX.next <| PX.thenN <| CX.block <| CX.loop (τ := Nat) (fun k => [(0, .pointer (some ⟨B, 0, none⟩)), (1, .int .u8 (q : Int)), (5, .int .i64 (k : Int))]) (fun k w => (k ≤ s.length + 1 ∧ endL q (s.drop k) k = endL q (s.drop (pos + 1)) (pos + 1)) ∧ W' w) (fun k => s.length + 1 - k) (pos + 1) ⟨rfl, rfl, rfl, trivial⟩ (fun w hw => ⟨⟨by omega, rfl⟩, hw⟩) ?_
  intro k
  refine CX.have fun ⟨hk, hi⟩ => ?_
  rw [endL_eq] at hi
  refine CX.seq <| CX.seq <| CX.region <| LX.pure (Y.move rfl) rfl rfl rfl <| LX.pure (Y.move rfl) rfl rfl rfl <| LX.pure (Y.nilCheck rfl) rfl rfl rfl <| LX.pure (Y.fieldAddr0 F.fo52_0 rfl) rfl rfl rfl <| LX.pure (Y.load F.one9 rfl (fun w hw => hR.c0 w (hW w hw))) rfl rfl rfl <| LX.pure (Y.lenStr rfl F.un9 rfl) rfl rfl rfl <| LX.pure (Y.ltN rfl rfl) rfl rfl rfl <| LX.pure (Y.move rfl) rfl rfl rfl <| LX.sub (l' := [(0, _), (1, _), (5, _), (18, _)]) ⟨rfl, rfl, rfl, rfl, trivial⟩ ?_
  apply LX.joinAnd 8 26 18 rfl
  · intro hb1
    have hb1p := hb1
    try simp at hb1p
    refine LX.gT rfl rfl rfl hb1 (Y.move rfl) rfl rfl <| LX.gT rfl rfl rfl hb1 (Y.nilCheck rfl) rfl rfl <| LX.gT rfl rfl rfl hb1 (Y.fieldAddr0 F.fo52_0 rfl) rfl rfl <| LX.gT rfl rfl rfl hb1 (Y.load F.one9 rfl (fun w hw => hR.c0 w (hW w hw))) rfl rfl <| LX.gT rfl rfl rfl hb1 (Y.move rfl) rfl rfl <| LX.gT rfl rfl rfl hb1 (Y.index rfl rfl F.un9 (by omega)) rfl rfl <| LX.gT rfl rfl rfl hb1 (Y.neN rfl rfl) rfl rfl <| LX.pure (Y.pickT rfl hb1 rfl) rfl rfl rfl ?_
    exact LX.left ⟨rfl, rfl, rfl, rfl, rfl, trivial⟩
  · intro hb1
    have hb1p := hb1
    try simp at hb1p
    refine LX.gF rfl rfl rfl hb1 rfl rfl <| LX.gF rfl rfl rfl hb1 rfl rfl <| LX.gF rfl rfl rfl hb1 rfl rfl <| LX.gF rfl rfl rfl hb1 rfl rfl <| LX.gF rfl rfl rfl hb1 rfl rfl <| LX.gF rfl rfl rfl hb1 rfl rfl <| LX.gF rfl rfl rfl hb1 rfl rfl <| LX.pure (Y.pickF rfl hb1 rfl) rfl rfl rfl ?_
    exact LX.left ⟨rfl, rfl, rfl, rfl, rfl, trivial⟩
  refine LX.sub (l' := [(0, _), (1, _), (5, _), (26, _)]) ⟨rfl, rfl, rfl, rfl, trivial⟩ <| LX.next <| PX.thenN ?_
  refine CX.cond rfl (fun hb2 => ?_) (fun hb2 => ?_)
  · try simp at hb2
    refine CX.skip <| PX.thenN <| CX.seq <| CX.block <| CX.seq <| CX.region <| LX.pure (Y.move rfl) rfl rfl rfl <| LX.pure (Y.nilCheck rfl) rfl rfl rfl <| LX.pure (Y.fieldAddr0 F.fo52_0 rfl) rfl rfl rfl <| LX.pure (Y.load F.one9 rfl (fun w hw => hR.c0 w (hW w hw))) rfl rfl rfl <| LX.pure (Y.move rfl) rfl rfl rfl <| LX.pure (Y.index rfl rfl F.un9 (by omega)) rfl rfl rfl <| LX.sub (l' := [(0, _), (1, _), (5, _), (34, _)]) ⟨rfl, rfl, rfl, rfl, trivial⟩ <| LX.next <| PX.thenN <| CX.block <| CX.seq <| CX.region <| LX.pure (Y.move rfl) rfl rfl rfl <| LX.pure (Y.eqN rfl rfl) rfl rfl rfl <| LX.pure (Y.assign rfl) rfl rfl rfl <| LX.sub (l' := [(0, _), (1, _), (5, _), (34, _), (35, _)]) ⟨rfl, rfl, rfl, rfl, rfl, trivial⟩ <| LX.next <| PX.thenN ?_
    refine CX.cond rfl (fun hb3 => ?_) (fun hb3 => ?_)
    · try simp at hb3
      refine CX.seq <| CX.region <| LX.pure (Y.move rfl) rfl rfl rfl <| LX.pure (Y.addN rfl rfl (by (simp only []; omega))) rfl rfl rfl <| LX.pure (Y.assign rfl) rfl rfl rfl <| LX.sub (l' := [(0, _), (1, _), (4, _), (5, _)]) ⟨rfl, rfl, rfl, rfl, trivial⟩ <| LX.next <| PX.thenN <| CX.ret <| PX.blockR <| PX.blockR <| PX.thenR <| PX.thenR <| PX.blockR <| PX.thenR <| PX.ret1 (by simp) Tryd.results52 rfl ?_
      exact fun w hw => ⟨(), by rw [← hi, if_pos hb2.1, if_neg hb2.2, if_pos hb3], hw⟩
    try simp at hb3
    refine CX.seq <| CX.region <| LX.pure (Y.eqN rfl rfl) rfl rfl rfl <| LX.pure (Y.assign rfl) rfl rfl rfl <| LX.sub (l' := [(0, _), (1, _), (5, _), (40, _)]) ⟨rfl, rfl, rfl, rfl, trivial⟩ <| LX.next <| PX.thenN ?_
    refine CX.cond rfl (fun hb4 => ?_) (fun hb4 => ?_)
    · try simp at hb4
      refine CX.seq <| CX.region <| LX.pure (Y.move rfl) rfl rfl rfl <| LX.pure (Y.addN rfl rfl (by (simp only []; omega))) rfl rfl rfl <| LX.pure (Y.assign rfl) rfl rfl rfl <| LX.sub (l' := [(0, _), (1, _), (5, _)]) ⟨rfl, rfl, rfl, trivial⟩ <| LX.next <| PX.thenN <| CX.seq <| CX.region <| LX.pure (Y.move rfl) rfl rfl rfl <| LX.pure (Y.move rfl) rfl rfl rfl <| LX.pure (Y.nilCheck rfl) rfl rfl rfl <| LX.pure (Y.fieldAddr0 F.fo52_0 rfl) rfl rfl rfl <| LX.pure (Y.load F.one9 rfl (fun w hw => hR.c0 w (hW w hw))) rfl rfl rfl <| LX.pure (Y.lenStr rfl F.un9 rfl) rfl rfl rfl <| LX.pure (Y.ltN rfl rfl) rfl rfl rfl <| LX.pure (Y.move rfl) rfl rfl rfl <| LX.sub (l' := [(0, _), (1, _), (5, _), (51, _)]) ⟨rfl, rfl, rfl, rfl, trivial⟩ ?_
      apply LX.joinAnd 8 59 51 rfl
      · intro hb5
        have hb5p := hb5
        try simp at hb5p
        refine LX.gT rfl rfl rfl hb5 (Y.move rfl) rfl rfl <| LX.gT rfl rfl rfl hb5 (Y.nilCheck rfl) rfl rfl <| LX.gT rfl rfl rfl hb5 (Y.fieldAddr0 F.fo52_0 rfl) rfl rfl <| LX.gT rfl rfl rfl hb5 (Y.load F.one9 rfl (fun w hw => hR.c0 w (hW w hw))) rfl rfl <| LX.gT rfl rfl rfl hb5 (Y.move rfl) rfl rfl <| LX.gT rfl rfl rfl hb5 (Y.index rfl rfl F.un9 (by omega)) rfl rfl <| LX.gT rfl rfl rfl hb5 (Y.eqN rfl rfl) rfl rfl <| LX.pure (Y.pickT rfl hb5 rfl) rfl rfl rfl ?_
        exact LX.left ⟨rfl, rfl, rfl, rfl, rfl, trivial⟩
      · intro hb5
        have hb5p := hb5
        try simp at hb5p
        refine LX.gF rfl rfl rfl hb5 rfl rfl <| LX.gF rfl rfl rfl hb5 rfl rfl <| LX.gF rfl rfl rfl hb5 rfl rfl <| LX.gF rfl rfl rfl hb5 rfl rfl <| LX.gF rfl rfl rfl hb5 rfl rfl <| LX.gF rfl rfl rfl hb5 rfl rfl <| LX.gF rfl rfl rfl hb5 rfl rfl <| LX.pure (Y.pickF rfl hb5 rfl) rfl rfl rfl ?_
        exact LX.left ⟨rfl, rfl, rfl, rfl, rfl, trivial⟩
      refine LX.sub (l' := [(0, _), (1, _), (5, _), (59, _)]) ⟨rfl, rfl, rfl, rfl, trivial⟩ <| LX.next <| PX.thenN ?_
      refine CX.cond rfl (fun hb6 => ?_) (fun hb6 => ?_)
      · try simp at hb6
        refine CX.seq <| CX.region <| LX.pure (Y.assign rfl) rfl rfl rfl <| LX.sub (l' := [(0, _), (1, _), (4, _), (5, _)]) ⟨rfl, rfl, rfl, rfl, trivial⟩ <| LX.next <| PX.thenN <| CX.ret <| PX.blockR <| PX.blockR <| PX.thenR <| PX.thenR <| PX.blockR <| PX.thenR <| PX.ret1 (by simp) Tryd.results52 rfl ?_
        exact fun w hw => ⟨(), by rw [← hi, if_pos hb2.1, if_neg hb2.2, if_neg hb3, if_pos hb4, if_pos hb6.1, if_pos hb6.2], hw⟩
      try simp at hb6
      refine CX.skip <| PX.blockN <| PX.blockN <| PX.thenN <| CX.region <| LX.pure (Y.move rfl) rfl rfl rfl <| LX.pure (Y.addN rfl rfl (by (simp only []; omega))) rfl rfl rfl <| LX.pure (Y.assign rfl) rfl rfl rfl <| LX.sub (l' := [(0, _), (1, _), (5, _)]) ⟨rfl, rfl, rfl, trivial⟩ <| LX.next ?_
      exact PX.again (k + 2) (by show s.length + 1 - (k + 2) < s.length + 1 - k; omega) ⟨rfl, rfl, rfl, trivial⟩ (fun w hw => ⟨⟨by omega, by
        rw [← hi, if_pos hb2.1, if_neg hb2.2, if_neg hb3, if_pos hb4]
        by_cases h : k + 1 < s.length
        · rw [if_pos h, if_neg (hb6 h)]
        · rw [if_neg h, endL_eq, if_neg (by omega)]⟩, hw⟩)
    try simp at hb4
    refine CX.skip <| PX.blockN <| PX.blockN <| PX.thenN <| CX.region <| LX.pure (Y.move rfl) rfl rfl rfl <| LX.pure (Y.addN rfl rfl (by (simp only []; omega))) rfl rfl rfl <| LX.pure (Y.assign rfl) rfl rfl rfl <| LX.sub (l' := [(0, _), (1, _), (5, _)]) ⟨rfl, rfl, rfl, trivial⟩ <| LX.next ?_
    exact PX.again (k + 1) (by show s.length + 1 - (k + 1) < s.length + 1 - k; omega) ⟨rfl, rfl, rfl, trivial⟩ (fun w hw => ⟨⟨by omega, by rw [← hi, if_pos hb2.1, if_neg hb2.2, if_neg hb3, if_neg hb4]⟩, hw⟩)
  try simp at hb2
  refine CX.exit <| PX.thenE <| PX.thenE <| PX.blockE <| PX.thenN <| CX.seq <| CX.region <| LX.pure (Y.assign rfl) rfl rfl rfl <| LX.sub (l' := [(4, _)]) ⟨rfl, trivial⟩ <| LX.next <| PX.thenN <| CX.ret <| PX.ret1 (by simp) Tryd.results52 rfl ?_
  exact fun w hw => ⟨(), by
    rw [← hi]
    by_cases h : k < s.length
    · rw [if_pos h, if_pos (hb2 h)]
    rw [if_neg h], hw⟩

theorem hex_q {W : World → Prop} [Stab W] (s : List UInt8) (hs : s.length ≤ 1000000) : FnQ Tryd.prog 62 #[str s] W (.tuple #[.int .u8 (((hexL s).getD 0 : Nat) : Int), .bool (hexL s).isSome]) := by
  refine FnQ.all fun W' _ _ => ?_
  refine FnC.of_body (fn := Tryd.f62) [(0, _)] Tryd.func62 rfl Tryd.ntmps62 rfl ⟨rfl, trivial⟩ ?_
  refine CX.seq <| CX.region <| LX.pure (Y.assign rfl) rfl rfl rfl <| LX.pure (Y.assign rfl) rfl rfl rfl <| LX.sub (l' := [(0, _), (2, _), (3, _)]) ⟨rfl, rfl, rfl, trivial⟩ <| LX.next <| PX.thenN <| CX.seq <| CX.region <| LX.pure (Y.assign rfl) rfl rfl rfl <| LX.sub (l' := [(0, _), (2, _), (3, _), (4, _)]) ⟨rfl, rfl, rfl, rfl, trivial⟩ <| LX.next <| PX.thenN <| CX.seq <| CX.seq <| CX.region <| LX.pure (Y.move rfl) rfl rfl rfl <| LX.pure (Y.lenStr rfl F.un9 rfl) rfl rfl rfl <| LX.pure (Y.ltN rfl rfl) rfl rfl rfl <| LX.sub (l' := [(0, _), (2, _), (3, _), (4, _), (9, _)]) ⟨rfl, rfl, rfl, rfl, rfl, trivial⟩ <| LX.next <| PX.thenN ?_
  refine CX.cond rfl (fun hb1 => ?_) (fun hb1 => ?_)
  · try simp at hb1
    refine CX.seq <| CX.region <| LX.pure (Y.assign rfl) rfl rfl rfl <| LX.pure (Y.assign rfl) rfl rfl rfl <| LX.sub (l' := [(0, _), (2, _), (3, _), (4, _)]) ⟨rfl, rfl, rfl, rfl, trivial⟩ <| LX.next <| PX.thenN <| CX.ret <| PX.thenR <| PX.ret2 (by simp) Tryd.results62 rfl rfl ?_
    exact fun w hw => ⟨(), by cases s with
      | nil => rfl
      | cons a r => cases r with
        | nil => rfl
        | cons b r => simp at hb1; omega, hw⟩
  try simp at hb1
  refine CX.skip <| PX.thenN <| CX.seq <| CX.seq <| CX.region <| LX.pure (Y.move rfl) rfl rfl rfl <| LX.sub (l' := [(0, _), (2, _), (3, _), (4, _), (10, _)]) ⟨rfl, rfl, rfl, rfl, rfl, trivial⟩ <| LX.next <| PX.thenN <| CX.block <| CX.loop (τ := Nat) (fun k => [(0, str s), (4, .int .u8 ((hexN s k : Nat) : Int)), (10, .int .i64 (k : Int))]) (fun k w => (k ≤ 2 ∧ (∀ j, j < k → (hexD (bt s j)).isSome = true) ∧ hexN s k < 256 ∧ (k < 2 → hexN s k < 16)) ∧ W' w) (fun k => 2 - k) 0 ⟨rfl, rfl, rfl, trivial⟩ (fun w hw => ⟨⟨by omega, fun j hj => absurd hj (Nat.not_lt_zero j), by simp [hexN], by simp [hexN]⟩, hw⟩) ?_
  intro k
  refine CX.have fun ⟨hk, hd, hv, hv2⟩ => ?_
  have hx := hex_idx (bt s k) (bt_lt s k)
  refine CX.seq <| CX.region <| LX.pure (Y.ltN rfl rfl) rfl rfl rfl <| LX.sub (l' := [(0, _), (4, _), (10, _), (11, _)]) ⟨rfl, rfl, rfl, rfl, trivial⟩ <| LX.next <| PX.thenN <| CX.seq ?_
  refine CX.cond rfl (fun hb2 => ?_) (fun hb2 => ?_)
  · try simp at hb2
    refine CX.skip <| PX.thenN <| CX.seq <| CX.block <| CX.seq <| CX.region <| LX.pure (Y.move rfl) rfl rfl rfl <| LX.pure (Y.assign rfl) rfl rfl rfl <| LX.sub (l' := [(0, _), (4, _), (5, _), (10, _)]) ⟨rfl, rfl, rfl, rfl, trivial⟩ <| LX.next <| PX.thenN <| CX.seq <| CX.region <| LX.pure (Y.move rfl) rfl rfl rfl <| LX.pure (Y.move rfl) rfl rfl rfl <| LX.pure (Y.index rfl rfl F.un9 (by omega)) rfl rfl rfl <| LX.pure (Y.or8 rfl rfl (bt_lt _ _) (by decide)) rfl rfl rfl <| LX.callQ (indexByte_q hexes (bt s k ||| 32)) F.en55 rfl rfl rfl rfl rfl <| LX.pure (Y.assign rfl) rfl rfl rfl <| LX.sub (l' := [(0, _), (4, _), (5, _), (6, _), (10, _)]) ⟨rfl, rfl, rfl, rfl, rfl, trivial⟩ <| LX.next <| PX.thenN <| CX.seq <| CX.seq <| CX.region <| LX.pure (Y.move rfl) rfl rfl rfl <| LX.pure (Y.ltI rfl rfl) rfl rfl rfl <| LX.pure (Y.move rfl) rfl rfl rfl <| LX.sub (l' := [(0, _), (4, _), (5, _), (6, _), (10, _), (20, _)]) ⟨rfl, rfl, rfl, rfl, rfl, rfl, trivial⟩ ?_
    apply LX.joinOr 5 25 20 rfl
    · intro hb3
      have hb3p := hb3
      try simp at hb3p
      refine LX.gF rfl rfl rfl hb3 rfl rfl <| LX.gF rfl rfl rfl hb3 rfl rfl <| LX.gF rfl rfl rfl hb3 rfl rfl <| LX.gF rfl rfl rfl hb3 rfl rfl <| LX.pure (Y.pickT rfl hb3 rfl) rfl rfl rfl ?_
      exact LX.left ⟨rfl, rfl, rfl, rfl, rfl, rfl, rfl, trivial⟩
    · intro hb3
      have hb3p := hb3
      try simp at hb3p
      refine LX.gT rfl rfl rfl hb3 (Y.move rfl) rfl rfl <| LX.gT rfl rfl rfl hb3 (Y.move rfl) rfl rfl <| LX.gT rfl rfl rfl hb3 (Y.index rfl rfl F.un9 (by omega)) rfl rfl <| LX.gT rfl rfl rfl hb3 (Y.ltN rfl rfl) rfl rfl <| LX.pure (Y.pickF rfl hb3 rfl) rfl rfl rfl ?_
      exact LX.left ⟨rfl, rfl, rfl, rfl, rfl, rfl, rfl, trivial⟩
    refine LX.sub (l' := [(0, _), (4, _), (6, _), (10, _), (25, _)]) ⟨rfl, rfl, rfl, rfl, rfl, trivial⟩ <| LX.next <| PX.thenN ?_
    refine CX.cond rfl (fun hb4 => ?_) (fun hb4 => ?_)
    · try simp at hb4
      refine CX.seq <| CX.region <| LX.pure (Y.assign rfl) rfl rfl rfl <| LX.pure (Y.assign rfl) rfl rfl rfl <| LX.sub (l' := [(0, _), (2, _), (3, _), (4, _), (6, _), (10, _)]) ⟨rfl, rfl, rfl, rfl, rfl, rfl, trivial⟩ <| LX.next <| PX.thenN <| CX.ret <| PX.thenR <| PX.blockR <| PX.thenR <| PX.thenR <| PX.blockR <| PX.thenR <| PX.ret2 (by simp) Tryd.results62 rfl rfl ?_
      exact fun w hw => ⟨(), by
        have hn : hexD (bt s k) = none := by
          cases h : hexD (bt s k) with
          | none => rfl
          | some v => rw [h] at hx; simp at hx; omega
        have : hexL s = none := by
          rw [hexL_eq (by omega)]
          have hk2 : k = 0 ∨ k = 1 := by omega
          rcases hk2 with rfl | rfl
          · rw [hn]
          · rw [hn]; cases hexD (bt s 0) <;> rfl
        rw [this]; rfl, hw⟩
    try simp at hb4
    have hsome : (hexD (bt s k)).isSome = true := by
      cases h : hexD (bt s k) with
      | some v => rfl
      | none => rw [h] at hx; simp at hx; omega
    have hidx := hx.2 hsome
    have h16 := hidx.2
    rw [hidx.1]
    refine CX.skip <| PX.thenN <| CX.region <| LX.pure (Y.move rfl) rfl rfl rfl <| LX.pure (Y.shl8 rfl rfl (by decide)) rfl rfl rfl <| LX.pure (Y.move rfl) rfl rfl rfl <| LX.pure (Y.convN rfl F.un3 F.un5 (wrap_u8 (by omega))) rfl rfl rfl <| LX.pure (Y.or8 rfl rfl (Nat.mod_lt _ (by decide)) (by have := hidx.2; omega)) rfl rfl rfl <| LX.pure (Y.assign rfl) rfl rfl rfl <| LX.sub (l' := [(0, _), (4, _), (10, _)]) ⟨rfl, rfl, rfl, trivial⟩ <| LX.next <| PX.blockN <| PX.thenN <| CX.region <| LX.pure (Y.addN rfl rfl (by (simp only []; omega))) rfl rfl rfl <| LX.pure (Y.move rfl) rfl rfl rfl <| LX.sub (l' := [(0, _), (4, _), (10, _)]) ⟨rfl, rfl, rfl, trivial⟩ <| LX.next ?_
    exact PX.again (k + 1) (by show 2 - (k + 1) < 2 - k; omega) ⟨rfl, by show some (Value.int .u8 _) = some (.int .u8 _); rw [hex_or _ (hv2 hb2) _ hidx.2]; rfl, rfl, trivial⟩ (fun w hw => ⟨⟨by omega, fun j hj => by
      rcases Nat.lt_succ_iff_lt_or_eq.1 hj with h | h
      · exact hd j h
      · rw [h]; exact hsome, by show 16 * hexN s k + (hexD (bt s k)).getD 0 < 256; have := hv2 hb2; omega, fun h => by
      have h0 : k = 0 := by omega
      subst h0
      show 16 * 0 + (hexD (bt s 0)).getD 0 < 16
      omega⟩, hw⟩)
  try simp at hb2
  refine CX.exit <| PX.thenE <| PX.thenE <| PX.blockE <| PX.thenN <| CX.seq <| CX.region <| LX.pure (Y.move rfl) rfl rfl rfl <| LX.pure (Y.assign rfl) rfl rfl rfl <| LX.pure (Y.assign rfl) rfl rfl rfl <| LX.sub (l' := [(2, _), (3, _)]) ⟨rfl, rfl, trivial⟩ <| LX.next <| PX.thenN <| CX.ret <| PX.ret2 (by simp) Tryd.results62 rfl rfl ?_
  exact fun w hw => ⟨(), by
    have h2 : k = 2 := by omega
    subst h2
    have h0 := hd 0 (by omega)
    have h1 := hd 1 (by omega)
    have : hexL s = some (hexN s 2) := by
      rw [hexL_eq (by omega)]
      cases e0 : hexD (bt s 0) with
      | none => rw [e0] at h0; cases h0
      | some a => cases e1 : hexD (bt s 1) with
        | none => rw [e1] at h1; cases h1
        | some b => simp [hexN, e0, e1]
    rw [this]; rfl, hw⟩

theorem piece_q {W : World → Prop} [Stab W] (s : List UInt8) (hs : s.length ≤ 1000000) : FnQ Tryd.prog 53 #[str s] W (.tuple #[.int .u8 (((pieceL s).1 : Nat) : Int), .int .i64 (((pieceL s).2 : Nat) : Int)]) := by
  refine FnQ.all fun W' _ _ => ?_
  refine FnC.of_body (fn := Tryd.f53) [(0, _)] Tryd.func53 rfl Tryd.ntmps53 rfl ⟨rfl, trivial⟩ ?_
  refine CX.seq <| CX.region <| LX.pure (Y.assign rfl) rfl rfl rfl <| LX.pure (Y.assign rfl) rfl rfl rfl <| LX.sub (l' := [(0, _), (2, _), (3, _)]) ⟨rfl, rfl, rfl, trivial⟩ <| LX.next <| PX.thenN <| CX.seq <| CX.block <| CX.seq <| CX.region <| LX.pure (Y.move rfl) rfl rfl rfl <| LX.pure (Y.eqS rfl rfl) rfl rfl rfl <| LX.pure (Y.assign rfl) rfl rfl rfl <| LX.sub (l' := [(0, _), (2, _), (3, _), (6, _)]) ⟨rfl, rfl, rfl, rfl, trivial⟩ <| LX.next <| PX.thenN ?_
  refine CX.cond rfl (fun hb1 => ?_) (fun hb1 => ?_)
  · try simp at hb1
    refine CX.seq <| CX.region <| LX.pure (Y.assign rfl) rfl rfl rfl <| LX.pure (Y.assign rfl) rfl rfl rfl <| LX.sub (l' := [(0, _), (2, _), (3, _)]) ⟨rfl, rfl, rfl, trivial⟩ <| LX.next <| PX.thenN <| CX.ret <| PX.blockR <| PX.thenR <| PX.ret2 (by simp) Tryd.results53 rfl rfl ?_
    exact fun w hw => ⟨(), by subst hb1; rfl, hw⟩
  try simp at hb1
  obtain ⟨c, r, rfl⟩ : ∃ c r, s = c :: r := List.exists_cons_of_ne_nil hb1
  refine CX.seq <| CX.region <| LX.pure (Y.move rfl) rfl rfl rfl <| LX.pure (Y.index rfl rfl F.un9 (by simp)) rfl rfl rfl <| LX.pure (Y.eqN rfl rfl) rfl rfl rfl <| LX.pure (Y.assign rfl) rfl rfl rfl <| LX.sub (l' := [(0, _), (2, _), (3, _), (9, _)]) ⟨rfl, rfl, rfl, rfl, trivial⟩ <| LX.next <| PX.thenN ?_
  refine CX.cond rfl (fun hb2 => ?_) (fun hb2 => ?_)
  · try simp at hb2
    refine CX.seq <| CX.region <| LX.pure (Y.assign rfl) rfl rfl rfl <| LX.pure (Y.assign rfl) rfl rfl rfl <| LX.sub (l' := [(0, _), (2, _), (3, _)]) ⟨rfl, rfl, rfl, trivial⟩ <| LX.next <| PX.thenN <| CX.ret <| PX.blockR <| PX.thenR <| PX.ret2 (by simp) Tryd.results53 rfl rfl ?_
    exact fun w hw => ⟨(), by simp only [bt_zero] at *; simp [pieceL, *], hw⟩
  try simp at hb2
  refine CX.seq <| CX.region <| LX.pure (Y.move rfl) rfl rfl rfl <| LX.pure (Y.index rfl rfl F.un9 (by simp)) rfl rfl rfl <| LX.pure (Y.eqN rfl rfl) rfl rfl rfl <| LX.pure (Y.assign rfl) rfl rfl rfl <| LX.sub (l' := [(0, _), (2, _), (3, _), (13, _)]) ⟨rfl, rfl, rfl, rfl, trivial⟩ <| LX.next <| PX.thenN ?_
  refine CX.cond rfl (fun hb3 => ?_) (fun hb3 => ?_)
  · try simp at hb3
    refine CX.seq <| CX.region <| LX.pure (Y.assign rfl) rfl rfl rfl <| LX.pure (Y.assign rfl) rfl rfl rfl <| LX.sub (l' := [(0, _), (2, _), (3, _)]) ⟨rfl, rfl, rfl, trivial⟩ <| LX.next <| PX.thenN <| CX.ret <| PX.blockR <| PX.thenR <| PX.ret2 (by simp) Tryd.results53 rfl rfl ?_
    exact fun w hw => ⟨(), by simp only [bt_zero] at *; simp [pieceL, *], hw⟩
  try simp at hb3
  refine CX.seq <| CX.region <| LX.pure (Y.move rfl) rfl rfl rfl <| LX.pure (Y.index rfl rfl F.un9 (by simp)) rfl rfl rfl <| LX.pure (Y.eqN rfl rfl) rfl rfl rfl <| LX.pure (Y.move rfl) rfl rfl rfl <| LX.sub (l' := [(0, _), (2, _), (3, _), (21, _)]) ⟨rfl, rfl, rfl, rfl, trivial⟩ ?_
  apply LX.joinOr 4 25 21 rfl
  · intro hb4
    have hb4p := hb4
    try simp at hb4p
    refine LX.gF rfl rfl rfl hb4 rfl rfl <| LX.gF rfl rfl rfl hb4 rfl rfl <| LX.gF rfl rfl rfl hb4 rfl rfl <| LX.pure (Y.pickT rfl hb4 rfl) rfl rfl rfl ?_
    exact LX.left ⟨rfl, rfl, rfl, rfl, rfl, trivial⟩
  · intro hb4
    have hb4p := hb4
    try simp at hb4p
    refine LX.gT rfl rfl rfl hb4 (Y.move rfl) rfl rfl <| LX.gT rfl rfl rfl hb4 (Y.index rfl rfl F.un9 (by simp)) rfl rfl <| LX.gT rfl rfl rfl hb4 (Y.eqN rfl rfl) rfl rfl <| LX.pure (Y.pickF rfl hb4 rfl) rfl rfl rfl ?_
    exact LX.left ⟨rfl, rfl, rfl, rfl, rfl, trivial⟩
  refine LX.pure (Y.move rfl) rfl rfl rfl <| LX.sub (l' := [(0, _), (2, _), (3, _), (26, _)]) ⟨rfl, rfl, rfl, rfl, trivial⟩ ?_
  apply LX.joinOr 4 30 26 rfl
  · intro hb5
    have hb5p := hb5
    try simp at hb5p
    refine LX.gF rfl rfl rfl hb5 rfl rfl <| LX.gF rfl rfl rfl hb5 rfl rfl <| LX.gF rfl rfl rfl hb5 rfl rfl <| LX.pure (Y.pickT rfl hb5 rfl) rfl rfl rfl ?_
    exact LX.left ⟨rfl, rfl, rfl, rfl, rfl, trivial⟩
  · intro hb5
    have hb5p := hb5
    try simp at hb5p
    refine LX.gT rfl rfl rfl hb5 (Y.move rfl) rfl rfl <| LX.gT rfl rfl rfl hb5 (Y.index rfl rfl F.un9 (by simp)) rfl rfl <| LX.gT rfl rfl rfl hb5 (Y.eqN rfl rfl) rfl rfl <| LX.pure (Y.pickF rfl hb5 rfl) rfl rfl rfl ?_
    exact LX.left ⟨rfl, rfl, rfl, rfl, rfl, trivial⟩
  refine LX.pure (Y.assign rfl) rfl rfl rfl <| LX.sub (l' := [(0, _), (2, _), (3, _), (17, _)]) ⟨rfl, rfl, rfl, rfl, trivial⟩ <| LX.next <| PX.thenN ?_
  refine CX.cond rfl (fun hb6 => ?_) (fun hb6 => ?_)
  · try simp at hb6
    refine CX.seq <| CX.region <| LX.pure (Y.move rfl) rfl rfl rfl <| LX.pure (Y.index rfl rfl F.un9 (by simp)) rfl rfl rfl <| LX.pure (Y.assign rfl) rfl rfl rfl <| LX.pure (Y.assign rfl) rfl rfl rfl <| LX.sub (l' := [(0, _), (2, _), (3, _)]) ⟨rfl, rfl, rfl, trivial⟩ <| LX.next <| PX.thenN <| CX.ret <| PX.blockR <| PX.thenR <| PX.ret2 (by simp) Tryd.results53 rfl rfl ?_
    exact fun w hw => ⟨(), by simp only [bt_zero] at *; rcases hb6 with (h | h) | h <;> simp [pieceL, h], hw⟩
  try simp at hb6
  refine CX.seq <| CX.region <| LX.pure (Y.move rfl) rfl rfl rfl <| LX.pure (Y.index rfl rfl F.un9 (by simp)) rfl rfl rfl <| LX.pure (Y.neN rfl rfl) rfl rfl rfl <| LX.pure (Y.assign rfl) rfl rfl rfl <| LX.sub (l' := [(0, _), (2, _), (3, _), (33, _)]) ⟨rfl, rfl, rfl, rfl, trivial⟩ <| LX.next <| PX.thenN ?_
  refine CX.cond rfl (fun hb7 => ?_) (fun hb7 => ?_)
  · try simp at hb7
    refine CX.seq <| CX.region <| LX.pure (Y.assign rfl) rfl rfl rfl <| LX.pure (Y.assign rfl) rfl rfl rfl <| LX.sub (l' := [(0, _), (2, _), (3, _)]) ⟨rfl, rfl, rfl, trivial⟩ <| LX.next <| PX.thenN <| CX.ret <| PX.blockR <| PX.thenR <| PX.ret2 (by simp) Tryd.results53 rfl rfl ?_
    exact fun w hw => ⟨(), by simp only [bt_zero] at *; simp [pieceL, *], hw⟩
  try simp at hb7
  refine CX.skip <| PX.blockN <| PX.thenN <| CX.seq <| CX.region <| LX.pure (Y.move rfl) rfl rfl rfl <| LX.pure (Y.sliceLo rfl rfl F.un9 (by (simp; done))) rfl rfl rfl <| LX.callQ (hex_q (r) (by simp at hs; omega)) F.en62 rfl rfl rfl rfl rfl <| LX.pure (Y.move rfl) rfl rfl rfl <| LX.pure (Y.extract rfl rfl) rfl rfl rfl <| LX.pure (Y.extract rfl rfl) rfl rfl rfl <| LX.pure (Y.assign rfl) rfl rfl rfl <| LX.pure (Y.assign rfl) rfl rfl rfl <| LX.sub (l' := [(2, _), (3, _), (4, _), (5, _)]) ⟨rfl, rfl, rfl, rfl, trivial⟩ <| LX.next <| PX.thenN <| CX.seq <| CX.seq <| CX.region <| LX.pure (Y.move rfl) rfl rfl rfl <| LX.pure (Y.not rfl) rfl rfl rfl <| LX.sub (l' := [(2, _), (3, _), (4, _), (44, _)]) ⟨rfl, rfl, rfl, rfl, trivial⟩ <| LX.next <| PX.thenN ?_
  refine CX.cond rfl (fun hb8 => ?_) (fun hb8 => ?_)
  · try simp at hb8
    refine CX.seq <| CX.region <| LX.pure (Y.assign rfl) rfl rfl rfl <| LX.pure (Y.assign rfl) rfl rfl rfl <| LX.sub (l' := [(2, _), (3, _), (4, _)]) ⟨rfl, rfl, rfl, trivial⟩ <| LX.next <| PX.thenN <| CX.ret <| PX.thenR <| PX.ret2 (by simp) Tryd.results53 rfl rfl ?_
    exact fun w hw => ⟨(), by simp only [bt_zero] at *; simp [pieceL, *], hw⟩
  try simp at hb8
  refine CX.skip <| PX.thenN <| CX.seq <| CX.region <| LX.pure (Y.move rfl) rfl rfl rfl <| LX.pure (Y.assign rfl) rfl rfl rfl <| LX.pure (Y.assign rfl) rfl rfl rfl <| LX.sub (l' := [(2, _), (3, _)]) ⟨rfl, rfl, trivial⟩ <| LX.next <| PX.thenN <| CX.ret <| PX.ret2 (by simp) Tryd.results53 rfl rfl ?_
  exact fun w hw => ⟨(), by
    simp only [bt_zero] at *
    cases e : hexL r with
    | none => rw [e] at hb8; cases hb8
    | some v => simp [pieceL, e, *], hw⟩

end Go.Proofs.YtfbenelagdcdgaaDoor.Lx
