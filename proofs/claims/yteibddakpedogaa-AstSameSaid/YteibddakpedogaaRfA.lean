/-
  Proved here: the document's scanner: its small functions.
-/
import Derived.Test.YteibddakpedogaaRfF
import Derived.Test.YteibddakpedogaaAsK
import Derived.Test.YteibddakpedogaaRefP
set_option linter.unusedSimpArgs false
namespace Go.Proofs.Yteibddakpedogaa
open Go.SX Go.RowKit Go.Lex
/-- a token's cells -/
def tokC (t : Tok) : List Value := [.int .i64 (t.kind : Int), str t.text, .int .i64 (t.pos : Int)]
def natV (k : Nat) : Value := .int .i64 (k : Int)
def bytV (k : Nat) : Value := .int .u8 (k : Int)
/-- where the scanner's three slices lie -/
structure Sl where
  go : Option Nat
  co : Nat
  gb : Option Nat
  cb : Nat
  gk : Option Nat
  ck : Nat
theorem row_last {l : List Nat} (h : 0 < l.length) : (l.map natV)[(l.length - 1) * 1]? = some (natV (l.getLastD 0)) := by
  rw [Nat.mul_one, List.getElem?_map, List.getElem?_eq_getElem (show l.length - 1 < l.length by omega), lastD_get h]
  simp [List.getD, show l.length - 1 < l.length by omega]
theorem sc_perm {a b c d : It} {fr : List It} : List.Perm (a :: b :: c :: d :: fr) (d :: b :: a :: c :: fr) := (List.perm_middle (l₁ := [a, b, c])).trans (.cons d (.swap b a _))
structure Flt where
  code : Int
  placed : Bool
  pos : Int
  filed : Bool
  file : List UInt8
@[reducible] def Flt.v (x : Flt) : Value := .agg #[.int .i64 x.code, .bool x.placed, .int .i64 x.pos, .bool x.filed, str x.file]

theorem words4_c {W : World → Prop} [Stab W] : FnC Try.prog 28 #[] W (fun b : Nat => .slice (some ⟨b, 0, none⟩) 17 17) (fun b w => W w ∧ Cells b 0 (wordsList.map str) w) := by
  refine FnC.of_body (fn := Try.f28) [] Try.func28 rfl Try.ntmps28 rfl trivial ?_
  refine CX.sr <| LX.mv rfl <| LX.su [0] rfl <| LX.nt <| CX.sr <| LX.buildSliceW (e := 9) rfl rfl (fun _ => by kernel_rfl) rfl rfl rfl ?_
  intro b
  refine LX.mv rfl <| LX.su [0] rfl <| LX.nt <| CX.ret <| PX.ret1 (by simp) Try.results28 rfl ?_
  exact fun w hw => ⟨b, rfl, hw⟩

theorem among_q {W : World → Prop} [Stab W] (b off c : Nat) (ss : List (List UInt8)) (s : List UInt8) (hc : ∀ w, W w → Cells b off (ss.map str) w) (hl : ss.length ≤ 1000000) : FnQ Try.prog 27 #[.slice (some ⟨b, off, none⟩) ss.length c, str s] W (.int .i64 (idxI s ss 0)) := by
  refine FnQ.all fun W' _ hW => ?_
  refine FnC.of_body (fn := Try.f27) [(0, _), (1, _)] Try.func27 rfl Try.ntmps27 rfl ⟨rfl, rfl, trivial⟩ ?_
  refine CX.sr <| LX.mv rfl <| LX.su [0, 1, 4] rfl <| LX.nt <| CX.seq <| CX.sr <| LX.mv rfl <| LX.su [0, 1, 4, 5] rfl <| LX.nt <| CX.block <| CX.loop (τ := Nat) (fun k => [(0, .slice (some ⟨b, off, none⟩) ss.length c), (1, str s), (5, .int .i64 (k : Int))]) (fun k w => (k ≤ ss.length ∧ idxI s (ss.drop k) k = idxI s ss 0) ∧ W' w) (fun k => ss.length - k) 0 ⟨rfl, rfl, rfl, trivial⟩ (fun w hw => ⟨⟨Nat.zero_le _, rfl⟩, hw⟩) ?_
  intro k
  refine CX.have fun ⟨hk, hi⟩ => CX.seq <| CX.sr <| LX.ms 2 rfl <| LX.p (Y.lenSl rfl Fr.un64 rfl) rfl <| LX.p (Y.ltN rfl rfl) rfl <| LX.su [0, 1, 5, 9] rfl <| LX.nt ?_
  refine CX.cond rfl (fun hb1 => ?_) (fun hb1 => ?_)
  · try simp at hb1
    refine CX.skip <| PX.thenN <| CX.seq <| CX.block <| CX.sr <| LX.ms 2 rfl <| LX.p (Y.idx Fr.un64 Fr.sz9 rfl rfl (by omega)) rfl <| LX.p (Y.load Fr.one9 rfl (fun w hw => (hc w (hW w hw)) k (str (ss.getD k [])) (by simp [List.getD, show k < ss.length by omega]) |> fun h => by simpa using h)) rfl <| LX.mv rfl <| LX.p (Y.eqS rfl rfl) rfl <| LX.su [0, 1, 5, 17] rfl <| LX.nt ?_
    refine CX.cond rfl (fun hb2 => ?_) (fun hb2 => ?_)
    · try simp at hb2
      refine CX.sr <| LX.ms 2 rfl <| LX.su [0, 1, 4, 5] rfl <| LX.nt <| CX.ret <| PX.blockR <| PX.thenR <| PX.thenR <| PX.blockR <| PX.thenR <| PX.ret1 (by simp) Try.results27 rfl ?_
      exact fun w hw => ⟨(), by rw [← hi, idxI_hit (by omega) (by simpa [List.getD, eq_comm] using ‹_ = s›)], hw⟩
    try simp at hb2
    refine CX.skip <| PX.blockN <| PX.thenN <| CX.region <| LX.mv rfl <| LX.p (Y.addN rfl rfl (by (simp only []; omega))) rfl <| LX.mv rfl <| LX.su [0, 1, 5] rfl <| LX.next ?_
    exact PX.again (k + 1) (by show ss.length - (k + 1) < ss.length - k; omega) ⟨rfl, rfl, rfl, trivial⟩ (fun w hw => ⟨⟨by omega, (idxI_next (by omega) (fun h => ‹¬ _› (by simpa [List.getD] using h.symm))).trans hi⟩, hw⟩)
  try simp at hb1
  refine CX.exit <| PX.thenE <| PX.thenE <| PX.blockE <| PX.thenN <| CX.sr <| LX.mv rfl <| LX.su [4] rfl <| LX.nt <| CX.ret <| PX.ret1 (by simp) Try.results27 rfl ?_
  exact fun w hw => ⟨(), by rw [← hi, idxI_end (by omega)], hw⟩

theorem none_c {w0 : World} {base : Nat} {fr : List It} : FnC Try.prog 17 #[] (WA w0 base fr) (fun _ : Unit => Flt.v ⟨0, false, 0, false, []⟩) (fun _ => WA w0 base fr) := by
  refine FnC.of_body (fn := Try.f17) [] Try.func17 rfl Try.ntmps17 rfl trivial ?_
  refine CX.sr <| LX.alloc rfl Fr.zv25 rfl rfl rfl ?_
  intro bx0
  refine LX.su [0] rfl <| LX.nt <| CX.sr <| LX.p (Y.build (v := .agg #[.int .i64 0, .bool false, .int .i64 0, .bool false, .string ⟨#[]⟩]) rfl (fun _ => by kernel_rfl)) rfl <| LX.storeA 0 Fr.ag25 rfl rfl rfl rfl rfl rfl rfl rfl rfl <| LX.su [0] rfl <| LX.nt <| CX.ret <| PX.retA (i := 0) (by simp) Try.results17 Fr.ag25 rfl rfl rfl ?_
  exact fun w hw => ⟨(), rfl, hw.drop ((List.sublist_cons_self _ _))⟩

theorem placedR_c {w0 : World} {base : Nat} {fr : List It} (code pos : Int) (hc : code ≠ 0) : FnC Try.prog 15 #[.int .i64 code, .int .i64 pos] (WA w0 base fr) (fun _ : Unit => Flt.v ⟨code, true, pos, false, []⟩) (fun _ => WA w0 base fr) := by
  refine FnC.of_body (fn := Try.f15) [(0, _), (1, _)] Try.func15 rfl Try.ntmps15 rfl ⟨rfl, rfl, trivial⟩ ?_
  refine CX.sr <| LX.alloc rfl Fr.zv25 rfl rfl rfl ?_
  intro bx0
  refine LX.su [0, 1, 4] rfl <| LX.nt <| CX.seq <| CX.sr <| LX.mv rfl <| LX.p (Y.eqI rfl rfl) rfl <| LX.su [0, 1, 4, 6] rfl <| LX.nt ?_
  refine CX.cond rfl (fun hb1 => ?_) (fun hb1 => ?_)
  · try simp at hb1
    exact absurd hb1 hc
  try simp at hb1
  refine CX.skip <| PX.thenN <| CX.sr <| LX.ms 2 rfl <| LX.p (Y.build (v := Flt.v ⟨code, true, pos, false, []⟩) rfl (fun _ => by kernel_rfl)) rfl <| LX.storeA 0 Fr.ag25 rfl rfl rfl rfl rfl rfl rfl rfl rfl <| LX.su [4] rfl <| LX.nt <| CX.ret <| PX.retA (i := 0) (by simp) Try.results15 Fr.ag25 rfl rfl rfl ?_
  exact fun w hw => ⟨(), rfl, hw.drop ((List.sublist_cons_self _ _))⟩

/-- the document's scanner in memory -/
@[reducible] def rfI (B : Nat) (σ : Sc) (b : Option Nat) (p : Sl) (fr : List It) : List It :=
  blk B [str σ.s, .int .i64 (σ.pos : Int), rv p.gk σ.brk.length p.ck, rv p.gb σ.blocks.length p.cb, rv p.go σ.out.length p.co, .bool σ.line, .int .i64 (badI b)] 58 ::
  .row p.go p.co σ.out.length 44 3 (σ.out.flatMap tokC) :: .row p.gb p.cb σ.blocks.length 3 1 (σ.blocks.map natV) :: .row p.gk p.ck σ.brk.length 5 1 (σ.brk.map fun k => bytV (unc k)) :: fr

theorem Y.sub8 {P : Program} {l : Fr} {W : World → Prop} {ty t ty2 : TypeId} {x y : Operand} {a b : Nat} (hx : evl l x = some (.int .u8 (a : Int))) (hy : evl l y = some (.int .u8 (b : Int))) (h : b ≤ a) (ha : a < 256) : Y P l W (.binOp .sub t x y ty2) ty (.int .u8 ((a - b : Nat) : Int)) := by
  refine Y.bin hx hy fun w _ => ?_
  have h1 : (a : Int) - (b : Int) = ((a - b : Nat) : Int) := by omega
  simp [eqGuard_sub, binOp_sub, Op.intArith, h1, wrap_u8 (show a - b < 256 by omega)]

theorem put4_c {w0 : World} {base : Nat} {B : Nat} {σ : Sc} {b : Option Nat} {p : Sl} {fr : List It} (k : Nat) (t : List UInt8) (pos : Nat) (ho : σ.out.length ≤ 1000000) : FnC Try.prog 21 #[.pointer (some ⟨B, 0, none⟩), .int .i64 (k : Int), str t, .int .i64 (pos : Int)] (WA w0 base (rfI B σ b p fr)) (fun _ : Sl => .tuple #[]) (fun p' => WA w0 base (rfI B (σ.tok k t pos) b p' fr)) := by
  refine FnC.of_body (fn := Try.f21) [(0, _), (1, _), (2, _), (3, _)] Try.func21 rfl Try.ntmps21 rfl ⟨rfl, rfl, rfl, rfl, trivial⟩ ?_
  refine CX.region <| LX.ms 3 rfl <| LX.p (Y.fieldAddr0 Fr.fo58_4 rfl) rfl <| LX.p (Y.ldB 0 Fr.one37 rfl rfl rfl) rfl <| LX.ms 3 rfl <| LX.p (Y.build (v := .agg #[.int .i64 (k : Int), str t, .int .i64 (pos : Int)]) rfl (fun _ => by kernel_rfl)) rfl <| LX.buildSlice (e := 44) (size := 3) rfl rfl (fun _ => by kernel_rfl) rfl dc rfl rfl rfl ?_
  intro gt9
  refine LX.appendT 1 Fr.el37 rfl rfl rfl rfl rfl rfl rfl (by omega) (by omega) rfl rfl rfl ?_
  intro g' cap'
  refine LX.mv rfl <| LX.p (Y.fieldAddr0 Fr.fo58_4 rfl) rfl <| LX.storeB 0 Fr.sz37 rfl rfl rfl rfl rfl rfl rfl rfl <| LX.sub (l' := []) trivial <| LX.next <| PX.ret0 (by simp) Try.results21 ?_
  exact fun w hw => ⟨{ p with go := g', co := cap' }, rfl, by simpa [Sc.tok, rfI, tokC, flat, Value.cells] using hw⟩

theorem fail4_c {w0 : World} {base : Nat} {B : Nat} {σ : Sc} {p : Sl} {fr : List It} (q : Nat) : FnC Try.prog 22 #[.pointer (some ⟨B, 0, none⟩), .int .i64 (q : Int)] (WA w0 base (rfI B σ none p fr)) (fun _ : Unit => .tuple #[]) (fun _ => WA w0 base (rfI B σ (some q) p fr)) := by
  refine FnC.of_body (fn := Try.f22) [(0, _), (1, _)] Try.func22 rfl Try.ntmps22 rfl ⟨rfl, rfl, trivial⟩ ?_
  refine CX.sr <| LX.ms 2 rfl <| LX.p (Y.fieldAddr0 Fr.fo58_6 rfl) rfl <| LX.p (Y.ldB 0 Fr.one3 rfl rfl rfl) rfl <| LX.p (Y.ltI rfl rfl) rfl <| LX.su [0, 1, 8] rfl <| LX.nt ?_
  refine CX.cond rfl (fun hb1 => ?_) (fun hb1 => ?_)
  · try simp at hb1
    refine CX.region <| LX.ms 3 rfl <| LX.p (Y.fieldAddr0 Fr.fo58_6 rfl) rfl <| LX.storeB 0 Fr.sz3 rfl rfl rfl rfl rfl rfl rfl rfl <| LX.sub (l' := []) trivial <| LX.next <| PX.ret0 (by simp) Try.results22 ?_
    exact fun w hw => ⟨(), rfl, hw⟩
  try simp at hb1
  done

def startsB (c : Nat) : Bool := isLet c || isDig c || decide (c = 34) || decide (c = 39) || decide (c = 33) || decide (c = 47) || decide (c.toUInt8 ∈ onesL)
theorem ones_mem {c k : Nat} (hc : c < 256) (hk : k < 16) (h : bt onesL k = c) : c.toUInt8 ∈ onesL := by
  have h1 : onesL.getD k 0 = c.toUInt8 := UInt8.toNat_inj.1 (by rw [Nat.toUInt8_eq, UInt8.toNat_ofNat_of_lt' hc]; exact h)
  rw [← h1]
  simp only [List.getD, List.getElem?_eq_getElem (show k < onesL.length from hk), Option.getD_some]
  exact List.getElem_mem _
theorem ones_none {c : Nat} (hc : c < 256) (h : ∀ i, i < 16 → bt onesL i ≠ c) : c.toUInt8 ∉ onesL := fun hm => by
  obtain ⟨i, hi, he⟩ := List.getElem_of_mem hm
  refine h i hi ?_
  unfold bt
  simp only [List.getD, List.getElem?_eq_getElem hi, Option.getD_some, he, Nat.toUInt8_eq, UInt8.toNat_ofNat_of_lt' hc]

theorem starts4_q {W : World → Prop} [Stab W] (c : Nat) (hc : c < 256) : FnQ Try.prog 23 #[.int .u8 (c : Int)] W (.bool (startsB c)) := by
  refine FnQ.all fun W' _ hW => ?_
  refine FnC.of_body (fn := Try.f23) [(0, _)] Try.func23 rfl Try.ntmps23 rfl ⟨rfl, trivial⟩ ?_
  refine CX.sr <| LX.mv rfl <| LX.su [0, 2] rfl <| LX.nt <| CX.seq <| CX.sr <| LX.mv rfl <| LX.callQ (letter4_q _ _) Fr.en25 rfl rfl rfl rfl rfl <| LX.mv rfl <| LX.su [0, 2, 7] rfl ?_
  apply LX.joinOr 3 10 7 rfl
  · intro hb1
    refine LX.gF rfl rfl rfl hb1 rfl rfl <| LX.gF rfl rfl rfl hb1 rfl rfl <| LX.p (Y.pickT rfl hb1 rfl) rfl ?_
    exact LX.left ⟨rfl, rfl, rfl, rfl, trivial⟩
  · intro hb1
    refine LX.gT rfl rfl rfl hb1 (Y.move rfl) rfl rfl <| LX.callQT rfl rfl rfl hb1 (digit4_q _ _) Fr.en26 rfl rfl rfl rfl <| LX.p (Y.pickF rfl hb1 rfl) rfl ?_
    exact LX.left ⟨rfl, rfl, rfl, rfl, trivial⟩
  refine LX.mv rfl <| LX.su [0, 2, 11] rfl ?_
  apply LX.joinOr 3 14 11 rfl
  · intro hb2
    refine LX.gF rfl rfl rfl hb2 rfl rfl <| LX.gF rfl rfl rfl hb2 rfl rfl <| LX.p (Y.pickT rfl hb2 rfl) rfl ?_
    exact LX.left ⟨rfl, rfl, rfl, rfl, trivial⟩
  · intro hb2
    refine LX.gT rfl rfl rfl hb2 (Y.move rfl) rfl rfl <| LX.gT rfl rfl rfl hb2 (Y.eqN rfl rfl) rfl rfl <| LX.p (Y.pickF rfl hb2 rfl) rfl ?_
    exact LX.left ⟨rfl, rfl, rfl, rfl, trivial⟩
  refine LX.mv rfl <| LX.su [0, 2, 15] rfl ?_
  apply LX.joinOr 3 18 15 rfl
  · intro hb3
    refine LX.gF rfl rfl rfl hb3 rfl rfl <| LX.gF rfl rfl rfl hb3 rfl rfl <| LX.p (Y.pickT rfl hb3 rfl) rfl ?_
    exact LX.left ⟨rfl, rfl, rfl, rfl, trivial⟩
  · intro hb3
    refine LX.gT rfl rfl rfl hb3 (Y.move rfl) rfl rfl <| LX.gT rfl rfl rfl hb3 (Y.eqN rfl rfl) rfl rfl <| LX.p (Y.pickF rfl hb3 rfl) rfl ?_
    exact LX.left ⟨rfl, rfl, rfl, rfl, trivial⟩
  refine LX.mv rfl <| LX.su [0, 2, 19] rfl ?_
  apply LX.joinOr 3 22 19 rfl
  · intro hb4
    refine LX.gF rfl rfl rfl hb4 rfl rfl <| LX.gF rfl rfl rfl hb4 rfl rfl <| LX.p (Y.pickT rfl hb4 rfl) rfl ?_
    exact LX.left ⟨rfl, rfl, rfl, rfl, trivial⟩
  · intro hb4
    refine LX.gT rfl rfl rfl hb4 (Y.move rfl) rfl rfl <| LX.gT rfl rfl rfl hb4 (Y.eqN rfl rfl) rfl rfl <| LX.p (Y.pickF rfl hb4 rfl) rfl ?_
    exact LX.left ⟨rfl, rfl, rfl, rfl, trivial⟩
  refine LX.mv rfl <| LX.su [0, 2, 23] rfl ?_
  apply LX.joinOr 3 26 23 rfl
  · intro hb5
    refine LX.gF rfl rfl rfl hb5 rfl rfl <| LX.gF rfl rfl rfl hb5 rfl rfl <| LX.p (Y.pickT rfl hb5 rfl) rfl ?_
    exact LX.left ⟨rfl, rfl, rfl, rfl, trivial⟩
  · intro hb5
    refine LX.gT rfl rfl rfl hb5 (Y.move rfl) rfl rfl <| LX.gT rfl rfl rfl hb5 (Y.eqN rfl rfl) rfl rfl <| LX.p (Y.pickF rfl hb5 rfl) rfl ?_
    exact LX.left ⟨rfl, rfl, rfl, rfl, trivial⟩
  refine LX.su [0, 2, 26] rfl <| LX.nt ?_
  refine CX.cond rfl (fun hb6 => ?_) (fun hb6 => ?_)
  · try simp at hb6
    refine CX.sr <| LX.mv rfl <| LX.su [0, 2] rfl <| LX.nt <| CX.ret <| PX.thenR <| PX.ret1 (by simp) Try.results23 rfl ?_
    exact fun w hw => ⟨(), by unfold startsB; simp_all, hw⟩
  try simp at hb6
  refine CX.skip <| PX.thenN <| CX.sr <| LX.mv rfl <| LX.su [0, 2, 3] rfl <| LX.nt <| CX.seq <| CX.sr <| LX.mv rfl <| LX.su [0, 2, 3, 4] rfl <| LX.nt <| CX.block <| CX.loop (τ := Nat) (fun k => [(0, .int .u8 (c : Int)), (3, str onesL), (4, .int .i64 (k : Int))]) (fun k w => (k ≤ 16 ∧ ∀ i, i < k → bt onesL i ≠ c) ∧ W' w) (fun k => 16 - k) 0 ⟨rfl, rfl, rfl, trivial⟩ (fun w hw => ⟨⟨Nat.zero_le _, fun i hi => absurd hi (Nat.not_lt_zero i)⟩, hw⟩) ?_
  intro k
  refine CX.have fun ⟨hk, hno⟩ => CX.seq <| CX.sr <| LX.ms 2 rfl <| LX.p (Y.lenStr rfl Fr.un9 rfl) rfl <| LX.p (Y.ltN rfl rfl) rfl <| LX.su [0, 3, 4, 30] rfl <| LX.nt ?_
  refine CX.cond rfl (fun hb7 => ?_) (fun hb7 => ?_)
  · try simp at hb7
    have hk16 : k < 16 := hb7
    refine CX.skip <| PX.thenN <| CX.seq <| CX.block <| CX.sr <| LX.ms 2 rfl <| LX.p (Y.index rfl rfl Fr.un9 (by omega)) rfl <| LX.mv rfl <| LX.p (Y.eqN rfl rfl) rfl <| LX.su [0, 3, 4, 37] rfl <| LX.nt ?_
    refine CX.cond rfl (fun hb8 => ?_) (fun hb8 => ?_)
    · try simp at hb8
      have hmem := ones_mem hc hk16 hb8
      refine CX.sr <| LX.mv rfl <| LX.su [0, 2, 3, 4] rfl <| LX.nt <| CX.ret <| PX.blockR <| PX.thenR <| PX.thenR <| PX.blockR <| PX.thenR <| PX.ret1 (by simp) Try.results23 rfl ?_
      exact fun w hw => ⟨(), by unfold startsB; rw [decide_eq_true hmem, Bool.or_true], hw⟩
    try simp at hb8
    have hne : bt onesL k ≠ c := hb8
    refine CX.skip <| PX.blockN <| PX.thenN <| CX.region <| LX.mv rfl <| LX.p (Y.addN rfl rfl (by (simp only []; omega))) rfl <| LX.mv rfl <| LX.su [0, 3, 4] rfl <| LX.next ?_
    exact PX.again (k + 1) (by show 16 - (k + 1) < 16 - k; omega) ⟨rfl, rfl, rfl, trivial⟩ (fun w hw => ⟨⟨by omega, fun i hi => by
      rcases Nat.lt_succ_iff_lt_or_eq.1 hi with h | h
      · exact hno i h
      · rw [h]; exact hne⟩, hw⟩)
  try simp at hb7
  have hk16 : k = 16 := Nat.le_antisymm hk hb7
  subst hk16
  refine CX.exit <| PX.thenE <| PX.thenE <| PX.blockE <| PX.thenN <| CX.sr <| LX.mv rfl <| LX.su [2] rfl <| LX.nt <| CX.ret <| PX.ret1 (by simp) Try.results23 rfl ?_
  exact fun w hw => ⟨(), by unfold startsB; rw [decide_eq_false (ones_none hc hno)]; simp_all, hw⟩

theorem hex4_q {W : World → Prop} [Stab W] (c : Nat) (hc : c < 256) : FnQ Try.prog 45 #[.int .u8 (c : Int)] W (.int .i64 (hexI c)) := by
  refine FnQ.all fun W' _ hW => ?_
  refine FnC.of_body (fn := Try.f45) [(0, _)] Try.func45 rfl Try.ntmps45 rfl ⟨rfl, trivial⟩ ?_
  refine CX.sr <| LX.mv rfl <| LX.su [0, 2] rfl <| LX.nt <| CX.seq <| CX.block <| CX.sr <| LX.mv rfl <| LX.callQ (digit4_q _ _) Fr.en26 rfl rfl rfl rfl rfl <| LX.mv rfl <| LX.su [0, 2, 3] rfl <| LX.nt ?_
  refine CX.cond rfl (fun hb1 => ?_) (fun hb1 => ?_)
  · try simp at hb1
    refine CX.sr <| LX.mv rfl <| LX.p (Y.sub8 (a := c) (b := 48) rfl rfl (by unfold isDig at hb1; simp at hb1; omega) hc) rfl <| LX.p (Y.convN rfl Fr.un5 Fr.un3 (IntWalk.i64_in _ (by omega))) rfl <| LX.mv rfl <| LX.su [2] rfl <| LX.nt <| CX.ret <| PX.blockR <| PX.thenR <| PX.ret1 (by simp) Try.results45 rfl ?_
    exact fun w hw => ⟨(), by simp only [hexI, hexD, hb1, if_true], hw⟩
  try simp at hb1
  refine CX.sr <| LX.mv rfl <| LX.p (Y.geN rfl rfl) rfl <| LX.mv rfl <| LX.su [0, 2, 12] rfl ?_
  apply LX.joinAnd 3 15 12 rfl
  · intro hb2
    refine LX.gT rfl rfl rfl hb2 (Y.move rfl) rfl rfl <| LX.gT rfl rfl rfl hb2 (Y.leN rfl rfl) rfl rfl <| LX.p (Y.pickT rfl hb2 rfl) rfl ?_
    exact LX.left ⟨rfl, rfl, rfl, rfl, trivial⟩
  · intro hb2
    refine LX.gF rfl rfl rfl hb2 rfl rfl <| LX.gF rfl rfl rfl hb2 rfl rfl <| LX.p (Y.pickF rfl hb2 rfl) rfl ?_
    exact LX.left ⟨rfl, rfl, rfl, rfl, trivial⟩
  refine LX.mv rfl <| LX.su [0, 2, 9] rfl <| LX.nt ?_
  refine CX.cond rfl (fun hb3 => ?_) (fun hb3 => ?_)
  · try simp at hb3
    refine CX.sr <| LX.mv rfl <| LX.p (Y.sub8 (a := c) (b := 97) rfl rfl (by omega) hc) rfl <| LX.p (Y.convN rfl Fr.un5 Fr.un3 (IntWalk.i64_in _ (by omega))) rfl <| LX.p (Y.addN rfl rfl (by (simp only []; omega))) rfl <| LX.mv rfl <| LX.su [2] rfl <| LX.nt <| CX.ret <| PX.blockR <| PX.thenR <| PX.ret1 (by simp) Try.results45 rfl ?_
    exact fun w hw => ⟨(), by
      have h1 : hexD c = some (c - 97 + 10) := by
        unfold hexD
        rw [if_neg (by rw [hb1]; decide), if_pos (by omega)]
        congr 1; omega
      simp only [hexI, h1], hw⟩
  try simp at hb3
  refine CX.sr <| LX.mv rfl <| LX.p (Y.geN rfl rfl) rfl <| LX.mv rfl <| LX.su [0, 2, 23] rfl ?_
  apply LX.joinAnd 3 26 23 rfl
  · intro hb4
    refine LX.gT rfl rfl rfl hb4 (Y.move rfl) rfl rfl <| LX.gT rfl rfl rfl hb4 (Y.leN rfl rfl) rfl rfl <| LX.p (Y.pickT rfl hb4 rfl) rfl ?_
    exact LX.left ⟨rfl, rfl, rfl, rfl, trivial⟩
  · intro hb4
    refine LX.gF rfl rfl rfl hb4 rfl rfl <| LX.gF rfl rfl rfl hb4 rfl rfl <| LX.p (Y.pickF rfl hb4 rfl) rfl ?_
    exact LX.left ⟨rfl, rfl, rfl, rfl, trivial⟩
  refine LX.mv rfl <| LX.su [0, 2, 20] rfl <| LX.nt ?_
  refine CX.cond rfl (fun hb5 => ?_) (fun hb5 => ?_)
  · try simp at hb5
    refine CX.sr <| LX.mv rfl <| LX.p (Y.sub8 (a := c) (b := 65) rfl rfl (by omega) hc) rfl <| LX.p (Y.convN rfl Fr.un5 Fr.un3 (IntWalk.i64_in _ (by omega))) rfl <| LX.p (Y.addN rfl rfl (by (simp only []; omega))) rfl <| LX.mv rfl <| LX.su [2] rfl <| LX.nt <| CX.ret <| PX.blockR <| PX.thenR <| PX.ret1 (by simp) Try.results45 rfl ?_
    exact fun w hw => ⟨(), by
      have h1 : hexD c = some (c - 65 + 10) := by
        unfold hexD
        rw [if_neg (by rw [hb1]; decide), if_neg (by omega), if_pos (by omega)]
        congr 1; omega
      simp only [hexI, h1], hw⟩
  try simp at hb5
  refine CX.skip <| PX.blockN <| PX.thenN <| CX.sr <| LX.mv rfl <| LX.su [2] rfl <| LX.nt <| CX.ret <| PX.ret1 (by simp) Try.results45 rfl ?_
  exact fun w hw => ⟨(), by
    have h1 : hexD c = none := by
      unfold hexD
      rw [if_neg (by rw [hb1]; decide), if_neg (by omega), if_neg (by omega)]
    simp only [hexI, h1], hw⟩

theorem hexI_lt (c : Nat) : hexI c < 16 ∧ -1 ≤ hexI c := by
  unfold hexI
  cases h : hexD c with
  | none => simp
  | some v => have := hexD_lt h; simp; omega

theorem opens_rest {c : Nat} (h1 : ¬ c = 40) (h2 : ¬ c = 91) : (opens c).isSome = decide (c = 123) := by
  unfold opens; rw [if_neg h1, if_neg h2]; split <;> simp_all
theorem closes_rest {c : Nat} (h1 : ¬ c = 41) (h2 : ¬ c = 93) : closes c = decide (c = 125) := by simp [closes, h1, h2]
theorem unc_41 {c : Nat} (h : closes c = true) (h1 : ¬ c = 93) (h2 : ¬ c = 125) : unc c = 40 := by
  have h3 : c = 41 := by simpa [closes, h1, h2] using h
  subst h3; rfl

theorem brack4_c {w0 : World} {base : Nat} {B : Nat} {σ : Sc} {p : Sl} {fr : List It} (c : Nat) (hk : σ.brk.length ≤ 1000) (hcl : ∀ x ∈ σ.brk, closes x = true) : FnC Try.prog 46 #[.pointer (some ⟨B, 0, none⟩), .int .u8 (c : Int)] (WA w0 base (rfI B σ none p fr)) (fun _ : Sl => .tuple #[]) (fun p' => WA w0 base (rfI B (σ.brkR c).1 (σ.brkR c).2 p' fr)) := by
  refine FnC.of_body (fn := Try.f46) [(0, _), (1, _)] Try.func46 rfl Try.ntmps46 rfl ⟨rfl, rfl, trivial⟩ ?_
  refine CX.sr <| LX.mv rfl <| LX.su [0, 1, 5] rfl <| LX.nt <| CX.block ?_
  refine CX.seqM (τ := Unit) (fun _ => [(0, .pointer (some ⟨B, 0, none⟩)), (1, .int .u8 (c : Int)), (5, .int .u8 (c : Int)), (6, .bool (opens c).isSome)]) (fun _ w => WA w0 base (rfI B σ none p fr) w) ?_ ?_
  ·
    refine CX.sr <| LX.p (Y.eqN rfl rfl) rfl <| LX.mv rfl <| LX.su [0, 1, 5, 6] rfl <| LX.nt ?_
    refine CX.cond rfl (fun hb1 => ?_) (fun hb1 => ?_)
    · try simp at hb1
      refine CX.skip ?_
      exact PX.seam () ⟨rfl, rfl, rfl, by subst hb1; rfl, trivial⟩ (fun w hw => hw)
    try simp at hb1
    refine CX.sr <| LX.p (Y.eqN rfl rfl) rfl <| LX.mv rfl <| LX.su [0, 1, 5, 6] rfl <| LX.nt ?_
    refine CX.cond rfl (fun hb2 => ?_) (fun hb2 => ?_)
    · try simp at hb2
      refine CX.skip ?_
      exact PX.seam () ⟨rfl, rfl, rfl, by subst hb2; rfl, trivial⟩ (fun w hw => hw)
    try simp at hb2
    refine CX.region <| LX.p (Y.eqN rfl rfl) rfl <| LX.mv rfl <| LX.su [0, 1, 5, 6] rfl <| LX.next ?_
    exact PX.seam () ⟨rfl, rfl, rfl, by rw [opens_rest hb1 hb2]; rfl, trivial⟩ (fun w hw => hw)
  intro _
  refine CX.cond rfl (fun hb3 => ?_) (fun hb3 => ?_)
  · try simp at hb3
    obtain ⟨e, he⟩ := Option.isSome_iff_exists.1 hb3
    refine CX.seq <| CX.sr <| LX.ms 2 rfl <| LX.p (Y.fieldAddr0 Fr.fo58_2 rfl) rfl <| LX.p (Y.ldB 0 Fr.one56 rfl rfl rfl) rfl <| LX.p (Y.lenSl rfl Fr.un56 rfl) rfl <| LX.p (Y.geN rfl rfl) rfl <| LX.su [0, 1, 15] rfl <| LX.nt ?_
    refine CX.cond rfl (fun hb4 => ?_) (fun hb4 => ?_)
    · try simp at hb4
      refine CX.region <| LX.ms 3 rfl <| LX.p (Y.fieldAddr0 Fr.fo58_1 rfl) rfl <| LX.p (Y.ldB 0 Fr.one3 rfl rfl rfl) rfl <| LX.call (fail4_c _) Fr.en22 rfl rfl rfl rfl rfl ?_
      intro _
      refine LX.su [0, 1] rfl <| LX.nt <| CX.region <| LX.ms 3 rfl <| LX.p (Y.fieldAddr0 Fr.fo58_2 rfl) rfl <| LX.p (Y.ldB 0 Fr.one56 rfl rfl rfl) rfl <| LX.mv rfl <| LX.buildSlice (e := 5) (size := 1) rfl rfl (fun _ => by kernel_rfl) rfl dc rfl rfl rfl ?_
      intro gt25
      refine LX.appendT 3 Fr.el56 rfl rfl rfl rfl rfl rfl rfl (by omega) (by omega) rfl rfl rfl ?_
      intro g' cap'
      refine LX.mv rfl <| LX.p (Y.fieldAddr0 Fr.fo58_2 rfl) rfl <| LX.storeB 0 Fr.sz56 rfl rfl rfl rfl rfl rfl rfl rfl <| LX.sub (l' := []) trivial <| LX.next <| PX.blockN <| PX.ret0 (by simp) Try.results46 ?_
      exact fun w hw => ⟨{ p with gk := g', ck := cap' }, rfl, by simp only [Sc.brkR, he, if_pos hb4]; simpa [rfI, flat, Value.cells, bytV, (unc_opens he).1] using hw⟩
    try simp at hb4
    refine CX.skip <| PX.thenN <| CX.region <| LX.ms 3 rfl <| LX.p (Y.fieldAddr0 Fr.fo58_2 rfl) rfl <| LX.p (Y.ldB 0 Fr.one56 rfl rfl rfl) rfl <| LX.mv rfl <| LX.buildSlice (e := 5) (size := 1) rfl rfl (fun _ => by kernel_rfl) rfl dc rfl rfl rfl ?_
    intro gt36
    refine LX.appendT 3 Fr.el56 rfl rfl rfl rfl rfl rfl rfl (by omega) (by omega) rfl rfl rfl ?_
    intro g' cap'
    refine LX.mv rfl <| LX.p (Y.fieldAddr0 Fr.fo58_2 rfl) rfl <| LX.storeB 0 Fr.sz56 rfl rfl rfl rfl rfl rfl rfl rfl <| LX.sub (l' := []) trivial <| LX.next <| PX.blockN <| PX.ret0 (by simp) Try.results46 ?_
    exact fun w hw => ⟨{ p with gk := g', ck := cap' }, rfl, by simp only [Sc.brkR, he, if_neg (Nat.not_le.2 hb4)]; simpa [rfI, flat, Value.cells, bytV, (unc_opens he).1] using hw⟩
  try simp at hb3
  refine CX.seqM (τ := Unit) (fun _ => [(0, .pointer (some ⟨B, 0, none⟩)), (1, .int .u8 (c : Int)), (5, .int .u8 (c : Int)), (32, .bool (closes c))]) (fun _ w => WA w0 base (rfI B σ none p fr) w) ?_ ?_
  ·
    refine CX.sr <| LX.p (Y.eqN rfl rfl) rfl <| LX.mv rfl <| LX.su [0, 1, 5, 32] rfl <| LX.nt ?_
    refine CX.cond rfl (fun hb5 => ?_) (fun hb5 => ?_)
    · try simp at hb5
      refine CX.skip ?_
      exact PX.seam () ⟨rfl, rfl, rfl, by subst hb5; rfl, trivial⟩ (fun w hw => hw)
    try simp at hb5
    refine CX.sr <| LX.p (Y.eqN rfl rfl) rfl <| LX.mv rfl <| LX.su [0, 1, 5, 32] rfl <| LX.nt ?_
    refine CX.cond rfl (fun hb6 => ?_) (fun hb6 => ?_)
    · try simp at hb6
      refine CX.skip ?_
      exact PX.seam () ⟨rfl, rfl, rfl, by subst hb6; rfl, trivial⟩ (fun w hw => hw)
    try simp at hb6
    refine CX.region <| LX.p (Y.eqN rfl rfl) rfl <| LX.mv rfl <| LX.su [0, 1, 5, 32] rfl <| LX.next ?_
    exact PX.seam () ⟨rfl, rfl, rfl, by rw [closes_rest hb5 hb6]; rfl, trivial⟩ (fun w hw => hw)
  intro _
  refine CX.cond rfl (fun hb7 => ?_) (fun hb7 => ?_)
  · try simp at hb7
    refine CX.sr <| LX.mv rfl <| LX.su [0, 1, 4] rfl <| LX.nt <| CX.seq <| CX.sr <| LX.mv rfl <| LX.p (Y.eqN rfl rfl) rfl <| LX.su [0, 1, 4, 37] rfl <| LX.nt ?_
    refine CX.cond rfl (fun hb8 => ?_) (fun hb8 => ?_)
    · try simp at hb8
      refine CX.region <| LX.mv rfl <| LX.su [0, 1, 4] rfl <| LX.nt ?_
      refine CX.seqM (τ := Unit) (fun _ => [(0, .pointer (some ⟨B, 0, none⟩)), (1, .int .u8 (c : Int)), (4, .int .u8 (unc c : Int))]) (fun _ w => WA w0 base (rfI B σ none p fr) w) ?_ ?_
      ·
        refine CX.sr <| LX.mv rfl <| LX.p (Y.eqN rfl rfl) rfl <| LX.su [0, 1, 4, 39] rfl <| LX.nt ?_
        refine CX.cond rfl (fun hb9 => ?_) (fun hb9 => ?_)
        · try simp at hb9
          refine CX.region <| LX.mv rfl <| LX.su [0, 1, 4] rfl <| LX.next ?_
          exfalso; omega
        try simp at hb9
        refine CX.skip ?_
        exact PX.seam () ⟨rfl, rfl, by subst hb8; rfl, trivial⟩ (fun w hw => hw)
      intro _
      refine CX.seq <| CX.seq <| CX.regionQ rfl (by kernel_rfl) <| LX.ms 2 rfl <| LX.p (Y.fieldAddr0 Fr.fo58_2 rfl) rfl <| LX.p (Y.ldB 0 Fr.one56 rfl rfl rfl) rfl <| LX.p (Y.lenSl rfl Fr.un56 rfl) rfl <| LX.p (Y.eqN rfl rfl) rfl <| LX.mv rfl <| LX.su [0, 4, 46] rfl ?_
      apply LX.joinOr 15 61 46 rfl
      · intro hb10
        refine LX.gF rfl rfl rfl hb10 rfl rfl <| LX.gF rfl rfl rfl hb10 rfl rfl <| LX.gF rfl rfl rfl hb10 rfl rfl <| LX.gF rfl rfl rfl hb10 rfl rfl <| LX.gF rfl rfl rfl hb10 rfl rfl <| LX.gF rfl rfl rfl hb10 rfl rfl <| LX.gF rfl rfl rfl hb10 rfl rfl <| LX.gF rfl rfl rfl hb10 rfl rfl <| LX.gF rfl rfl rfl hb10 rfl rfl <| LX.gF rfl rfl rfl hb10 rfl rfl <| LX.gF rfl rfl rfl hb10 rfl rfl <| LX.gF rfl rfl rfl hb10 rfl rfl <| LX.gF rfl rfl rfl hb10 rfl rfl <| LX.gF rfl rfl rfl hb10 rfl rfl <| LX.p (Y.pickT rfl hb10 rfl) rfl ?_
        exact LX.left ⟨rfl, rfl, rfl, rfl, trivial⟩
      · intro hb10
        have hb10p := hb10
        try simp at hb10p
        refine LX.gT rfl rfl rfl hb10 (Y.move rfl) rfl rfl <| LX.gT rfl rfl rfl hb10 (Y.nilCheck rfl) rfl rfl <| LX.gT rfl rfl rfl hb10 (Y.fieldAddr0 Fr.fo58_2 rfl) rfl rfl <| LX.gT rfl rfl rfl hb10 (Y.ldB 0 Fr.one56 rfl rfl rfl) rfl rfl <| LX.gT rfl rfl rfl hb10 (Y.move rfl) rfl rfl <| LX.gT rfl rfl rfl hb10 (Y.nilCheck rfl) rfl rfl <| LX.gT rfl rfl rfl hb10 (Y.fieldAddr0 Fr.fo58_2 rfl) rfl rfl <| LX.gT rfl rfl rfl hb10 (Y.ldB 0 Fr.one56 rfl rfl rfl) rfl rfl <| LX.gT rfl rfl rfl hb10 (Y.lenSl rfl Fr.un56 rfl) rfl rfl <| LX.gT rfl rfl rfl hb10 (Y.subN (a := σ.brk.length) (b := 1) rfl rfl (by have := List.length_pos_iff.2 ‹¬ σ.brk = []›; omega) (by omega)) rfl rfl <| LX.gT rfl rfl rfl hb10 (Y.idxR 3 Fr.un56 Fr.sz5 rfl rfl rfl (by (have := List.length_pos_iff.2 ‹¬ σ.brk = []›; omega))) rfl rfl ?_
        refine LX.gT rfl rfl rfl hb10 (Y.ldR 3 (v := bytV (unc (σ.brk.getD (σ.brk.length - 1) 0))) Fr.one5 rfl rfl (by have hp0 := List.length_pos_iff.2 ‹¬ σ.brk = []›; rw [Nat.mul_one, List.getElem?_map, List.getElem?_eq_getElem (show σ.brk.length - 1 < σ.brk.length by omega)]; simp [List.getD, show σ.brk.length - 1 < σ.brk.length by omega])) rfl rfl ?_
        refine LX.gT rfl rfl rfl hb10 (Y.move rfl) rfl rfl <| LX.gT rfl rfl rfl hb10 (Y.neN rfl rfl) rfl rfl <| LX.p (Y.pickF rfl hb10 rfl) rfl ?_
        exact LX.left ⟨rfl, rfl, rfl, rfl, trivial⟩
      refine LX.su [0, 61] rfl <| LX.nextQ <| PX.thenN ?_
      refine CX.cond rfl (fun hb11 => ?_) (fun hb11 => ?_)
      · try simp at hb11
        refine CX.sr <| LX.ms 3 rfl <| LX.p (Y.fieldAddr0 Fr.fo58_1 rfl) rfl <| LX.p (Y.ldB 0 Fr.one3 rfl rfl rfl) rfl <| LX.call (fail4_c _) Fr.en22 rfl rfl rfl rfl rfl ?_
        intro _
        refine LX.su [0] rfl <| LX.nt <| CX.ret <| PX.thenR <| PX.blockR <| PX.ret0 (by simp) Try.results46 ?_
        exact fun w hw => ⟨p, rfl, by rw [brkR_bad hb3 hb7 hb11]; exact hw⟩
      try simp at hb11
      have hl0 := List.length_pos_iff.2 hb11.1
      refine CX.skip <| PX.thenN <| CX.regionM [(0, .anywhere), (1, .anywhere), (2, .anywhere), (3, .anywhere), (4, .held), (5, .anywhere), (6, .anywhere), (7, .anywhere), (8, .held), (9, .held), (10, .held), (11, .held), (12, .held), (13, .held), (14, .alone)] rfl (by kernel_rfl) <| MX.lift0 (i := 0) rfl (Y.move rfl) rfl rfl rfl <| MX.lift0 (i := 1) rfl (Y.move rfl) rfl rfl rfl <| MX.lift0 (i := 2) rfl (Y.nilCheck rfl) rfl rfl rfl <| MX.lift0 (i := 3) rfl (Y.fieldAddr0 Fr.fo58_2 rfl) rfl rfl rfl <| MX.lift1 (i := 4) (pend' := []) rfl (fun w hw => by exact hw) (Y.ldB 0 Fr.one56 rfl rfl rfl) rfl rfl rfl (by kernel_rfl) <| MX.lift0 (i := 5) rfl (Y.move rfl) rfl rfl rfl <| MX.lift0 (i := 6) rfl (Y.nilCheck rfl) rfl rfl rfl <| MX.lift0 (i := 7) rfl (Y.fieldAddr0 Fr.fo58_2 rfl) rfl rfl rfl <| MX.lift1 (i := 8) (pend' := [4]) rfl (fun w hw => by exact hw) (Y.ldB 0 Fr.one56 rfl rfl rfl) rfl rfl rfl (by kernel_rfl) <| MX.lift1 (i := 9) (pend' := [4]) rfl (fun w hw => by exact hw) (Y.lenSl rfl Fr.un56 rfl) rfl rfl rfl (by kernel_rfl) <| MX.lift1 (i := 10) (pend' := [4]) rfl (fun w hw => by exact hw) (Y.subN (a := σ.brk.length) (b := 1) rfl rfl (by omega) (by omega)) rfl rfl rfl (by kernel_rfl) <| MX.lift1 (i := 11) (pend' := []) rfl (fun w hw => by exact hw) (Y.cutR 3 Fr.un56 Fr.sz5 rfl rfl rfl (by omega)) rfl rfl rfl (by kernel_rfl) <| MX.lift1 (i := 12) (pend' := []) rfl (fun w hw => by exact hw) (Y.nilCheck rfl) rfl rfl rfl (by kernel_rfl) <| MX.lift1 (i := 13) (pend' := []) rfl (fun w hw => by exact hw) (Y.fieldAddr0 Fr.fo58_2 rfl) rfl rfl rfl (by kernel_rfl) <| MX.force (i := 14) rfl <| LX.storeB 0 Fr.sz56 rfl rfl rfl rfl rfl rfl rfl rfl ?_
      refine LX.world (W' := WA w0 base (rfI B { σ with brk := σ.brk.dropLast } none p fr)) (fun w hw => by
        have h1 := hw.cut (i := 3) (k := σ.brk.length - 1) rfl (Nat.sub_le _ _)
        simpa [rfI, List.dropLast_eq_take, List.map_take] using h1) ?_
      refine LX.nextM [] (by kernel_rfl) (fun h => absurd rfl h) <| MX.sub (l' := []) trivial <| MX.done <| PX.blockN <| PX.ret0 (by simp) Try.results46 ?_
      exact fun w hw => ⟨p, rfl, by rw [brkR_ok hb3 hb7 hcl hb11.1 hb11.2]; exact hw⟩
    try simp at hb8
    refine CX.skip <| PX.thenN ?_
    refine CX.seqM (τ := Unit) (fun _ => [(0, .pointer (some ⟨B, 0, none⟩)), (1, .int .u8 (c : Int)), (4, .int .u8 (unc c : Int))]) (fun _ w => WA w0 base (rfI B σ none p fr) w) ?_ ?_
    ·
      refine CX.sr <| LX.mv rfl <| LX.p (Y.eqN rfl rfl) rfl <| LX.su [0, 1, 4, 39] rfl <| LX.nt ?_
      refine CX.cond rfl (fun hb12 => ?_) (fun hb12 => ?_)
      · try simp at hb12
        refine CX.region <| LX.mv rfl <| LX.su [0, 1, 4] rfl <| LX.next ?_
        exact PX.seam () ⟨rfl, rfl, by subst hb12; rfl, trivial⟩ (fun w hw => hw)
      try simp at hb12
      refine CX.skip ?_
      exact PX.seam () ⟨rfl, rfl, by rw [unc_41 hb7 hb8 hb12]; rfl, trivial⟩ (fun w hw => hw)
    intro _
    refine CX.seq <| CX.seq <| CX.regionQ rfl (by kernel_rfl) <| LX.ms 2 rfl <| LX.p (Y.fieldAddr0 Fr.fo58_2 rfl) rfl <| LX.p (Y.ldB 0 Fr.one56 rfl rfl rfl) rfl <| LX.p (Y.lenSl rfl Fr.un56 rfl) rfl <| LX.p (Y.eqN rfl rfl) rfl <| LX.mv rfl <| LX.su [0, 4, 46] rfl ?_
    apply LX.joinOr 15 61 46 rfl
    · intro hb13
      refine LX.gF rfl rfl rfl hb13 rfl rfl <| LX.gF rfl rfl rfl hb13 rfl rfl <| LX.gF rfl rfl rfl hb13 rfl rfl <| LX.gF rfl rfl rfl hb13 rfl rfl <| LX.gF rfl rfl rfl hb13 rfl rfl <| LX.gF rfl rfl rfl hb13 rfl rfl <| LX.gF rfl rfl rfl hb13 rfl rfl <| LX.gF rfl rfl rfl hb13 rfl rfl <| LX.gF rfl rfl rfl hb13 rfl rfl <| LX.gF rfl rfl rfl hb13 rfl rfl <| LX.gF rfl rfl rfl hb13 rfl rfl <| LX.gF rfl rfl rfl hb13 rfl rfl <| LX.gF rfl rfl rfl hb13 rfl rfl <| LX.gF rfl rfl rfl hb13 rfl rfl <| LX.p (Y.pickT rfl hb13 rfl) rfl ?_
      exact LX.left ⟨rfl, rfl, rfl, rfl, trivial⟩
    · intro hb13
      have hb13p := hb13
      try simp at hb13p
      refine LX.gT rfl rfl rfl hb13 (Y.move rfl) rfl rfl <| LX.gT rfl rfl rfl hb13 (Y.nilCheck rfl) rfl rfl <| LX.gT rfl rfl rfl hb13 (Y.fieldAddr0 Fr.fo58_2 rfl) rfl rfl <| LX.gT rfl rfl rfl hb13 (Y.ldB 0 Fr.one56 rfl rfl rfl) rfl rfl <| LX.gT rfl rfl rfl hb13 (Y.move rfl) rfl rfl <| LX.gT rfl rfl rfl hb13 (Y.nilCheck rfl) rfl rfl <| LX.gT rfl rfl rfl hb13 (Y.fieldAddr0 Fr.fo58_2 rfl) rfl rfl <| LX.gT rfl rfl rfl hb13 (Y.ldB 0 Fr.one56 rfl rfl rfl) rfl rfl <| LX.gT rfl rfl rfl hb13 (Y.lenSl rfl Fr.un56 rfl) rfl rfl <| LX.gT rfl rfl rfl hb13 (Y.subN (a := σ.brk.length) (b := 1) rfl rfl (by have := List.length_pos_iff.2 ‹¬ σ.brk = []›; omega) (by omega)) rfl rfl <| LX.gT rfl rfl rfl hb13 (Y.idxR 3 Fr.un56 Fr.sz5 rfl rfl rfl (by (have := List.length_pos_iff.2 ‹¬ σ.brk = []›; omega))) rfl rfl ?_
      refine LX.gT rfl rfl rfl hb13 (Y.ldR 3 (v := bytV (unc (σ.brk.getD (σ.brk.length - 1) 0))) Fr.one5 rfl rfl (by have hp0 := List.length_pos_iff.2 ‹¬ σ.brk = []›; rw [Nat.mul_one, List.getElem?_map, List.getElem?_eq_getElem (show σ.brk.length - 1 < σ.brk.length by omega)]; simp [List.getD, show σ.brk.length - 1 < σ.brk.length by omega])) rfl rfl ?_
      refine LX.gT rfl rfl rfl hb13 (Y.move rfl) rfl rfl <| LX.gT rfl rfl rfl hb13 (Y.neN rfl rfl) rfl rfl <| LX.p (Y.pickF rfl hb13 rfl) rfl ?_
      exact LX.left ⟨rfl, rfl, rfl, rfl, trivial⟩
    refine LX.su [0, 61] rfl <| LX.nextQ <| PX.thenN ?_
    refine CX.cond rfl (fun hb14 => ?_) (fun hb14 => ?_)
    · try simp at hb14
      refine CX.sr <| LX.ms 3 rfl <| LX.p (Y.fieldAddr0 Fr.fo58_1 rfl) rfl <| LX.p (Y.ldB 0 Fr.one3 rfl rfl rfl) rfl <| LX.call (fail4_c _) Fr.en22 rfl rfl rfl rfl rfl ?_
      intro _
      refine LX.su [0] rfl <| LX.nt <| CX.ret <| PX.thenR <| PX.blockR <| PX.ret0 (by simp) Try.results46 ?_
      exact fun w hw => ⟨p, rfl, by rw [brkR_bad hb3 hb7 hb14]; exact hw⟩
    try simp at hb14
    have hl0 := List.length_pos_iff.2 hb14.1
    refine CX.skip <| PX.thenN <| CX.regionM [(0, .anywhere), (1, .anywhere), (2, .anywhere), (3, .anywhere), (4, .held), (5, .anywhere), (6, .anywhere), (7, .anywhere), (8, .held), (9, .held), (10, .held), (11, .held), (12, .held), (13, .held), (14, .alone)] rfl (by kernel_rfl) <| MX.lift0 (i := 0) rfl (Y.move rfl) rfl rfl rfl <| MX.lift0 (i := 1) rfl (Y.move rfl) rfl rfl rfl <| MX.lift0 (i := 2) rfl (Y.nilCheck rfl) rfl rfl rfl <| MX.lift0 (i := 3) rfl (Y.fieldAddr0 Fr.fo58_2 rfl) rfl rfl rfl <| MX.lift1 (i := 4) (pend' := []) rfl (fun w hw => by exact hw) (Y.ldB 0 Fr.one56 rfl rfl rfl) rfl rfl rfl (by kernel_rfl) <| MX.lift0 (i := 5) rfl (Y.move rfl) rfl rfl rfl <| MX.lift0 (i := 6) rfl (Y.nilCheck rfl) rfl rfl rfl <| MX.lift0 (i := 7) rfl (Y.fieldAddr0 Fr.fo58_2 rfl) rfl rfl rfl <| MX.lift1 (i := 8) (pend' := [4]) rfl (fun w hw => by exact hw) (Y.ldB 0 Fr.one56 rfl rfl rfl) rfl rfl rfl (by kernel_rfl) <| MX.lift1 (i := 9) (pend' := [4]) rfl (fun w hw => by exact hw) (Y.lenSl rfl Fr.un56 rfl) rfl rfl rfl (by kernel_rfl) <| MX.lift1 (i := 10) (pend' := [4]) rfl (fun w hw => by exact hw) (Y.subN (a := σ.brk.length) (b := 1) rfl rfl (by omega) (by omega)) rfl rfl rfl (by kernel_rfl) <| MX.lift1 (i := 11) (pend' := []) rfl (fun w hw => by exact hw) (Y.cutR 3 Fr.un56 Fr.sz5 rfl rfl rfl (by omega)) rfl rfl rfl (by kernel_rfl) <| MX.lift1 (i := 12) (pend' := []) rfl (fun w hw => by exact hw) (Y.nilCheck rfl) rfl rfl rfl (by kernel_rfl) <| MX.lift1 (i := 13) (pend' := []) rfl (fun w hw => by exact hw) (Y.fieldAddr0 Fr.fo58_2 rfl) rfl rfl rfl (by kernel_rfl) <| MX.force (i := 14) rfl <| LX.storeB 0 Fr.sz56 rfl rfl rfl rfl rfl rfl rfl rfl ?_
    refine LX.world (W' := WA w0 base (rfI B { σ with brk := σ.brk.dropLast } none p fr)) (fun w hw => by
      have h1 := hw.cut (i := 3) (k := σ.brk.length - 1) rfl (Nat.sub_le _ _)
      simpa [rfI, List.dropLast_eq_take, List.map_take] using h1) ?_
    refine LX.nextM [] (by kernel_rfl) (fun h => absurd rfl h) <| MX.sub (l' := []) trivial <| MX.done <| PX.blockN <| PX.ret0 (by simp) Try.results46 ?_
    exact fun w hw => ⟨p, rfl, by rw [brkR_ok hb3 hb7 hcl hb14.1 hb14.2]; exact hw⟩
  try simp at hb7
  refine CX.skip <| PX.blockN <| PX.ret0 (by simp) Try.results46 ?_
  exact fun w hw => ⟨p, rfl, by simp only [Sc.brkR, hb3, hb7]; exact hw⟩

end Go.Proofs.Yteibddakpedogaa
