/-
  Proved here: the document's scanner: each of its functions does what the scanner's own plain steps say.
-/
import Derived.Test.YtggoogbloaennaaDoorFr
import Derived.Test.YtggoogbloaennaaDoorRefP
import Derived.Test.YtggoogbloaennaaDoorLawE
import Derived.Test.YtggoogbloaennaaDoorSee
namespace Go.Proofs.YtggoogbloaennaaDoor
open Go.SX Go.RowKit Go.Lex
/-- the document's scanner in memory -/
@[reducible] def rfI (B : Nat) (σ : Sc) (b : Option Nat) (p : Sl) (fr : List It) : List It :=
  blk B [str σ.s, .int .i64 (σ.pos : Int), rv p.gk σ.brk.length p.ck, rv p.gb σ.blocks.length p.cb, rv p.go σ.out.length p.co, .bool σ.line, .int .i64 (badI b)] 85 ::
  .row p.go p.co σ.out.length 46 3 (σ.out.flatMap tokC) :: .row p.gb p.cb σ.blocks.length 3 1 (σ.blocks.map natV) :: .row p.gk p.ck σ.brk.length 5 1 (σ.brk.map fun k => bytV (unc k)) :: fr

theorem Y.sub8 {P : Program} {l : Fr} {W : World → Prop} {ty t ty2 : TypeId} {x y : Operand} {a b : Nat} (hx : evl l x = some (.int .u8 (a : Int))) (hy : evl l y = some (.int .u8 (b : Int))) (h : b ≤ a) (ha : a < 256) : Y P l W (.binOp .sub t x y ty2) ty (.int .u8 ((a - b : Nat) : Int)) := by
  refine Y.bin hx hy fun w _ => ?_
  have h1 : (a : Int) - (b : Int) = ((a - b : Nat) : Int) := by omega
  simp [eqGuard_sub, binOp_sub, Op.intArith, h1, wrap_u8 (show a - b < 256 by omega)]

theorem put4_c {w0 : World} {base : Nat} {B : Nat} {σ : Sc} {b : Option Nat} {p : Sl} {fr : List It} (k : Nat) (t : List UInt8) (pos : Nat) (ho : σ.out.length ≤ 1000000) : FnC Tryd.prog 47 #[.pointer (some ⟨B, 0, none⟩), .int .i64 (k : Int), str t, .int .i64 (pos : Int)] (WA w0 base (rfI B σ b p fr)) (fun _ : Sl => .tuple #[]) (fun p' => WA w0 base (rfI B (σ.tok k t pos) b p' fr)) := by
  refine FnC.of_body (fn := Tryd.f47) [(0, _), (1, _), (2, _), (3, _)] Tryd.func47 rfl Tryd.ntmps47 rfl ⟨rfl, rfl, rfl, rfl, trivial⟩ ?_
  refine CX.region ?_
  refine LX.pure (Y.move rfl) rfl rfl rfl ?_
  refine LX.pure (Y.move rfl) rfl rfl rfl ?_
  refine LX.pure (Y.nilCheck rfl) rfl rfl rfl ?_
  first
    | refine LX.pure (Y.fieldAddr0 Fr.fo85_4 rfl) rfl rfl rfl ?_
    | refine LX.pure (Y.fieldAddr Fr.fo85_4 rfl) rfl rfl rfl ?_
  first
    | refine LX.pure (Y.ldB 0 F.one38 rfl rfl rfl) rfl rfl rfl ?_
    | refine LX.pure (Y.ldB 1 F.one38 rfl rfl rfl) rfl rfl rfl ?_
    | refine LX.pure (Y.ldB 2 F.one38 rfl rfl rfl) rfl rfl rfl ?_
    | refine LX.pure (Y.ldB 3 F.one38 rfl rfl rfl) rfl rfl rfl ?_
  refine LX.pure (Y.move rfl) rfl rfl rfl ?_
  refine LX.pure (Y.move rfl) rfl rfl rfl ?_
  refine LX.pure (Y.move rfl) rfl rfl rfl ?_
  refine LX.pure (Y.build (v := .agg #[.int .i64 (k : Int), str t, .int .i64 (pos : Int)]) rfl (fun _ => by kernel_rfl)) rfl rfl rfl ?_
  refine LX.buildSlice (e := 46) (size := 3) rfl rfl (fun _ => by kernel_rfl) rfl (by decide) rfl rfl rfl ?_
  intro gt9
  first
    | refine LX.appendT 0 F.el38 rfl rfl rfl rfl rfl rfl rfl (by first | omega | (dsimp only; omega)) (by first | omega | (dsimp only; omega)) rfl rfl rfl ?_
    | refine LX.appendT 1 F.el38 rfl rfl rfl rfl rfl rfl rfl (by first | omega | (dsimp only; omega)) (by first | omega | (dsimp only; omega)) rfl rfl rfl ?_
    | refine LX.appendT 2 F.el38 rfl rfl rfl rfl rfl rfl rfl (by first | omega | (dsimp only; omega)) (by first | omega | (dsimp only; omega)) rfl rfl rfl ?_
    | refine LX.appendT 3 F.el38 rfl rfl rfl rfl rfl rfl rfl (by first | omega | (dsimp only; omega)) (by first | omega | (dsimp only; omega)) rfl rfl rfl ?_
  intro g' cap'
  refine LX.pure (Y.nilCheck rfl) rfl rfl rfl ?_
  first
    | refine LX.pure (Y.fieldAddr0 Fr.fo85_4 rfl) rfl rfl rfl ?_
    | refine LX.pure (Y.fieldAddr Fr.fo85_4 rfl) rfl rfl rfl ?_
  first
    | refine LX.storeB 0 F.sz38 rfl rfl rfl rfl rfl rfl rfl rfl ?_
    | refine LX.storeB 1 F.sz38 rfl rfl rfl rfl rfl rfl rfl rfl ?_
    | refine LX.storeB 2 F.sz38 rfl rfl rfl rfl rfl rfl rfl rfl ?_
    | refine LX.storeB 3 F.sz38 rfl rfl rfl rfl rfl rfl rfl rfl ?_
  refine LX.sub (l' := []) trivial ?_
  refine LX.next ?_
  refine PX.ret0 (by simp) Tryd.results47 ?_
  exact fun w hw => ⟨{ p with go := g', co := cap' }, rfl, by simpa [Sc.tok, rfI, tokC, flat, Value.cells] using hw⟩

theorem fail4_c {w0 : World} {base : Nat} {B : Nat} {σ : Sc} {p : Sl} {fr : List It} (q : Nat) : FnC Tryd.prog 48 #[.pointer (some ⟨B, 0, none⟩), .int .i64 (q : Int)] (WA w0 base (rfI B σ none p fr)) (fun _ : Unit => .tuple #[]) (fun _ => WA w0 base (rfI B σ (some q) p fr)) := by
  refine FnC.of_body (fn := Tryd.f48) [(0, _), (1, _)] Tryd.func48 rfl Tryd.ntmps48 rfl ⟨rfl, rfl, trivial⟩ ?_
  refine CX.seq ?_
  refine CX.region ?_
  refine LX.pure (Y.move rfl) rfl rfl rfl ?_
  refine LX.pure (Y.nilCheck rfl) rfl rfl rfl ?_
  first
    | refine LX.pure (Y.fieldAddr0 Fr.fo85_6 rfl) rfl rfl rfl ?_
    | refine LX.pure (Y.fieldAddr Fr.fo85_6 rfl) rfl rfl rfl ?_
  first
    | refine LX.pure (Y.ldB 0 F.one3 rfl rfl rfl) rfl rfl rfl ?_
    | refine LX.pure (Y.ldB 1 F.one3 rfl rfl rfl) rfl rfl rfl ?_
    | refine LX.pure (Y.ldB 2 F.one3 rfl rfl rfl) rfl rfl rfl ?_
    | refine LX.pure (Y.ldB 3 F.one3 rfl rfl rfl) rfl rfl rfl ?_
  first
    | refine LX.pure (Y.ltN rfl rfl) rfl rfl rfl ?_
    | refine LX.pure (Y.ltI rfl rfl) rfl rfl rfl ?_
  refine LX.sub (l' := [(0, _), (1, _), (8, _)]) ⟨rfl, rfl, rfl, trivial⟩ ?_
  refine LX.next ?_
  refine PX.thenN ?_
  refine CX.cond rfl (fun hb1 => ?_) (fun hb1 => ?_)
  · try simp at hb1
    refine CX.region ?_
    refine LX.pure (Y.move rfl) rfl rfl rfl ?_
    refine LX.pure (Y.move rfl) rfl rfl rfl ?_
    refine LX.pure (Y.nilCheck rfl) rfl rfl rfl ?_
    first
      | refine LX.pure (Y.fieldAddr0 Fr.fo85_6 rfl) rfl rfl rfl ?_
      | refine LX.pure (Y.fieldAddr Fr.fo85_6 rfl) rfl rfl rfl ?_
    first
      | refine LX.storeB 0 F.sz3 rfl rfl rfl rfl rfl rfl rfl rfl ?_
      | refine LX.storeB 1 F.sz3 rfl rfl rfl rfl rfl rfl rfl rfl ?_
      | refine LX.storeB 2 F.sz3 rfl rfl rfl rfl rfl rfl rfl rfl ?_
      | refine LX.storeB 3 F.sz3 rfl rfl rfl rfl rfl rfl rfl rfl ?_
    refine LX.sub (l' := []) trivial ?_
    refine LX.next ?_
    refine PX.ret0 (by simp) Tryd.results48 ?_
    exact fun w hw => ⟨(), rfl, hw⟩
  · try simp at hb1
    first | done | (exfalso; simp at hb1)

def startsB (c : Nat) : Bool := isLet c || isDig c || decide (c = 34) || decide (c = 39) || decide (c = 33) || decide (c = 47) || decide (c.toUInt8 ∈ onesL)
theorem ones_mem {c k : Nat} (hc : c < 256) (hk : k < 16) (h : bt onesL k = c) : c.toUInt8 ∈ onesL := by
  have h1 : onesL.getD k 0 = c.toUInt8 := UInt8.toNat_inj.1 (by rw [Nat.toUInt8_eq, UInt8.toNat_ofNat_of_lt' hc]; exact h)
  rw [← h1]
  simp only [List.getD, List.getElem?_eq_getElem (show k < onesL.length from hk), Option.getD_some]
  exact List.getElem_mem _
theorem ones_none {c : Nat} (hc : c < 256) (h : ∀ i, i < 16 → bt onesL i ≠ c) : c.toUInt8 ∉ onesL := fun hm => by
  obtain ⟨i, hi, he⟩ := List.getElem_of_mem hm
  refine h i hi ?_
  unfold bt
  simp only [List.getD, List.getElem?_eq_getElem hi, Option.getD_some, he, Nat.toUInt8_eq, UInt8.toNat_ofNat_of_lt' hc]

theorem starts4_q {W : World → Prop} [Stab W] (c : Nat) (hc : c < 256) : FnQ Tryd.prog 49 #[.int .u8 (c : Int)] W (.bool (startsB c)) := by
  refine FnQ.all fun W' _ hW => ?_
  refine FnC.of_body (fn := Tryd.f49) [(0, _)] Tryd.func49 rfl Tryd.ntmps49 rfl ⟨rfl, trivial⟩ ?_
  refine CX.seq ?_
  refine CX.region ?_
  refine LX.pure (Y.assign rfl) rfl rfl rfl ?_
  refine LX.sub (l' := [(0, _), (2, _)]) ⟨rfl, rfl, trivial⟩ ?_
  refine LX.next ?_
  refine PX.thenN ?_
  refine CX.seq ?_
  refine CX.seq ?_
  refine CX.region ?_
  refine LX.pure (Y.move rfl) rfl rfl rfl ?_
  refine LX.callQ (letter4_q _ _) Fr.en51 rfl rfl rfl rfl rfl ?_
  refine LX.pure (Y.move rfl) rfl rfl rfl ?_
  refine LX.sub (l' := [(0, _), (2, _), (7, _)]) ⟨rfl, rfl, rfl, trivial⟩ ?_
  apply LX.joinOr 3 10 7 rfl
  · intro hb1
    have hb1p := hb1
    try simp at hb1p
    refine LX.gF rfl rfl rfl hb1 rfl rfl ?_
    refine LX.gF rfl rfl rfl hb1 rfl rfl ?_
    refine LX.pure (Y.pickT rfl hb1 rfl) rfl rfl rfl ?_
    exact LX.left ⟨rfl, rfl, rfl, rfl, trivial⟩
  · intro hb1
    have hb1p := hb1
    try simp at hb1p
    refine LX.gT rfl rfl rfl hb1 (Y.move rfl) rfl rfl ?_
    refine LX.callQT rfl rfl rfl hb1 (digit4_q _ _) Fr.en52 rfl rfl rfl rfl ?_
    refine LX.pure (Y.pickF rfl hb1 rfl) rfl rfl rfl ?_
    exact LX.left ⟨rfl, rfl, rfl, rfl, trivial⟩
  refine LX.pure (Y.move rfl) rfl rfl rfl ?_
  refine LX.sub (l' := [(0, _), (2, _), (11, _)]) ⟨rfl, rfl, rfl, trivial⟩ ?_
  apply LX.joinOr 3 14 11 rfl
  · intro hb2
    have hb2p := hb2
    try simp at hb2p
    refine LX.gF rfl rfl rfl hb2 rfl rfl ?_
    refine LX.gF rfl rfl rfl hb2 rfl rfl ?_
    refine LX.pure (Y.pickT rfl hb2 rfl) rfl rfl rfl ?_
    exact LX.left ⟨rfl, rfl, rfl, rfl, trivial⟩
  · intro hb2
    have hb2p := hb2
    try simp at hb2p
    refine LX.gT rfl rfl rfl hb2 (Y.move rfl) rfl rfl ?_
    first
      | refine LX.gT rfl rfl rfl hb2 (Y.eqN rfl rfl) rfl rfl ?_
      | refine LX.gT rfl rfl rfl hb2 (Y.eqI rfl rfl) rfl rfl ?_
    refine LX.pure (Y.pickF rfl hb2 rfl) rfl rfl rfl ?_
    exact LX.left ⟨rfl, rfl, rfl, rfl, trivial⟩
  refine LX.pure (Y.move rfl) rfl rfl rfl ?_
  refine LX.sub (l' := [(0, _), (2, _), (15, _)]) ⟨rfl, rfl, rfl, trivial⟩ ?_
  apply LX.joinOr 3 18 15 rfl
  · intro hb3
    have hb3p := hb3
    try simp at hb3p
    refine LX.gF rfl rfl rfl hb3 rfl rfl ?_
    refine LX.gF rfl rfl rfl hb3 rfl rfl ?_
    refine LX.pure (Y.pickT rfl hb3 rfl) rfl rfl rfl ?_
    exact LX.left ⟨rfl, rfl, rfl, rfl, trivial⟩
  · intro hb3
    have hb3p := hb3
    try simp at hb3p
    refine LX.gT rfl rfl rfl hb3 (Y.move rfl) rfl rfl ?_
    first
      | refine LX.gT rfl rfl rfl hb3 (Y.eqN rfl rfl) rfl rfl ?_
      | refine LX.gT rfl rfl rfl hb3 (Y.eqI rfl rfl) rfl rfl ?_
    refine LX.pure (Y.pickF rfl hb3 rfl) rfl rfl rfl ?_
    exact LX.left ⟨rfl, rfl, rfl, rfl, trivial⟩
  refine LX.pure (Y.move rfl) rfl rfl rfl ?_
  refine LX.sub (l' := [(0, _), (2, _), (19, _)]) ⟨rfl, rfl, rfl, trivial⟩ ?_
  apply LX.joinOr 3 22 19 rfl
  · intro hb4
    have hb4p := hb4
    try simp at hb4p
    refine LX.gF rfl rfl rfl hb4 rfl rfl ?_
    refine LX.gF rfl rfl rfl hb4 rfl rfl ?_
    refine LX.pure (Y.pickT rfl hb4 rfl) rfl rfl rfl ?_
    exact LX.left ⟨rfl, rfl, rfl, rfl, trivial⟩
  · intro hb4
    have hb4p := hb4
    try simp at hb4p
    refine LX.gT rfl rfl rfl hb4 (Y.move rfl) rfl rfl ?_
    first
      | refine LX.gT rfl rfl rfl hb4 (Y.eqN rfl rfl) rfl rfl ?_
      | refine LX.gT rfl rfl rfl hb4 (Y.eqI rfl rfl) rfl rfl ?_
    refine LX.pure (Y.pickF rfl hb4 rfl) rfl rfl rfl ?_
    exact LX.left ⟨rfl, rfl, rfl, rfl, trivial⟩
  refine LX.pure (Y.move rfl) rfl rfl rfl ?_
  refine LX.sub (l' := [(0, _), (2, _), (23, _)]) ⟨rfl, rfl, rfl, trivial⟩ ?_
  apply LX.joinOr 3 26 23 rfl
  · intro hb5
    have hb5p := hb5
    try simp at hb5p
    refine LX.gF rfl rfl rfl hb5 rfl rfl ?_
    refine LX.gF rfl rfl rfl hb5 rfl rfl ?_
    refine LX.pure (Y.pickT rfl hb5 rfl) rfl rfl rfl ?_
    exact LX.left ⟨rfl, rfl, rfl, rfl, trivial⟩
  · intro hb5
    have hb5p := hb5
    try simp at hb5p
    refine LX.gT rfl rfl rfl hb5 (Y.move rfl) rfl rfl ?_
    first
      | refine LX.gT rfl rfl rfl hb5 (Y.eqN rfl rfl) rfl rfl ?_
      | refine LX.gT rfl rfl rfl hb5 (Y.eqI rfl rfl) rfl rfl ?_
    refine LX.pure (Y.pickF rfl hb5 rfl) rfl rfl rfl ?_
    exact LX.left ⟨rfl, rfl, rfl, rfl, trivial⟩
  refine LX.sub (l' := [(0, _), (2, _), (26, _)]) ⟨rfl, rfl, rfl, trivial⟩ ?_
  refine LX.next ?_
  refine PX.thenN ?_
  refine CX.cond rfl (fun hb6 => ?_) (fun hb6 => ?_)
  · try simp at hb6
    refine CX.seq ?_
    refine CX.region ?_
    refine LX.pure (Y.assign rfl) rfl rfl rfl ?_
    refine LX.sub (l' := [(0, _), (2, _)]) ⟨rfl, rfl, trivial⟩ ?_
    refine LX.next ?_
    refine PX.thenN ?_
    refine CX.ret ?_
    refine PX.thenR ?_
    refine PX.ret1 (by simp) Tryd.results49 rfl ?_
    exact fun w hw => ⟨(), by unfold startsB; simp_all, hw⟩
  · try simp at hb6
    refine CX.skip ?_
    refine PX.thenN ?_
    refine CX.seq ?_
    refine CX.region ?_
    refine LX.pure (Y.assign rfl) rfl rfl rfl ?_
    refine LX.sub (l' := [(0, _), (2, _), (3, _)]) ⟨rfl, rfl, rfl, trivial⟩ ?_
    refine LX.next ?_
    refine PX.thenN ?_
    refine CX.seq ?_
    refine CX.seq ?_
    refine CX.region ?_
    refine LX.pure (Y.assign rfl) rfl rfl rfl ?_
    refine LX.sub (l' := [(0, _), (2, _), (3, _), (4, _)]) ⟨rfl, rfl, rfl, rfl, trivial⟩ ?_
    refine LX.next ?_
    refine PX.thenN ?_
    refine CX.block ?_
    refine CX.loop (τ := Nat) (fun k => [(0, .int .u8 (c : Int)), (3, str onesL), (4, .int .i64 (k : Int))]) (fun k w => (k ≤ 16 ∧ ∀ i, i < k → bt onesL i ≠ c) ∧ W' w) (fun k => 16 - k) 0 ⟨rfl, rfl, rfl, trivial⟩ (fun w hw => ⟨⟨Nat.zero_le _, fun i hi => absurd hi (Nat.not_lt_zero i)⟩, hw⟩) ?_
    intro k
    refine CX.have fun ⟨hk, hno⟩ => ?_
    refine CX.seq ?_
    refine CX.seq ?_
    refine CX.region ?_
    refine LX.pure (Y.move rfl) rfl rfl rfl ?_
    refine LX.pure (Y.move rfl) rfl rfl rfl ?_
    refine LX.pure (Y.lenStr rfl F.un9 rfl) rfl rfl rfl ?_
    first
      | refine LX.pure (Y.ltN rfl rfl) rfl rfl rfl ?_
      | refine LX.pure (Y.ltI rfl rfl) rfl rfl rfl ?_
    refine LX.sub (l' := [(0, _), (3, _), (4, _), (30, _)]) ⟨rfl, rfl, rfl, rfl, trivial⟩ ?_
    refine LX.next ?_
    refine PX.thenN ?_
    refine CX.cond rfl (fun hb7 => ?_) (fun hb7 => ?_)
    · try simp at hb7
      have hk16 : k < 16 := hb7
      refine CX.skip ?_
      refine PX.thenN ?_
      refine CX.seq ?_
      refine CX.block ?_
      refine CX.seq ?_
      refine CX.region ?_
      refine LX.pure (Y.move rfl) rfl rfl rfl ?_
      refine LX.pure (Y.move rfl) rfl rfl rfl ?_
      refine LX.pure (Y.index rfl rfl F.un9 (by first | omega | exact hk16)) rfl rfl rfl ?_
      refine LX.pure (Y.move rfl) rfl rfl rfl ?_
      first
        | refine LX.pure (Y.eqN rfl rfl) rfl rfl rfl ?_
        | refine LX.pure (Y.eqI rfl rfl) rfl rfl rfl ?_
      refine LX.sub (l' := [(0, _), (3, _), (4, _), (37, _)]) ⟨rfl, rfl, rfl, rfl, trivial⟩ ?_
      refine LX.next ?_
      refine PX.thenN ?_
      refine CX.cond rfl (fun hb8 => ?_) (fun hb8 => ?_)
      · try simp at hb8
        have hmem := ones_mem hc hk16 hb8
        refine CX.seq ?_
        refine CX.region ?_
        refine LX.pure (Y.assign rfl) rfl rfl rfl ?_
        refine LX.sub (l' := [(0, _), (2, _), (3, _), (4, _)]) ⟨rfl, rfl, rfl, rfl, trivial⟩ ?_
        refine LX.next ?_
        refine PX.thenN ?_
        refine CX.ret ?_
        refine PX.blockR ?_
        refine PX.thenR ?_
        refine PX.thenR ?_
        refine PX.blockR ?_
        refine PX.thenR ?_
        refine PX.ret1 (by simp) Tryd.results49 rfl ?_
        exact fun w hw => ⟨(), by unfold startsB; rw [decide_eq_true hmem, Bool.or_true], hw⟩
      · try simp at hb8
        have hne : bt onesL k ≠ c := hb8
        refine CX.skip ?_
        refine PX.blockN ?_
        refine PX.thenN ?_
        refine CX.region ?_
        refine LX.pure (Y.move rfl) rfl rfl rfl ?_
        first
          | refine LX.pure (Y.addN rfl rfl (by first | omega | (simp only []; omega) | (simp; done) | (simp; omega))) rfl rfl rfl ?_
          | refine LX.pure (Y.add rfl rfl (by first | omega | (simp only []; omega) | (simp; done) | (simp; omega))) rfl rfl rfl ?_
        refine LX.pure (Y.assign rfl) rfl rfl rfl ?_
        refine LX.sub (l' := [(0, _), (3, _), (4, _)]) ⟨rfl, rfl, rfl, trivial⟩ ?_
        refine LX.next ?_
        exact PX.again (k + 1) (by show 16 - (k + 1) < 16 - k; omega) ⟨rfl, rfl, rfl, trivial⟩ (fun w hw => ⟨⟨by omega, fun i hi => by
          rcases Nat.lt_succ_iff_lt_or_eq.1 hi with h | h
          · exact hno i h
          · rw [h]; exact hne⟩, hw⟩)
    · try simp at hb7
      have hk16 : k = 16 := Nat.le_antisymm hk hb7
      subst hk16
      refine CX.exit ?_
      refine PX.thenE ?_
      refine PX.thenE ?_
      refine PX.blockE ?_
      refine PX.thenN ?_
      refine CX.seq ?_
      refine CX.region ?_
      refine LX.pure (Y.assign rfl) rfl rfl rfl ?_
      refine LX.sub (l' := [(2, _)]) ⟨rfl, trivial⟩ ?_
      refine LX.next ?_
      refine PX.thenN ?_
      refine CX.ret ?_
      refine PX.ret1 (by simp) Tryd.results49 rfl ?_
      exact fun w hw => ⟨(), by unfold startsB; rw [decide_eq_false (ones_none hc hno)]; simp_all, hw⟩

theorem hex4_q {W : World → Prop} [Stab W] (c : Nat) (hc : c < 256) : FnQ Tryd.prog 76 #[.int .u8 (c : Int)] W (.int .i64 (hexI c)) := by
  refine FnQ.all fun W' _ hW => ?_
  refine FnC.of_body (fn := Tryd.f76) [(0, _)] Tryd.func76 rfl Tryd.ntmps76 rfl ⟨rfl, trivial⟩ ?_
  refine CX.seq ?_
  refine CX.region ?_
  refine LX.pure (Y.assign rfl) rfl rfl rfl ?_
  refine LX.sub (l' := [(0, _), (2, _)]) ⟨rfl, rfl, trivial⟩ ?_
  refine LX.next ?_
  refine PX.thenN ?_
  refine CX.seq ?_
  refine CX.block ?_
  refine CX.seq ?_
  refine CX.region ?_
  refine LX.pure (Y.move rfl) rfl rfl rfl ?_
  refine LX.callQ (digit4_q _ _) Fr.en52 rfl rfl rfl rfl rfl ?_
  refine LX.pure (Y.assign rfl) rfl rfl rfl ?_
  refine LX.sub (l' := [(0, _), (2, _), (3, _)]) ⟨rfl, rfl, rfl, trivial⟩ ?_
  refine LX.next ?_
  refine PX.thenN ?_
  refine CX.cond rfl (fun hb1 => ?_) (fun hb1 => ?_)
  · try simp at hb1
    refine CX.seq ?_
    refine CX.region ?_
    refine LX.pure (Y.move rfl) rfl rfl rfl ?_
    refine LX.pure (Y.sub8 (a := c) (b := 48) rfl rfl (by unfold isDig at hb1; simp at hb1; omega) hc) rfl rfl rfl ?_
    refine LX.pure (Y.convN rfl F.un5 F.un3 (IntWalk.i64_in _ (by omega))) rfl rfl rfl ?_
    refine LX.pure (Y.assign rfl) rfl rfl rfl ?_
    refine LX.sub (l' := [(2, _)]) ⟨rfl, trivial⟩ ?_
    refine LX.next ?_
    refine PX.thenN ?_
    refine CX.ret ?_
    refine PX.blockR ?_
    refine PX.thenR ?_
    refine PX.ret1 (by simp) Tryd.results76 rfl ?_
    exact fun w hw => ⟨(), by simp only [hexI, hexD, hb1, if_true], hw⟩
  · try simp at hb1
    refine CX.seq ?_
    refine CX.region ?_
    refine LX.pure (Y.move rfl) rfl rfl rfl ?_
    first
      | refine LX.pure (Y.geN rfl rfl) rfl rfl rfl ?_
      | refine LX.pure (Y.geI rfl rfl) rfl rfl rfl ?_
    refine LX.pure (Y.move rfl) rfl rfl rfl ?_
    refine LX.sub (l' := [(0, _), (2, _), (12, _)]) ⟨rfl, rfl, rfl, trivial⟩ ?_
    apply LX.joinAnd 3 15 12 rfl
    · intro hb2
      have hb2p := hb2
      try simp at hb2p
      refine LX.gT rfl rfl rfl hb2 (Y.move rfl) rfl rfl ?_
      first
        | refine LX.gT rfl rfl rfl hb2 (Y.leN rfl rfl) rfl rfl ?_
        | refine LX.gT rfl rfl rfl hb2 (Y.leI rfl rfl) rfl rfl ?_
      refine LX.pure (Y.pickT rfl hb2 rfl) rfl rfl rfl ?_
      exact LX.left ⟨rfl, rfl, rfl, rfl, trivial⟩
    · intro hb2
      have hb2p := hb2
      try simp at hb2p
      refine LX.gF rfl rfl rfl hb2 rfl rfl ?_
      refine LX.gF rfl rfl rfl hb2 rfl rfl ?_
      refine LX.pure (Y.pickF rfl hb2 rfl) rfl rfl rfl ?_
      exact LX.left ⟨rfl, rfl, rfl, rfl, trivial⟩
    refine LX.pure (Y.assign rfl) rfl rfl rfl ?_
    refine LX.sub (l' := [(0, _), (2, _), (9, _)]) ⟨rfl, rfl, rfl, trivial⟩ ?_
    refine LX.next ?_
    refine PX.thenN ?_
    refine CX.cond rfl (fun hb3 => ?_) (fun hb3 => ?_)
    · try simp at hb3
      refine CX.seq ?_
      refine CX.region ?_
      refine LX.pure (Y.move rfl) rfl rfl rfl ?_
      refine LX.pure (Y.sub8 (a := c) (b := 97) rfl rfl (by omega) hc) rfl rfl rfl ?_
      refine LX.pure (Y.convN rfl F.un5 F.un3 (IntWalk.i64_in _ (by omega))) rfl rfl rfl ?_
      first
        | refine LX.pure (Y.addN rfl rfl (by first | omega | (simp only []; omega) | (simp; done) | (simp; omega))) rfl rfl rfl ?_
        | refine LX.pure (Y.add rfl rfl (by first | omega | (simp only []; omega) | (simp; done) | (simp; omega))) rfl rfl rfl ?_
      refine LX.pure (Y.assign rfl) rfl rfl rfl ?_
      refine LX.sub (l' := [(2, _)]) ⟨rfl, trivial⟩ ?_
      refine LX.next ?_
      refine PX.thenN ?_
      refine CX.ret ?_
      refine PX.blockR ?_
      refine PX.thenR ?_
      refine PX.ret1 (by simp) Tryd.results76 rfl ?_
      exact fun w hw => ⟨(), by
        have h1 : hexD c = some (c - 97 + 10) := by
          unfold hexD
          rw [if_neg (by rw [hb1]; decide), if_pos (by omega)]
          congr 1; omega
        simp only [hexI, h1], hw⟩
    · try simp at hb3
      refine CX.seq ?_
      refine CX.region ?_
      refine LX.pure (Y.move rfl) rfl rfl rfl ?_
      first
        | refine LX.pure (Y.geN rfl rfl) rfl rfl rfl ?_
        | refine LX.pure (Y.geI rfl rfl) rfl rfl rfl ?_
      refine LX.pure (Y.move rfl) rfl rfl rfl ?_
      refine LX.sub (l' := [(0, _), (2, _), (23, _)]) ⟨rfl, rfl, rfl, trivial⟩ ?_
      apply LX.joinAnd 3 26 23 rfl
      · intro hb4
        have hb4p := hb4
        try simp at hb4p
        refine LX.gT rfl rfl rfl hb4 (Y.move rfl) rfl rfl ?_
        first
          | refine LX.gT rfl rfl rfl hb4 (Y.leN rfl rfl) rfl rfl ?_
          | refine LX.gT rfl rfl rfl hb4 (Y.leI rfl rfl) rfl rfl ?_
        refine LX.pure (Y.pickT rfl hb4 rfl) rfl rfl rfl ?_
        exact LX.left ⟨rfl, rfl, rfl, rfl, trivial⟩
      · intro hb4
        have hb4p := hb4
        try simp at hb4p
        refine LX.gF rfl rfl rfl hb4 rfl rfl ?_
        refine LX.gF rfl rfl rfl hb4 rfl rfl ?_
        refine LX.pure (Y.pickF rfl hb4 rfl) rfl rfl rfl ?_
        exact LX.left ⟨rfl, rfl, rfl, rfl, trivial⟩
      refine LX.pure (Y.assign rfl) rfl rfl rfl ?_
      refine LX.sub (l' := [(0, _), (2, _), (20, _)]) ⟨rfl, rfl, rfl, trivial⟩ ?_
      refine LX.next ?_
      refine PX.thenN ?_
      refine CX.cond rfl (fun hb5 => ?_) (fun hb5 => ?_)
      · try simp at hb5
        refine CX.seq ?_
        refine CX.region ?_
        refine LX.pure (Y.move rfl) rfl rfl rfl ?_
        refine LX.pure (Y.sub8 (a := c) (b := 65) rfl rfl (by omega) hc) rfl rfl rfl ?_
        refine LX.pure (Y.convN rfl F.un5 F.un3 (IntWalk.i64_in _ (by omega))) rfl rfl rfl ?_
        first
          | refine LX.pure (Y.addN rfl rfl (by first | omega | (simp only []; omega) | (simp; done) | (simp; omega))) rfl rfl rfl ?_
          | refine LX.pure (Y.add rfl rfl (by first | omega | (simp only []; omega) | (simp; done) | (simp; omega))) rfl rfl rfl ?_
        refine LX.pure (Y.assign rfl) rfl rfl rfl ?_
        refine LX.sub (l' := [(2, _)]) ⟨rfl, trivial⟩ ?_
        refine LX.next ?_
        refine PX.thenN ?_
        refine CX.ret ?_
        refine PX.blockR ?_
        refine PX.thenR ?_
        refine PX.ret1 (by simp) Tryd.results76 rfl ?_
        exact fun w hw => ⟨(), by
          have h1 : hexD c = some (c - 65 + 10) := by
            unfold hexD
            rw [if_neg (by rw [hb1]; decide), if_neg (by omega), if_pos (by omega)]
            congr 1; omega
          simp only [hexI, h1], hw⟩
      · try simp at hb5
        refine CX.skip ?_
        refine PX.blockN ?_
        refine PX.thenN ?_
        refine CX.seq ?_
        refine CX.region ?_
        refine LX.pure (Y.assign rfl) rfl rfl rfl ?_
        refine LX.sub (l' := [(2, _)]) ⟨rfl, trivial⟩ ?_
        refine LX.next ?_
        refine PX.thenN ?_
        refine CX.ret ?_
        refine PX.ret1 (by simp) Tryd.results76 rfl ?_
        exact fun w hw => ⟨(), by
          have h1 : hexD c = none := by
            unfold hexD
            rw [if_neg (by rw [hb1]; decide), if_neg (by omega), if_neg (by omega)]
          simp only [hexI, h1], hw⟩

theorem hexI_lt (c : Nat) : hexI c < 16 ∧ -1 ≤ hexI c := by
  unfold hexI
  cases h : hexD c with
  | none => simp
  | some v => have := hexD_lt h; simp; omega

theorem opens_rest {c : Nat} (h1 : ¬ c = 40) (h2 : ¬ c = 91) : (opens c).isSome = decide (c = 123) := by
  unfold opens; rw [if_neg h1, if_neg h2]; split <;> simp_all
theorem closes_rest {c : Nat} (h1 : ¬ c = 41) (h2 : ¬ c = 93) : closes c = decide (c = 125) := by simp [closes, h1, h2]
theorem unc_41 {c : Nat} (h : closes c = true) (h1 : ¬ c = 93) (h2 : ¬ c = 125) : unc c = 40 := by
  have h3 : c = 41 := by simpa [closes, h1, h2] using h
  subst h3; rfl

theorem brack4_c {w0 : World} {base : Nat} {B : Nat} {σ : Sc} {p : Sl} {fr : List It} (c : Nat) (hk : σ.brk.length ≤ 1000) (hcl : ∀ x ∈ σ.brk, closes x = true) : FnC Tryd.prog 77 #[.pointer (some ⟨B, 0, none⟩), .int .u8 (c : Int)] (WA w0 base (rfI B σ none p fr)) (fun _ : Sl => .tuple #[]) (fun p' => WA w0 base (rfI B (σ.brkR c).1 (σ.brkR c).2 p' fr)) := by
  refine FnC.of_body (fn := Tryd.f77) [(0, _), (1, _)] Tryd.func77 rfl Tryd.ntmps77 rfl ⟨rfl, rfl, trivial⟩ ?_
  refine CX.seq ?_
  refine CX.region ?_
  refine LX.pure (Y.move rfl) rfl rfl rfl ?_
  refine LX.sub (l' := [(0, _), (1, _), (5, _)]) ⟨rfl, rfl, rfl, trivial⟩ ?_
  refine LX.next ?_
  refine PX.thenN ?_
  refine CX.block ?_
  refine CX.seqM (τ := Unit) (fun _ => [(0, .pointer (some ⟨B, 0, none⟩)), (1, .int .u8 (c : Int)), (5, .int .u8 (c : Int)), (6, .bool (opens c).isSome)]) (fun _ w => WA w0 base (rfI B σ none p fr) w) ?_ ?_
  ·
    refine CX.seq ?_
    refine CX.region ?_
    first
      | refine LX.pure (Y.eqN rfl rfl) rfl rfl rfl ?_
      | refine LX.pure (Y.eqI rfl rfl) rfl rfl rfl ?_
    refine LX.pure (Y.assign rfl) rfl rfl rfl ?_
    refine LX.sub (l' := [(0, _), (1, _), (5, _), (6, _)]) ⟨rfl, rfl, rfl, rfl, trivial⟩ ?_
    refine LX.next ?_
    refine PX.thenN ?_
    refine CX.cond rfl (fun hb1 => ?_) (fun hb1 => ?_)
    · try simp at hb1
      refine CX.skip ?_
      exact PX.seam () ⟨rfl, rfl, rfl, by subst hb1; rfl, trivial⟩ (fun w hw => hw)
    · try simp at hb1
      refine CX.seq ?_
      refine CX.region ?_
      first
        | refine LX.pure (Y.eqN rfl rfl) rfl rfl rfl ?_
        | refine LX.pure (Y.eqI rfl rfl) rfl rfl rfl ?_
      refine LX.pure (Y.assign rfl) rfl rfl rfl ?_
      refine LX.sub (l' := [(0, _), (1, _), (5, _), (6, _)]) ⟨rfl, rfl, rfl, rfl, trivial⟩ ?_
      refine LX.next ?_
      refine PX.thenN ?_
      refine CX.cond rfl (fun hb2 => ?_) (fun hb2 => ?_)
      · try simp at hb2
        refine CX.skip ?_
        exact PX.seam () ⟨rfl, rfl, rfl, by subst hb2; rfl, trivial⟩ (fun w hw => hw)
      · try simp at hb2
        refine CX.region ?_
        first
          | refine LX.pure (Y.eqN rfl rfl) rfl rfl rfl ?_
          | refine LX.pure (Y.eqI rfl rfl) rfl rfl rfl ?_
        refine LX.pure (Y.assign rfl) rfl rfl rfl ?_
        refine LX.sub (l' := [(0, _), (1, _), (5, _), (6, _)]) ⟨rfl, rfl, rfl, rfl, trivial⟩ ?_
        refine LX.next ?_
        exact PX.seam () ⟨rfl, rfl, rfl, by rw [opens_rest hb1 hb2]; rfl, trivial⟩ (fun w hw => hw)
  ·
    intro _
    refine CX.cond rfl (fun hb3 => ?_) (fun hb3 => ?_)
    · try simp at hb3
      obtain ⟨e, he⟩ := Option.isSome_iff_exists.1 hb3
      refine CX.seq ?_
      refine CX.seq ?_
      refine CX.region ?_
      refine LX.pure (Y.move rfl) rfl rfl rfl ?_
      refine LX.pure (Y.nilCheck rfl) rfl rfl rfl ?_
      first
        | refine LX.pure (Y.fieldAddr0 Fr.fo85_2 rfl) rfl rfl rfl ?_
        | refine LX.pure (Y.fieldAddr Fr.fo85_2 rfl) rfl rfl rfl ?_
      first
        | refine LX.pure (Y.ldB 0 F.one76 rfl rfl rfl) rfl rfl rfl ?_
        | refine LX.pure (Y.ldB 1 F.one76 rfl rfl rfl) rfl rfl rfl ?_
        | refine LX.pure (Y.ldB 2 F.one76 rfl rfl rfl) rfl rfl rfl ?_
        | refine LX.pure (Y.ldB 3 F.one76 rfl rfl rfl) rfl rfl rfl ?_
      refine LX.pure (Y.lenSl rfl F.un76 rfl) rfl rfl rfl ?_
      first
        | refine LX.pure (Y.geN rfl rfl) rfl rfl rfl ?_
        | refine LX.pure (Y.geI rfl rfl) rfl rfl rfl ?_
      refine LX.sub (l' := [(0, _), (1, _), (15, _)]) ⟨rfl, rfl, rfl, trivial⟩ ?_
      refine LX.next ?_
      refine PX.thenN ?_
      refine CX.cond rfl (fun hb4 => ?_) (fun hb4 => ?_)
      · try simp at hb4
        refine CX.region ?_
        refine LX.pure (Y.move rfl) rfl rfl rfl ?_
        refine LX.pure (Y.move rfl) rfl rfl rfl ?_
        refine LX.pure (Y.nilCheck rfl) rfl rfl rfl ?_
        first
          | refine LX.pure (Y.fieldAddr0 Fr.fo85_1 rfl) rfl rfl rfl ?_
          | refine LX.pure (Y.fieldAddr Fr.fo85_1 rfl) rfl rfl rfl ?_
        first
          | refine LX.pure (Y.ldB 0 F.one3 rfl rfl rfl) rfl rfl rfl ?_
          | refine LX.pure (Y.ldB 1 F.one3 rfl rfl rfl) rfl rfl rfl ?_
          | refine LX.pure (Y.ldB 2 F.one3 rfl rfl rfl) rfl rfl rfl ?_
          | refine LX.pure (Y.ldB 3 F.one3 rfl rfl rfl) rfl rfl rfl ?_
        refine LX.call (fail4_c _) Fr.en48 rfl rfl rfl rfl rfl ?_
        intro _
        refine LX.sub (l' := [(0, _), (1, _)]) ⟨rfl, rfl, trivial⟩ ?_
        refine LX.next ?_
        refine PX.thenN ?_
        refine CX.region ?_
        refine LX.pure (Y.move rfl) rfl rfl rfl ?_
        refine LX.pure (Y.move rfl) rfl rfl rfl ?_
        refine LX.pure (Y.nilCheck rfl) rfl rfl rfl ?_
        first
          | refine LX.pure (Y.fieldAddr0 Fr.fo85_2 rfl) rfl rfl rfl ?_
          | refine LX.pure (Y.fieldAddr Fr.fo85_2 rfl) rfl rfl rfl ?_
        first
          | refine LX.pure (Y.ldB 0 F.one76 rfl rfl rfl) rfl rfl rfl ?_
          | refine LX.pure (Y.ldB 1 F.one76 rfl rfl rfl) rfl rfl rfl ?_
          | refine LX.pure (Y.ldB 2 F.one76 rfl rfl rfl) rfl rfl rfl ?_
          | refine LX.pure (Y.ldB 3 F.one76 rfl rfl rfl) rfl rfl rfl ?_
        refine LX.pure (Y.move rfl) rfl rfl rfl ?_
        refine LX.buildSlice (e := 5) (size := 1) rfl rfl (fun _ => by kernel_rfl) rfl (by decide) rfl rfl rfl ?_
        intro gt25
        first
          | refine LX.appendT 0 F.el76 rfl rfl rfl rfl rfl rfl rfl (by first | omega | (dsimp only; omega)) (by first | omega | (dsimp only; omega)) rfl rfl rfl ?_
          | refine LX.appendT 1 F.el76 rfl rfl rfl rfl rfl rfl rfl (by first | omega | (dsimp only; omega)) (by first | omega | (dsimp only; omega)) rfl rfl rfl ?_
          | refine LX.appendT 2 F.el76 rfl rfl rfl rfl rfl rfl rfl (by first | omega | (dsimp only; omega)) (by first | omega | (dsimp only; omega)) rfl rfl rfl ?_
          | refine LX.appendT 3 F.el76 rfl rfl rfl rfl rfl rfl rfl (by first | omega | (dsimp only; omega)) (by first | omega | (dsimp only; omega)) rfl rfl rfl ?_
        intro g' cap'
        refine LX.pure (Y.nilCheck rfl) rfl rfl rfl ?_
        first
          | refine LX.pure (Y.fieldAddr0 Fr.fo85_2 rfl) rfl rfl rfl ?_
          | refine LX.pure (Y.fieldAddr Fr.fo85_2 rfl) rfl rfl rfl ?_
        first
          | refine LX.storeB 0 F.sz76 rfl rfl rfl rfl rfl rfl rfl rfl ?_
          | refine LX.storeB 1 F.sz76 rfl rfl rfl rfl rfl rfl rfl rfl ?_
          | refine LX.storeB 2 F.sz76 rfl rfl rfl rfl rfl rfl rfl rfl ?_
          | refine LX.storeB 3 F.sz76 rfl rfl rfl rfl rfl rfl rfl rfl ?_
        refine LX.sub (l' := []) trivial ?_
        refine LX.next ?_
        refine PX.blockN ?_
        refine PX.ret0 (by simp) Tryd.results77 ?_
        exact fun w hw => ⟨{ p with gk := g', ck := cap' }, rfl, by simp only [Sc.brkR, he, if_pos hb4]; simpa [rfI, flat, Value.cells, bytV, (unc_opens he).1] using hw⟩
      · try simp at hb4
        refine CX.skip ?_
        refine PX.thenN ?_
        refine CX.region ?_
        refine LX.pure (Y.move rfl) rfl rfl rfl ?_
        refine LX.pure (Y.move rfl) rfl rfl rfl ?_
        refine LX.pure (Y.nilCheck rfl) rfl rfl rfl ?_
        first
          | refine LX.pure (Y.fieldAddr0 Fr.fo85_2 rfl) rfl rfl rfl ?_
          | refine LX.pure (Y.fieldAddr Fr.fo85_2 rfl) rfl rfl rfl ?_
        first
          | refine LX.pure (Y.ldB 0 F.one76 rfl rfl rfl) rfl rfl rfl ?_
          | refine LX.pure (Y.ldB 1 F.one76 rfl rfl rfl) rfl rfl rfl ?_
          | refine LX.pure (Y.ldB 2 F.one76 rfl rfl rfl) rfl rfl rfl ?_
          | refine LX.pure (Y.ldB 3 F.one76 rfl rfl rfl) rfl rfl rfl ?_
        refine LX.pure (Y.move rfl) rfl rfl rfl ?_
        refine LX.buildSlice (e := 5) (size := 1) rfl rfl (fun _ => by kernel_rfl) rfl (by decide) rfl rfl rfl ?_
        intro gt36
        first
          | refine LX.appendT 0 F.el76 rfl rfl rfl rfl rfl rfl rfl (by first | omega | (dsimp only; omega)) (by first | omega | (dsimp only; omega)) rfl rfl rfl ?_
          | refine LX.appendT 1 F.el76 rfl rfl rfl rfl rfl rfl rfl (by first | omega | (dsimp only; omega)) (by first | omega | (dsimp only; omega)) rfl rfl rfl ?_
          | refine LX.appendT 2 F.el76 rfl rfl rfl rfl rfl rfl rfl (by first | omega | (dsimp only; omega)) (by first | omega | (dsimp only; omega)) rfl rfl rfl ?_
          | refine LX.appendT 3 F.el76 rfl rfl rfl rfl rfl rfl rfl (by first | omega | (dsimp only; omega)) (by first | omega | (dsimp only; omega)) rfl rfl rfl ?_
        intro g' cap'
        refine LX.pure (Y.nilCheck rfl) rfl rfl rfl ?_
        first
          | refine LX.pure (Y.fieldAddr0 Fr.fo85_2 rfl) rfl rfl rfl ?_
          | refine LX.pure (Y.fieldAddr Fr.fo85_2 rfl) rfl rfl rfl ?_
        first
          | refine LX.storeB 0 F.sz76 rfl rfl rfl rfl rfl rfl rfl rfl ?_
          | refine LX.storeB 1 F.sz76 rfl rfl rfl rfl rfl rfl rfl rfl ?_
          | refine LX.storeB 2 F.sz76 rfl rfl rfl rfl rfl rfl rfl rfl ?_
          | refine LX.storeB 3 F.sz76 rfl rfl rfl rfl rfl rfl rfl rfl ?_
        refine LX.sub (l' := []) trivial ?_
        refine LX.next ?_
        refine PX.blockN ?_
        refine PX.ret0 (by simp) Tryd.results77 ?_
        exact fun w hw => ⟨{ p with gk := g', ck := cap' }, rfl, by simp only [Sc.brkR, he, if_neg (Nat.not_le.2 hb4)]; simpa [rfI, flat, Value.cells, bytV, (unc_opens he).1] using hw⟩
    · try simp at hb3
      refine CX.seqM (τ := Unit) (fun _ => [(0, .pointer (some ⟨B, 0, none⟩)), (1, .int .u8 (c : Int)), (5, .int .u8 (c : Int)), (32, .bool (closes c))]) (fun _ w => WA w0 base (rfI B σ none p fr) w) ?_ ?_
      ·
        refine CX.seq ?_
        refine CX.region ?_
        first
          | refine LX.pure (Y.eqN rfl rfl) rfl rfl rfl ?_
          | refine LX.pure (Y.eqI rfl rfl) rfl rfl rfl ?_
        refine LX.pure (Y.assign rfl) rfl rfl rfl ?_
        refine LX.sub (l' := [(0, _), (1, _), (5, _), (32, _)]) ⟨rfl, rfl, rfl, rfl, trivial⟩ ?_
        refine LX.next ?_
        refine PX.thenN ?_
        refine CX.cond rfl (fun hb5 => ?_) (fun hb5 => ?_)
        · try simp at hb5
          refine CX.skip ?_
          exact PX.seam () ⟨rfl, rfl, rfl, by subst hb5; rfl, trivial⟩ (fun w hw => hw)
        · try simp at hb5
          refine CX.seq ?_
          refine CX.region ?_
          first
            | refine LX.pure (Y.eqN rfl rfl) rfl rfl rfl ?_
            | refine LX.pure (Y.eqI rfl rfl) rfl rfl rfl ?_
          refine LX.pure (Y.assign rfl) rfl rfl rfl ?_
          refine LX.sub (l' := [(0, _), (1, _), (5, _), (32, _)]) ⟨rfl, rfl, rfl, rfl, trivial⟩ ?_
          refine LX.next ?_
          refine PX.thenN ?_
          refine CX.cond rfl (fun hb6 => ?_) (fun hb6 => ?_)
          · try simp at hb6
            refine CX.skip ?_
            exact PX.seam () ⟨rfl, rfl, rfl, by subst hb6; rfl, trivial⟩ (fun w hw => hw)
          · try simp at hb6
            refine CX.region ?_
            first
              | refine LX.pure (Y.eqN rfl rfl) rfl rfl rfl ?_
              | refine LX.pure (Y.eqI rfl rfl) rfl rfl rfl ?_
            refine LX.pure (Y.assign rfl) rfl rfl rfl ?_
            refine LX.sub (l' := [(0, _), (1, _), (5, _), (32, _)]) ⟨rfl, rfl, rfl, rfl, trivial⟩ ?_
            refine LX.next ?_
            exact PX.seam () ⟨rfl, rfl, rfl, by rw [closes_rest hb5 hb6]; rfl, trivial⟩ (fun w hw => hw)
      ·
        intro _
        refine CX.cond rfl (fun hb7 => ?_) (fun hb7 => ?_)
        · try simp at hb7
          refine CX.seq ?_
          refine CX.region ?_
          refine LX.pure (Y.assign rfl) rfl rfl rfl ?_
          refine LX.sub (l' := [(0, _), (1, _), (4, _)]) ⟨rfl, rfl, rfl, trivial⟩ ?_
          refine LX.next ?_
          refine PX.thenN ?_
          refine CX.seq ?_
          refine CX.seq ?_
          refine CX.region ?_
          refine LX.pure (Y.move rfl) rfl rfl rfl ?_
          first
            | refine LX.pure (Y.eqN rfl rfl) rfl rfl rfl ?_
            | refine LX.pure (Y.eqI rfl rfl) rfl rfl rfl ?_
          refine LX.sub (l' := [(0, _), (1, _), (4, _), (37, _)]) ⟨rfl, rfl, rfl, rfl, trivial⟩ ?_
          refine LX.next ?_
          refine PX.thenN ?_
          refine CX.cond rfl (fun hb8 => ?_) (fun hb8 => ?_)
          · try simp at hb8
            refine CX.region ?_
            refine LX.pure (Y.assign rfl) rfl rfl rfl ?_
            refine LX.sub (l' := [(0, _), (1, _), (4, _)]) ⟨rfl, rfl, rfl, trivial⟩ ?_
            refine LX.next ?_
            refine PX.thenN ?_
            refine CX.seqM (τ := Unit) (fun _ => [(0, .pointer (some ⟨B, 0, none⟩)), (1, .int .u8 (c : Int)), (4, .int .u8 (unc c : Int))]) (fun _ w => WA w0 base (rfI B σ none p fr) w) ?_ ?_
            ·
              refine CX.seq ?_
              refine CX.region ?_
              refine LX.pure (Y.move rfl) rfl rfl rfl ?_
              first
                | refine LX.pure (Y.eqN rfl rfl) rfl rfl rfl ?_
                | refine LX.pure (Y.eqI rfl rfl) rfl rfl rfl ?_
              refine LX.sub (l' := [(0, _), (1, _), (4, _), (39, _)]) ⟨rfl, rfl, rfl, rfl, trivial⟩ ?_
              refine LX.next ?_
              refine PX.thenN ?_
              refine CX.cond rfl (fun hb9 => ?_) (fun hb9 => ?_)
              · try simp at hb9
                refine CX.region ?_
                refine LX.pure (Y.assign rfl) rfl rfl rfl ?_
                refine LX.sub (l' := [(0, _), (1, _), (4, _)]) ⟨rfl, rfl, rfl, trivial⟩ ?_
                refine LX.next ?_
                exfalso; omega
              · try simp at hb9
                refine CX.skip ?_
                exact PX.seam () ⟨rfl, rfl, by subst hb8; rfl, trivial⟩ (fun w hw => hw)
            ·
              intro _
              refine CX.seq ?_
              refine CX.seq ?_
              refine CX.regionQ rfl (by kernel_rfl) ?_
              refine LX.pure (Y.move rfl) rfl rfl rfl ?_
              refine LX.pure (Y.nilCheck rfl) rfl rfl rfl ?_
              first
                | refine LX.pure (Y.fieldAddr0 Fr.fo85_2 rfl) rfl rfl rfl ?_
                | refine LX.pure (Y.fieldAddr Fr.fo85_2 rfl) rfl rfl rfl ?_
              first
                | refine LX.pure (Y.ldB 0 F.one76 rfl rfl rfl) rfl rfl rfl ?_
                | refine LX.pure (Y.ldB 1 F.one76 rfl rfl rfl) rfl rfl rfl ?_
                | refine LX.pure (Y.ldB 2 F.one76 rfl rfl rfl) rfl rfl rfl ?_
                | refine LX.pure (Y.ldB 3 F.one76 rfl rfl rfl) rfl rfl rfl ?_
              refine LX.pure (Y.lenSl rfl F.un76 rfl) rfl rfl rfl ?_
              first
                | refine LX.pure (Y.eqN rfl rfl) rfl rfl rfl ?_
                | refine LX.pure (Y.eqI rfl rfl) rfl rfl rfl ?_
              refine LX.pure (Y.move rfl) rfl rfl rfl ?_
              refine LX.sub (l' := [(0, _), (4, _), (46, _)]) ⟨rfl, rfl, rfl, trivial⟩ ?_
              apply LX.joinOr 15 61 46 rfl
              · intro hb10
                have hb10p := hb10
                try simp at hb10p
                refine LX.gF rfl rfl rfl hb10 rfl rfl ?_
                refine LX.gF rfl rfl rfl hb10 rfl rfl ?_
                refine LX.gF rfl rfl rfl hb10 rfl rfl ?_
                refine LX.gF rfl rfl rfl hb10 rfl rfl ?_
                refine LX.gF rfl rfl rfl hb10 rfl rfl ?_
                refine LX.gF rfl rfl rfl hb10 rfl rfl ?_
                refine LX.gF rfl rfl rfl hb10 rfl rfl ?_
                refine LX.gF rfl rfl rfl hb10 rfl rfl ?_
                refine LX.gF rfl rfl rfl hb10 rfl rfl ?_
                refine LX.gF rfl rfl rfl hb10 rfl rfl ?_
                refine LX.gF rfl rfl rfl hb10 rfl rfl ?_
                refine LX.gF rfl rfl rfl hb10 rfl rfl ?_
                refine LX.gF rfl rfl rfl hb10 rfl rfl ?_
                refine LX.gF rfl rfl rfl hb10 rfl rfl ?_
                refine LX.pure (Y.pickT rfl hb10 rfl) rfl rfl rfl ?_
                exact LX.left ⟨rfl, rfl, rfl, rfl, trivial⟩
              · intro hb10
                have hb10p := hb10
                try simp at hb10p
                refine LX.gT rfl rfl rfl hb10 (Y.move rfl) rfl rfl ?_
                refine LX.gT rfl rfl rfl hb10 (Y.nilCheck rfl) rfl rfl ?_
                first
                  | refine LX.gT rfl rfl rfl hb10 (Y.fieldAddr0 Fr.fo85_2 rfl) rfl rfl ?_
                  | refine LX.gT rfl rfl rfl hb10 (Y.fieldAddr Fr.fo85_2 rfl) rfl rfl ?_
                first
                  | refine LX.gT rfl rfl rfl hb10 (Y.ldB 0 F.one76 rfl rfl rfl) rfl rfl ?_
                  | refine LX.gT rfl rfl rfl hb10 (Y.ldB 1 F.one76 rfl rfl rfl) rfl rfl ?_
                  | refine LX.gT rfl rfl rfl hb10 (Y.ldB 2 F.one76 rfl rfl rfl) rfl rfl ?_
                  | refine LX.gT rfl rfl rfl hb10 (Y.ldB 3 F.one76 rfl rfl rfl) rfl rfl ?_
                refine LX.gT rfl rfl rfl hb10 (Y.move rfl) rfl rfl ?_
                refine LX.gT rfl rfl rfl hb10 (Y.nilCheck rfl) rfl rfl ?_
                first
                  | refine LX.gT rfl rfl rfl hb10 (Y.fieldAddr0 Fr.fo85_2 rfl) rfl rfl ?_
                  | refine LX.gT rfl rfl rfl hb10 (Y.fieldAddr Fr.fo85_2 rfl) rfl rfl ?_
                first
                  | refine LX.gT rfl rfl rfl hb10 (Y.ldB 0 F.one76 rfl rfl rfl) rfl rfl ?_
                  | refine LX.gT rfl rfl rfl hb10 (Y.ldB 1 F.one76 rfl rfl rfl) rfl rfl ?_
                  | refine LX.gT rfl rfl rfl hb10 (Y.ldB 2 F.one76 rfl rfl rfl) rfl rfl ?_
                  | refine LX.gT rfl rfl rfl hb10 (Y.ldB 3 F.one76 rfl rfl rfl) rfl rfl ?_
                refine LX.gT rfl rfl rfl hb10 (Y.lenSl rfl F.un76 rfl) rfl rfl ?_
                refine LX.gT rfl rfl rfl hb10 (Y.subN (a := σ.brk.length) (b := 1) rfl rfl (by have := List.length_pos_iff.2 ‹¬ σ.brk = []›; omega) (by omega)) rfl rfl ?_
                first
                  | refine LX.gT rfl rfl rfl hb10 (Y.idxR 0 F.un76 F.sz5 rfl rfl rfl (by first | omega | (simp; done) | (have := List.length_pos_iff.2 ‹¬ σ.brk = []›; omega))) rfl rfl ?_
                  | refine LX.gT rfl rfl rfl hb10 (Y.idxR 1 F.un76 F.sz5 rfl rfl rfl (by first | omega | (simp; done) | (have := List.length_pos_iff.2 ‹¬ σ.brk = []›; omega))) rfl rfl ?_
                  | refine LX.gT rfl rfl rfl hb10 (Y.idxR 2 F.un76 F.sz5 rfl rfl rfl (by first | omega | (simp; done) | (have := List.length_pos_iff.2 ‹¬ σ.brk = []›; omega))) rfl rfl ?_
                  | refine LX.gT rfl rfl rfl hb10 (Y.idxR 3 F.un76 F.sz5 rfl rfl rfl (by first | omega | (simp; done) | (have := List.length_pos_iff.2 ‹¬ σ.brk = []›; omega))) rfl rfl ?_
                  | refine LX.gT rfl rfl rfl hb10 (Y.idx F.un76 F.sz5 rfl rfl (by first | omega | (simp; done) | (have := List.length_pos_iff.2 ‹¬ σ.brk = []›; omega))) rfl rfl ?_
                refine LX.gT rfl rfl rfl hb10 (Y.ldR 3 (v := bytV (unc (σ.brk.getD (σ.brk.length - 1) 0))) F.one5 rfl rfl (by have hp0 := List.length_pos_iff.2 ‹¬ σ.brk = []›; rw [Nat.mul_one, List.getElem?_map, List.getElem?_eq_getElem (show σ.brk.length - 1 < σ.brk.length by omega)]; simp [List.getD, show σ.brk.length - 1 < σ.brk.length by omega])) rfl rfl ?_
                refine LX.gT rfl rfl rfl hb10 (Y.move rfl) rfl rfl ?_
                first
                  | refine LX.gT rfl rfl rfl hb10 (Y.neN rfl rfl) rfl rfl ?_
                  | refine LX.gT rfl rfl rfl hb10 (Y.neI rfl rfl) rfl rfl ?_
                refine LX.pure (Y.pickF rfl hb10 rfl) rfl rfl rfl ?_
                exact LX.left ⟨rfl, rfl, rfl, rfl, trivial⟩
              refine LX.sub (l' := [(0, _), (61, _)]) ⟨rfl, rfl, trivial⟩ ?_
              refine LX.nextQ ?_
              refine PX.thenN ?_
              refine CX.cond rfl (fun hb11 => ?_) (fun hb11 => ?_)
              · try simp at hb11
                refine CX.seq ?_
                refine CX.region ?_
                refine LX.pure (Y.move rfl) rfl rfl rfl ?_
                refine LX.pure (Y.move rfl) rfl rfl rfl ?_
                refine LX.pure (Y.nilCheck rfl) rfl rfl rfl ?_
                first
                  | refine LX.pure (Y.fieldAddr0 Fr.fo85_1 rfl) rfl rfl rfl ?_
                  | refine LX.pure (Y.fieldAddr Fr.fo85_1 rfl) rfl rfl rfl ?_
                first
                  | refine LX.pure (Y.ldB 0 F.one3 rfl rfl rfl) rfl rfl rfl ?_
                  | refine LX.pure (Y.ldB 1 F.one3 rfl rfl rfl) rfl rfl rfl ?_
                  | refine LX.pure (Y.ldB 2 F.one3 rfl rfl rfl) rfl rfl rfl ?_
                  | refine LX.pure (Y.ldB 3 F.one3 rfl rfl rfl) rfl rfl rfl ?_
                refine LX.call (fail4_c _) Fr.en48 rfl rfl rfl rfl rfl ?_
                intro _
                refine LX.sub (l' := [(0, _)]) ⟨rfl, trivial⟩ ?_
                refine LX.next ?_
                refine PX.thenN ?_
                refine CX.ret ?_
                refine PX.thenR ?_
                refine PX.blockR ?_
                refine PX.ret0 (by simp) Tryd.results77 ?_
                exact fun w hw => ⟨p, rfl, by rw [brkR_bad hb3 hb7 hb11]; exact hw⟩
              · try simp at hb11
                have hl0 := List.length_pos_iff.2 hb11.1
                refine CX.skip ?_
                refine PX.thenN ?_
                refine CX.regionM [(0, .anywhere), (1, .anywhere), (2, .anywhere), (3, .anywhere), (4, .held), (5, .anywhere), (6, .anywhere), (7, .anywhere), (8, .held), (9, .held), (10, .held), (11, .held), (12, .held), (13, .held), (14, .alone)] rfl (by kernel_rfl) ?_
                refine MX.lift0 (i := 0) rfl (Y.move rfl) rfl rfl rfl ?_
                refine MX.lift0 (i := 1) rfl (Y.move rfl) rfl rfl rfl ?_
                refine MX.lift0 (i := 2) rfl (Y.nilCheck rfl) rfl rfl rfl ?_
                first
                  | refine MX.lift0 (i := 3) rfl (Y.fieldAddr0 Fr.fo85_2 rfl) rfl rfl rfl ?_
                  | refine MX.lift0 (i := 3) rfl (Y.fieldAddr Fr.fo85_2 rfl) rfl rfl rfl ?_
                first
                  | refine MX.lift1 (i := 4) (pend' := []) rfl (fun w hw => by first | exact hw | exact hw.1 | exact hw.drop (List.sublist_cons_self _ _) | exact hw.drop ((List.sublist_cons_self _ _).cons _)) (Y.ldB 0 F.one76 rfl rfl rfl) rfl rfl rfl (by kernel_rfl) ?_
                  | refine MX.lift1 (i := 4) (pend' := []) rfl (fun w hw => by first | exact hw | exact hw.1 | exact hw.drop (List.sublist_cons_self _ _) | exact hw.drop ((List.sublist_cons_self _ _).cons _)) (Y.ldB 1 F.one76 rfl rfl rfl) rfl rfl rfl (by kernel_rfl) ?_
                  | refine MX.lift1 (i := 4) (pend' := []) rfl (fun w hw => by first | exact hw | exact hw.1 | exact hw.drop (List.sublist_cons_self _ _) | exact hw.drop ((List.sublist_cons_self _ _).cons _)) (Y.ldB 2 F.one76 rfl rfl rfl) rfl rfl rfl (by kernel_rfl) ?_
                  | refine MX.lift1 (i := 4) (pend' := []) rfl (fun w hw => by first | exact hw | exact hw.1 | exact hw.drop (List.sublist_cons_self _ _) | exact hw.drop ((List.sublist_cons_self _ _).cons _)) (Y.ldB 3 F.one76 rfl rfl rfl) rfl rfl rfl (by kernel_rfl) ?_
                refine MX.lift0 (i := 5) rfl (Y.move rfl) rfl rfl rfl ?_
                refine MX.lift0 (i := 6) rfl (Y.nilCheck rfl) rfl rfl rfl ?_
                first
                  | refine MX.lift0 (i := 7) rfl (Y.fieldAddr0 Fr.fo85_2 rfl) rfl rfl rfl ?_
                  | refine MX.lift0 (i := 7) rfl (Y.fieldAddr Fr.fo85_2 rfl) rfl rfl rfl ?_
                first
                  | refine MX.lift1 (i := 8) (pend' := [4]) rfl (fun w hw => by first | exact hw | exact hw.1 | exact hw.drop (List.sublist_cons_self _ _) | exact hw.drop ((List.sublist_cons_self _ _).cons _)) (Y.ldB 0 F.one76 rfl rfl rfl) rfl rfl rfl (by kernel_rfl) ?_
                  | refine MX.lift1 (i := 8) (pend' := [4]) rfl (fun w hw => by first | exact hw | exact hw.1 | exact hw.drop (List.sublist_cons_self _ _) | exact hw.drop ((List.sublist_cons_self _ _).cons _)) (Y.ldB 1 F.one76 rfl rfl rfl) rfl rfl rfl (by kernel_rfl) ?_
                  | refine MX.lift1 (i := 8) (pend' := [4]) rfl (fun w hw => by first | exact hw | exact hw.1 | exact hw.drop (List.sublist_cons_self _ _) | exact hw.drop ((List.sublist_cons_self _ _).cons _)) (Y.ldB 2 F.one76 rfl rfl rfl) rfl rfl rfl (by kernel_rfl) ?_
                  | refine MX.lift1 (i := 8) (pend' := [4]) rfl (fun w hw => by first | exact hw | exact hw.1 | exact hw.drop (List.sublist_cons_self _ _) | exact hw.drop ((List.sublist_cons_self _ _).cons _)) (Y.ldB 3 F.one76 rfl rfl rfl) rfl rfl rfl (by kernel_rfl) ?_
                refine MX.lift1 (i := 9) (pend' := [4]) rfl (fun w hw => by first | exact hw | exact hw.1 | exact hw.drop (List.sublist_cons_self _ _) | exact hw.drop ((List.sublist_cons_self _ _).cons _)) (Y.lenSl rfl F.un76 rfl) rfl rfl rfl (by kernel_rfl) ?_
                refine MX.lift1 (i := 10) (pend' := [4]) rfl (fun w hw => by first | exact hw | exact hw.1 | exact hw.drop (List.sublist_cons_self _ _) | exact hw.drop ((List.sublist_cons_self _ _).cons _)) (Y.subN (a := σ.brk.length) (b := 1) rfl rfl (by omega) (by omega)) rfl rfl rfl (by kernel_rfl) ?_
                first
                  | refine MX.lift1 (i := 11) (pend' := []) rfl (fun w hw => by first | exact hw | exact hw.1 | exact hw.drop (List.sublist_cons_self _ _) | exact hw.drop ((List.sublist_cons_self _ _).cons _)) (Y.cutR 0 F.un76 F.sz5 rfl rfl rfl (by first | omega | (simp; done) | (have := List.length_pos_iff.2 ‹¬ σ.brk = []›; omega))) rfl rfl rfl (by kernel_rfl) ?_
                  | refine MX.lift1 (i := 11) (pend' := []) rfl (fun w hw => by first | exact hw | exact hw.1 | exact hw.drop (List.sublist_cons_self _ _) | exact hw.drop ((List.sublist_cons_self _ _).cons _)) (Y.cutR 1 F.un76 F.sz5 rfl rfl rfl (by first | omega | (simp; done) | (have := List.length_pos_iff.2 ‹¬ σ.brk = []›; omega))) rfl rfl rfl (by kernel_rfl) ?_
                  | refine MX.lift1 (i := 11) (pend' := []) rfl (fun w hw => by first | exact hw | exact hw.1 | exact hw.drop (List.sublist_cons_self _ _) | exact hw.drop ((List.sublist_cons_self _ _).cons _)) (Y.cutR 2 F.un76 F.sz5 rfl rfl rfl (by first | omega | (simp; done) | (have := List.length_pos_iff.2 ‹¬ σ.brk = []›; omega))) rfl rfl rfl (by kernel_rfl) ?_
                  | refine MX.lift1 (i := 11) (pend' := []) rfl (fun w hw => by first | exact hw | exact hw.1 | exact hw.drop (List.sublist_cons_self _ _) | exact hw.drop ((List.sublist_cons_self _ _).cons _)) (Y.cutR 3 F.un76 F.sz5 rfl rfl rfl (by first | omega | (simp; done) | (have := List.length_pos_iff.2 ‹¬ σ.brk = []›; omega))) rfl rfl rfl (by kernel_rfl) ?_
                  | refine MX.lift1 (i := 11) (pend' := []) rfl (fun w hw => by first | exact hw | exact hw.1 | exact hw.drop (List.sublist_cons_self _ _) | exact hw.drop ((List.sublist_cons_self _ _).cons _)) (Y.cutHi F.un76 F.sz5 rfl rfl (by first | omega | (simp; done) | (have := List.length_pos_iff.2 ‹¬ σ.brk = []›; omega))) rfl rfl rfl (by kernel_rfl) ?_
                refine MX.lift1 (i := 12) (pend' := []) rfl (fun w hw => by first | exact hw | exact hw.1 | exact hw.drop (List.sublist_cons_self _ _) | exact hw.drop ((List.sublist_cons_self _ _).cons _)) (Y.nilCheck rfl) rfl rfl rfl (by kernel_rfl) ?_
                first
                  | refine MX.lift1 (i := 13) (pend' := []) rfl (fun w hw => by first | exact hw | exact hw.1 | exact hw.drop (List.sublist_cons_self _ _) | exact hw.drop ((List.sublist_cons_self _ _).cons _)) (Y.fieldAddr0 Fr.fo85_2 rfl) rfl rfl rfl (by kernel_rfl) ?_
                  | refine MX.lift1 (i := 13) (pend' := []) rfl (fun w hw => by first | exact hw | exact hw.1 | exact hw.drop (List.sublist_cons_self _ _) | exact hw.drop ((List.sublist_cons_self _ _).cons _)) (Y.fieldAddr Fr.fo85_2 rfl) rfl rfl rfl (by kernel_rfl) ?_
                refine MX.force (i := 14) rfl ?_
                first
                  | refine LX.storeB 0 F.sz76 rfl rfl rfl rfl rfl rfl rfl rfl ?_
                  | refine LX.storeB 1 F.sz76 rfl rfl rfl rfl rfl rfl rfl rfl ?_
                  | refine LX.storeB 2 F.sz76 rfl rfl rfl rfl rfl rfl rfl rfl ?_
                  | refine LX.storeB 3 F.sz76 rfl rfl rfl rfl rfl rfl rfl rfl ?_
                refine LX.world (W' := WA w0 base (rfI B { σ with brk := σ.brk.dropLast } none p fr)) (fun w hw => by
                  have h1 := hw.cut (i := 3) (k := σ.brk.length - 1) rfl (Nat.sub_le _ _)
                  simpa [rfI, List.dropLast_eq_take, List.map_take] using h1) ?_
                refine LX.nextM [] (by kernel_rfl) (fun h => absurd rfl h) ?_
                refine MX.sub (l' := []) trivial ?_
                refine MX.done ?_
                refine PX.blockN ?_
                refine PX.ret0 (by simp) Tryd.results77 ?_
                exact fun w hw => ⟨p, rfl, by rw [brkR_ok hb3 hb7 hcl hb11.1 hb11.2]; exact hw⟩
          · try simp at hb8
            refine CX.skip ?_
            refine PX.thenN ?_
            refine CX.seqM (τ := Unit) (fun _ => [(0, .pointer (some ⟨B, 0, none⟩)), (1, .int .u8 (c : Int)), (4, .int .u8 (unc c : Int))]) (fun _ w => WA w0 base (rfI B σ none p fr) w) ?_ ?_
            ·
              refine CX.seq ?_
              refine CX.region ?_
              refine LX.pure (Y.move rfl) rfl rfl rfl ?_
              first
                | refine LX.pure (Y.eqN rfl rfl) rfl rfl rfl ?_
                | refine LX.pure (Y.eqI rfl rfl) rfl rfl rfl ?_
              refine LX.sub (l' := [(0, _), (1, _), (4, _), (39, _)]) ⟨rfl, rfl, rfl, rfl, trivial⟩ ?_
              refine LX.next ?_
              refine PX.thenN ?_
              refine CX.cond rfl (fun hb12 => ?_) (fun hb12 => ?_)
              · try simp at hb12
                refine CX.region ?_
                refine LX.pure (Y.assign rfl) rfl rfl rfl ?_
                refine LX.sub (l' := [(0, _), (1, _), (4, _)]) ⟨rfl, rfl, rfl, trivial⟩ ?_
                refine LX.next ?_
                exact PX.seam () ⟨rfl, rfl, by subst hb12; rfl, trivial⟩ (fun w hw => hw)
              · try simp at hb12
                refine CX.skip ?_
                exact PX.seam () ⟨rfl, rfl, by rw [unc_41 hb7 hb8 hb12]; rfl, trivial⟩ (fun w hw => hw)
            ·
              intro _
              refine CX.seq ?_
              refine CX.seq ?_
              refine CX.regionQ rfl (by kernel_rfl) ?_
              refine LX.pure (Y.move rfl) rfl rfl rfl ?_
              refine LX.pure (Y.nilCheck rfl) rfl rfl rfl ?_
              first
                | refine LX.pure (Y.fieldAddr0 Fr.fo85_2 rfl) rfl rfl rfl ?_
                | refine LX.pure (Y.fieldAddr Fr.fo85_2 rfl) rfl rfl rfl ?_
              first
                | refine LX.pure (Y.ldB 0 F.one76 rfl rfl rfl) rfl rfl rfl ?_
                | refine LX.pure (Y.ldB 1 F.one76 rfl rfl rfl) rfl rfl rfl ?_
                | refine LX.pure (Y.ldB 2 F.one76 rfl rfl rfl) rfl rfl rfl ?_
                | refine LX.pure (Y.ldB 3 F.one76 rfl rfl rfl) rfl rfl rfl ?_
              refine LX.pure (Y.lenSl rfl F.un76 rfl) rfl rfl rfl ?_
              first
                | refine LX.pure (Y.eqN rfl rfl) rfl rfl rfl ?_
                | refine LX.pure (Y.eqI rfl rfl) rfl rfl rfl ?_
              refine LX.pure (Y.move rfl) rfl rfl rfl ?_
              refine LX.sub (l' := [(0, _), (4, _), (46, _)]) ⟨rfl, rfl, rfl, trivial⟩ ?_
              apply LX.joinOr 15 61 46 rfl
              · intro hb13
                have hb13p := hb13
                try simp at hb13p
                refine LX.gF rfl rfl rfl hb13 rfl rfl ?_
                refine LX.gF rfl rfl rfl hb13 rfl rfl ?_
                refine LX.gF rfl rfl rfl hb13 rfl rfl ?_
                refine LX.gF rfl rfl rfl hb13 rfl rfl ?_
                refine LX.gF rfl rfl rfl hb13 rfl rfl ?_
                refine LX.gF rfl rfl rfl hb13 rfl rfl ?_
                refine LX.gF rfl rfl rfl hb13 rfl rfl ?_
                refine LX.gF rfl rfl rfl hb13 rfl rfl ?_
                refine LX.gF rfl rfl rfl hb13 rfl rfl ?_
                refine LX.gF rfl rfl rfl hb13 rfl rfl ?_
                refine LX.gF rfl rfl rfl hb13 rfl rfl ?_
                refine LX.gF rfl rfl rfl hb13 rfl rfl ?_
                refine LX.gF rfl rfl rfl hb13 rfl rfl ?_
                refine LX.gF rfl rfl rfl hb13 rfl rfl ?_
                refine LX.pure (Y.pickT rfl hb13 rfl) rfl rfl rfl ?_
                exact LX.left ⟨rfl, rfl, rfl, rfl, trivial⟩
              · intro hb13
                have hb13p := hb13
                try simp at hb13p
                refine LX.gT rfl rfl rfl hb13 (Y.move rfl) rfl rfl ?_
                refine LX.gT rfl rfl rfl hb13 (Y.nilCheck rfl) rfl rfl ?_
                first
                  | refine LX.gT rfl rfl rfl hb13 (Y.fieldAddr0 Fr.fo85_2 rfl) rfl rfl ?_
                  | refine LX.gT rfl rfl rfl hb13 (Y.fieldAddr Fr.fo85_2 rfl) rfl rfl ?_
                first
                  | refine LX.gT rfl rfl rfl hb13 (Y.ldB 0 F.one76 rfl rfl rfl) rfl rfl ?_
                  | refine LX.gT rfl rfl rfl hb13 (Y.ldB 1 F.one76 rfl rfl rfl) rfl rfl ?_
                  | refine LX.gT rfl rfl rfl hb13 (Y.ldB 2 F.one76 rfl rfl rfl) rfl rfl ?_
                  | refine LX.gT rfl rfl rfl hb13 (Y.ldB 3 F.one76 rfl rfl rfl) rfl rfl ?_
                refine LX.gT rfl rfl rfl hb13 (Y.move rfl) rfl rfl ?_
                refine LX.gT rfl rfl rfl hb13 (Y.nilCheck rfl) rfl rfl ?_
                first
                  | refine LX.gT rfl rfl rfl hb13 (Y.fieldAddr0 Fr.fo85_2 rfl) rfl rfl ?_
                  | refine LX.gT rfl rfl rfl hb13 (Y.fieldAddr Fr.fo85_2 rfl) rfl rfl ?_
                first
                  | refine LX.gT rfl rfl rfl hb13 (Y.ldB 0 F.one76 rfl rfl rfl) rfl rfl ?_
                  | refine LX.gT rfl rfl rfl hb13 (Y.ldB 1 F.one76 rfl rfl rfl) rfl rfl ?_
                  | refine LX.gT rfl rfl rfl hb13 (Y.ldB 2 F.one76 rfl rfl rfl) rfl rfl ?_
                  | refine LX.gT rfl rfl rfl hb13 (Y.ldB 3 F.one76 rfl rfl rfl) rfl rfl ?_
                refine LX.gT rfl rfl rfl hb13 (Y.lenSl rfl F.un76 rfl) rfl rfl ?_
                refine LX.gT rfl rfl rfl hb13 (Y.subN (a := σ.brk.length) (b := 1) rfl rfl (by have := List.length_pos_iff.2 ‹¬ σ.brk = []›; omega) (by omega)) rfl rfl ?_
                first
                  | refine LX.gT rfl rfl rfl hb13 (Y.idxR 0 F.un76 F.sz5 rfl rfl rfl (by first | omega | (simp; done) | (have := List.length_pos_iff.2 ‹¬ σ.brk = []›; omega))) rfl rfl ?_
                  | refine LX.gT rfl rfl rfl hb13 (Y.idxR 1 F.un76 F.sz5 rfl rfl rfl (by first | omega | (simp; done) | (have := List.length_pos_iff.2 ‹¬ σ.brk = []›; omega))) rfl rfl ?_
                  | refine LX.gT rfl rfl rfl hb13 (Y.idxR 2 F.un76 F.sz5 rfl rfl rfl (by first | omega | (simp; done) | (have := List.length_pos_iff.2 ‹¬ σ.brk = []›; omega))) rfl rfl ?_
                  | refine LX.gT rfl rfl rfl hb13 (Y.idxR 3 F.un76 F.sz5 rfl rfl rfl (by first | omega | (simp; done) | (have := List.length_pos_iff.2 ‹¬ σ.brk = []›; omega))) rfl rfl ?_
                  | refine LX.gT rfl rfl rfl hb13 (Y.idx F.un76 F.sz5 rfl rfl (by first | omega | (simp; done) | (have := List.length_pos_iff.2 ‹¬ σ.brk = []›; omega))) rfl rfl ?_
                refine LX.gT rfl rfl rfl hb13 (Y.ldR 3 (v := bytV (unc (σ.brk.getD (σ.brk.length - 1) 0))) F.one5 rfl rfl (by have hp0 := List.length_pos_iff.2 ‹¬ σ.brk = []›; rw [Nat.mul_one, List.getElem?_map, List.getElem?_eq_getElem (show σ.brk.length - 1 < σ.brk.length by omega)]; simp [List.getD, show σ.brk.length - 1 < σ.brk.length by omega])) rfl rfl ?_
                refine LX.gT rfl rfl rfl hb13 (Y.move rfl) rfl rfl ?_
                first
                  | refine LX.gT rfl rfl rfl hb13 (Y.neN rfl rfl) rfl rfl ?_
                  | refine LX.gT rfl rfl rfl hb13 (Y.neI rfl rfl) rfl rfl ?_
                refine LX.pure (Y.pickF rfl hb13 rfl) rfl rfl rfl ?_
                exact LX.left ⟨rfl, rfl, rfl, rfl, trivial⟩
              refine LX.sub (l' := [(0, _), (61, _)]) ⟨rfl, rfl, trivial⟩ ?_
              refine LX.nextQ ?_
              refine PX.thenN ?_
              refine CX.cond rfl (fun hb14 => ?_) (fun hb14 => ?_)
              · try simp at hb14
                refine CX.seq ?_
                refine CX.region ?_
                refine LX.pure (Y.move rfl) rfl rfl rfl ?_
                refine LX.pure (Y.move rfl) rfl rfl rfl ?_
                refine LX.pure (Y.nilCheck rfl) rfl rfl rfl ?_
                first
                  | refine LX.pure (Y.fieldAddr0 Fr.fo85_1 rfl) rfl rfl rfl ?_
                  | refine LX.pure (Y.fieldAddr Fr.fo85_1 rfl) rfl rfl rfl ?_
                first
                  | refine LX.pure (Y.ldB 0 F.one3 rfl rfl rfl) rfl rfl rfl ?_
                  | refine LX.pure (Y.ldB 1 F.one3 rfl rfl rfl) rfl rfl rfl ?_
                  | refine LX.pure (Y.ldB 2 F.one3 rfl rfl rfl) rfl rfl rfl ?_
                  | refine LX.pure (Y.ldB 3 F.one3 rfl rfl rfl) rfl rfl rfl ?_
                refine LX.call (fail4_c _) Fr.en48 rfl rfl rfl rfl rfl ?_
                intro _
                refine LX.sub (l' := [(0, _)]) ⟨rfl, trivial⟩ ?_
                refine LX.next ?_
                refine PX.thenN ?_
                refine CX.ret ?_
                refine PX.thenR ?_
                refine PX.blockR ?_
                refine PX.ret0 (by simp) Tryd.results77 ?_
                exact fun w hw => ⟨p, rfl, by rw [brkR_bad hb3 hb7 hb14]; exact hw⟩
              · try simp at hb14
                have hl0 := List.length_pos_iff.2 hb14.1
                refine CX.skip ?_
                refine PX.thenN ?_
                refine CX.regionM [(0, .anywhere), (1, .anywhere), (2, .anywhere), (3, .anywhere), (4, .held), (5, .anywhere), (6, .anywhere), (7, .anywhere), (8, .held), (9, .held), (10, .held), (11, .held), (12, .held), (13, .held), (14, .alone)] rfl (by kernel_rfl) ?_
                refine MX.lift0 (i := 0) rfl (Y.move rfl) rfl rfl rfl ?_
                refine MX.lift0 (i := 1) rfl (Y.move rfl) rfl rfl rfl ?_
                refine MX.lift0 (i := 2) rfl (Y.nilCheck rfl) rfl rfl rfl ?_
                first
                  | refine MX.lift0 (i := 3) rfl (Y.fieldAddr0 Fr.fo85_2 rfl) rfl rfl rfl ?_
                  | refine MX.lift0 (i := 3) rfl (Y.fieldAddr Fr.fo85_2 rfl) rfl rfl rfl ?_
                first
                  | refine MX.lift1 (i := 4) (pend' := []) rfl (fun w hw => by first | exact hw | exact hw.1 | exact hw.drop (List.sublist_cons_self _ _) | exact hw.drop ((List.sublist_cons_self _ _).cons _)) (Y.ldB 0 F.one76 rfl rfl rfl) rfl rfl rfl (by kernel_rfl) ?_
                  | refine MX.lift1 (i := 4) (pend' := []) rfl (fun w hw => by first | exact hw | exact hw.1 | exact hw.drop (List.sublist_cons_self _ _) | exact hw.drop ((List.sublist_cons_self _ _).cons _)) (Y.ldB 1 F.one76 rfl rfl rfl) rfl rfl rfl (by kernel_rfl) ?_
                  | refine MX.lift1 (i := 4) (pend' := []) rfl (fun w hw => by first | exact hw | exact hw.1 | exact hw.drop (List.sublist_cons_self _ _) | exact hw.drop ((List.sublist_cons_self _ _).cons _)) (Y.ldB 2 F.one76 rfl rfl rfl) rfl rfl rfl (by kernel_rfl) ?_
                  | refine MX.lift1 (i := 4) (pend' := []) rfl (fun w hw => by first | exact hw | exact hw.1 | exact hw.drop (List.sublist_cons_self _ _) | exact hw.drop ((List.sublist_cons_self _ _).cons _)) (Y.ldB 3 F.one76 rfl rfl rfl) rfl rfl rfl (by kernel_rfl) ?_
                refine MX.lift0 (i := 5) rfl (Y.move rfl) rfl rfl rfl ?_
                refine MX.lift0 (i := 6) rfl (Y.nilCheck rfl) rfl rfl rfl ?_
                first
                  | refine MX.lift0 (i := 7) rfl (Y.fieldAddr0 Fr.fo85_2 rfl) rfl rfl rfl ?_
                  | refine MX.lift0 (i := 7) rfl (Y.fieldAddr Fr.fo85_2 rfl) rfl rfl rfl ?_
                first
                  | refine MX.lift1 (i := 8) (pend' := [4]) rfl (fun w hw => by first | exact hw | exact hw.1 | exact hw.drop (List.sublist_cons_self _ _) | exact hw.drop ((List.sublist_cons_self _ _).cons _)) (Y.ldB 0 F.one76 rfl rfl rfl) rfl rfl rfl (by kernel_rfl) ?_
                  | refine MX.lift1 (i := 8) (pend' := [4]) rfl (fun w hw => by first | exact hw | exact hw.1 | exact hw.drop (List.sublist_cons_self _ _) | exact hw.drop ((List.sublist_cons_self _ _).cons _)) (Y.ldB 1 F.one76 rfl rfl rfl) rfl rfl rfl (by kernel_rfl) ?_
                  | refine MX.lift1 (i := 8) (pend' := [4]) rfl (fun w hw => by first | exact hw | exact hw.1 | exact hw.drop (List.sublist_cons_self _ _) | exact hw.drop ((List.sublist_cons_self _ _).cons _)) (Y.ldB 2 F.one76 rfl rfl rfl) rfl rfl rfl (by kernel_rfl) ?_
                  | refine MX.lift1 (i := 8) (pend' := [4]) rfl (fun w hw => by first | exact hw | exact hw.1 | exact hw.drop (List.sublist_cons_self _ _) | exact hw.drop ((List.sublist_cons_self _ _).cons _)) (Y.ldB 3 F.one76 rfl rfl rfl) rfl rfl rfl (by kernel_rfl) ?_
                refine MX.lift1 (i := 9) (pend' := [4]) rfl (fun w hw => by first | exact hw | exact hw.1 | exact hw.drop (List.sublist_cons_self _ _) | exact hw.drop ((List.sublist_cons_self _ _).cons _)) (Y.lenSl rfl F.un76 rfl) rfl rfl rfl (by kernel_rfl) ?_
                refine MX.lift1 (i := 10) (pend' := [4]) rfl (fun w hw => by first | exact hw | exact hw.1 | exact hw.drop (List.sublist_cons_self _ _) | exact hw.drop ((List.sublist_cons_self _ _).cons _)) (Y.subN (a := σ.brk.length) (b := 1) rfl rfl (by omega) (by omega)) rfl rfl rfl (by kernel_rfl) ?_
                first
                  | refine MX.lift1 (i := 11) (pend' := []) rfl (fun w hw => by first | exact hw | exact hw.1 | exact hw.drop (List.sublist_cons_self _ _) | exact hw.drop ((List.sublist_cons_self _ _).cons _)) (Y.cutR 0 F.un76 F.sz5 rfl rfl rfl (by first | omega | (simp; done) | (have := List.length_pos_iff.2 ‹¬ σ.brk = []›; omega))) rfl rfl rfl (by kernel_rfl) ?_
                  | refine MX.lift1 (i := 11) (pend' := []) rfl (fun w hw => by first | exact hw | exact hw.1 | exact hw.drop (List.sublist_cons_self _ _) | exact hw.drop ((List.sublist_cons_self _ _).cons _)) (Y.cutR 1 F.un76 F.sz5 rfl rfl rfl (by first | omega | (simp; done) | (have := List.length_pos_iff.2 ‹¬ σ.brk = []›; omega))) rfl rfl rfl (by kernel_rfl) ?_
                  | refine MX.lift1 (i := 11) (pend' := []) rfl (fun w hw => by first | exact hw | exact hw.1 | exact hw.drop (List.sublist_cons_self _ _) | exact hw.drop ((List.sublist_cons_self _ _).cons _)) (Y.cutR 2 F.un76 F.sz5 rfl rfl rfl (by first | omega | (simp; done) | (have := List.length_pos_iff.2 ‹¬ σ.brk = []›; omega))) rfl rfl rfl (by kernel_rfl) ?_
                  | refine MX.lift1 (i := 11) (pend' := []) rfl (fun w hw => by first | exact hw | exact hw.1 | exact hw.drop (List.sublist_cons_self _ _) | exact hw.drop ((List.sublist_cons_self _ _).cons _)) (Y.cutR 3 F.un76 F.sz5 rfl rfl rfl (by first | omega | (simp; done) | (have := List.length_pos_iff.2 ‹¬ σ.brk = []›; omega))) rfl rfl rfl (by kernel_rfl) ?_
                  | refine MX.lift1 (i := 11) (pend' := []) rfl (fun w hw => by first | exact hw | exact hw.1 | exact hw.drop (List.sublist_cons_self _ _) | exact hw.drop ((List.sublist_cons_self _ _).cons _)) (Y.cutHi F.un76 F.sz5 rfl rfl (by first | omega | (simp; done) | (have := List.length_pos_iff.2 ‹¬ σ.brk = []›; omega))) rfl rfl rfl (by kernel_rfl) ?_
                refine MX.lift1 (i := 12) (pend' := []) rfl (fun w hw => by first | exact hw | exact hw.1 | exact hw.drop (List.sublist_cons_self _ _) | exact hw.drop ((List.sublist_cons_self _ _).cons _)) (Y.nilCheck rfl) rfl rfl rfl (by kernel_rfl) ?_
                first
                  | refine MX.lift1 (i := 13) (pend' := []) rfl (fun w hw => by first | exact hw | exact hw.1 | exact hw.drop (List.sublist_cons_self _ _) | exact hw.drop ((List.sublist_cons_self _ _).cons _)) (Y.fieldAddr0 Fr.fo85_2 rfl) rfl rfl rfl (by kernel_rfl) ?_
                  | refine MX.lift1 (i := 13) (pend' := []) rfl (fun w hw => by first | exact hw | exact hw.1 | exact hw.drop (List.sublist_cons_self _ _) | exact hw.drop ((List.sublist_cons_self _ _).cons _)) (Y.fieldAddr Fr.fo85_2 rfl) rfl rfl rfl (by kernel_rfl) ?_
                refine MX.force (i := 14) rfl ?_
                first
                  | refine LX.storeB 0 F.sz76 rfl rfl rfl rfl rfl rfl rfl rfl ?_
                  | refine LX.storeB 1 F.sz76 rfl rfl rfl rfl rfl rfl rfl rfl ?_
                  | refine LX.storeB 2 F.sz76 rfl rfl rfl rfl rfl rfl rfl rfl ?_
                  | refine LX.storeB 3 F.sz76 rfl rfl rfl rfl rfl rfl rfl rfl ?_
                refine LX.world (W' := WA w0 base (rfI B { σ with brk := σ.brk.dropLast } none p fr)) (fun w hw => by
                  have h1 := hw.cut (i := 3) (k := σ.brk.length - 1) rfl (Nat.sub_le _ _)
                  simpa [rfI, List.dropLast_eq_take, List.map_take] using h1) ?_
                refine LX.nextM [] (by kernel_rfl) (fun h => absurd rfl h) ?_
                refine MX.sub (l' := []) trivial ?_
                refine MX.done ?_
                refine PX.blockN ?_
                refine PX.ret0 (by simp) Tryd.results77 ?_
                exact fun w hw => ⟨p, rfl, by rw [brkR_ok hb3 hb7 hcl hb14.1 hb14.2]; exact hw⟩
        · try simp at hb7
          refine CX.skip ?_
          refine PX.blockN ?_
          refine PX.ret0 (by simp) Tryd.results77 ?_
          exact fun w hw => ⟨p, rfl, by simp only [Sc.brkR, hb3, hb7]; exact hw⟩

end Go.Proofs.YtggoogbloaennaaDoor
