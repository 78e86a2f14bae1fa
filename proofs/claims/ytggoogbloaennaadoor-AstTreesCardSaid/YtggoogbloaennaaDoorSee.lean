/-
  Proved here: how errors are told apart: the walks of smithysee and of smithyref's faults.
-/
import Derived.Test.YtggoogbloaennaaDoorFs
import Derived.Test.YtggoogbloaennaaDoorLexA
import Derived.Test.YtggoogbloaennaaDoorAgg
namespace Go.Proofs.YtggoogbloaennaaDoor
open Go.SX Go.RowKit Go.Lex
/-- an error of package errors -/
@[reducible] def errV (a : Addr) : Value := .iface 143 (.pointer (some a))
def sentG : List Nat := [3, 4, 5, 6, 7, 8, 9, 2, 10, 0, 11, 12, 1, 13, 14, 15, 16]
/-- the variables that hold api's errors: each holds one of its own -/
structure EnvS (w0 : World) (base : Nat) (aE : Nat → Addr) : Prop where
  at_ : ∀ i g, sentG[i]? = some g → w0.cell? ⟨g, 0, none⟩ = some (errV (aE i))
  lt : ∀ g ∈ sentG, g < base
  blk : ∀ i, i < 17 → (aE i).block < base ∧ ∃ c t, w0.heap[(aE i).block]? = some (.cells c t (0, 0))
  ne : ∀ i j, i < 17 → j < 17 → i ≠ j → aE i ≠ aE j
structure Flt where
  code : Int
  placed : Bool
  pos : Int
  filed : Bool
  file : List UInt8
  deriving DecidableEq
@[reducible] def Flt.v (x : Flt) : Value := .agg #[.int .i64 x.code, .bool x.placed, .int .i64 x.pos, .bool x.filed, str x.file]
theorem sent_cell {aE : Nat → Addr} {k : Nat} (h : k < 17) : ((List.range 17).map fun i => errV (aE i))[k * 1]? = some (errV (aE k)) := by
  rw [Nat.mul_one, List.getElem?_map, List.getElem?_range h]; rfl
theorem Y.alike {l : Fr} {W : World → Prop} {w0 : World} {base : Nat} {aE : Nat → Addr} (hS : EnvS w0 base aE) (hW : ∀ w, W w → Below base w0 w) {i j : Nat} (hi : i < 17) (hj : j < 17) {x y : Operand} {ty ty2 : TypeId}
    (hx : evl l x = some (errV (aE i))) (hy : evl l y = some (errV (aE j))) : Y Tryd.prog l W (.binOp .eql 29 x y ty2) ty (.bool (decide (i = j))) := by
  by_cases h : i = j
  · subst h
    rw [show decide (i = i) = true by simp]
    exact Y.eqSame F.un29 Fs.cp143 hx hy
  · rw [show decide (i = j) = false by simp [h]]
    refine Y.eqOther F.un29 Fs.cp143 (hS.ne i j hi hj h) (fun w hw => ?_) (fun w hw => ?_) hx hy
    · obtain ⟨h1, c, t, h2⟩ := hS.blk i hi
      exact ⟨c, t, ((hW w hw).block _ h1).trans h2⟩
    · obtain ⟨h1, c, t, h2⟩ := hS.blk j hj
      exact ⟨c, t, ((hW w hw).block _ h1).trans h2⟩

theorem sentinels_c {w0 : World} {base : Nat} {fr : List It} {aE : Nat → Addr} (hS : EnvS w0 base aE) : FnC Tryd.prog 113 #[] (WA w0 base fr) (fun b : Nat => .slice (some ⟨b, 0, none⟩) 17 17) (fun b => WA w0 base (.row (some b) 17 17 29 1 ((List.range 17).map fun i => errV (aE i)) :: fr)) := by
  refine FnC.of_body (fn := Tryd.f113) [] Tryd.func113 rfl Tryd.ntmps113 rfl trivial ?_
  refine CX.seq ?_
  refine CX.region ?_
  refine LX.pure (Y.assign rfl) rfl rfl rfl ?_
  refine LX.sub (l' := [(0, _)]) ⟨rfl, trivial⟩ ?_
  refine LX.next ?_
  refine PX.thenN ?_
  refine CX.seq ?_
  refine CX.region ?_
  refine LX.pure (Y.ldO F.one29 rfl (hS.at_ 0 3 rfl) (hS.lt 3 (by decide))) rfl rfl rfl ?_
  refine LX.pure (Y.ldO F.one29 rfl (hS.at_ 1 4 rfl) (hS.lt 4 (by decide))) rfl rfl rfl ?_
  refine LX.pure (Y.ldO F.one29 rfl (hS.at_ 2 5 rfl) (hS.lt 5 (by decide))) rfl rfl rfl ?_
  refine LX.pure (Y.ldO F.one29 rfl (hS.at_ 3 6 rfl) (hS.lt 6 (by decide))) rfl rfl rfl ?_
  refine LX.pure (Y.ldO F.one29 rfl (hS.at_ 4 7 rfl) (hS.lt 7 (by decide))) rfl rfl rfl ?_
  refine LX.pure (Y.ldO F.one29 rfl (hS.at_ 5 8 rfl) (hS.lt 8 (by decide))) rfl rfl rfl ?_
  refine LX.pure (Y.ldO F.one29 rfl (hS.at_ 6 9 rfl) (hS.lt 9 (by decide))) rfl rfl rfl ?_
  refine LX.pure (Y.ldO F.one29 rfl (hS.at_ 7 2 rfl) (hS.lt 2 (by decide))) rfl rfl rfl ?_
  refine LX.pure (Y.ldO F.one29 rfl (hS.at_ 8 10 rfl) (hS.lt 10 (by decide))) rfl rfl rfl ?_
  refine LX.pure (Y.ldO F.one29 rfl (hS.at_ 9 0 rfl) (hS.lt 0 (by decide))) rfl rfl rfl ?_
  refine LX.pure (Y.ldO F.one29 rfl (hS.at_ 10 11 rfl) (hS.lt 11 (by decide))) rfl rfl rfl ?_
  refine LX.pure (Y.ldO F.one29 rfl (hS.at_ 11 12 rfl) (hS.lt 12 (by decide))) rfl rfl rfl ?_
  refine LX.pure (Y.ldO F.one29 rfl (hS.at_ 12 1 rfl) (hS.lt 1 (by decide))) rfl rfl rfl ?_
  refine LX.pure (Y.ldO F.one29 rfl (hS.at_ 13 13 rfl) (hS.lt 13 (by decide))) rfl rfl rfl ?_
  refine LX.pure (Y.ldO F.one29 rfl (hS.at_ 14 14 rfl) (hS.lt 14 (by decide))) rfl rfl rfl ?_
  refine LX.pure (Y.ldO F.one29 rfl (hS.at_ 15 15 rfl) (hS.lt 15 (by decide))) rfl rfl rfl ?_
  refine LX.pure (Y.ldO F.one29 rfl (hS.at_ 16 16 rfl) (hS.lt 16 (by decide))) rfl rfl rfl ?_
  refine LX.buildSlice (e := 29) (size := 1) rfl rfl (fun _ => by kernel_rfl) rfl (by decide) rfl rfl rfl ?_
  intro gt18
  refine LX.pure (Y.assign rfl) rfl rfl rfl ?_
  refine LX.sub (l' := [(0, _)]) ⟨rfl, trivial⟩ ?_
  refine LX.next ?_
  refine PX.thenN ?_
  refine CX.ret ?_
  refine PX.ret1 (by simp) Tryd.results113 rfl ?_
  exact fun w hw => ⟨_, rfl, hw⟩

theorem alike_q {W : World → Prop} [Stab W] {w0 : World} {base : Nat} {aE : Nat → Addr} (hS : EnvS w0 base aE) (hB : ∀ w, W w → Below base w0 w) {i j : Nat} (hi : i < 17) (hj : j < 17) : FnQ Tryd.prog 114 #[errV (aE i), errV (aE j)] W (.bool (decide (i = j))) := by
  refine FnQ.all fun W' _ hW => ?_
  refine FnC.of_body (fn := Tryd.f114) [(0, _), (1, _)] Tryd.func114 rfl Tryd.ntmps114 rfl ⟨rfl, rfl, trivial⟩ ?_
  refine CX.seq ?_
  refine CX.region ?_
  refine LX.pure (Y.assign rfl) rfl rfl rfl ?_
  refine LX.sub (l' := [(0, _), (1, _), (4, _)]) ⟨rfl, rfl, rfl, trivial⟩ ?_
  refine LX.next ?_
  refine PX.thenN ?_
  refine CX.seq ?_
  refine CX.seq ?_
  refine CX.region ?_
  refine LX.pure (Y.move rfl) rfl rfl rfl ?_
  first
    | refine LX.pure (Y.eqNil F.un29 rfl rfl) rfl rfl rfl ?_
    | refine LX.pure (Y.eqNilNil F.un29 rfl) rfl rfl rfl ?_
  refine LX.pure (Y.move rfl) rfl rfl rfl ?_
  refine LX.sub (l' := [(0, _), (1, _), (4, _), (7, _)]) ⟨rfl, rfl, rfl, rfl, trivial⟩ ?_
  apply LX.joinOr 3 10 7 rfl
  · intro hb1
    cases hb1
  · intro hb1
    have hb1p := hb1
    try simp at hb1p
    refine LX.gT rfl rfl rfl hb1 (Y.move rfl) rfl rfl ?_
    first
      | refine LX.gT rfl rfl rfl hb1 (Y.eqNil F.un29 rfl rfl) rfl rfl ?_
      | refine LX.gT rfl rfl rfl hb1 (Y.eqNilNil F.un29 rfl) rfl rfl ?_
    refine LX.pure (Y.pickF rfl hb1 rfl) rfl rfl rfl ?_
    exact LX.left ⟨rfl, rfl, rfl, rfl, rfl, trivial⟩
  refine LX.sub (l' := [(0, _), (1, _), (4, _), (10, _)]) ⟨rfl, rfl, rfl, rfl, trivial⟩ ?_
  refine LX.next ?_
  refine PX.thenN ?_
  refine CX.cond rfl (fun hb2 => ?_) (fun hb2 => ?_)
  · try simp at hb2
    first | done | cases hb2
  · try simp at hb2
    refine CX.skip ?_
    refine PX.thenN ?_
    refine CX.seq ?_
    refine CX.region ?_
    refine LX.pure (Y.move rfl) rfl rfl rfl ?_
    refine LX.pure (Y.move rfl) rfl rfl rfl ?_
    refine LX.pure (Y.alike hS (fun w hw => hB w (hW w hw)) hi hj rfl rfl) rfl rfl rfl ?_
    refine LX.pure (Y.assign rfl) rfl rfl rfl ?_
    refine LX.sub (l' := [(4, _)]) ⟨rfl, trivial⟩ ?_
    refine LX.next ?_
    refine PX.thenN ?_
    refine CX.ret ?_
    refine PX.ret1 (by simp) Tryd.results114 rfl ?_
    exact fun w hw => ⟨(), rfl, hw⟩

theorem sentinel_c {w0 : World} {base : Nat} {fr : List It} {aE : Nat → Addr} (hS : EnvS w0 base aE) {i : Nat} (hi : i < 17) : FnC Tryd.prog 93 #[errV (aE i)] (WA w0 base fr) (fun _ : Unit => .int .i64 (101 + i : Int)) (fun _ => WA w0 base fr) := by
  refine FnC.of_body (fn := Tryd.f93) [(0, _)] Tryd.func93 rfl Tryd.ntmps93 rfl ⟨rfl, trivial⟩ ?_
  refine CX.seq ?_
  refine CX.region ?_
  refine LX.pure (Y.assign rfl) rfl rfl rfl ?_
  refine LX.sub (l' := [(0, _), (2, _)]) ⟨rfl, rfl, trivial⟩ ?_
  refine LX.next ?_
  refine PX.thenN ?_
  refine CX.seq ?_
  refine CX.region ?_
  refine LX.call (sentinels_c hS) Fs.en113 rfl rfl rfl rfl rfl ?_
  intro bs
  refine LX.pure (Y.assign rfl) rfl rfl rfl ?_
  refine LX.sub (l' := [(0, _), (2, _), (3, _)]) ⟨rfl, rfl, rfl, trivial⟩ ?_
  refine LX.next ?_
  refine PX.thenN ?_
  refine CX.seq ?_
  refine CX.seq ?_
  refine CX.region ?_
  refine LX.pure (Y.assign rfl) rfl rfl rfl ?_
  refine LX.sub (l' := [(0, _), (2, _), (3, _), (4, _)]) ⟨rfl, rfl, rfl, rfl, trivial⟩ ?_
  refine LX.next ?_
  refine PX.thenN ?_
  refine CX.block ?_
  refine CX.loop (τ := Nat) (fun k => [(0, errV (aE i)), (3, .slice (some ⟨bs, 0, none⟩) 17 17), (4, .int .i64 (k : Int))]) (fun k w => k ≤ i ∧ WA w0 base (.row (some bs) 17 17 29 1 ((List.range 17).map fun i => errV (aE i)) :: fr) w) (fun k => i - k) 0 ⟨rfl, rfl, rfl, trivial⟩ (fun w hw => ⟨Nat.zero_le _, hw⟩) ?_
  intro k
  refine CX.have fun hk => ?_
  have hk17 : k < 17 := by omega
  refine CX.seq ?_
  refine CX.seq ?_
  refine CX.region ?_
  refine LX.pure (Y.move rfl) rfl rfl rfl ?_
  refine LX.pure (Y.move rfl) rfl rfl rfl ?_
  refine LX.pure (Y.lenSl rfl Fs.un129 rfl) rfl rfl rfl ?_
  first
    | refine LX.pure (Y.ltN rfl rfl) rfl rfl rfl ?_
    | refine LX.pure (Y.ltI rfl rfl) rfl rfl rfl ?_
  refine LX.sub (l' := [(0, _), (3, _), (4, _), (9, _)]) ⟨rfl, rfl, rfl, rfl, trivial⟩ ?_
  refine LX.next ?_
  refine PX.thenN ?_
  refine CX.cond rfl (fun hb1 => ?_) (fun hb1 => ?_)
  · try simp at hb1
    refine CX.skip ?_
    refine PX.thenN ?_
    refine CX.seq ?_
    refine CX.block ?_
    refine CX.seq ?_
    refine CX.region ?_
    refine LX.pure (Y.move rfl) rfl rfl rfl ?_
    refine LX.pure (Y.move rfl) rfl rfl rfl ?_
    refine LX.pure (Y.move rfl) rfl rfl rfl ?_
    first
      | refine LX.pure (Y.idxR 0 Fs.un129 Fs.sz29 rfl rfl rfl (by first | omega | (simp only []; omega) | (simp; done) | (simp; omega))) rfl rfl rfl ?_
      | refine LX.pure (Y.idxR 1 Fs.un129 Fs.sz29 rfl rfl rfl (by first | omega | (simp only []; omega) | (simp; done) | (simp; omega))) rfl rfl rfl ?_
      | refine LX.pure (Y.idx Fs.un129 Fs.sz29 rfl rfl (by first | omega | (simp only []; omega) | (simp; done) | (simp; omega))) rfl rfl rfl ?_
    refine LX.pure (Y.ldR 0 (v := errV (aE k)) F.one29 rfl rfl (sent_cell hk17)) rfl rfl rfl ?_
    refine LX.callQ (alike_q hS (fun w hw => hw.below) hi hk17) Fs.en114 rfl rfl rfl rfl rfl ?_
    refine LX.sub (l' := [(0, _), (3, _), (4, _), (17, _)]) ⟨rfl, rfl, rfl, rfl, trivial⟩ ?_
    refine LX.next ?_
    refine PX.thenN ?_
    refine CX.cond rfl (fun hb2 => ?_) (fun hb2 => ?_)
    · try simp at hb2
      have hik : k = i := hb2.symm
      subst hik
      refine CX.seq ?_
      refine CX.region ?_
      refine LX.pure (Y.move rfl) rfl rfl rfl ?_
      first
        | refine LX.pure (Y.addN rfl rfl (by first | omega | (simp only []; omega) | (simp; done) | (simp; omega))) rfl rfl rfl ?_
        | refine LX.pure (Y.add rfl rfl (by first | omega | (simp only []; omega) | (simp; done) | (simp; omega))) rfl rfl rfl ?_
      refine LX.pure (Y.assign rfl) rfl rfl rfl ?_
      refine LX.sub (l' := [(0, _), (2, _), (3, _), (4, _)]) ⟨rfl, rfl, rfl, rfl, trivial⟩ ?_
      refine LX.next ?_
      refine PX.thenN ?_
      refine CX.ret ?_
      refine PX.blockR ?_
      refine PX.thenR ?_
      refine PX.thenR ?_
      refine PX.blockR ?_
      refine PX.thenR ?_
      refine PX.ret1 (by simp) Tryd.results93 rfl ?_
      exact fun w hw => ⟨(), rfl, hw.drop ((List.sublist_cons_self _ _))⟩
    · try simp at hb2
      refine CX.skip ?_
      refine PX.blockN ?_
      refine PX.thenN ?_
      refine CX.region ?_
      refine LX.pure (Y.move rfl) rfl rfl rfl ?_
      first
        | refine LX.pure (Y.addN rfl rfl (by first | omega | (simp only []; omega) | (simp; done) | (simp; omega))) rfl rfl rfl ?_
        | refine LX.pure (Y.add rfl rfl (by first | omega | (simp only []; omega) | (simp; done) | (simp; omega))) rfl rfl rfl ?_
      refine LX.pure (Y.assign rfl) rfl rfl rfl ?_
      refine LX.sub (l' := [(0, _), (3, _), (4, _)]) ⟨rfl, rfl, rfl, trivial⟩ ?_
      refine LX.next ?_
      exact PX.again (k + 1) (by show i - (k + 1) < i - k; omega) ⟨rfl, rfl, rfl, trivial⟩ (fun w hw => ⟨by omega, hw⟩)
  · try simp at hb1
    exfalso; omega

theorem none_c {w0 : World} {base : Nat} {fr : List It} : FnC Tryd.prog 41 #[] (WA w0 base fr) (fun _ : Unit => Flt.v ⟨0, false, 0, false, []⟩) (fun _ => WA w0 base fr) := by
  refine FnC.of_body (fn := Tryd.f41) [] Tryd.func41 rfl Tryd.ntmps41 rfl trivial ?_
  refine CX.seq ?_
  refine CX.region ?_
  refine LX.alloc rfl Fs.zv35 rfl rfl rfl ?_
  intro bx0
  refine LX.sub (l' := [(0, _)]) ⟨rfl, trivial⟩ ?_
  refine LX.next ?_
  refine PX.thenN ?_
  refine CX.seq ?_
  refine CX.region ?_
  refine LX.pure (Y.build (v := .agg #[.int .i64 0, .bool false, .int .i64 0, .bool false, .string ⟨#[]⟩]) rfl (fun _ => by kernel_rfl)) rfl rfl rfl ?_
  first
    | refine LX.storeA 0 Fs.ag35 rfl rfl rfl rfl rfl rfl rfl rfl rfl ?_
    | refine LX.storeA 1 Fs.ag35 rfl rfl rfl rfl rfl rfl rfl rfl rfl ?_
  refine LX.sub (l' := [(0, _)]) ⟨rfl, trivial⟩ ?_
  refine LX.next ?_
  refine PX.thenN ?_
  refine CX.ret ?_
  first
    | refine PX.retA (i := 0) (by simp) Tryd.results41 Fs.ag35 rfl rfl rfl ?_
    | refine PX.retA (i := 1) (by simp) Tryd.results41 Fs.ag35 rfl rfl rfl ?_
  exact fun w hw => ⟨(), rfl, hw.drop ((List.sublist_cons_self _ _))⟩

theorem bare_c {w0 : World} {base : Nat} {fr : List It} (code : Int) : FnC Tryd.prog 46 #[.int .i64 code] (WA w0 base fr) (fun _ : Unit => Flt.v ⟨code, false, 0, false, []⟩) (fun _ => WA w0 base fr) := by
  refine FnC.of_body (fn := Tryd.f46) [(0, _)] Tryd.func46 rfl Tryd.ntmps46 rfl ⟨rfl, trivial⟩ ?_
  refine CX.seq ?_
  refine CX.region ?_
  refine LX.alloc rfl Fs.zv35 rfl rfl rfl ?_
  intro bx0
  refine LX.sub (l' := [(0, _), (2, _)]) ⟨rfl, rfl, trivial⟩ ?_
  refine LX.next ?_
  refine PX.thenN ?_
  refine CX.seq ?_
  refine CX.region ?_
  refine LX.pure (Y.move rfl) rfl rfl rfl ?_
  refine LX.pure (Y.build (v := Flt.v ⟨code, false, 0, false, []⟩) rfl (fun _ => by kernel_rfl)) rfl rfl rfl ?_
  first
    | refine LX.storeA 0 Fs.ag35 rfl rfl rfl rfl rfl rfl rfl rfl rfl ?_
    | refine LX.storeA 1 Fs.ag35 rfl rfl rfl rfl rfl rfl rfl rfl rfl ?_
  refine LX.sub (l' := [(2, _)]) ⟨rfl, trivial⟩ ?_
  refine LX.next ?_
  refine PX.thenN ?_
  refine CX.ret ?_
  first
    | refine PX.retA (i := 0) (by simp) Tryd.results46 Fs.ag35 rfl rfl rfl ?_
    | refine PX.retA (i := 1) (by simp) Tryd.results46 Fs.ag35 rfl rfl rfl ?_
  exact fun w hw => ⟨(), rfl, hw.drop ((List.sublist_cons_self _ _))⟩

theorem placedR_c {w0 : World} {base : Nat} {fr : List It} (code pos : Int) (hc : code ≠ 0) : FnC Tryd.prog 18 #[.int .i64 code, .int .i64 pos] (WA w0 base fr) (fun _ : Unit => Flt.v ⟨code, true, pos, false, []⟩) (fun _ => WA w0 base fr) := by
  refine FnC.of_body (fn := Tryd.f18) [(0, _), (1, _)] Tryd.func18 rfl Tryd.ntmps18 rfl ⟨rfl, rfl, trivial⟩ ?_
  refine CX.seq ?_
  refine CX.region ?_
  refine LX.alloc rfl Fs.zv35 rfl rfl rfl ?_
  intro bx0
  refine LX.sub (l' := [(0, _), (1, _), (4, _)]) ⟨rfl, rfl, rfl, trivial⟩ ?_
  refine LX.next ?_
  refine PX.thenN ?_
  refine CX.seq ?_
  refine CX.seq ?_
  refine CX.region ?_
  refine LX.pure (Y.move rfl) rfl rfl rfl ?_
  first
    | refine LX.pure (Y.eqN rfl rfl) rfl rfl rfl ?_
    | refine LX.pure (Y.eqI rfl rfl) rfl rfl rfl ?_
  refine LX.sub (l' := [(0, _), (1, _), (4, _), (6, _)]) ⟨rfl, rfl, rfl, rfl, trivial⟩ ?_
  refine LX.next ?_
  refine PX.thenN ?_
  refine CX.cond rfl (fun hb1 => ?_) (fun hb1 => ?_)
  · try simp at hb1
    first | done | exact absurd hb1 hc
  · try simp at hb1
    refine CX.skip ?_
    refine PX.thenN ?_
    refine CX.seq ?_
    refine CX.region ?_
    refine LX.pure (Y.move rfl) rfl rfl rfl ?_
    refine LX.pure (Y.move rfl) rfl rfl rfl ?_
    refine LX.pure (Y.build (v := Flt.v ⟨code, true, pos, false, []⟩) rfl (fun _ => by kernel_rfl)) rfl rfl rfl ?_
    first
      | refine LX.storeA 0 Fs.ag35 rfl rfl rfl rfl rfl rfl rfl rfl rfl ?_
      | refine LX.storeA 1 Fs.ag35 rfl rfl rfl rfl rfl rfl rfl rfl rfl ?_
    refine LX.sub (l' := [(4, _)]) ⟨rfl, trivial⟩ ?_
    refine LX.next ?_
    refine PX.thenN ?_
    refine CX.ret ?_
    first
      | refine PX.retA (i := 0) (by simp) Tryd.results18 Fs.ag35 rfl rfl rfl ?_
      | refine PX.retA (i := 1) (by simp) Tryd.results18 Fs.ag35 rfl rfl rfl ?_
    exact fun w hw => ⟨(), rfl, hw.drop ((List.sublist_cons_self _ _))⟩

theorem sameFault_c {w0 : World} {base : Nat} {fr : List It} (x y : Flt) : FnC Tryd.prog 39 #[x.v, y.v] (WA w0 base fr) (fun _ : Unit => .bool (decide (x = y))) (fun _ => WA w0 base fr) := by
  refine FnC.of_body (fn := Tryd.f39) [(0, _), (1, _)] Tryd.func39 rfl Tryd.ntmps39 rfl ⟨rfl, rfl, trivial⟩ ?_
  refine CX.seq ?_
  refine CX.region ?_
  refine LX.box rfl rfl rfl rfl rfl ?_
  intro bx0
  refine LX.box rfl rfl rfl rfl rfl ?_
  intro bx1
  refine LX.pure (Y.assign rfl) rfl rfl rfl ?_
  refine LX.sub (l' := [(2, _), (3, _), (4, _)]) ⟨rfl, rfl, rfl, trivial⟩ ?_
  refine LX.next ?_
  refine PX.thenN ?_
  refine CX.seq ?_
  refine CX.region ?_
  first
    | refine LX.pure (Y.fieldAddr0 Fs.fo35_0 rfl) rfl rfl rfl ?_
    | refine LX.pure (Y.fieldAddr Fs.fo35_0 rfl) rfl rfl rfl ?_
  first
    | refine LX.pure (Y.ldB 0 F.one3 rfl rfl rfl) rfl rfl rfl ?_
    | refine LX.pure (Y.ldB 1 F.one3 rfl rfl rfl) rfl rfl rfl ?_
  first
    | refine LX.pure (Y.fieldAddr0 Fs.fo35_0 rfl) rfl rfl rfl ?_
    | refine LX.pure (Y.fieldAddr Fs.fo35_0 rfl) rfl rfl rfl ?_
  first
    | refine LX.pure (Y.ldB 0 F.one3 rfl rfl rfl) rfl rfl rfl ?_
    | refine LX.pure (Y.ldB 1 F.one3 rfl rfl rfl) rfl rfl rfl ?_
  first
    | refine LX.pure (Y.eqN rfl rfl) rfl rfl rfl ?_
    | refine LX.pure (Y.eqI rfl rfl) rfl rfl rfl ?_
  refine LX.pure (Y.move rfl) rfl rfl rfl ?_
  refine LX.sub (l' := [(2, _), (3, _), (4, _), (10, _)]) ⟨rfl, rfl, rfl, rfl, trivial⟩ ?_
  apply LX.joinAnd 6 16 10 rfl
  · intro hb1
    have hb1p := hb1
    try simp at hb1p
    first
      | refine LX.gT rfl rfl rfl hb1 (Y.fieldAddr0 Fs.fo35_1 rfl) rfl rfl ?_
      | refine LX.gT rfl rfl rfl hb1 (Y.fieldAddr Fs.fo35_1 rfl) rfl rfl ?_
    first
      | refine LX.gT rfl rfl rfl hb1 (Y.ldB 0 F.one4 rfl rfl rfl) rfl rfl ?_
      | refine LX.gT rfl rfl rfl hb1 (Y.ldB 1 F.one4 rfl rfl rfl) rfl rfl ?_
    first
      | refine LX.gT rfl rfl rfl hb1 (Y.fieldAddr0 Fs.fo35_1 rfl) rfl rfl ?_
      | refine LX.gT rfl rfl rfl hb1 (Y.fieldAddr Fs.fo35_1 rfl) rfl rfl ?_
    first
      | refine LX.gT rfl rfl rfl hb1 (Y.ldB 0 F.one4 rfl rfl rfl) rfl rfl ?_
      | refine LX.gT rfl rfl rfl hb1 (Y.ldB 1 F.one4 rfl rfl rfl) rfl rfl ?_
    refine LX.gT rfl rfl rfl hb1 (Y.eqB rfl rfl Fs.un4) rfl rfl ?_
    refine LX.pure (Y.pickT rfl hb1 rfl) rfl rfl rfl ?_
    exact LX.left ⟨rfl, rfl, rfl, rfl, rfl, trivial⟩
  · intro hb1
    have hb1p := hb1
    try simp at hb1p
    refine LX.gF rfl rfl rfl hb1 rfl rfl ?_
    refine LX.gF rfl rfl rfl hb1 rfl rfl ?_
    refine LX.gF rfl rfl rfl hb1 rfl rfl ?_
    refine LX.gF rfl rfl rfl hb1 rfl rfl ?_
    refine LX.gF rfl rfl rfl hb1 rfl rfl ?_
    refine LX.pure (Y.pickF rfl hb1 rfl) rfl rfl rfl ?_
    exact LX.left ⟨rfl, rfl, rfl, rfl, rfl, trivial⟩
  refine LX.pure (Y.move rfl) rfl rfl rfl ?_
  refine LX.sub (l' := [(2, _), (3, _), (4, _), (17, _)]) ⟨rfl, rfl, rfl, rfl, trivial⟩ ?_
  apply LX.joinAnd 6 23 17 rfl
  · intro hb2
    have hb2p := hb2
    try simp at hb2p
    first
      | refine LX.gT rfl rfl rfl hb2 (Y.fieldAddr0 Fs.fo35_2 rfl) rfl rfl ?_
      | refine LX.gT rfl rfl rfl hb2 (Y.fieldAddr Fs.fo35_2 rfl) rfl rfl ?_
    first
      | refine LX.gT rfl rfl rfl hb2 (Y.ldB 0 F.one3 rfl rfl rfl) rfl rfl ?_
      | refine LX.gT rfl rfl rfl hb2 (Y.ldB 1 F.one3 rfl rfl rfl) rfl rfl ?_
    first
      | refine LX.gT rfl rfl rfl hb2 (Y.fieldAddr0 Fs.fo35_2 rfl) rfl rfl ?_
      | refine LX.gT rfl rfl rfl hb2 (Y.fieldAddr Fs.fo35_2 rfl) rfl rfl ?_
    first
      | refine LX.gT rfl rfl rfl hb2 (Y.ldB 0 F.one3 rfl rfl rfl) rfl rfl ?_
      | refine LX.gT rfl rfl rfl hb2 (Y.ldB 1 F.one3 rfl rfl rfl) rfl rfl ?_
    first
      | refine LX.gT rfl rfl rfl hb2 (Y.eqN rfl rfl) rfl rfl ?_
      | refine LX.gT rfl rfl rfl hb2 (Y.eqI rfl rfl) rfl rfl ?_
    refine LX.pure (Y.pickT rfl hb2 rfl) rfl rfl rfl ?_
    exact LX.left ⟨rfl, rfl, rfl, rfl, rfl, trivial⟩
  · intro hb2
    have hb2p := hb2
    try simp at hb2p
    refine LX.gF rfl rfl rfl hb2 rfl rfl ?_
    refine LX.gF rfl rfl rfl hb2 rfl rfl ?_
    refine LX.gF rfl rfl rfl hb2 rfl rfl ?_
    refine LX.gF rfl rfl rfl hb2 rfl rfl ?_
    refine LX.gF rfl rfl rfl hb2 rfl rfl ?_
    refine LX.pure (Y.pickF rfl hb2 rfl) rfl rfl rfl ?_
    exact LX.left ⟨rfl, rfl, rfl, rfl, rfl, trivial⟩
  refine LX.pure (Y.move rfl) rfl rfl rfl ?_
  refine LX.sub (l' := [(2, _), (3, _), (4, _), (24, _)]) ⟨rfl, rfl, rfl, rfl, trivial⟩ ?_
  apply LX.joinAnd 6 30 24 rfl
  · intro hb3
    have hb3p := hb3
    try simp at hb3p
    first
      | refine LX.gT rfl rfl rfl hb3 (Y.fieldAddr0 Fs.fo35_3 rfl) rfl rfl ?_
      | refine LX.gT rfl rfl rfl hb3 (Y.fieldAddr Fs.fo35_3 rfl) rfl rfl ?_
    first
      | refine LX.gT rfl rfl rfl hb3 (Y.ldB 0 F.one4 rfl rfl rfl) rfl rfl ?_
      | refine LX.gT rfl rfl rfl hb3 (Y.ldB 1 F.one4 rfl rfl rfl) rfl rfl ?_
    first
      | refine LX.gT rfl rfl rfl hb3 (Y.fieldAddr0 Fs.fo35_3 rfl) rfl rfl ?_
      | refine LX.gT rfl rfl rfl hb3 (Y.fieldAddr Fs.fo35_3 rfl) rfl rfl ?_
    first
      | refine LX.gT rfl rfl rfl hb3 (Y.ldB 0 F.one4 rfl rfl rfl) rfl rfl ?_
      | refine LX.gT rfl rfl rfl hb3 (Y.ldB 1 F.one4 rfl rfl rfl) rfl rfl ?_
    refine LX.gT rfl rfl rfl hb3 (Y.eqB rfl rfl Fs.un4) rfl rfl ?_
    refine LX.pure (Y.pickT rfl hb3 rfl) rfl rfl rfl ?_
    exact LX.left ⟨rfl, rfl, rfl, rfl, rfl, trivial⟩
  · intro hb3
    have hb3p := hb3
    try simp at hb3p
    refine LX.gF rfl rfl rfl hb3 rfl rfl ?_
    refine LX.gF rfl rfl rfl hb3 rfl rfl ?_
    refine LX.gF rfl rfl rfl hb3 rfl rfl ?_
    refine LX.gF rfl rfl rfl hb3 rfl rfl ?_
    refine LX.gF rfl rfl rfl hb3 rfl rfl ?_
    refine LX.pure (Y.pickF rfl hb3 rfl) rfl rfl rfl ?_
    exact LX.left ⟨rfl, rfl, rfl, rfl, rfl, trivial⟩
  refine LX.pure (Y.move rfl) rfl rfl rfl ?_
  refine LX.sub (l' := [(2, _), (3, _), (4, _), (31, _)]) ⟨rfl, rfl, rfl, rfl, trivial⟩ ?_
  apply LX.joinAnd 6 37 31 rfl
  · intro hb4
    have hb4p := hb4
    try simp at hb4p
    first
      | refine LX.gT rfl rfl rfl hb4 (Y.fieldAddr0 Fs.fo35_4 rfl) rfl rfl ?_
      | refine LX.gT rfl rfl rfl hb4 (Y.fieldAddr Fs.fo35_4 rfl) rfl rfl ?_
    first
      | refine LX.gT rfl rfl rfl hb4 (Y.ldB 0 F.one9 rfl rfl rfl) rfl rfl ?_
      | refine LX.gT rfl rfl rfl hb4 (Y.ldB 1 F.one9 rfl rfl rfl) rfl rfl ?_
    first
      | refine LX.gT rfl rfl rfl hb4 (Y.fieldAddr0 Fs.fo35_4 rfl) rfl rfl ?_
      | refine LX.gT rfl rfl rfl hb4 (Y.fieldAddr Fs.fo35_4 rfl) rfl rfl ?_
    first
      | refine LX.gT rfl rfl rfl hb4 (Y.ldB 0 F.one9 rfl rfl rfl) rfl rfl ?_
      | refine LX.gT rfl rfl rfl hb4 (Y.ldB 1 F.one9 rfl rfl rfl) rfl rfl ?_
    refine LX.gT rfl rfl rfl hb4 (Y.eqS rfl rfl) rfl rfl ?_
    refine LX.pure (Y.pickT rfl hb4 rfl) rfl rfl rfl ?_
    exact LX.left ⟨rfl, rfl, rfl, rfl, rfl, trivial⟩
  · intro hb4
    have hb4p := hb4
    try simp at hb4p
    refine LX.gF rfl rfl rfl hb4 rfl rfl ?_
    refine LX.gF rfl rfl rfl hb4 rfl rfl ?_
    refine LX.gF rfl rfl rfl hb4 rfl rfl ?_
    refine LX.gF rfl rfl rfl hb4 rfl rfl ?_
    refine LX.gF rfl rfl rfl hb4 rfl rfl ?_
    refine LX.pure (Y.pickF rfl hb4 rfl) rfl rfl rfl ?_
    exact LX.left ⟨rfl, rfl, rfl, rfl, rfl, trivial⟩
  refine LX.pure (Y.assign rfl) rfl rfl rfl ?_
  refine LX.sub (l' := [(4, _)]) ⟨rfl, trivial⟩ ?_
  refine LX.next ?_
  refine PX.thenN ?_
  refine CX.ret ?_
  refine PX.ret1 (by simp) Tryd.results39 rfl ?_
  exact fun w hw => ⟨(), by obtain ⟨a, b, c, d, e⟩ := x; obtain ⟨a', b', c', d', e'⟩ := y; simp [Flt.mk.injEq, Bool.and_assoc, Bool.decide_and, Bool.beq_eq_decide_eq], hw.drop ((List.sublist_cons_self _ _).cons _)⟩

theorem placedAt_c {w0 : World} {base : Nat} {fr : List It} {aE : Nat → Addr} (hS : EnvS w0 base aE) {i : Nat} (hi : i < 17) (b pos : Nat) : FnC Tryd.prog 69 #[atV b] (WA w0 base (atI b pos (errV (aE i)) :: fr)) (fun _ : Unit => Flt.v ⟨101 + i, true, pos, false, []⟩) (fun _ => WA w0 base (atI b pos (errV (aE i)) :: fr)) := by
  refine FnC.of_body (fn := Tryd.f69) [(0, _)] Tryd.func69 rfl Tryd.ntmps69 rfl ⟨rfl, trivial⟩ ?_
  refine CX.seq ?_
  refine CX.region ?_
  refine LX.alloc rfl Fs.zv35 rfl rfl rfl ?_
  intro bx0
  refine LX.sub (l' := [(0, _), (2, _)]) ⟨rfl, rfl, trivial⟩ ?_
  refine LX.next ?_
  refine PX.thenN ?_
  refine CX.seq ?_
  refine CX.region ?_
  refine LX.pure (Y.move rfl) rfl rfl rfl ?_
  first
    | refine LX.pure (Y.assertYes Fs.nif66 rfl) rfl rfl rfl ?_
    | refine LX.pure (Y.assertNo Fs.nif66 rfl (by decide) Fs.zv66) rfl rfl rfl ?_
  refine LX.pure (Y.move rfl) rfl rfl rfl ?_
  refine LX.pure (Y.extract rfl rfl) rfl rfl rfl ?_
  refine LX.pure (Y.extract rfl rfl) rfl rfl rfl ?_
  refine LX.pure (Y.assign rfl) rfl rfl rfl ?_
  refine LX.pure (Y.assign rfl) rfl rfl rfl ?_
  refine LX.sub (l' := [(0, _), (2, _), (3, _), (4, _)]) ⟨rfl, rfl, rfl, rfl, trivial⟩ ?_
  refine LX.next ?_
  refine PX.thenN ?_
  refine CX.seq ?_
  refine CX.seq ?_
  refine CX.region ?_
  refine LX.pure (Y.move rfl) rfl rfl rfl ?_
  refine LX.pure (Y.not rfl) rfl rfl rfl ?_
  refine LX.sub (l' := [(0, _), (2, _), (3, _), (11, _)]) ⟨rfl, rfl, rfl, rfl, trivial⟩ ?_
  refine LX.next ?_
  refine PX.thenN ?_
  refine CX.cond rfl (fun hb1 => ?_) (fun hb1 => ?_)
  · try simp at hb1
    first | done | cases hb1
  · try simp at hb1
    refine CX.skip ?_
    refine PX.thenN ?_
    refine CX.seq ?_
    refine CX.seq ?_
    refine CX.region ?_
    refine LX.pure (Y.move rfl) rfl rfl rfl ?_
    refine LX.pure (Y.eqPtrNil Fs.un66 rfl) rfl rfl rfl ?_
    refine LX.pure (Y.move rfl) rfl rfl rfl ?_
    refine LX.sub (l' := [(2, _), (3, _), (17, _)]) ⟨rfl, rfl, rfl, trivial⟩ ?_
    apply LX.joinOr 6 23 17 rfl
    · intro hb2
      cases hb2
    · intro hb2
      have hb2p := hb2
      try simp at hb2p
      refine LX.gT rfl rfl rfl hb2 (Y.move rfl) rfl rfl ?_
      refine LX.gT rfl rfl rfl hb2 (Y.nilCheck rfl) rfl rfl ?_
      first
        | refine LX.gT rfl rfl rfl hb2 (Y.fieldAddr0 Fs.fo68_1 rfl) rfl rfl ?_
        | refine LX.gT rfl rfl rfl hb2 (Y.fieldAddr Fs.fo68_1 rfl) rfl rfl ?_
      first
        | refine LX.gT rfl rfl rfl hb2 (Y.ldB 0 F.one29 rfl rfl rfl) rfl rfl ?_
        | refine LX.gT rfl rfl rfl hb2 (Y.ldB 1 F.one29 rfl rfl rfl) rfl rfl ?_
        | refine LX.gT rfl rfl rfl hb2 (Y.ldB 2 F.one29 rfl rfl rfl) rfl rfl ?_
      first
        | refine LX.gT rfl rfl rfl hb2 (Y.eqNil F.un29 rfl rfl) rfl rfl ?_
        | refine LX.gT rfl rfl rfl hb2 (Y.eqNilNil F.un29 rfl) rfl rfl ?_
      refine LX.pure (Y.pickF rfl hb2 rfl) rfl rfl rfl ?_
      exact LX.left ⟨rfl, rfl, rfl, rfl, trivial⟩
    refine LX.sub (l' := [(2, _), (3, _), (23, _)]) ⟨rfl, rfl, rfl, trivial⟩ ?_
    refine LX.next ?_
    refine PX.thenN ?_
    refine CX.cond rfl (fun hb3 => ?_) (fun hb3 => ?_)
    · try simp at hb3
      first | done | cases hb3
    · try simp at hb3
      refine CX.skip ?_
      refine PX.thenN ?_
      refine CX.seq ?_
      refine CX.regionM [(0, .anywhere), (1, .anywhere), (2, .anywhere), (3, .held), (5, .anywhere), (6, .anywhere), (7, .anywhere), (8, .held), (4, .alone), (9, .alone), (10, .alone)] rfl (by kernel_rfl) ?_
      refine MX.lift0 (i := 0) rfl (Y.move rfl) rfl rfl rfl ?_
      refine MX.lift0 (i := 1) rfl (Y.nilCheck rfl) rfl rfl rfl ?_
      first
        | refine MX.lift0 (i := 2) rfl (Y.fieldAddr0 Fs.fo68_1 rfl) rfl rfl rfl ?_
        | refine MX.lift0 (i := 2) rfl (Y.fieldAddr Fs.fo68_1 rfl) rfl rfl rfl ?_
      first
        | refine MX.lift1 (i := 3) (pend' := []) rfl (fun w hw => by first | exact hw | exact hw.1 | exact hw.drop (List.sublist_cons_self _ _) | exact hw.drop ((List.sublist_cons_self _ _).cons _)) (Y.ldB 0 F.one29 rfl rfl rfl) rfl rfl rfl (by kernel_rfl) ?_
        | refine MX.lift1 (i := 3) (pend' := []) rfl (fun w hw => by first | exact hw | exact hw.1 | exact hw.drop (List.sublist_cons_self _ _) | exact hw.drop ((List.sublist_cons_self _ _).cons _)) (Y.ldB 1 F.one29 rfl rfl rfl) rfl rfl rfl (by kernel_rfl) ?_
        | refine MX.lift1 (i := 3) (pend' := []) rfl (fun w hw => by first | exact hw | exact hw.1 | exact hw.drop (List.sublist_cons_self _ _) | exact hw.drop ((List.sublist_cons_self _ _).cons _)) (Y.ldB 2 F.one29 rfl rfl rfl) rfl rfl rfl (by kernel_rfl) ?_
      refine MX.lift0 (i := 5) rfl (Y.move rfl) rfl rfl rfl ?_
      refine MX.lift0 (i := 6) rfl (Y.nilCheck rfl) rfl rfl rfl ?_
      first
        | refine MX.lift0 (i := 7) rfl (Y.fieldAddr0 Fs.fo68_0 rfl) rfl rfl rfl ?_
        | refine MX.lift0 (i := 7) rfl (Y.fieldAddr Fs.fo68_0 rfl) rfl rfl rfl ?_
      first
        | refine MX.lift1 (i := 8) (pend' := [3]) rfl (fun w hw => by first | exact hw | exact hw.1 | exact hw.drop (List.sublist_cons_self _ _) | exact hw.drop ((List.sublist_cons_self _ _).cons _)) (Y.ldB 0 F.one3 rfl rfl rfl) rfl rfl rfl (by kernel_rfl) ?_
        | refine MX.lift1 (i := 8) (pend' := [3]) rfl (fun w hw => by first | exact hw | exact hw.1 | exact hw.drop (List.sublist_cons_self _ _) | exact hw.drop ((List.sublist_cons_self _ _).cons _)) (Y.ldB 1 F.one3 rfl rfl rfl) rfl rfl rfl (by kernel_rfl) ?_
        | refine MX.lift1 (i := 8) (pend' := [3]) rfl (fun w hw => by first | exact hw | exact hw.1 | exact hw.drop (List.sublist_cons_self _ _) | exact hw.drop ((List.sublist_cons_self _ _).cons _)) (Y.ldB 2 F.one3 rfl rfl rfl) rfl rfl rfl (by kernel_rfl) ?_
      refine MX.force (i := 4) rfl ?_
      refine LX.call (sentinel_c hS hi) Fs.en93 rfl rfl rfl rfl rfl ?_
      intro _
      refine LX.nextM [8] (by kernel_rfl) (fun _ => (fun w hw => by first | exact hw | exact hw.1 | exact hw.drop (List.sublist_cons_self _ _) | exact hw.drop ((List.sublist_cons_self _ _).cons _))) ?_
      refine MX.force (i := 9) rfl ?_
      refine LX.call (placedR_c _ _ (by omega)) Fs.en18 rfl rfl rfl rfl rfl ?_
      intro _
      refine LX.nextM [] (by kernel_rfl) (fun h => absurd rfl h) ?_
      refine MX.force (i := 10) rfl ?_
      first
        | refine LX.storeA 0 Fs.ag35 rfl rfl rfl rfl rfl rfl rfl rfl rfl ?_
        | refine LX.storeA 1 Fs.ag35 rfl rfl rfl rfl rfl rfl rfl rfl rfl ?_
        | refine LX.storeA 2 Fs.ag35 rfl rfl rfl rfl rfl rfl rfl rfl rfl ?_
      refine LX.nextM [] (by kernel_rfl) (fun h => absurd rfl h) ?_
      refine MX.sub (l' := [(2, _)]) ⟨rfl, trivial⟩ ?_
      refine MX.done ?_
      refine PX.thenN ?_
      refine CX.ret ?_
      first
        | refine PX.retA (i := 0) (by simp) Tryd.results69 Fs.ag35 rfl rfl rfl ?_
        | refine PX.retA (i := 1) (by simp) Tryd.results69 Fs.ag35 rfl rfl rfl ?_
        | refine PX.retA (i := 2) (by simp) Tryd.results69 Fs.ag35 rfl rfl rfl ?_
      exact fun w hw => ⟨(), rfl, hw.drop ((List.sublist_cons_self _ _))⟩

theorem placedBare_c {w0 : World} {base : Nat} {fr : List It} {aE : Nat → Addr} (hS : EnvS w0 base aE) {i : Nat} (hi : i < 17) : FnC Tryd.prog 69 #[errV (aE i)] (WA w0 base fr) (fun _ : Unit => Flt.v ⟨101 + i, false, 0, false, []⟩) (fun _ => WA w0 base fr) := by
  refine FnC.of_body (fn := Tryd.f69) [(0, _)] Tryd.func69 rfl Tryd.ntmps69 rfl ⟨rfl, trivial⟩ ?_
  refine CX.seq ?_
  refine CX.region ?_
  refine LX.alloc rfl Fs.zv35 rfl rfl rfl ?_
  intro bx0
  refine LX.sub (l' := [(0, _), (2, _)]) ⟨rfl, rfl, trivial⟩ ?_
  refine LX.next ?_
  refine PX.thenN ?_
  refine CX.seq ?_
  refine CX.region ?_
  refine LX.pure (Y.move rfl) rfl rfl rfl ?_
  first
    | refine LX.pure (Y.assertYes Fs.nif66 rfl) rfl rfl rfl ?_
    | refine LX.pure (Y.assertNo Fs.nif66 rfl (by decide) Fs.zv66) rfl rfl rfl ?_
  refine LX.pure (Y.move rfl) rfl rfl rfl ?_
  refine LX.pure (Y.extract rfl rfl) rfl rfl rfl ?_
  refine LX.pure (Y.extract rfl rfl) rfl rfl rfl ?_
  refine LX.pure (Y.assign rfl) rfl rfl rfl ?_
  refine LX.pure (Y.assign rfl) rfl rfl rfl ?_
  refine LX.sub (l' := [(0, _), (2, _), (3, _), (4, _)]) ⟨rfl, rfl, rfl, rfl, trivial⟩ ?_
  refine LX.next ?_
  refine PX.thenN ?_
  refine CX.seq ?_
  refine CX.seq ?_
  refine CX.region ?_
  refine LX.pure (Y.move rfl) rfl rfl rfl ?_
  refine LX.pure (Y.not rfl) rfl rfl rfl ?_
  refine LX.sub (l' := [(0, _), (2, _), (3, _), (11, _)]) ⟨rfl, rfl, rfl, rfl, trivial⟩ ?_
  refine LX.next ?_
  refine PX.thenN ?_
  refine CX.cond rfl (fun hb1 => ?_) (fun hb1 => ?_)
  · try simp at hb1
    refine CX.seq ?_
    refine CX.region ?_
    refine LX.pure (Y.move rfl) rfl rfl rfl ?_
    refine LX.call (sentinel_c hS hi) Fs.en93 rfl rfl rfl rfl rfl ?_
    intro _
    refine LX.call (bare_c _) Fs.en46 rfl rfl rfl rfl rfl ?_
    intro _
    first
      | refine LX.storeA 0 Fs.ag35 rfl rfl rfl rfl rfl rfl rfl rfl rfl ?_
      | refine LX.storeA 1 Fs.ag35 rfl rfl rfl rfl rfl rfl rfl rfl rfl ?_
      | refine LX.storeA 2 Fs.ag35 rfl rfl rfl rfl rfl rfl rfl rfl rfl ?_
    refine LX.sub (l' := [(2, _), (3, _)]) ⟨rfl, rfl, trivial⟩ ?_
    refine LX.next ?_
    refine PX.thenN ?_
    refine CX.ret ?_
    refine PX.thenR ?_
    first
      | refine PX.retA (i := 0) (by simp) Tryd.results69 Fs.ag35 rfl rfl rfl ?_
      | refine PX.retA (i := 1) (by simp) Tryd.results69 Fs.ag35 rfl rfl rfl ?_
      | refine PX.retA (i := 2) (by simp) Tryd.results69 Fs.ag35 rfl rfl rfl ?_
    exact fun w hw => ⟨(), rfl, hw.drop ((List.sublist_cons_self _ _))⟩
  · try simp at hb1
    first | done | cases hb1

theorem faultNil_c {w0 : World} {base : Nat} {fr : List It} : FnC Tryd.prog 40 #[.nilIface] (WA w0 base fr) (fun _ : Unit => Flt.v ⟨0, false, 0, false, []⟩) (fun _ => WA w0 base fr) := by
  refine FnC.of_body (fn := Tryd.f40) [(0, _)] Tryd.func40 rfl Tryd.ntmps40 rfl ⟨rfl, trivial⟩ ?_
  refine CX.seq ?_
  refine CX.region ?_
  refine LX.alloc rfl Fs.zv35 rfl rfl rfl ?_
  intro bx0
  refine LX.sub (l' := [(0, _), (2, _)]) ⟨rfl, rfl, trivial⟩ ?_
  refine LX.next ?_
  refine PX.thenN ?_
  refine CX.seq ?_
  refine CX.seq ?_
  refine CX.region ?_
  refine LX.pure (Y.move rfl) rfl rfl rfl ?_
  first
    | refine LX.pure (Y.eqNil F.un29 rfl rfl) rfl rfl rfl ?_
    | refine LX.pure (Y.eqNilNil F.un29 rfl) rfl rfl rfl ?_
  refine LX.sub (l' := [(0, _), (2, _), (7, _)]) ⟨rfl, rfl, rfl, trivial⟩ ?_
  refine LX.next ?_
  refine PX.thenN ?_
  refine CX.cond rfl (fun hb1 => ?_) (fun hb1 => ?_)
  · try simp at hb1
    refine CX.seq ?_
    refine CX.region ?_
    refine LX.call (none_c) Fs.en41 rfl rfl rfl rfl rfl ?_
    intro _
    first
      | refine LX.storeA 0 Fs.ag35 rfl rfl rfl rfl rfl rfl rfl rfl rfl ?_
      | refine LX.storeA 1 Fs.ag35 rfl rfl rfl rfl rfl rfl rfl rfl rfl ?_
      | refine LX.storeA 2 Fs.ag35 rfl rfl rfl rfl rfl rfl rfl rfl rfl ?_
    refine LX.sub (l' := [(0, _), (2, _)]) ⟨rfl, rfl, trivial⟩ ?_
    refine LX.next ?_
    refine PX.thenN ?_
    refine CX.ret ?_
    refine PX.thenR ?_
    first
      | refine PX.retA (i := 0) (by simp) Tryd.results40 Fs.ag35 rfl rfl rfl ?_
      | refine PX.retA (i := 1) (by simp) Tryd.results40 Fs.ag35 rfl rfl rfl ?_
      | refine PX.retA (i := 2) (by simp) Tryd.results40 Fs.ag35 rfl rfl rfl ?_
    exact fun w hw => ⟨(), rfl, hw.drop ((List.sublist_cons_self _ _))⟩
  · try simp at hb1
    first | done | cases hb1

theorem faultAt_c {w0 : World} {base : Nat} {fr : List It} {aE : Nat → Addr} (hS : EnvS w0 base aE) {i : Nat} (hi : i < 17) (b pos : Nat) : FnC Tryd.prog 40 #[atV b] (WA w0 base (atI b pos (errV (aE i)) :: fr)) (fun _ : Unit => Flt.v ⟨101 + i, true, pos, false, []⟩) (fun _ => WA w0 base (atI b pos (errV (aE i)) :: fr)) := by
  refine FnC.of_body (fn := Tryd.f40) [(0, _)] Tryd.func40 rfl Tryd.ntmps40 rfl ⟨rfl, trivial⟩ ?_
  refine CX.seq ?_
  refine CX.region ?_
  refine LX.alloc rfl Fs.zv35 rfl rfl rfl ?_
  intro bx0
  refine LX.sub (l' := [(0, _), (2, _)]) ⟨rfl, rfl, trivial⟩ ?_
  refine LX.next ?_
  refine PX.thenN ?_
  refine CX.seq ?_
  refine CX.seq ?_
  refine CX.region ?_
  refine LX.pure (Y.move rfl) rfl rfl rfl ?_
  first
    | refine LX.pure (Y.eqNil F.un29 rfl rfl) rfl rfl rfl ?_
    | refine LX.pure (Y.eqNilNil F.un29 rfl) rfl rfl rfl ?_
  refine LX.sub (l' := [(0, _), (2, _), (7, _)]) ⟨rfl, rfl, rfl, trivial⟩ ?_
  refine LX.next ?_
  refine PX.thenN ?_
  refine CX.cond rfl (fun hb1 => ?_) (fun hb1 => ?_)
  · try simp at hb1
    first | done | cases hb1
  · try simp at hb1
    refine CX.skip ?_
    refine PX.thenN ?_
    refine CX.seq ?_
    refine CX.region ?_
    refine LX.pure (Y.move rfl) rfl rfl rfl ?_
    first
      | refine LX.pure (Y.assertYes Fs.nif98 rfl) rfl rfl rfl ?_
      | refine LX.pure (Y.assertNo Fs.nif98 rfl (by decide) Fs.zv98) rfl rfl rfl ?_
    refine LX.pure (Y.move rfl) rfl rfl rfl ?_
    refine LX.pure (Y.extract rfl rfl) rfl rfl rfl ?_
    refine LX.pure (Y.extract rfl rfl) rfl rfl rfl ?_
    refine LX.pure (Y.assign rfl) rfl rfl rfl ?_
    refine LX.pure (Y.assign rfl) rfl rfl rfl ?_
    refine LX.sub (l' := [(0, _), (2, _), (3, _), (4, _)]) ⟨rfl, rfl, rfl, rfl, trivial⟩ ?_
    refine LX.next ?_
    refine PX.thenN ?_
    refine CX.seq ?_
    refine CX.seq ?_
    refine CX.region ?_
    refine LX.pure (Y.move rfl) rfl rfl rfl ?_
    refine LX.pure (Y.not rfl) rfl rfl rfl ?_
    refine LX.sub (l' := [(0, _), (2, _), (3, _), (15, _)]) ⟨rfl, rfl, rfl, rfl, trivial⟩ ?_
    refine LX.next ?_
    refine PX.thenN ?_
    refine CX.cond rfl (fun hb2 => ?_) (fun hb2 => ?_)
    · try simp at hb2
      refine CX.seq ?_
      refine CX.region ?_
      refine LX.pure (Y.move rfl) rfl rfl rfl ?_
      refine LX.world (W' := WA w0 base (atI b pos (errV (aE i)) :: blk bx0 (Value.agg #[.int .i64 0, .bool false, .int .i64 0, .bool false, .string ⟨#[]⟩]).cells.toList 35 :: fr)) (fun w hw => hw.perm (.swap _ _ _)) ?_
      refine LX.call (placedAt_c hS hi b pos) Fs.en69 rfl rfl rfl rfl rfl ?_
      intro _
      first
        | refine LX.storeA 0 Fs.ag35 rfl rfl rfl rfl rfl rfl rfl rfl rfl ?_
        | refine LX.storeA 1 Fs.ag35 rfl rfl rfl rfl rfl rfl rfl rfl rfl ?_
        | refine LX.storeA 2 Fs.ag35 rfl rfl rfl rfl rfl rfl rfl rfl rfl ?_
      refine LX.sub (l' := [(2, _), (3, _)]) ⟨rfl, rfl, trivial⟩ ?_
      refine LX.next ?_
      refine PX.thenN ?_
      refine CX.ret ?_
      refine PX.thenR ?_
      first
        | refine PX.retA (i := 0) (by simp) Tryd.results40 Fs.ag35 rfl rfl rfl ?_
        | refine PX.retA (i := 1) (by simp) Tryd.results40 Fs.ag35 rfl rfl rfl ?_
        | refine PX.retA (i := 2) (by simp) Tryd.results40 Fs.ag35 rfl rfl rfl ?_
      exact fun w hw => ⟨(), rfl, hw.drop (.cons_cons _ (List.sublist_cons_self _ _))⟩
    · try simp at hb2
      first | done | cases hb2

theorem faultBare_c {w0 : World} {base : Nat} {fr : List It} {aE : Nat → Addr} (hS : EnvS w0 base aE) {i : Nat} (hi : i < 17) : FnC Tryd.prog 40 #[errV (aE i)] (WA w0 base fr) (fun _ : Unit => Flt.v ⟨101 + i, false, 0, false, []⟩) (fun _ => WA w0 base fr) := by
  refine FnC.of_body (fn := Tryd.f40) [(0, _)] Tryd.func40 rfl Tryd.ntmps40 rfl ⟨rfl, trivial⟩ ?_
  refine CX.seq ?_
  refine CX.region ?_
  refine LX.alloc rfl Fs.zv35 rfl rfl rfl ?_
  intro bx0
  refine LX.sub (l' := [(0, _), (2, _)]) ⟨rfl, rfl, trivial⟩ ?_
  refine LX.next ?_
  refine PX.thenN ?_
  refine CX.seq ?_
  refine CX.seq ?_
  refine CX.region ?_
  refine LX.pure (Y.move rfl) rfl rfl rfl ?_
  first
    | refine LX.pure (Y.eqNil F.un29 rfl rfl) rfl rfl rfl ?_
    | refine LX.pure (Y.eqNilNil F.un29 rfl) rfl rfl rfl ?_
  refine LX.sub (l' := [(0, _), (2, _), (7, _)]) ⟨rfl, rfl, rfl, trivial⟩ ?_
  refine LX.next ?_
  refine PX.thenN ?_
  refine CX.cond rfl (fun hb1 => ?_) (fun hb1 => ?_)
  · try simp at hb1
    first | done | cases hb1
  · try simp at hb1
    refine CX.skip ?_
    refine PX.thenN ?_
    refine CX.seq ?_
    refine CX.region ?_
    refine LX.pure (Y.move rfl) rfl rfl rfl ?_
    first
      | refine LX.pure (Y.assertYes Fs.nif98 rfl) rfl rfl rfl ?_
      | refine LX.pure (Y.assertNo Fs.nif98 rfl (by decide) Fs.zv98) rfl rfl rfl ?_
    refine LX.pure (Y.move rfl) rfl rfl rfl ?_
    refine LX.pure (Y.extract rfl rfl) rfl rfl rfl ?_
    refine LX.pure (Y.extract rfl rfl) rfl rfl rfl ?_
    refine LX.pure (Y.assign rfl) rfl rfl rfl ?_
    refine LX.pure (Y.assign rfl) rfl rfl rfl ?_
    refine LX.sub (l' := [(0, _), (2, _), (3, _), (4, _)]) ⟨rfl, rfl, rfl, rfl, trivial⟩ ?_
    refine LX.next ?_
    refine PX.thenN ?_
    refine CX.seq ?_
    refine CX.seq ?_
    refine CX.region ?_
    refine LX.pure (Y.move rfl) rfl rfl rfl ?_
    refine LX.pure (Y.not rfl) rfl rfl rfl ?_
    refine LX.sub (l' := [(0, _), (2, _), (3, _), (15, _)]) ⟨rfl, rfl, rfl, rfl, trivial⟩ ?_
    refine LX.next ?_
    refine PX.thenN ?_
    refine CX.cond rfl (fun hb2 => ?_) (fun hb2 => ?_)
    · try simp at hb2
      refine CX.seq ?_
      refine CX.region ?_
      refine LX.pure (Y.move rfl) rfl rfl rfl ?_
      refine LX.call (placedBare_c hS hi) Fs.en69 rfl rfl rfl rfl rfl ?_
      intro _
      first
        | refine LX.storeA 0 Fs.ag35 rfl rfl rfl rfl rfl rfl rfl rfl rfl ?_
        | refine LX.storeA 1 Fs.ag35 rfl rfl rfl rfl rfl rfl rfl rfl rfl ?_
        | refine LX.storeA 2 Fs.ag35 rfl rfl rfl rfl rfl rfl rfl rfl rfl ?_
      refine LX.sub (l' := [(2, _), (3, _)]) ⟨rfl, rfl, trivial⟩ ?_
      refine LX.next ?_
      refine PX.thenN ?_
      refine CX.ret ?_
      refine PX.thenR ?_
      first
        | refine PX.retA (i := 0) (by simp) Tryd.results40 Fs.ag35 rfl rfl rfl ?_
        | refine PX.retA (i := 1) (by simp) Tryd.results40 Fs.ag35 rfl rfl rfl ?_
        | refine PX.retA (i := 2) (by simp) Tryd.results40 Fs.ag35 rfl rfl rfl ?_
      exact fun w hw => ⟨(), rfl, hw.drop ((List.sublist_cons_self _ _))⟩
    · try simp at hb2
      first | done | cases hb2

theorem sameNil_c {w0 : World} {base : Nat} {fr : List It} (x : Flt) : FnC Tryd.prog 17 #[.nilIface, x.v] (WA w0 base fr) (fun _ : Unit => .bool (decide (⟨0, false, 0, false, []⟩ = x))) (fun _ => WA w0 base fr) := by
  refine FnC.of_body (fn := Tryd.f17) [(0, _), (1, _)] Tryd.func17 rfl Tryd.ntmps17 rfl ⟨rfl, rfl, trivial⟩ ?_
  refine CX.seq ?_
  refine CX.region ?_
  refine LX.box rfl rfl rfl rfl rfl ?_
  intro bx0
  refine LX.pure (Y.assign rfl) rfl rfl rfl ?_
  refine LX.sub (l' := [(0, _), (3, _), (4, _)]) ⟨rfl, rfl, rfl, trivial⟩ ?_
  refine LX.next ?_
  refine PX.thenN ?_
  refine CX.seq ?_
  refine CX.regionM [(0, .anywhere), (2, .held), (1, .alone), (3, .alone), (4, .anywhere)] rfl (by kernel_rfl) ?_
  refine MX.lift0 (i := 0) rfl (Y.move rfl) rfl rfl rfl ?_
  first
    | refine MX.lift1 (i := 2) (pend' := []) rfl (fun w hw => by first | exact hw | exact hw.1 | exact hw.drop (List.sublist_cons_self _ _) | exact hw.drop ((List.sublist_cons_self _ _).cons _)) (Y.ldAggB 0 Fs.ag35 rfl rfl rfl rfl) rfl rfl rfl (by kernel_rfl) ?_
    | refine MX.lift1 (i := 2) (pend' := []) rfl (fun w hw => by first | exact hw | exact hw.1 | exact hw.drop (List.sublist_cons_self _ _) | exact hw.drop ((List.sublist_cons_self _ _).cons _)) (Y.ldAggB 1 Fs.ag35 rfl rfl rfl rfl) rfl rfl rfl (by kernel_rfl) ?_
    | refine MX.lift1 (i := 2) (pend' := []) rfl (fun w hw => by first | exact hw | exact hw.1 | exact hw.drop (List.sublist_cons_self _ _) | exact hw.drop ((List.sublist_cons_self _ _).cons _)) (Y.ldAggB 2 Fs.ag35 rfl rfl rfl rfl) rfl rfl rfl (by kernel_rfl) ?_
  refine MX.force (i := 1) rfl ?_
  refine LX.call (faultNil_c) Fs.en40 rfl rfl rfl rfl rfl ?_
  intro _
  refine LX.nextM [2] (by kernel_rfl) (fun _ => (fun w hw => by first | exact hw | exact hw.1 | exact hw.drop (List.sublist_cons_self _ _) | exact hw.drop ((List.sublist_cons_self _ _).cons _))) ?_
  refine MX.force (i := 3) rfl ?_
  refine LX.call (sameFault_c ⟨0, false, 0, false, []⟩ x) Fs.en39 rfl rfl rfl rfl rfl ?_
  intro _
  refine LX.nextM [] (by kernel_rfl) (fun h => absurd rfl h) ?_
  refine MX.lift0 (i := 4) rfl (Y.assign rfl) rfl rfl rfl ?_
  refine MX.sub (l' := [(4, _)]) ⟨rfl, trivial⟩ ?_
  refine MX.done ?_
  refine PX.thenN ?_
  refine CX.ret ?_
  refine PX.ret1 (by simp) Tryd.results17 rfl ?_
  exact fun w hw => ⟨(), rfl, hw.drop ((List.sublist_cons_self _ _))⟩

theorem sameAt_c {w0 : World} {base : Nat} {fr : List It} {aE : Nat → Addr} (hS : EnvS w0 base aE) {i : Nat} (hi : i < 17) (b pos : Nat) (x : Flt) : FnC Tryd.prog 17 #[atV b, x.v] (WA w0 base (atI b pos (errV (aE i)) :: fr)) (fun _ : Unit => .bool (decide (⟨101 + i, true, pos, false, []⟩ = x))) (fun _ => WA w0 base (atI b pos (errV (aE i)) :: fr)) := by
  refine FnC.of_body (fn := Tryd.f17) [(0, _), (1, _)] Tryd.func17 rfl Tryd.ntmps17 rfl ⟨rfl, rfl, trivial⟩ ?_
  refine CX.seq ?_
  refine CX.region ?_
  refine LX.box rfl rfl rfl rfl rfl ?_
  intro bx0
  refine LX.pure (Y.assign rfl) rfl rfl rfl ?_
  refine LX.sub (l' := [(0, _), (3, _), (4, _)]) ⟨rfl, rfl, rfl, trivial⟩ ?_
  refine LX.next ?_
  refine PX.thenN ?_
  refine CX.seq ?_
  refine CX.regionM [(0, .anywhere), (2, .held), (1, .alone), (3, .alone), (4, .anywhere)] rfl (by kernel_rfl) ?_
  refine MX.lift0 (i := 0) rfl (Y.move rfl) rfl rfl rfl ?_
  first
    | refine MX.lift1 (i := 2) (pend' := []) rfl (fun w hw => by first | exact hw | exact hw.1 | exact hw.drop (List.sublist_cons_self _ _) | exact hw.drop ((List.sublist_cons_self _ _).cons _)) (Y.ldAggB 0 Fs.ag35 rfl rfl rfl rfl) rfl rfl rfl (by kernel_rfl) ?_
    | refine MX.lift1 (i := 2) (pend' := []) rfl (fun w hw => by first | exact hw | exact hw.1 | exact hw.drop (List.sublist_cons_self _ _) | exact hw.drop ((List.sublist_cons_self _ _).cons _)) (Y.ldAggB 1 Fs.ag35 rfl rfl rfl rfl) rfl rfl rfl (by kernel_rfl) ?_
    | refine MX.lift1 (i := 2) (pend' := []) rfl (fun w hw => by first | exact hw | exact hw.1 | exact hw.drop (List.sublist_cons_self _ _) | exact hw.drop ((List.sublist_cons_self _ _).cons _)) (Y.ldAggB 2 Fs.ag35 rfl rfl rfl rfl) rfl rfl rfl (by kernel_rfl) ?_
  refine MX.force (i := 1) rfl ?_
  refine LX.world (W' := WA w0 base (atI b pos (errV (aE i)) :: .obj bx0 (.cells x.v.cells 35 (0, 0)) :: fr)) (fun w hw => hw.perm (.swap _ _ _)) ?_
  refine LX.call (faultAt_c hS hi b pos) Fs.en40 rfl rfl rfl rfl rfl ?_
  intro _
  refine LX.world (W' := WA w0 base (blk bx0 x.v.cells.toList 35 :: atI b pos (errV (aE i)) :: fr)) (fun w hw => hw.perm (.swap _ _ _)) ?_
  refine LX.nextM [2] (by kernel_rfl) (fun _ => (fun w hw => by first | exact hw | exact hw.1 | exact hw.drop (List.sublist_cons_self _ _) | exact hw.drop ((List.sublist_cons_self _ _).cons _))) ?_
  refine MX.force (i := 3) rfl ?_
  refine LX.call (sameFault_c ⟨101 + i, true, pos, false, []⟩ x) Fs.en39 rfl rfl rfl rfl rfl ?_
  intro _
  refine LX.nextM [] (by kernel_rfl) (fun h => absurd rfl h) ?_
  refine MX.lift0 (i := 4) rfl (Y.assign rfl) rfl rfl rfl ?_
  refine MX.sub (l' := [(4, _)]) ⟨rfl, trivial⟩ ?_
  refine MX.done ?_
  refine PX.thenN ?_
  refine CX.ret ?_
  refine PX.ret1 (by simp) Tryd.results17 rfl ?_
  exact fun w hw => ⟨(), rfl, hw.drop ((List.sublist_cons_self _ _))⟩

theorem sameBare_c {w0 : World} {base : Nat} {fr : List It} {aE : Nat → Addr} (hS : EnvS w0 base aE) {i : Nat} (hi : i < 17) (x : Flt) : FnC Tryd.prog 17 #[errV (aE i), x.v] (WA w0 base fr) (fun _ : Unit => .bool (decide (⟨101 + i, false, 0, false, []⟩ = x))) (fun _ => WA w0 base fr) := by
  refine FnC.of_body (fn := Tryd.f17) [(0, _), (1, _)] Tryd.func17 rfl Tryd.ntmps17 rfl ⟨rfl, rfl, trivial⟩ ?_
  refine CX.seq ?_
  refine CX.region ?_
  refine LX.box rfl rfl rfl rfl rfl ?_
  intro bx0
  refine LX.pure (Y.assign rfl) rfl rfl rfl ?_
  refine LX.sub (l' := [(0, _), (3, _), (4, _)]) ⟨rfl, rfl, rfl, trivial⟩ ?_
  refine LX.next ?_
  refine PX.thenN ?_
  refine CX.seq ?_
  refine CX.regionM [(0, .anywhere), (2, .held), (1, .alone), (3, .alone), (4, .anywhere)] rfl (by kernel_rfl) ?_
  refine MX.lift0 (i := 0) rfl (Y.move rfl) rfl rfl rfl ?_
  first
    | refine MX.lift1 (i := 2) (pend' := []) rfl (fun w hw => by first | exact hw | exact hw.1 | exact hw.drop (List.sublist_cons_self _ _) | exact hw.drop ((List.sublist_cons_self _ _).cons _)) (Y.ldAggB 0 Fs.ag35 rfl rfl rfl rfl) rfl rfl rfl (by kernel_rfl) ?_
    | refine MX.lift1 (i := 2) (pend' := []) rfl (fun w hw => by first | exact hw | exact hw.1 | exact hw.drop (List.sublist_cons_self _ _) | exact hw.drop ((List.sublist_cons_self _ _).cons _)) (Y.ldAggB 1 Fs.ag35 rfl rfl rfl rfl) rfl rfl rfl (by kernel_rfl) ?_
    | refine MX.lift1 (i := 2) (pend' := []) rfl (fun w hw => by first | exact hw | exact hw.1 | exact hw.drop (List.sublist_cons_self _ _) | exact hw.drop ((List.sublist_cons_self _ _).cons _)) (Y.ldAggB 2 Fs.ag35 rfl rfl rfl rfl) rfl rfl rfl (by kernel_rfl) ?_
  refine MX.force (i := 1) rfl ?_
  refine LX.call (faultBare_c hS hi) Fs.en40 rfl rfl rfl rfl rfl ?_
  intro _
  refine LX.nextM [2] (by kernel_rfl) (fun _ => (fun w hw => by first | exact hw | exact hw.1 | exact hw.drop (List.sublist_cons_self _ _) | exact hw.drop ((List.sublist_cons_self _ _).cons _))) ?_
  refine MX.force (i := 3) rfl ?_
  refine LX.call (sameFault_c ⟨101 + i, false, 0, false, []⟩ x) Fs.en39 rfl rfl rfl rfl rfl ?_
  intro _
  refine LX.nextM [] (by kernel_rfl) (fun h => absurd rfl h) ?_
  refine MX.lift0 (i := 4) rfl (Y.assign rfl) rfl rfl rfl ?_
  refine MX.sub (l' := [(4, _)]) ⟨rfl, trivial⟩ ?_
  refine MX.done ?_
  refine PX.thenN ?_
  refine CX.ret ?_
  refine PX.ret1 (by simp) Tryd.results17 rfl ?_
  exact fun w hw => ⟨(), rfl, hw.drop ((List.sublist_cons_self _ _))⟩

end Go.Proofs.YtggoogbloaennaaDoor
