/-
  Proved here: how errors are told apart.
-/
import Derived.Test.YtgijpgkckiknjaaGreatDoorByS
import Derived.Test.YtgijpgkckiknjaaGreatDoorEnvQ
namespace Go.Proofs.YtgijpgkckiknjaaGreatDoor
open Go.SX Go.RowKit Go.Lex
namespace Hs
theorem ag34 : AggT Tryz.prog 34 5 := AggT.of (by kernel_rfl) (by kernel_rfl)
theorem cp302 : CmpT Tryz.prog 302 317 := CmpT.of (by kernel_rfl) (by kernel_rfl) (by kernel_rfl)
theorem en136 : Enters Tryz.prog 136 := Enters.of Tryz.func136 (by kernel_rfl) (by kernel_rfl)
theorem en15 : Enters Tryz.prog 15 := Enters.of Tryz.func15 (by kernel_rfl) (by kernel_rfl)
theorem en180 : Enters Tryz.prog 180 := Enters.of Tryz.func180 (by kernel_rfl) (by kernel_rfl)
theorem en181 : Enters Tryz.prog 181 := Enters.of Tryz.func181 (by kernel_rfl) (by kernel_rfl)
theorem en28 : Enters Tryz.prog 28 := Enters.of Tryz.func28 (by kernel_rfl) (by kernel_rfl)
theorem en38 : Enters Tryz.prog 38 := Enters.of Tryz.func38 (by kernel_rfl) (by kernel_rfl)
theorem en41 : Enters Tryz.prog 41 := Enters.of Tryz.func41 (by kernel_rfl) (by kernel_rfl)
theorem en42 : Enters Tryz.prog 42 := Enters.of Tryz.func42 (by kernel_rfl) (by kernel_rfl)
theorem en67 : Enters Tryz.prog 67 := Enters.of Tryz.func67 (by kernel_rfl) (by kernel_rfl)
theorem fo138_0 : FieldOff Tryz.prog 138 0 0 := fun b o w => by kernel_rfl
theorem fo138_1 : FieldOff Tryz.prog 138 1 1 := fun b o w => by kernel_rfl
theorem fo34_0 : FieldOff Tryz.prog 34 0 0 := fun b o w => by kernel_rfl
theorem fo34_1 : FieldOff Tryz.prog 34 1 1 := fun b o w => by kernel_rfl
theorem fo34_2 : FieldOff Tryz.prog 34 2 2 := fun b o w => by kernel_rfl
theorem fo34_3 : FieldOff Tryz.prog 34 3 3 := fun b o w => by kernel_rfl
theorem fo34_4 : FieldOff Tryz.prog 34 4 4 := fun b o w => by kernel_rfl
theorem one30 : One Tryz.prog 30 := fun w => by kernel_rfl
theorem one4 : One Tryz.prog 4 := fun w => by kernel_rfl
theorem sz30 : SizeIs Tryz.prog 30 1 := fun w => by kernel_rfl
theorem un136 : Tryz.prog.underlying 136 = some (.pointer 138) := by kernel_rfl
theorem un141 : Tryz.prog.underlying 141 = some (.pointer 144) := by kernel_rfl
theorem un260 : Tryz.prog.underlying 260 = some (.slice 30) := by kernel_rfl
theorem un30 : Tryz.prog.underlying 30 = some (.interface #[("Error", 164)]) := by kernel_rfl
theorem un4 : Tryz.prog.underlying 4 = some .bool := by kernel_rfl
theorem zv136 : ∀ w, (zeroValue 136).run Tryz.prog w = .ok (.pointer none) w := fun w => by kernel_rfl
theorem zv141 : ∀ w, (zeroValue 141).run Tryz.prog w = .ok (.pointer none) w := fun w => by kernel_rfl
theorem zv34 : ∀ w, (zeroValue 34).run Tryz.prog w = .ok (.agg #[.int .i64 0, .bool false, .int .i64 0, .bool false, .string ⟨#[]⟩]) w := fun w => by kernel_rfl
theorem nif136 : NotIface Tryz.prog 136 := NotIface.of un136 (fun ms h => by cases h)
theorem nif141 : NotIface Tryz.prog 141 := NotIface.of un141 (fun ms h => by cases h)
end Hs
open Go.Proofs.YtgijpgkckiknjaaGreatDoor.Env (EnvS errV sentG)
@[reducible] def atI (b pos : Nat) (e : Value) : It := blk b [.int .i64 (pos : Int), e] 138
@[reducible] def atV (b : Nat) : Value := .iface 136 (.pointer (some ⟨b, 0, none⟩))
structure Flt where
  code : Int
  placed : Bool
  pos : Int
  filed : Bool
  file : List UInt8
  deriving DecidableEq
@[reducible] def Flt.v (x : Flt) : Value := .agg #[.int .i64 x.code, .bool x.placed, .int .i64 x.pos, .bool x.filed, str x.file]
theorem sent_cell {aE : Nat → Addr} {k : Nat} (h : k < 17) : ((List.range 17).map fun i => errV (aE i))[k * 1]? = some (errV (aE k)) := by
  rw [Nat.mul_one, List.getElem?_map, List.getElem?_range h]; rfl
theorem Y.alike {l : Fr} {W : World → Prop} {w0 : World} {base : Nat} {aE : Nat → Addr} (hS : EnvS w0 base aE) (hW : ∀ w, W w → Below base w0 w) {i j : Nat} (hi : i < 17) (hj : j < 17) {x y : Operand} {ty ty2 : TypeId}
    (hx : evl l x = some (errV (aE i))) (hy : evl l y = some (errV (aE j))) : Y Tryz.prog l W (.binOp .eql 30 x y ty2) ty (.bool (decide (i = j))) := by
  by_cases h : i = j
  · subst h
    rw [show decide (i = i) = true by simp]
    exact Y.eqSame Hs.un30 Hs.cp302 hx hy
  · rw [show decide (i = j) = false by simp [h]]
    refine Y.eqOther Hs.un30 Hs.cp302 (hS.ne i j hi hj h) (fun w hw => ?_) (fun w hw => ?_) hx hy
    · obtain ⟨h1, c, t, h2⟩ := hS.blk i hi
      exact ⟨c, t, ((hW w hw).block _ h1).trans h2⟩
    · obtain ⟨h1, c, t, h2⟩ := hS.blk j hj
      exact ⟨c, t, ((hW w hw).block _ h1).trans h2⟩
theorem sentinels_c {w0 : World} {base : Nat} {fr : List It} {aE : Nat → Addr} (hS : EnvS w0 base aE) : FnC Tryz.prog 180 #[] (WA w0 base fr) (fun b : Nat => .slice (some ⟨b, 0, none⟩) 17 17) (fun b => WA w0 base (.row (some b) 17 17 30 1 ((List.range 17).map fun i => errV (aE i)) :: fr)) := by
  refine FnC.of_body (fn := Tryz.f180) [] Tryz.func180 rfl Tryz.ntmps180 rfl trivial ?_
  refine CX.seq ?_
  refine CX.region ?_
  refine LX.pure (Y.assign rfl) rfl rfl rfl ?_
  refine LX.sub (l' := [(0, _)]) ⟨rfl, trivial⟩ ?_
  refine LX.next ?_
  refine PX.thenN ?_
  refine CX.seq ?_
  refine CX.region ?_
  refine LX.pure (Y.ldO Hs.one30 rfl (hS.at_ 0 5 rfl) (hS.lt 5 (by decide))) rfl rfl rfl ?_
  refine LX.pure (Y.ldO Hs.one30 rfl (hS.at_ 1 6 rfl) (hS.lt 6 (by decide))) rfl rfl rfl ?_
  refine LX.pure (Y.ldO Hs.one30 rfl (hS.at_ 2 0 rfl) (hS.lt 0 (by decide))) rfl rfl rfl ?_
  refine LX.pure (Y.ldO Hs.one30 rfl (hS.at_ 3 7 rfl) (hS.lt 7 (by decide))) rfl rfl rfl ?_
  refine LX.pure (Y.ldO Hs.one30 rfl (hS.at_ 4 8 rfl) (hS.lt 8 (by decide))) rfl rfl rfl ?_
  refine LX.pure (Y.ldO Hs.one30 rfl (hS.at_ 5 9 rfl) (hS.lt 9 (by decide))) rfl rfl rfl ?_
  refine LX.pure (Y.ldO Hs.one30 rfl (hS.at_ 6 10 rfl) (hS.lt 10 (by decide))) rfl rfl rfl ?_
  refine LX.pure (Y.ldO Hs.one30 rfl (hS.at_ 7 4 rfl) (hS.lt 4 (by decide))) rfl rfl rfl ?_
  refine LX.pure (Y.ldO Hs.one30 rfl (hS.at_ 8 11 rfl) (hS.lt 11 (by decide))) rfl rfl rfl ?_
  refine LX.pure (Y.ldO Hs.one30 rfl (hS.at_ 9 2 rfl) (hS.lt 2 (by decide))) rfl rfl rfl ?_
  refine LX.pure (Y.ldO Hs.one30 rfl (hS.at_ 10 12 rfl) (hS.lt 12 (by decide))) rfl rfl rfl ?_
  refine LX.pure (Y.ldO Hs.one30 rfl (hS.at_ 11 13 rfl) (hS.lt 13 (by decide))) rfl rfl rfl ?_
  refine LX.pure (Y.ldO Hs.one30 rfl (hS.at_ 12 1 rfl) (hS.lt 1 (by decide))) rfl rfl rfl ?_
  refine LX.pure (Y.ldO Hs.one30 rfl (hS.at_ 13 3 rfl) (hS.lt 3 (by decide))) rfl rfl rfl ?_
  refine LX.pure (Y.ldO Hs.one30 rfl (hS.at_ 14 14 rfl) (hS.lt 14 (by decide))) rfl rfl rfl ?_
  refine LX.pure (Y.ldO Hs.one30 rfl (hS.at_ 15 15 rfl) (hS.lt 15 (by decide))) rfl rfl rfl ?_
  refine LX.pure (Y.ldO Hs.one30 rfl (hS.at_ 16 16 rfl) (hS.lt 16 (by decide))) rfl rfl rfl ?_
  refine LX.buildSlice (e := 30) (size := 1) rfl rfl (fun _ => by kernel_rfl) rfl (by decide) rfl rfl rfl ?_
  intro gt18
  refine LX.pure (Y.assign rfl) rfl rfl rfl ?_
  refine LX.sub (l' := [(0, _)]) ⟨rfl, trivial⟩ ?_
  refine LX.next ?_
  refine PX.thenN ?_
  refine CX.ret ?_
  refine PX.ret1 (by simp) Tryz.results180 rfl ?_
  exact fun w hw => ⟨_, rfl, hw⟩
theorem alike_q {W : World → Prop} [Stab W] {w0 : World} {base : Nat} {aE : Nat → Addr} (hS : EnvS w0 base aE) (hB : ∀ w, W w → Below base w0 w) {i j : Nat} (hi : i < 17) (hj : j < 17) : FnQ Tryz.prog 181 #[errV (aE i), errV (aE j)] W (.bool (decide (i = j))) := by
  refine FnQ.all fun W' _ hW => ?_
  refine FnC.of_body (fn := Tryz.f181) [(0, _), (1, _)] Tryz.func181 rfl Tryz.ntmps181 rfl ⟨rfl, rfl, trivial⟩ ?_
  refine CX.seq ?_
  refine CX.region ?_
  refine LX.pure (Y.assign rfl) rfl rfl rfl ?_
  refine LX.sub (l' := [(0, _), (1, _), (4, _)]) ⟨rfl, rfl, rfl, trivial⟩ ?_
  refine LX.next ?_
  refine PX.thenN ?_
  refine CX.seq ?_
  refine CX.seq ?_
  refine CX.region ?_
  refine LX.pure (Y.move rfl) rfl rfl rfl ?_
  refine LX.pure (Y.eqNil Hs.un30 rfl rfl) rfl rfl rfl ?_
  refine LX.pure (Y.move rfl) rfl rfl rfl ?_
  refine LX.sub (l' := [(0, _), (1, _), (4, _), (7, _)]) ⟨rfl, rfl, rfl, rfl, trivial⟩ ?_
  apply LX.joinOr 3 10 7 rfl
  · intro hb1
    cases hb1
  · intro hb1
    have hb1p := hb1
    try simp at hb1p
    refine LX.gT rfl rfl rfl hb1 (Y.move rfl) rfl rfl ?_
    refine LX.gT rfl rfl rfl hb1 (Y.eqNil Hs.un30 rfl rfl) rfl rfl ?_
    refine LX.pure (Y.pickF rfl hb1 rfl) rfl rfl rfl ?_
    exact LX.left ⟨rfl, rfl, rfl, rfl, rfl, trivial⟩
  refine LX.sub (l' := [(0, _), (1, _), (4, _), (10, _)]) ⟨rfl, rfl, rfl, rfl, trivial⟩ ?_
  refine LX.next ?_
  refine PX.thenN ?_
  refine CX.cond rfl (fun hb2 => ?_) (fun hb2 => ?_)
  · try simp at hb2
    done
  · try simp at hb2
    refine CX.skip ?_
    refine PX.thenN ?_
    refine CX.seq ?_
    refine CX.region ?_
    refine LX.pure (Y.move rfl) rfl rfl rfl ?_
    refine LX.pure (Y.move rfl) rfl rfl rfl ?_
    refine LX.pure (Y.alike hS (fun w hw => hB w (hW w hw)) hi hj rfl rfl) rfl rfl rfl ?_
    refine LX.pure (Y.assign rfl) rfl rfl rfl ?_
    refine LX.sub (l' := [(4, _)]) ⟨rfl, trivial⟩ ?_
    refine LX.next ?_
    refine PX.thenN ?_
    refine CX.ret ?_
    refine PX.ret1 (by simp) Tryz.results181 rfl ?_
    exact fun w hw => ⟨(), rfl, hw⟩
theorem sentinel_c {w0 : World} {base : Nat} {fr : List It} {aE : Nat → Addr} (hS : EnvS w0 base aE) {i : Nat} (hi : i < 17) : FnC Tryz.prog 136 #[errV (aE i)] (WA w0 base fr) (fun _ : Unit => .int .i64 (101 + i : Int)) (fun _ => WA w0 base fr) := by
  refine FnC.of_body (fn := Tryz.f136) [(0, _)] Tryz.func136 rfl Tryz.ntmps136 rfl ⟨rfl, trivial⟩ ?_
  refine CX.seq ?_
  refine CX.region ?_
  refine LX.pure (Y.assign rfl) rfl rfl rfl ?_
  refine LX.sub (l' := [(0, _), (2, _)]) ⟨rfl, rfl, trivial⟩ ?_
  refine LX.next ?_
  refine PX.thenN ?_
  refine CX.seq ?_
  refine CX.region ?_
  refine LX.call (sentinels_c hS) Hs.en180 rfl rfl rfl rfl rfl ?_
  intro bs
  refine LX.pure (Y.assign rfl) rfl rfl rfl ?_
  refine LX.sub (l' := [(0, _), (2, _), (3, _)]) ⟨rfl, rfl, rfl, trivial⟩ ?_
  refine LX.next ?_
  refine PX.thenN ?_
  refine CX.seq ?_
  refine CX.seq ?_
  refine CX.region ?_
  refine LX.pure (Y.assign rfl) rfl rfl rfl ?_
  refine LX.sub (l' := [(0, _), (2, _), (3, _), (4, _)]) ⟨rfl, rfl, rfl, rfl, trivial⟩ ?_
  refine LX.next ?_
  refine PX.thenN ?_
  refine CX.block ?_
  refine CX.loop (τ := Nat) (fun k => [(0, errV (aE i)), (3, .slice (some ⟨bs, 0, none⟩) 17 17), (4, .int .i64 (k : Int))]) (fun k w => k ≤ i ∧ WA w0 base (.row (some bs) 17 17 30 1 ((List.range 17).map fun i => errV (aE i)) :: fr) w) (fun k => i - k) 0 ⟨rfl, rfl, rfl, trivial⟩ (fun w hw => ⟨Nat.zero_le _, hw⟩) ?_
  intro k
  refine CX.have fun hk => ?_
  have hk17 : k < 17 := by omega
  refine CX.seq ?_
  refine CX.seq ?_
  refine CX.region ?_
  refine LX.pure (Y.move rfl) rfl rfl rfl ?_
  refine LX.pure (Y.move rfl) rfl rfl rfl ?_
  refine LX.pure (Y.lenSl rfl Hs.un260 rfl) rfl rfl rfl ?_
  refine LX.pure (Y.ltN rfl rfl) rfl rfl rfl ?_
  refine LX.sub (l' := [(0, _), (3, _), (4, _), (9, _)]) ⟨rfl, rfl, rfl, rfl, trivial⟩ ?_
  refine LX.next ?_
  refine PX.thenN ?_
  refine CX.cond rfl (fun hb1 => ?_) (fun hb1 => ?_)
  · try simp at hb1
    refine CX.skip ?_
    refine PX.thenN ?_
    refine CX.seq ?_
    refine CX.block ?_
    refine CX.seq ?_
    refine CX.region ?_
    refine LX.pure (Y.move rfl) rfl rfl rfl ?_
    refine LX.pure (Y.move rfl) rfl rfl rfl ?_
    refine LX.pure (Y.move rfl) rfl rfl rfl ?_
    refine LX.pure (Y.idxR 0 Hs.un260 Hs.sz30 rfl rfl rfl (by omega)) rfl rfl rfl ?_
    refine LX.pure (Y.ldR 0 (v := errV (aE k)) Hs.one30 rfl rfl (sent_cell hk17)) rfl rfl rfl ?_
    refine LX.callQ (alike_q hS (fun w hw => hw.below) hi hk17) Hs.en181 rfl rfl rfl rfl rfl ?_
    refine LX.sub (l' := [(0, _), (3, _), (4, _), (17, _)]) ⟨rfl, rfl, rfl, rfl, trivial⟩ ?_
    refine LX.next ?_
    refine PX.thenN ?_
    refine CX.cond rfl (fun hb2 => ?_) (fun hb2 => ?_)
    · try simp at hb2
      have hik : k = i := hb2.symm
      subst hik
      refine CX.seq ?_
      refine CX.region ?_
      refine LX.pure (Y.move rfl) rfl rfl rfl ?_
      refine LX.pure (Y.addN rfl rfl (by (simp only []; omega))) rfl rfl rfl ?_
      refine LX.pure (Y.assign rfl) rfl rfl rfl ?_
      refine LX.sub (l' := [(0, _), (2, _), (3, _), (4, _)]) ⟨rfl, rfl, rfl, rfl, trivial⟩ ?_
      refine LX.next ?_
      refine PX.thenN ?_
      refine CX.ret ?_
      refine PX.blockR ?_
      refine PX.thenR ?_
      refine PX.thenR ?_
      refine PX.blockR ?_
      refine PX.thenR ?_
      refine PX.ret1 (by simp) Tryz.results136 rfl ?_
      exact fun w hw => ⟨(), rfl, hw.drop ((List.sublist_cons_self _ _))⟩
    · try simp at hb2
      refine CX.skip ?_
      refine PX.blockN ?_
      refine PX.thenN ?_
      refine CX.region ?_
      refine LX.pure (Y.move rfl) rfl rfl rfl ?_
      refine LX.pure (Y.addN rfl rfl (by (simp only []; omega))) rfl rfl rfl ?_
      refine LX.pure (Y.assign rfl) rfl rfl rfl ?_
      refine LX.sub (l' := [(0, _), (3, _), (4, _)]) ⟨rfl, rfl, rfl, trivial⟩ ?_
      refine LX.next ?_
      exact PX.again (k + 1) (by show i - (k + 1) < i - k; omega) ⟨rfl, rfl, rfl, trivial⟩ (fun w hw => ⟨by omega, hw⟩)
  · try simp at hb1
    exfalso; omega
theorem none_c {w0 : World} {base : Nat} {fr : List It} : FnC Tryz.prog 41 #[] (WA w0 base fr) (fun _ : Unit => Flt.v ⟨0, false, 0, false, []⟩) (fun _ => WA w0 base fr) := by
  refine FnC.of_body (fn := Tryz.f41) [] Tryz.func41 rfl Tryz.ntmps41 rfl trivial ?_
  refine CX.seq ?_
  refine CX.region ?_
  refine LX.alloc rfl Hs.zv34 rfl rfl rfl ?_
  intro bx0
  refine LX.sub (l' := [(0, _)]) ⟨rfl, trivial⟩ ?_
  refine LX.next ?_
  refine PX.thenN ?_
  refine CX.seq ?_
  refine CX.region ?_
  refine LX.pure (Y.build (v := .agg #[.int .i64 0, .bool false, .int .i64 0, .bool false, .string ⟨#[]⟩]) rfl (fun _ => by kernel_rfl)) rfl rfl rfl ?_
  refine LX.storeA 0 Hs.ag34 rfl rfl rfl rfl rfl rfl rfl rfl rfl ?_
  refine LX.sub (l' := [(0, _)]) ⟨rfl, trivial⟩ ?_
  refine LX.next ?_
  refine PX.thenN ?_
  refine CX.ret ?_
  refine PX.retA (i := 0) (by simp) Tryz.results41 Hs.ag34 rfl rfl rfl ?_
  exact fun w hw => ⟨(), rfl, hw.drop ((List.sublist_cons_self _ _))⟩
theorem bare_c {w0 : World} {base : Nat} {fr : List It} (code : Int) : FnC Tryz.prog 38 #[.int .i64 code] (WA w0 base fr) (fun _ : Unit => Flt.v ⟨code, false, 0, false, []⟩) (fun _ => WA w0 base fr) := by
  refine FnC.of_body (fn := Tryz.f38) [(0, _)] Tryz.func38 rfl Tryz.ntmps38 rfl ⟨rfl, trivial⟩ ?_
  refine CX.seq ?_
  refine CX.region ?_
  refine LX.alloc rfl Hs.zv34 rfl rfl rfl ?_
  intro bx0
  refine LX.sub (l' := [(0, _), (2, _)]) ⟨rfl, rfl, trivial⟩ ?_
  refine LX.next ?_
  refine PX.thenN ?_
  refine CX.seq ?_
  refine CX.region ?_
  refine LX.pure (Y.move rfl) rfl rfl rfl ?_
  refine LX.pure (Y.build (v := Flt.v ⟨code, false, 0, false, []⟩) rfl (fun _ => by kernel_rfl)) rfl rfl rfl ?_
  refine LX.storeA 0 Hs.ag34 rfl rfl rfl rfl rfl rfl rfl rfl rfl ?_
  refine LX.sub (l' := [(2, _)]) ⟨rfl, trivial⟩ ?_
  refine LX.next ?_
  refine PX.thenN ?_
  refine CX.ret ?_
  refine PX.retA (i := 0) (by simp) Tryz.results38 Hs.ag34 rfl rfl rfl ?_
  exact fun w hw => ⟨(), rfl, hw.drop ((List.sublist_cons_self _ _))⟩
theorem placedR_c {w0 : World} {base : Nat} {fr : List It} (code pos : Int) (hc : code ≠ 0) : FnC Tryz.prog 15 #[.int .i64 code, .int .i64 pos] (WA w0 base fr) (fun _ : Unit => Flt.v ⟨code, true, pos, false, []⟩) (fun _ => WA w0 base fr) := by
  refine FnC.of_body (fn := Tryz.f15) [(0, _), (1, _)] Tryz.func15 rfl Tryz.ntmps15 rfl ⟨rfl, rfl, trivial⟩ ?_
  refine CX.seq ?_
  refine CX.region ?_
  refine LX.alloc rfl Hs.zv34 rfl rfl rfl ?_
  intro bx0
  refine LX.sub (l' := [(0, _), (1, _), (4, _)]) ⟨rfl, rfl, rfl, trivial⟩ ?_
  refine LX.next ?_
  refine PX.thenN ?_
  refine CX.seq ?_
  refine CX.seq ?_
  refine CX.region ?_
  refine LX.pure (Y.move rfl) rfl rfl rfl ?_
  refine LX.pure (Y.eqI rfl rfl) rfl rfl rfl ?_
  refine LX.sub (l' := [(0, _), (1, _), (4, _), (6, _)]) ⟨rfl, rfl, rfl, rfl, trivial⟩ ?_
  refine LX.next ?_
  refine PX.thenN ?_
  refine CX.cond rfl (fun hb1 => ?_) (fun hb1 => ?_)
  · try simp at hb1
    exact absurd hb1 hc
  · try simp at hb1
    refine CX.skip ?_
    refine PX.thenN ?_
    refine CX.seq ?_
    refine CX.region ?_
    refine LX.pure (Y.move rfl) rfl rfl rfl ?_
    refine LX.pure (Y.move rfl) rfl rfl rfl ?_
    refine LX.pure (Y.build (v := Flt.v ⟨code, true, pos, false, []⟩) rfl (fun _ => by kernel_rfl)) rfl rfl rfl ?_
    refine LX.storeA 0 Hs.ag34 rfl rfl rfl rfl rfl rfl rfl rfl rfl ?_
    refine LX.sub (l' := [(4, _)]) ⟨rfl, trivial⟩ ?_
    refine LX.next ?_
    refine PX.thenN ?_
    refine CX.ret ?_
    refine PX.retA (i := 0) (by simp) Tryz.results15 Hs.ag34 rfl rfl rfl ?_
    exact fun w hw => ⟨(), rfl, hw.drop ((List.sublist_cons_self _ _))⟩
theorem sameFault_c {w0 : World} {base : Nat} {fr : List It} (x y : Flt) : FnC Tryz.prog 42 #[x.v, y.v] (WA w0 base fr) (fun _ : Unit => .bool (decide (x = y))) (fun _ => WA w0 base fr) := by
  refine FnC.of_body (fn := Tryz.f42) [(0, _), (1, _)] Tryz.func42 rfl Tryz.ntmps42 rfl ⟨rfl, rfl, trivial⟩ ?_
  refine CX.seq ?_
  refine CX.region ?_
  refine LX.box rfl rfl rfl rfl rfl ?_
  intro bx0
  refine LX.box rfl rfl rfl rfl rfl ?_
  intro bx1
  refine LX.pure (Y.assign rfl) rfl rfl rfl ?_
  refine LX.sub (l' := [(2, _), (3, _), (4, _)]) ⟨rfl, rfl, rfl, trivial⟩ ?_
  refine LX.next ?_
  refine PX.thenN ?_
  refine CX.seq ?_
  refine CX.region ?_
  refine LX.pure (Y.fieldAddr0 Hs.fo34_0 rfl) rfl rfl rfl ?_
  refine LX.pure (Y.ldB 1 Fjb.one3 rfl rfl rfl) rfl rfl rfl ?_
  refine LX.pure (Y.fieldAddr0 Hs.fo34_0 rfl) rfl rfl rfl ?_
  refine LX.pure (Y.ldB 0 Fjb.one3 rfl rfl rfl) rfl rfl rfl ?_
  refine LX.pure (Y.eqI rfl rfl) rfl rfl rfl ?_
  refine LX.pure (Y.move rfl) rfl rfl rfl ?_
  refine LX.sub (l' := [(2, _), (3, _), (4, _), (10, _)]) ⟨rfl, rfl, rfl, rfl, trivial⟩ ?_
  apply LX.joinAnd 6 16 10 rfl
  · intro hb1
    have hb1p := hb1
    try simp at hb1p
    refine LX.gT rfl rfl rfl hb1 (Y.fieldAddr0 Hs.fo34_1 rfl) rfl rfl ?_
    refine LX.gT rfl rfl rfl hb1 (Y.ldB 1 Hs.one4 rfl rfl rfl) rfl rfl ?_
    refine LX.gT rfl rfl rfl hb1 (Y.fieldAddr0 Hs.fo34_1 rfl) rfl rfl ?_
    refine LX.gT rfl rfl rfl hb1 (Y.ldB 0 Hs.one4 rfl rfl rfl) rfl rfl ?_
    refine LX.gT rfl rfl rfl hb1 (Y.eqB rfl rfl Hs.un4) rfl rfl ?_
    refine LX.pure (Y.pickT rfl hb1 rfl) rfl rfl rfl ?_
    exact LX.left ⟨rfl, rfl, rfl, rfl, rfl, trivial⟩
  · intro hb1
    have hb1p := hb1
    try simp at hb1p
    refine LX.gF rfl rfl rfl hb1 rfl rfl ?_
    refine LX.gF rfl rfl rfl hb1 rfl rfl ?_
    refine LX.gF rfl rfl rfl hb1 rfl rfl ?_
    refine LX.gF rfl rfl rfl hb1 rfl rfl ?_
    refine LX.gF rfl rfl rfl hb1 rfl rfl ?_
    refine LX.pure (Y.pickF rfl hb1 rfl) rfl rfl rfl ?_
    exact LX.left ⟨rfl, rfl, rfl, rfl, rfl, trivial⟩
  refine LX.pure (Y.move rfl) rfl rfl rfl ?_
  refine LX.sub (l' := [(2, _), (3, _), (4, _), (17, _)]) ⟨rfl, rfl, rfl, rfl, trivial⟩ ?_
  apply LX.joinAnd 6 23 17 rfl
  · intro hb2
    have hb2p := hb2
    try simp at hb2p
    refine LX.gT rfl rfl rfl hb2 (Y.fieldAddr0 Hs.fo34_2 rfl) rfl rfl ?_
    refine LX.gT rfl rfl rfl hb2 (Y.ldB 1 Fjb.one3 rfl rfl rfl) rfl rfl ?_
    refine LX.gT rfl rfl rfl hb2 (Y.fieldAddr0 Hs.fo34_2 rfl) rfl rfl ?_
    refine LX.gT rfl rfl rfl hb2 (Y.ldB 0 Fjb.one3 rfl rfl rfl) rfl rfl ?_
    refine LX.gT rfl rfl rfl hb2 (Y.eqI rfl rfl) rfl rfl ?_
    refine LX.pure (Y.pickT rfl hb2 rfl) rfl rfl rfl ?_
    exact LX.left ⟨rfl, rfl, rfl, rfl, rfl, trivial⟩
  · intro hb2
    have hb2p := hb2
    try simp at hb2p
    refine LX.gF rfl rfl rfl hb2 rfl rfl ?_
    refine LX.gF rfl rfl rfl hb2 rfl rfl ?_
    refine LX.gF rfl rfl rfl hb2 rfl rfl ?_
    refine LX.gF rfl rfl rfl hb2 rfl rfl ?_
    refine LX.gF rfl rfl rfl hb2 rfl rfl ?_
    refine LX.pure (Y.pickF rfl hb2 rfl) rfl rfl rfl ?_
    exact LX.left ⟨rfl, rfl, rfl, rfl, rfl, trivial⟩
  refine LX.pure (Y.move rfl) rfl rfl rfl ?_
  refine LX.sub (l' := [(2, _), (3, _), (4, _), (24, _)]) ⟨rfl, rfl, rfl, rfl, trivial⟩ ?_
  apply LX.joinAnd 6 30 24 rfl
  · intro hb3
    have hb3p := hb3
    try simp at hb3p
    refine LX.gT rfl rfl rfl hb3 (Y.fieldAddr0 Hs.fo34_3 rfl) rfl rfl ?_
    refine LX.gT rfl rfl rfl hb3 (Y.ldB 1 Hs.one4 rfl rfl rfl) rfl rfl ?_
    refine LX.gT rfl rfl rfl hb3 (Y.fieldAddr0 Hs.fo34_3 rfl) rfl rfl ?_
    refine LX.gT rfl rfl rfl hb3 (Y.ldB 0 Hs.one4 rfl rfl rfl) rfl rfl ?_
    refine LX.gT rfl rfl rfl hb3 (Y.eqB rfl rfl Hs.un4) rfl rfl ?_
    refine LX.pure (Y.pickT rfl hb3 rfl) rfl rfl rfl ?_
    exact LX.left ⟨rfl, rfl, rfl, rfl, rfl, trivial⟩
  · intro hb3
    have hb3p := hb3
    try simp at hb3p
    refine LX.gF rfl rfl rfl hb3 rfl rfl ?_
    refine LX.gF rfl rfl rfl hb3 rfl rfl ?_
    refine LX.gF rfl rfl rfl hb3 rfl rfl ?_
    refine LX.gF rfl rfl rfl hb3 rfl rfl ?_
    refine LX.gF rfl rfl rfl hb3 rfl rfl ?_
    refine LX.pure (Y.pickF rfl hb3 rfl) rfl rfl rfl ?_
    exact LX.left ⟨rfl, rfl, rfl, rfl, rfl, trivial⟩
  refine LX.pure (Y.move rfl) rfl rfl rfl ?_
  refine LX.sub (l' := [(2, _), (3, _), (4, _), (31, _)]) ⟨rfl, rfl, rfl, rfl, trivial⟩ ?_
  apply LX.joinAnd 6 37 31 rfl
  · intro hb4
    have hb4p := hb4
    try simp at hb4p
    refine LX.gT rfl rfl rfl hb4 (Y.fieldAddr0 Hs.fo34_4 rfl) rfl rfl ?_
    refine LX.gT rfl rfl rfl hb4 (Y.ldB 1 Fj.one9 rfl rfl rfl) rfl rfl ?_
    refine LX.gT rfl rfl rfl hb4 (Y.fieldAddr0 Hs.fo34_4 rfl) rfl rfl ?_
    refine LX.gT rfl rfl rfl hb4 (Y.ldB 0 Fj.one9 rfl rfl rfl) rfl rfl ?_
    refine LX.gT rfl rfl rfl hb4 (Y.eqS rfl rfl) rfl rfl ?_
    refine LX.pure (Y.pickT rfl hb4 rfl) rfl rfl rfl ?_
    exact LX.left ⟨rfl, rfl, rfl, rfl, rfl, trivial⟩
  · intro hb4
    have hb4p := hb4
    try simp at hb4p
    refine LX.gF rfl rfl rfl hb4 rfl rfl ?_
    refine LX.gF rfl rfl rfl hb4 rfl rfl ?_
    refine LX.gF rfl rfl rfl hb4 rfl rfl ?_
    refine LX.gF rfl rfl rfl hb4 rfl rfl ?_
    refine LX.gF rfl rfl rfl hb4 rfl rfl ?_
    refine LX.pure (Y.pickF rfl hb4 rfl) rfl rfl rfl ?_
    exact LX.left ⟨rfl, rfl, rfl, rfl, rfl, trivial⟩
  refine LX.pure (Y.assign rfl) rfl rfl rfl ?_
  refine LX.sub (l' := [(4, _)]) ⟨rfl, trivial⟩ ?_
  refine LX.next ?_
  refine PX.thenN ?_
  refine CX.ret ?_
  refine PX.ret1 (by simp) Tryz.results42 rfl ?_
  exact fun w hw => ⟨(), by obtain ⟨a, b, c, d, e⟩ := x; obtain ⟨a', b', c', d', e'⟩ := y; simp [Flt.mk.injEq, Bool.and_assoc, Bool.decide_and, Bool.beq_eq_decide_eq], hw.drop ((List.sublist_cons_self _ _).cons _)⟩
theorem placedAt_c {w0 : World} {base : Nat} {fr : List It} {aE : Nat → Addr} (hS : EnvS w0 base aE) {i : Nat} (hi : i < 17) (b pos : Nat) : FnC Tryz.prog 67 #[atV b] (WA w0 base (atI b pos (errV (aE i)) :: fr)) (fun _ : Unit => Flt.v ⟨101 + i, true, pos, false, []⟩) (fun _ => WA w0 base (atI b pos (errV (aE i)) :: fr)) := by
  refine FnC.of_body (fn := Tryz.f67) [(0, _)] Tryz.func67 rfl Tryz.ntmps67 rfl ⟨rfl, trivial⟩ ?_
  refine CX.seq ?_
  refine CX.region ?_
  refine LX.alloc rfl Hs.zv34 rfl rfl rfl ?_
  intro bx0
  refine LX.sub (l' := [(0, _), (2, _)]) ⟨rfl, rfl, trivial⟩ ?_
  refine LX.next ?_
  refine PX.thenN ?_
  refine CX.seq ?_
  refine CX.region ?_
  refine LX.pure (Y.move rfl) rfl rfl rfl ?_
  refine LX.pure (Y.assertYes Hs.nif136 rfl) rfl rfl rfl ?_
  refine LX.pure (Y.move rfl) rfl rfl rfl ?_
  refine LX.pure (Y.extract rfl rfl) rfl rfl rfl ?_
  refine LX.pure (Y.extract rfl rfl) rfl rfl rfl ?_
  refine LX.pure (Y.assign rfl) rfl rfl rfl ?_
  refine LX.pure (Y.assign rfl) rfl rfl rfl ?_
  refine LX.sub (l' := [(0, _), (2, _), (3, _), (4, _)]) ⟨rfl, rfl, rfl, rfl, trivial⟩ ?_
  refine LX.next ?_
  refine PX.thenN ?_
  refine CX.seq ?_
  refine CX.seq ?_
  refine CX.region ?_
  refine LX.pure (Y.move rfl) rfl rfl rfl ?_
  refine LX.pure (Y.not rfl) rfl rfl rfl ?_
  refine LX.sub (l' := [(0, _), (2, _), (3, _), (11, _)]) ⟨rfl, rfl, rfl, rfl, trivial⟩ ?_
  refine LX.next ?_
  refine PX.thenN ?_
  refine CX.cond rfl (fun hb1 => ?_) (fun hb1 => ?_)
  · try simp at hb1
    done
  · try simp at hb1
    refine CX.skip ?_
    refine PX.thenN ?_
    refine CX.seq ?_
    refine CX.seq ?_
    refine CX.region ?_
    refine LX.pure (Y.move rfl) rfl rfl rfl ?_
    refine LX.pure (Y.eqPtrNil Hs.un136 rfl) rfl rfl rfl ?_
    refine LX.pure (Y.move rfl) rfl rfl rfl ?_
    refine LX.sub (l' := [(2, _), (3, _), (17, _)]) ⟨rfl, rfl, rfl, trivial⟩ ?_
    apply LX.joinOr 6 23 17 rfl
    · intro hb2
      cases hb2
    · intro hb2
      have hb2p := hb2
      try simp at hb2p
      refine LX.gT rfl rfl rfl hb2 (Y.move rfl) rfl rfl ?_
      refine LX.gT rfl rfl rfl hb2 (Y.nilCheck rfl) rfl rfl ?_
      refine LX.gT rfl rfl rfl hb2 (Y.fieldAddr0 Hs.fo138_1 rfl) rfl rfl ?_
      refine LX.gT rfl rfl rfl hb2 (Y.ldB 1 Hs.one30 rfl rfl rfl) rfl rfl ?_
      refine LX.gT rfl rfl rfl hb2 (Y.eqNil Hs.un30 rfl rfl) rfl rfl ?_
      refine LX.pure (Y.pickF rfl hb2 rfl) rfl rfl rfl ?_
      exact LX.left ⟨rfl, rfl, rfl, rfl, trivial⟩
    refine LX.sub (l' := [(2, _), (3, _), (23, _)]) ⟨rfl, rfl, rfl, trivial⟩ ?_
    refine LX.next ?_
    refine PX.thenN ?_
    refine CX.cond rfl (fun hb3 => ?_) (fun hb3 => ?_)
    · try simp at hb3
      done
    · try simp at hb3
      refine CX.skip ?_
      refine PX.thenN ?_
      refine CX.seq ?_
      refine CX.regionM [(0, .anywhere), (1, .anywhere), (2, .anywhere), (3, .held), (5, .anywhere), (6, .anywhere), (7, .anywhere), (8, .held), (4, .alone), (9, .alone), (10, .alone)] rfl (by kernel_rfl) ?_
      refine MX.lift0 (i := 0) rfl (Y.move rfl) rfl rfl rfl ?_
      refine MX.lift0 (i := 1) rfl (Y.nilCheck rfl) rfl rfl rfl ?_
      refine MX.lift0 (i := 2) rfl (Y.fieldAddr0 Hs.fo138_1 rfl) rfl rfl rfl ?_
      refine MX.lift1 (i := 3) (pend' := []) rfl (fun w hw => by exact hw) (Y.ldB 1 Hs.one30 rfl rfl rfl) rfl rfl rfl (by kernel_rfl) ?_
      refine MX.lift0 (i := 5) rfl (Y.move rfl) rfl rfl rfl ?_
      refine MX.lift0 (i := 6) rfl (Y.nilCheck rfl) rfl rfl rfl ?_
      refine MX.lift0 (i := 7) rfl (Y.fieldAddr0 Hs.fo138_0 rfl) rfl rfl rfl ?_
      refine MX.lift1 (i := 8) (pend' := [3]) rfl (fun w hw => by exact hw) (Y.ldB 1 Fjb.one3 rfl rfl rfl) rfl rfl rfl (by kernel_rfl) ?_
      refine MX.force (i := 4) rfl ?_
      refine LX.call (sentinel_c hS hi) Hs.en136 rfl rfl rfl rfl rfl ?_
      intro _
      refine LX.nextM [8] (by kernel_rfl) (fun _ => (fun w hw => by exact hw)) ?_
      refine MX.force (i := 9) rfl ?_
      refine LX.call (placedR_c _ _ (by omega)) Hs.en15 rfl rfl rfl rfl rfl ?_
      intro _
      refine LX.nextM [] (by kernel_rfl) (fun h => absurd rfl h) ?_
      refine MX.force (i := 10) rfl ?_
      refine LX.storeA 0 Hs.ag34 rfl rfl rfl rfl rfl rfl rfl rfl rfl ?_
      refine LX.nextM [] (by kernel_rfl) (fun h => absurd rfl h) ?_
      refine MX.sub (l' := [(2, _)]) ⟨rfl, trivial⟩ ?_
      refine MX.done ?_
      refine PX.thenN ?_
      refine CX.ret ?_
      refine PX.retA (i := 0) (by simp) Tryz.results67 Hs.ag34 rfl rfl rfl ?_
      exact fun w hw => ⟨(), rfl, hw.drop ((List.sublist_cons_self _ _))⟩
theorem placedBare_c {w0 : World} {base : Nat} {fr : List It} {aE : Nat → Addr} (hS : EnvS w0 base aE) {i : Nat} (hi : i < 17) : FnC Tryz.prog 67 #[errV (aE i)] (WA w0 base fr) (fun _ : Unit => Flt.v ⟨101 + i, false, 0, false, []⟩) (fun _ => WA w0 base fr) := by
  refine FnC.of_body (fn := Tryz.f67) [(0, _)] Tryz.func67 rfl Tryz.ntmps67 rfl ⟨rfl, trivial⟩ ?_
  refine CX.seq ?_
  refine CX.region ?_
  refine LX.alloc rfl Hs.zv34 rfl rfl rfl ?_
  intro bx0
  refine LX.sub (l' := [(0, _), (2, _)]) ⟨rfl, rfl, trivial⟩ ?_
  refine LX.next ?_
  refine PX.thenN ?_
  refine CX.seq ?_
  refine CX.region ?_
  refine LX.pure (Y.move rfl) rfl rfl rfl ?_
  refine LX.pure (Y.assertNo Hs.nif136 rfl (by decide) Hs.zv136) rfl rfl rfl ?_
  refine LX.pure (Y.move rfl) rfl rfl rfl ?_
  refine LX.pure (Y.extract rfl rfl) rfl rfl rfl ?_
  refine LX.pure (Y.extract rfl rfl) rfl rfl rfl ?_
  refine LX.pure (Y.assign rfl) rfl rfl rfl ?_
  refine LX.pure (Y.assign rfl) rfl rfl rfl ?_
  refine LX.sub (l' := [(0, _), (2, _), (3, _), (4, _)]) ⟨rfl, rfl, rfl, rfl, trivial⟩ ?_
  refine LX.next ?_
  refine PX.thenN ?_
  refine CX.seq ?_
  refine CX.seq ?_
  refine CX.region ?_
  refine LX.pure (Y.move rfl) rfl rfl rfl ?_
  refine LX.pure (Y.not rfl) rfl rfl rfl ?_
  refine LX.sub (l' := [(0, _), (2, _), (3, _), (11, _)]) ⟨rfl, rfl, rfl, rfl, trivial⟩ ?_
  refine LX.next ?_
  refine PX.thenN ?_
  refine CX.cond rfl (fun hb1 => ?_) (fun hb1 => ?_)
  · try simp at hb1
    refine CX.seq ?_
    refine CX.region ?_
    refine LX.pure (Y.move rfl) rfl rfl rfl ?_
    refine LX.call (sentinel_c hS hi) Hs.en136 rfl rfl rfl rfl rfl ?_
    intro _
    refine LX.call (bare_c _) Hs.en38 rfl rfl rfl rfl rfl ?_
    intro _
    refine LX.storeA 0 Hs.ag34 rfl rfl rfl rfl rfl rfl rfl rfl rfl ?_
    refine LX.sub (l' := [(2, _), (3, _)]) ⟨rfl, rfl, trivial⟩ ?_
    refine LX.next ?_
    refine PX.thenN ?_
    refine CX.ret ?_
    refine PX.thenR ?_
    refine PX.retA (i := 0) (by simp) Tryz.results67 Hs.ag34 rfl rfl rfl ?_
    exact fun w hw => ⟨(), rfl, hw.drop ((List.sublist_cons_self _ _))⟩
  · try simp at hb1
    done
theorem faultNil_c {w0 : World} {base : Nat} {fr : List It} : FnC Tryz.prog 28 #[.nilIface] (WA w0 base fr) (fun _ : Unit => Flt.v ⟨0, false, 0, false, []⟩) (fun _ => WA w0 base fr) := by
  refine FnC.of_body (fn := Tryz.f28) [(0, _)] Tryz.func28 rfl Tryz.ntmps28 rfl ⟨rfl, trivial⟩ ?_
  refine CX.seq ?_
  refine CX.region ?_
  refine LX.alloc rfl Hs.zv34 rfl rfl rfl ?_
  intro bx0
  refine LX.sub (l' := [(0, _), (2, _)]) ⟨rfl, rfl, trivial⟩ ?_
  refine LX.next ?_
  refine PX.thenN ?_
  refine CX.seq ?_
  refine CX.seq ?_
  refine CX.region ?_
  refine LX.pure (Y.move rfl) rfl rfl rfl ?_
  refine LX.pure (Y.eqNilNil Hs.un30 rfl) rfl rfl rfl ?_
  refine LX.sub (l' := [(0, _), (2, _), (7, _)]) ⟨rfl, rfl, rfl, trivial⟩ ?_
  refine LX.next ?_
  refine PX.thenN ?_
  refine CX.cond rfl (fun hb1 => ?_) (fun hb1 => ?_)
  · try simp at hb1
    refine CX.seq ?_
    refine CX.region ?_
    refine LX.call (none_c) Hs.en41 rfl rfl rfl rfl rfl ?_
    intro _
    refine LX.storeA 0 Hs.ag34 rfl rfl rfl rfl rfl rfl rfl rfl rfl ?_
    refine LX.sub (l' := [(0, _), (2, _)]) ⟨rfl, rfl, trivial⟩ ?_
    refine LX.next ?_
    refine PX.thenN ?_
    refine CX.ret ?_
    refine PX.thenR ?_
    refine PX.retA (i := 0) (by simp) Tryz.results28 Hs.ag34 rfl rfl rfl ?_
    exact fun w hw => ⟨(), rfl, hw.drop ((List.sublist_cons_self _ _))⟩
  · try simp at hb1
    done
theorem faultAt_c {w0 : World} {base : Nat} {fr : List It} {aE : Nat → Addr} (hS : EnvS w0 base aE) {i : Nat} (hi : i < 17) (b pos : Nat) : FnC Tryz.prog 28 #[atV b] (WA w0 base (atI b pos (errV (aE i)) :: fr)) (fun _ : Unit => Flt.v ⟨101 + i, true, pos, false, []⟩) (fun _ => WA w0 base (atI b pos (errV (aE i)) :: fr)) := by
  refine FnC.of_body (fn := Tryz.f28) [(0, _)] Tryz.func28 rfl Tryz.ntmps28 rfl ⟨rfl, trivial⟩ ?_
  refine CX.seq ?_
  refine CX.region ?_
  refine LX.alloc rfl Hs.zv34 rfl rfl rfl ?_
  intro bx0
  refine LX.sub (l' := [(0, _), (2, _)]) ⟨rfl, rfl, trivial⟩ ?_
  refine LX.next ?_
  refine PX.thenN ?_
  refine CX.seq ?_
  refine CX.seq ?_
  refine CX.region ?_
  refine LX.pure (Y.move rfl) rfl rfl rfl ?_
  refine LX.pure (Y.eqNil Hs.un30 rfl rfl) rfl rfl rfl ?_
  refine LX.sub (l' := [(0, _), (2, _), (7, _)]) ⟨rfl, rfl, rfl, trivial⟩ ?_
  refine LX.next ?_
  refine PX.thenN ?_
  refine CX.cond rfl (fun hb1 => ?_) (fun hb1 => ?_)
  · try simp at hb1
    done
  · try simp at hb1
    refine CX.skip ?_
    refine PX.thenN ?_
    refine CX.seq ?_
    refine CX.region ?_
    refine LX.pure (Y.move rfl) rfl rfl rfl ?_
    refine LX.pure (Y.assertNo Hs.nif141 rfl (by decide) Hs.zv141) rfl rfl rfl ?_
    refine LX.pure (Y.move rfl) rfl rfl rfl ?_
    refine LX.pure (Y.extract rfl rfl) rfl rfl rfl ?_
    refine LX.pure (Y.extract rfl rfl) rfl rfl rfl ?_
    refine LX.pure (Y.assign rfl) rfl rfl rfl ?_
    refine LX.pure (Y.assign rfl) rfl rfl rfl ?_
    refine LX.sub (l' := [(0, _), (2, _), (3, _), (4, _)]) ⟨rfl, rfl, rfl, rfl, trivial⟩ ?_
    refine LX.next ?_
    refine PX.thenN ?_
    refine CX.seq ?_
    refine CX.seq ?_
    refine CX.region ?_
    refine LX.pure (Y.move rfl) rfl rfl rfl ?_
    refine LX.pure (Y.not rfl) rfl rfl rfl ?_
    refine LX.sub (l' := [(0, _), (2, _), (3, _), (15, _)]) ⟨rfl, rfl, rfl, rfl, trivial⟩ ?_
    refine LX.next ?_
    refine PX.thenN ?_
    refine CX.cond rfl (fun hb2 => ?_) (fun hb2 => ?_)
    · try simp at hb2
      refine CX.seq ?_
      refine CX.region ?_
      refine LX.pure (Y.move rfl) rfl rfl rfl ?_
      refine LX.world (W' := WA w0 base (atI b pos (errV (aE i)) :: blk bx0 (Value.agg #[.int .i64 0, .bool false, .int .i64 0, .bool false, .string ⟨#[]⟩]).cells.toList 34 :: fr)) (fun w hw => hw.perm (.swap _ _ _)) ?_
      refine LX.call (placedAt_c hS hi b pos) Hs.en67 rfl rfl rfl rfl rfl ?_
      intro _
      refine LX.storeA 1 Hs.ag34 rfl rfl rfl rfl rfl rfl rfl rfl rfl ?_
      refine LX.sub (l' := [(2, _), (3, _)]) ⟨rfl, rfl, trivial⟩ ?_
      refine LX.next ?_
      refine PX.thenN ?_
      refine CX.ret ?_
      refine PX.thenR ?_
      refine PX.retA (i := 1) (by simp) Tryz.results28 Hs.ag34 rfl rfl rfl ?_
      exact fun w hw => ⟨(), rfl, hw.drop (.cons_cons _ (List.sublist_cons_self _ _))⟩
    · try simp at hb2
      done
theorem faultBare_c {w0 : World} {base : Nat} {fr : List It} {aE : Nat → Addr} (hS : EnvS w0 base aE) {i : Nat} (hi : i < 17) : FnC Tryz.prog 28 #[errV (aE i)] (WA w0 base fr) (fun _ : Unit => Flt.v ⟨101 + i, false, 0, false, []⟩) (fun _ => WA w0 base fr) := by
  refine FnC.of_body (fn := Tryz.f28) [(0, _)] Tryz.func28 rfl Tryz.ntmps28 rfl ⟨rfl, trivial⟩ ?_
  refine CX.seq ?_
  refine CX.region ?_
  refine LX.alloc rfl Hs.zv34 rfl rfl rfl ?_
  intro bx0
  refine LX.sub (l' := [(0, _), (2, _)]) ⟨rfl, rfl, trivial⟩ ?_
  refine LX.next ?_
  refine PX.thenN ?_
  refine CX.seq ?_
  refine CX.seq ?_
  refine CX.region ?_
  refine LX.pure (Y.move rfl) rfl rfl rfl ?_
  refine LX.pure (Y.eqNil Hs.un30 rfl rfl) rfl rfl rfl ?_
  refine LX.sub (l' := [(0, _), (2, _), (7, _)]) ⟨rfl, rfl, rfl, trivial⟩ ?_
  refine LX.next ?_
  refine PX.thenN ?_
  refine CX.cond rfl (fun hb1 => ?_) (fun hb1 => ?_)
  · try simp at hb1
    done
  · try simp at hb1
    refine CX.skip ?_
    refine PX.thenN ?_
    refine CX.seq ?_
    refine CX.region ?_
    refine LX.pure (Y.move rfl) rfl rfl rfl ?_
    refine LX.pure (Y.assertNo Hs.nif141 rfl (by decide) Hs.zv141) rfl rfl rfl ?_
    refine LX.pure (Y.move rfl) rfl rfl rfl ?_
    refine LX.pure (Y.extract rfl rfl) rfl rfl rfl ?_
    refine LX.pure (Y.extract rfl rfl) rfl rfl rfl ?_
    refine LX.pure (Y.assign rfl) rfl rfl rfl ?_
    refine LX.pure (Y.assign rfl) rfl rfl rfl ?_
    refine LX.sub (l' := [(0, _), (2, _), (3, _), (4, _)]) ⟨rfl, rfl, rfl, rfl, trivial⟩ ?_
    refine LX.next ?_
    refine PX.thenN ?_
    refine CX.seq ?_
    refine CX.seq ?_
    refine CX.region ?_
    refine LX.pure (Y.move rfl) rfl rfl rfl ?_
    refine LX.pure (Y.not rfl) rfl rfl rfl ?_
    refine LX.sub (l' := [(0, _), (2, _), (3, _), (15, _)]) ⟨rfl, rfl, rfl, rfl, trivial⟩ ?_
    refine LX.next ?_
    refine PX.thenN ?_
    refine CX.cond rfl (fun hb2 => ?_) (fun hb2 => ?_)
    · try simp at hb2
      refine CX.seq ?_
      refine CX.region ?_
      refine LX.pure (Y.move rfl) rfl rfl rfl ?_
      refine LX.call (placedBare_c hS hi) Hs.en67 rfl rfl rfl rfl rfl ?_
      intro _
      refine LX.storeA 0 Hs.ag34 rfl rfl rfl rfl rfl rfl rfl rfl rfl ?_
      refine LX.sub (l' := [(2, _), (3, _)]) ⟨rfl, rfl, trivial⟩ ?_
      refine LX.next ?_
      refine PX.thenN ?_
      refine CX.ret ?_
      refine PX.thenR ?_
      refine PX.retA (i := 0) (by simp) Tryz.results28 Hs.ag34 rfl rfl rfl ?_
      exact fun w hw => ⟨(), rfl, hw.drop ((List.sublist_cons_self _ _))⟩
    · try simp at hb2
      done
theorem sameNil_c {w0 : World} {base : Nat} {fr : List It} (x : Flt) : FnC Tryz.prog 13 #[.nilIface, x.v] (WA w0 base fr) (fun _ : Unit => .bool (decide (⟨0, false, 0, false, []⟩ = x))) (fun _ => WA w0 base fr) := by
  refine FnC.of_body (fn := Tryz.f13) [(0, _), (1, _)] Tryz.func13 rfl Tryz.ntmps13 rfl ⟨rfl, rfl, trivial⟩ ?_
  refine CX.seq ?_
  refine CX.region ?_
  refine LX.box rfl rfl rfl rfl rfl ?_
  intro bx0
  refine LX.pure (Y.assign rfl) rfl rfl rfl ?_
  refine LX.sub (l' := [(0, _), (3, _), (4, _)]) ⟨rfl, rfl, rfl, trivial⟩ ?_
  refine LX.next ?_
  refine PX.thenN ?_
  refine CX.seq ?_
  refine CX.regionM [(0, .anywhere), (2, .held), (1, .alone), (3, .alone), (4, .anywhere)] rfl (by kernel_rfl) ?_
  refine MX.lift0 (i := 0) rfl (Y.move rfl) rfl rfl rfl ?_
  refine MX.lift1 (i := 2) (pend' := []) rfl (fun w hw => by exact hw) (Y.ldAggB 0 Hs.ag34 rfl rfl rfl rfl) rfl rfl rfl (by kernel_rfl) ?_
  refine MX.force (i := 1) rfl ?_
  refine LX.call (faultNil_c) Hs.en28 rfl rfl rfl rfl rfl ?_
  intro _
  refine LX.nextM [2] (by kernel_rfl) (fun _ => (fun w hw => by exact hw)) ?_
  refine MX.force (i := 3) rfl ?_
  refine LX.call (sameFault_c ⟨0, false, 0, false, []⟩ x) Hs.en42 rfl rfl rfl rfl rfl ?_
  intro _
  refine LX.nextM [] (by kernel_rfl) (fun h => absurd rfl h) ?_
  refine MX.lift0 (i := 4) rfl (Y.assign rfl) rfl rfl rfl ?_
  refine MX.sub (l' := [(4, _)]) ⟨rfl, trivial⟩ ?_
  refine MX.done ?_
  refine PX.thenN ?_
  refine CX.ret ?_
  refine PX.ret1 (by simp) Tryz.results13 rfl ?_
  exact fun w hw => ⟨(), rfl, hw.drop ((List.sublist_cons_self _ _))⟩
theorem sameAt_c {w0 : World} {base : Nat} {fr : List It} {aE : Nat → Addr} (hS : EnvS w0 base aE) {i : Nat} (hi : i < 17) (b pos : Nat) (x : Flt) : FnC Tryz.prog 13 #[atV b, x.v] (WA w0 base (atI b pos (errV (aE i)) :: fr)) (fun _ : Unit => .bool (decide (⟨101 + i, true, pos, false, []⟩ = x))) (fun _ => WA w0 base (atI b pos (errV (aE i)) :: fr)) := by
  refine FnC.of_body (fn := Tryz.f13) [(0, _), (1, _)] Tryz.func13 rfl Tryz.ntmps13 rfl ⟨rfl, rfl, trivial⟩ ?_
  refine CX.seq ?_
  refine CX.region ?_
  refine LX.box rfl rfl rfl rfl rfl ?_
  intro bx0
  refine LX.pure (Y.assign rfl) rfl rfl rfl ?_
  refine LX.sub (l' := [(0, _), (3, _), (4, _)]) ⟨rfl, rfl, rfl, trivial⟩ ?_
  refine LX.next ?_
  refine PX.thenN ?_
  refine CX.seq ?_
  refine CX.regionM [(0, .anywhere), (2, .held), (1, .alone), (3, .alone), (4, .anywhere)] rfl (by kernel_rfl) ?_
  refine MX.lift0 (i := 0) rfl (Y.move rfl) rfl rfl rfl ?_
  refine MX.lift1 (i := 2) (pend' := []) rfl (fun w hw => by exact hw) (Y.ldAggB 0 Hs.ag34 rfl rfl rfl rfl) rfl rfl rfl (by kernel_rfl) ?_
  refine MX.force (i := 1) rfl ?_
  refine LX.world (W' := WA w0 base (atI b pos (errV (aE i)) :: .obj bx0 (.cells x.v.cells 34 (0, 0)) :: fr)) (fun w hw => hw.perm (.swap _ _ _)) ?_
  refine LX.call (faultAt_c hS hi b pos) Hs.en28 rfl rfl rfl rfl rfl ?_
  intro _
  refine LX.world (W' := WA w0 base (blk bx0 x.v.cells.toList 34 :: atI b pos (errV (aE i)) :: fr)) (fun w hw => hw.perm (.swap _ _ _)) ?_
  refine LX.nextM [2] (by kernel_rfl) (fun _ => (fun w hw => by exact hw)) ?_
  refine MX.force (i := 3) rfl ?_
  refine LX.call (sameFault_c ⟨101 + i, true, pos, false, []⟩ x) Hs.en42 rfl rfl rfl rfl rfl ?_
  intro _
  refine LX.nextM [] (by kernel_rfl) (fun h => absurd rfl h) ?_
  refine MX.lift0 (i := 4) rfl (Y.assign rfl) rfl rfl rfl ?_
  refine MX.sub (l' := [(4, _)]) ⟨rfl, trivial⟩ ?_
  refine MX.done ?_
  refine PX.thenN ?_
  refine CX.ret ?_
  refine PX.ret1 (by simp) Tryz.results13 rfl ?_
  exact fun w hw => ⟨(), rfl, hw.drop ((List.sublist_cons_self _ _))⟩
theorem sameBare_c {w0 : World} {base : Nat} {fr : List It} {aE : Nat → Addr} (hS : EnvS w0 base aE) {i : Nat} (hi : i < 17) (x : Flt) : FnC Tryz.prog 13 #[errV (aE i), x.v] (WA w0 base fr) (fun _ : Unit => .bool (decide (⟨101 + i, false, 0, false, []⟩ = x))) (fun _ => WA w0 base fr) := by
  refine FnC.of_body (fn := Tryz.f13) [(0, _), (1, _)] Tryz.func13 rfl Tryz.ntmps13 rfl ⟨rfl, rfl, trivial⟩ ?_
  refine CX.seq ?_
  refine CX.region ?_
  refine LX.box rfl rfl rfl rfl rfl ?_
  intro bx0
  refine LX.pure (Y.assign rfl) rfl rfl rfl ?_
  refine LX.sub (l' := [(0, _), (3, _), (4, _)]) ⟨rfl, rfl, rfl, trivial⟩ ?_
  refine LX.next ?_
  refine PX.thenN ?_
  refine CX.seq ?_
  refine CX.regionM [(0, .anywhere), (2, .held), (1, .alone), (3, .alone), (4, .anywhere)] rfl (by kernel_rfl) ?_
  refine MX.lift0 (i := 0) rfl (Y.move rfl) rfl rfl rfl ?_
  refine MX.lift1 (i := 2) (pend' := []) rfl (fun w hw => by exact hw) (Y.ldAggB 0 Hs.ag34 rfl rfl rfl rfl) rfl rfl rfl (by kernel_rfl) ?_
  refine MX.force (i := 1) rfl ?_
  refine LX.call (faultBare_c hS hi) Hs.en28 rfl rfl rfl rfl rfl ?_
  intro _
  refine LX.nextM [2] (by kernel_rfl) (fun _ => (fun w hw => by exact hw)) ?_
  refine MX.force (i := 3) rfl ?_
  refine LX.call (sameFault_c ⟨101 + i, false, 0, false, []⟩ x) Hs.en42 rfl rfl rfl rfl rfl ?_
  intro _
  refine LX.nextM [] (by kernel_rfl) (fun h => absurd rfl h) ?_
  refine MX.lift0 (i := 4) rfl (Y.assign rfl) rfl rfl rfl ?_
  refine MX.sub (l' := [(4, _)]) ⟨rfl, trivial⟩ ?_
  refine MX.done ?_
  refine PX.thenN ?_
  refine CX.ret ?_
  refine PX.ret1 (by simp) Tryz.results13 rfl ?_
  exact fun w hw => ⟨(), rfl, hw.drop ((List.sublist_cons_self _ _))⟩
end Go.Proofs.YtgijpgkckiknjaaGreatDoor
