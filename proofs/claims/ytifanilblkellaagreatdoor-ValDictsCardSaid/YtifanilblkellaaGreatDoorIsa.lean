/-
  Proved here: Is, of one of api's errors with nothing around it.
-/
import Derived.Test.YtifanilblkellaaGreatDoorAgg
import Derived.Test.YtifanilblkellaaGreatDoorEnvQ
import Derived.Test.YtifanilblkellaaGreatDoorProg
namespace Go.Proofs.YtifanilblkellaaGreatDoor.Isa
open Go.SX Go.RowKit Go.Proofs.YtifanilblkellaaGreatDoor.Env
namespace Fi
theorem ag104 : AggT Tryz.prog 104 5 := AggT.of (by kernel_rfl) (by kernel_rfl)
theorem cp286 : CmpT Tryz.prog 286 302 := CmpT.of (by kernel_rfl) (by kernel_rfl) (by kernel_rfl)
theorem en115 : Enters Tryz.prog 115 := Enters.of Tryz.func115 (by kernel_rfl) (by kernel_rfl)
theorem en145 : Enters Tryz.prog 145 := Enters.of Tryz.func145 (by kernel_rfl) (by kernel_rfl)
theorem en146 : Enters Tryz.prog 146 := Enters.of Tryz.func146 (by kernel_rfl) (by kernel_rfl)
theorem en46 : Enters Tryz.prog 46 := Enters.of Tryz.func46 (by kernel_rfl) (by kernel_rfl)
theorem en47 : Enters Tryz.prog 47 := Enters.of Tryz.func47 (by kernel_rfl) (by kernel_rfl)
theorem en65 : Enters Tryz.prog 65 := Enters.of Tryz.func65 (by kernel_rfl) (by kernel_rfl)
theorem en66 : Enters Tryz.prog 66 := Enters.of Tryz.func66 (by kernel_rfl) (by kernel_rfl)
theorem en90 : Enters Tryz.prog 90 := Enters.of Tryz.func90 (by kernel_rfl) (by kernel_rfl)
theorem fo104_0 : FieldOff Tryz.prog 104 0 0 := fun b o w => by kernel_rfl
theorem fo104_1 : FieldOff Tryz.prog 104 1 1 := fun b o w => by kernel_rfl
theorem fo104_2 : FieldOff Tryz.prog 104 2 2 := fun b o w => by kernel_rfl
theorem fo104_3 : FieldOff Tryz.prog 104 3 3 := fun b o w => by kernel_rfl
theorem fo104_4 : FieldOff Tryz.prog 104 4 4 := fun b o w => by kernel_rfl
theorem one3 : One Tryz.prog 3 := fun w => by kernel_rfl
theorem one4 : One Tryz.prog 4 := fun w => by kernel_rfl
theorem one40 : One Tryz.prog 40 := fun w => by kernel_rfl
theorem one9 : One Tryz.prog 9 := fun w => by kernel_rfl
theorem sz40 : SizeIs Tryz.prog 40 1 := fun w => by kernel_rfl
theorem un180 : Tryz.prog.underlying 180 = some (.pointer 183) := by kernel_rfl
theorem un194 : Tryz.prog.underlying 194 = some (.pointer 208) := by kernel_rfl
theorem un241 : Tryz.prog.underlying 241 = some (.slice 40) := by kernel_rfl
theorem un4 : Tryz.prog.underlying 4 = some .bool := by kernel_rfl
theorem un40 : Tryz.prog.underlying 40 = some (.interface #[("Error", 47)]) := by kernel_rfl
theorem zv104 : ∀ w, (zeroValue 104).run Tryz.prog w = .ok (.agg #[.int .i64 0, .bool false, .int .i64 0, .bool false, .string ⟨#[]⟩]) w := fun w => by kernel_rfl
theorem zv180 : ∀ w, (zeroValue 180).run Tryz.prog w = .ok (.pointer none) w := fun w => by kernel_rfl
theorem zv194 : ∀ w, (zeroValue 194).run Tryz.prog w = .ok (.pointer none) w := fun w => by kernel_rfl
theorem nif180 : NotIface Tryz.prog 180 := NotIface.of un180 (fun ms h => by cases h)
theorem nif194 : NotIface Tryz.prog 194 := NotIface.of un194 (fun ms h => by cases h)
end Fi
structure Flt where
  code : Int
  placed : Bool
  pos : Int
  filed : Bool
  file : List UInt8
  deriving DecidableEq
@[reducible] def Flt.v (x : Flt) : Value := .agg #[.int .i64 x.code, .bool x.placed, .int .i64 x.pos, .bool x.filed, str x.file]
theorem sent_cell {aE : Nat → Addr} {k : Nat} (h : k < 17) : ((List.range 17).map fun i => errV (aE i))[k * 1]? = some (errV (aE k)) := by
  rw [Nat.mul_one, List.getElem?_map, List.getElem?_range h]; rfl
theorem Y.alike {l : Fr} {W : World → Prop} {w0 : World} {base : Nat} {aE : Nat → Addr} (hS : EnvS w0 base aE) (hW : ∀ w, W w → Below base w0 w) {i j : Nat} (hi : i < 17) (hj : j < 17) {x y : Operand} {ty ty2 : TypeId}
    (hx : evl l x = some (errV (aE i))) (hy : evl l y = some (errV (aE j))) : Y Tryz.prog l W (.binOp .eql 40 x y ty2) ty (.bool (decide (i = j))) := by
  by_cases h : i = j
  · subst h
    rw [show decide (i = i) = true by simp]
    exact Y.eqSame Fi.un40 Fi.cp286 hx hy
  · rw [show decide (i = j) = false by simp [h]]
    refine Y.eqOther Fi.un40 Fi.cp286 (hS.ne i j hi hj h) (fun w hw => ?_) (fun w hw => ?_) hx hy
    · obtain ⟨h1, c, t, h2⟩ := hS.blk i hi
      exact ⟨c, t, ((hW w hw).block _ h1).trans h2⟩
    · obtain ⟨h1, c, t, h2⟩ := hS.blk j hj
      exact ⟨c, t, ((hW w hw).block _ h1).trans h2⟩

theorem sentinels_c {w0 : World} {base : Nat} {fr : List It} {aE : Nat → Addr} (hS : EnvS w0 base aE) : FnC Tryz.prog 145 #[] (WA w0 base fr) (fun b : Nat => .slice (some ⟨b, 0, none⟩) 17 17) (fun b => WA w0 base (.row (some b) 17 17 40 1 ((List.range 17).map fun i => errV (aE i)) :: fr)) := by
  refine FnC.of_body (fn := Tryz.f145) [] Tryz.func145 rfl Tryz.ntmps145 rfl trivial ?_
  refine CX.seq ?_
  refine CX.region ?_
  refine LX.pure (Y.assign rfl) rfl rfl rfl ?_
  refine LX.sub (l' := [(0, _)]) ⟨rfl, trivial⟩ ?_
  refine LX.next ?_
  refine PX.thenN ?_
  refine CX.seq ?_
  refine CX.region ?_
  refine LX.pure (Y.ldO Fi.one40 rfl (hS.at_ 0 5 rfl) (hS.lt 5 (by decide))) rfl rfl rfl ?_
  refine LX.pure (Y.ldO Fi.one40 rfl (hS.at_ 1 4 rfl) (hS.lt 4 (by decide))) rfl rfl rfl ?_
  refine LX.pure (Y.ldO Fi.one40 rfl (hS.at_ 2 6 rfl) (hS.lt 6 (by decide))) rfl rfl rfl ?_
  refine LX.pure (Y.ldO Fi.one40 rfl (hS.at_ 3 0 rfl) (hS.lt 0 (by decide))) rfl rfl rfl ?_
  refine LX.pure (Y.ldO Fi.one40 rfl (hS.at_ 4 7 rfl) (hS.lt 7 (by decide))) rfl rfl rfl ?_
  refine LX.pure (Y.ldO Fi.one40 rfl (hS.at_ 5 8 rfl) (hS.lt 8 (by decide))) rfl rfl rfl ?_
  refine LX.pure (Y.ldO Fi.one40 rfl (hS.at_ 6 9 rfl) (hS.lt 9 (by decide))) rfl rfl rfl ?_
  refine LX.pure (Y.ldO Fi.one40 rfl (hS.at_ 7 2 rfl) (hS.lt 2 (by decide))) rfl rfl rfl ?_
  refine LX.pure (Y.ldO Fi.one40 rfl (hS.at_ 8 10 rfl) (hS.lt 10 (by decide))) rfl rfl rfl ?_
  refine LX.pure (Y.ldO Fi.one40 rfl (hS.at_ 9 3 rfl) (hS.lt 3 (by decide))) rfl rfl rfl ?_
  refine LX.pure (Y.ldO Fi.one40 rfl (hS.at_ 10 11 rfl) (hS.lt 11 (by decide))) rfl rfl rfl ?_
  refine LX.pure (Y.ldO Fi.one40 rfl (hS.at_ 11 12 rfl) (hS.lt 12 (by decide))) rfl rfl rfl ?_
  refine LX.pure (Y.ldO Fi.one40 rfl (hS.at_ 12 1 rfl) (hS.lt 1 (by decide))) rfl rfl rfl ?_
  refine LX.pure (Y.ldO Fi.one40 rfl (hS.at_ 13 13 rfl) (hS.lt 13 (by decide))) rfl rfl rfl ?_
  refine LX.pure (Y.ldO Fi.one40 rfl (hS.at_ 14 14 rfl) (hS.lt 14 (by decide))) rfl rfl rfl ?_
  refine LX.pure (Y.ldO Fi.one40 rfl (hS.at_ 15 15 rfl) (hS.lt 15 (by decide))) rfl rfl rfl ?_
  refine LX.pure (Y.ldO Fi.one40 rfl (hS.at_ 16 16 rfl) (hS.lt 16 (by decide))) rfl rfl rfl ?_
  refine LX.buildSlice (e := 40) (size := 1) rfl rfl (fun _ => by kernel_rfl) rfl (by decide) rfl rfl rfl ?_
  intro gt18
  refine LX.pure (Y.assign rfl) rfl rfl rfl ?_
  refine LX.sub (l' := [(0, _)]) ⟨rfl, trivial⟩ ?_
  refine LX.next ?_
  refine PX.thenN ?_
  refine CX.ret ?_
  refine PX.ret1 (by simp) Tryz.results145 rfl ?_
  exact fun w hw => ⟨_, rfl, hw⟩

theorem alike_q {W : World → Prop} [Stab W] {w0 : World} {base : Nat} {aE : Nat → Addr} (hS : EnvS w0 base aE) (hB : ∀ w, W w → Below base w0 w) {i j : Nat} (hi : i < 17) (hj : j < 17) : FnQ Tryz.prog 146 #[errV (aE i), errV (aE j)] W (.bool (decide (i = j))) := by
  refine FnQ.all fun W' _ hW => ?_
  refine FnC.of_body (fn := Tryz.f146) [(0, _), (1, _)] Tryz.func146 rfl Tryz.ntmps146 rfl ⟨rfl, rfl, trivial⟩ ?_
  refine CX.seq ?_
  refine CX.region ?_
  refine LX.pure (Y.assign rfl) rfl rfl rfl ?_
  refine LX.sub (l' := [(0, _), (1, _), (4, _)]) ⟨rfl, rfl, rfl, trivial⟩ ?_
  refine LX.next ?_
  refine PX.thenN ?_
  refine CX.seq ?_
  refine CX.seq ?_
  refine CX.region ?_
  refine LX.pure (Y.move rfl) rfl rfl rfl ?_
  first
    | refine LX.pure (Y.eqNil Fi.un40 rfl rfl) rfl rfl rfl ?_
    | refine LX.pure (Y.eqNilNil Fi.un40 rfl) rfl rfl rfl ?_
  refine LX.pure (Y.move rfl) rfl rfl rfl ?_
  refine LX.sub (l' := [(0, _), (1, _), (4, _), (7, _)]) ⟨rfl, rfl, rfl, rfl, trivial⟩ ?_
  apply LX.joinOr 3 10 7 rfl
  · intro hb1
    cases hb1
  · intro hb1
    have hb1p := hb1
    try simp at hb1p
    refine LX.gT rfl rfl rfl hb1 (Y.move rfl) rfl rfl ?_
    first
      | refine LX.gT rfl rfl rfl hb1 (Y.eqNil Fi.un40 rfl rfl) rfl rfl ?_
      | refine LX.gT rfl rfl rfl hb1 (Y.eqNilNil Fi.un40 rfl) rfl rfl ?_
    refine LX.pure (Y.pickF rfl hb1 rfl) rfl rfl rfl ?_
    exact LX.left ⟨rfl, rfl, rfl, rfl, rfl, trivial⟩
  refine LX.sub (l' := [(0, _), (1, _), (4, _), (10, _)]) ⟨rfl, rfl, rfl, rfl, trivial⟩ ?_
  refine LX.next ?_
  refine PX.thenN ?_
  refine CX.cond rfl (fun hb2 => ?_) (fun hb2 => ?_)
  · try simp at hb2
    first | done | cases hb2
  · try simp at hb2
    refine CX.skip ?_
    refine PX.thenN ?_
    refine CX.seq ?_
    refine CX.region ?_
    refine LX.pure (Y.move rfl) rfl rfl rfl ?_
    refine LX.pure (Y.move rfl) rfl rfl rfl ?_
    refine LX.pure (Y.alike hS (fun w hw => hB w (hW w hw)) hi hj rfl rfl) rfl rfl rfl ?_
    refine LX.pure (Y.assign rfl) rfl rfl rfl ?_
    refine LX.sub (l' := [(4, _)]) ⟨rfl, trivial⟩ ?_
    refine LX.next ?_
    refine PX.thenN ?_
    refine CX.ret ?_
    refine PX.ret1 (by simp) Tryz.results146 rfl ?_
    exact fun w hw => ⟨(), rfl, hw⟩

theorem sentinel_c {w0 : World} {base : Nat} {fr : List It} {aE : Nat → Addr} (hS : EnvS w0 base aE) {i : Nat} (hi : i < 17) : FnC Tryz.prog 115 #[errV (aE i)] (WA w0 base fr) (fun _ : Unit => .int .i64 (101 + i : Int)) (fun _ => WA w0 base fr) := by
  refine FnC.of_body (fn := Tryz.f115) [(0, _)] Tryz.func115 rfl Tryz.ntmps115 rfl ⟨rfl, trivial⟩ ?_
  refine CX.seq ?_
  refine CX.region ?_
  refine LX.pure (Y.assign rfl) rfl rfl rfl ?_
  refine LX.sub (l' := [(0, _), (2, _)]) ⟨rfl, rfl, trivial⟩ ?_
  refine LX.next ?_
  refine PX.thenN ?_
  refine CX.seq ?_
  refine CX.region ?_
  refine LX.call (sentinels_c hS) Fi.en145 rfl rfl rfl rfl rfl ?_
  intro bs
  refine LX.pure (Y.assign rfl) rfl rfl rfl ?_
  refine LX.sub (l' := [(0, _), (2, _), (3, _)]) ⟨rfl, rfl, rfl, trivial⟩ ?_
  refine LX.next ?_
  refine PX.thenN ?_
  refine CX.seq ?_
  refine CX.seq ?_
  refine CX.region ?_
  refine LX.pure (Y.assign rfl) rfl rfl rfl ?_
  refine LX.sub (l' := [(0, _), (2, _), (3, _), (4, _)]) ⟨rfl, rfl, rfl, rfl, trivial⟩ ?_
  refine LX.next ?_
  refine PX.thenN ?_
  refine CX.block ?_
  refine CX.loop (τ := Nat) (fun k => [(0, errV (aE i)), (3, .slice (some ⟨bs, 0, none⟩) 17 17), (4, .int .i64 (k : Int))]) (fun k w => k ≤ i ∧ WA w0 base (.row (some bs) 17 17 40 1 ((List.range 17).map fun i => errV (aE i)) :: fr) w) (fun k => i - k) 0 ⟨rfl, rfl, rfl, trivial⟩ (fun w hw => ⟨Nat.zero_le _, hw⟩) ?_
  intro k
  refine CX.have fun hk => ?_
  have hk17 : k < 17 := by omega
  refine CX.seq ?_
  refine CX.seq ?_
  refine CX.region ?_
  refine LX.pure (Y.move rfl) rfl rfl rfl ?_
  refine LX.pure (Y.move rfl) rfl rfl rfl ?_
  refine LX.pure (Y.lenSl rfl Fi.un241 rfl) rfl rfl rfl ?_
  first
    | refine LX.pure (Y.ltN rfl rfl) rfl rfl rfl ?_
    | refine LX.pure (Y.ltI rfl rfl) rfl rfl rfl ?_
  refine LX.sub (l' := [(0, _), (3, _), (4, _), (9, _)]) ⟨rfl, rfl, rfl, rfl, trivial⟩ ?_
  refine LX.next ?_
  refine PX.thenN ?_
  refine CX.cond rfl (fun hb1 => ?_) (fun hb1 => ?_)
  · try simp at hb1
    refine CX.skip ?_
    refine PX.thenN ?_
    refine CX.seq ?_
    refine CX.block ?_
    refine CX.seq ?_
    refine CX.region ?_
    refine LX.pure (Y.move rfl) rfl rfl rfl ?_
    refine LX.pure (Y.move rfl) rfl rfl rfl ?_
    refine LX.pure (Y.move rfl) rfl rfl rfl ?_
    first
      | refine LX.pure (Y.idxR 0 Fi.un241 Fi.sz40 rfl rfl rfl (by first | omega | (simp only []; omega) | (simp; done) | (simp; omega))) rfl rfl rfl ?_
      | refine LX.pure (Y.idxR 1 Fi.un241 Fi.sz40 rfl rfl rfl (by first | omega | (simp only []; omega) | (simp; done) | (simp; omega))) rfl rfl rfl ?_
      | refine LX.pure (Y.idx Fi.un241 Fi.sz40 rfl rfl (by first | omega | (simp only []; omega) | (simp; done) | (simp; omega))) rfl rfl rfl ?_
    refine LX.pure (Y.ldR 0 (v := errV (aE k)) Fi.one40 rfl rfl (sent_cell hk17)) rfl rfl rfl ?_
    refine LX.callQ (alike_q hS (fun w hw => hw.below) hi hk17) Fi.en146 rfl rfl rfl rfl rfl ?_
    refine LX.sub (l' := [(0, _), (3, _), (4, _), (17, _)]) ⟨rfl, rfl, rfl, rfl, trivial⟩ ?_
    refine LX.next ?_
    refine PX.thenN ?_
    refine CX.cond rfl (fun hb2 => ?_) (fun hb2 => ?_)
    · try simp at hb2
      have hik : k = i := hb2.symm
      subst hik
      refine CX.seq ?_
      refine CX.region ?_
      refine LX.pure (Y.move rfl) rfl rfl rfl ?_
      first
        | refine LX.pure (Y.addN rfl rfl (by first | omega | (simp only []; omega) | (simp; done) | (simp; omega))) rfl rfl rfl ?_
        | refine LX.pure (Y.add rfl rfl (by first | omega | (simp only []; omega) | (simp; done) | (simp; omega))) rfl rfl rfl ?_
      refine LX.pure (Y.assign rfl) rfl rfl rfl ?_
      refine LX.sub (l' := [(0, _), (2, _), (3, _), (4, _)]) ⟨rfl, rfl, rfl, rfl, trivial⟩ ?_
      refine LX.next ?_
      refine PX.thenN ?_
      refine CX.ret ?_
      refine PX.blockR ?_
      refine PX.thenR ?_
      refine PX.thenR ?_
      refine PX.blockR ?_
      refine PX.thenR ?_
      refine PX.ret1 (by simp) Tryz.results115 rfl ?_
      exact fun w hw => ⟨(), rfl, hw.drop ((List.sublist_cons_self _ _))⟩
    · try simp at hb2
      refine CX.skip ?_
      refine PX.blockN ?_
      refine PX.thenN ?_
      refine CX.region ?_
      refine LX.pure (Y.move rfl) rfl rfl rfl ?_
      first
        | refine LX.pure (Y.addN rfl rfl (by first | omega | (simp only []; omega) | (simp; done) | (simp; omega))) rfl rfl rfl ?_
        | refine LX.pure (Y.add rfl rfl (by first | omega | (simp only []; omega) | (simp; done) | (simp; omega))) rfl rfl rfl ?_
      refine LX.pure (Y.assign rfl) rfl rfl rfl ?_
      refine LX.sub (l' := [(0, _), (3, _), (4, _)]) ⟨rfl, rfl, rfl, trivial⟩ ?_
      refine LX.next ?_
      exact PX.again (k + 1) (by show i - (k + 1) < i - k; omega) ⟨rfl, rfl, rfl, trivial⟩ (fun w hw => ⟨by omega, hw⟩)
  · try simp at hb1
    exfalso; omega

theorem bare_c {w0 : World} {base : Nat} {fr : List It} (code : Int) : FnC Tryz.prog 47 #[.int .i64 code] (WA w0 base fr) (fun _ : Unit => Flt.v ⟨code, false, 0, false, []⟩) (fun _ => WA w0 base fr) := by
  refine FnC.of_body (fn := Tryz.f47) [(0, _)] Tryz.func47 rfl Tryz.ntmps47 rfl ⟨rfl, trivial⟩ ?_
  refine CX.seq ?_
  refine CX.region ?_
  refine LX.alloc rfl Fi.zv104 rfl rfl rfl ?_
  intro bx0
  refine LX.sub (l' := [(0, _), (2, _)]) ⟨rfl, rfl, trivial⟩ ?_
  refine LX.next ?_
  refine PX.thenN ?_
  refine CX.seq ?_
  refine CX.region ?_
  refine LX.pure (Y.move rfl) rfl rfl rfl ?_
  refine LX.pure (Y.build (v := Flt.v ⟨code, false, 0, false, []⟩) rfl (fun _ => by kernel_rfl)) rfl rfl rfl ?_
  first
    | refine LX.storeA 0 Fi.ag104 rfl rfl rfl rfl rfl rfl rfl rfl rfl ?_
    | refine LX.storeA 1 Fi.ag104 rfl rfl rfl rfl rfl rfl rfl rfl rfl ?_
  refine LX.sub (l' := [(2, _)]) ⟨rfl, trivial⟩ ?_
  refine LX.next ?_
  refine PX.thenN ?_
  refine CX.ret ?_
  first
    | refine PX.retA (i := 0) (by simp) Tryz.results47 Fi.ag104 rfl rfl rfl ?_
    | refine PX.retA (i := 1) (by simp) Tryz.results47 Fi.ag104 rfl rfl rfl ?_
  exact fun w hw => ⟨(), rfl, hw.drop ((List.sublist_cons_self _ _))⟩

theorem sameFault_c {w0 : World} {base : Nat} {fr : List It} (x y : Flt) : FnC Tryz.prog 65 #[x.v, y.v] (WA w0 base fr) (fun _ : Unit => .bool (decide (x = y))) (fun _ => WA w0 base fr) := by
  refine FnC.of_body (fn := Tryz.f65) [(0, _), (1, _)] Tryz.func65 rfl Tryz.ntmps65 rfl ⟨rfl, rfl, trivial⟩ ?_
  refine CX.seq ?_
  refine CX.region ?_
  refine LX.box rfl rfl rfl rfl rfl ?_
  intro bx0
  refine LX.box rfl rfl rfl rfl rfl ?_
  intro bx1
  refine LX.pure (Y.assign rfl) rfl rfl rfl ?_
  refine LX.sub (l' := [(2, _), (3, _), (4, _)]) ⟨rfl, rfl, rfl, trivial⟩ ?_
  refine LX.next ?_
  refine PX.thenN ?_
  refine CX.seq ?_
  refine CX.region ?_
  first
    | refine LX.pure (Y.fieldAddr0 Fi.fo104_0 rfl) rfl rfl rfl ?_
    | refine LX.pure (Y.fieldAddr Fi.fo104_0 rfl) rfl rfl rfl ?_
  first
    | refine LX.pure (Y.ldB 0 Fi.one3 rfl rfl rfl) rfl rfl rfl ?_
    | refine LX.pure (Y.ldB 1 Fi.one3 rfl rfl rfl) rfl rfl rfl ?_
  first
    | refine LX.pure (Y.fieldAddr0 Fi.fo104_0 rfl) rfl rfl rfl ?_
    | refine LX.pure (Y.fieldAddr Fi.fo104_0 rfl) rfl rfl rfl ?_
  first
    | refine LX.pure (Y.ldB 0 Fi.one3 rfl rfl rfl) rfl rfl rfl ?_
    | refine LX.pure (Y.ldB 1 Fi.one3 rfl rfl rfl) rfl rfl rfl ?_
  first
    | refine LX.pure (Y.eqN rfl rfl) rfl rfl rfl ?_
    | refine LX.pure (Y.eqI rfl rfl) rfl rfl rfl ?_
  refine LX.pure (Y.move rfl) rfl rfl rfl ?_
  refine LX.sub (l' := [(2, _), (3, _), (4, _), (10, _)]) ⟨rfl, rfl, rfl, rfl, trivial⟩ ?_
  apply LX.joinAnd 6 16 10 rfl
  · intro hb1
    have hb1p := hb1
    try simp at hb1p
    first
      | refine LX.gT rfl rfl rfl hb1 (Y.fieldAddr0 Fi.fo104_1 rfl) rfl rfl ?_
      | refine LX.gT rfl rfl rfl hb1 (Y.fieldAddr Fi.fo104_1 rfl) rfl rfl ?_
    first
      | refine LX.gT rfl rfl rfl hb1 (Y.ldB 0 Fi.one4 rfl rfl rfl) rfl rfl ?_
      | refine LX.gT rfl rfl rfl hb1 (Y.ldB 1 Fi.one4 rfl rfl rfl) rfl rfl ?_
    first
      | refine LX.gT rfl rfl rfl hb1 (Y.fieldAddr0 Fi.fo104_1 rfl) rfl rfl ?_
      | refine LX.gT rfl rfl rfl hb1 (Y.fieldAddr Fi.fo104_1 rfl) rfl rfl ?_
    first
      | refine LX.gT rfl rfl rfl hb1 (Y.ldB 0 Fi.one4 rfl rfl rfl) rfl rfl ?_
      | refine LX.gT rfl rfl rfl hb1 (Y.ldB 1 Fi.one4 rfl rfl rfl) rfl rfl ?_
    refine LX.gT rfl rfl rfl hb1 (Y.eqB rfl rfl Fi.un4) rfl rfl ?_
    refine LX.pure (Y.pickT rfl hb1 rfl) rfl rfl rfl ?_
    exact LX.left ⟨rfl, rfl, rfl, rfl, rfl, trivial⟩
  · intro hb1
    have hb1p := hb1
    try simp at hb1p
    refine LX.gF rfl rfl rfl hb1 rfl rfl ?_
    refine LX.gF rfl rfl rfl hb1 rfl rfl ?_
    refine LX.gF rfl rfl rfl hb1 rfl rfl ?_
    refine LX.gF rfl rfl rfl hb1 rfl rfl ?_
    refine LX.gF rfl rfl rfl hb1 rfl rfl ?_
    refine LX.pure (Y.pickF rfl hb1 rfl) rfl rfl rfl ?_
    exact LX.left ⟨rfl, rfl, rfl, rfl, rfl, trivial⟩
  refine LX.pure (Y.move rfl) rfl rfl rfl ?_
  refine LX.sub (l' := [(2, _), (3, _), (4, _), (17, _)]) ⟨rfl, rfl, rfl, rfl, trivial⟩ ?_
  apply LX.joinAnd 6 23 17 rfl
  · intro hb2
    have hb2p := hb2
    try simp at hb2p
    first
      | refine LX.gT rfl rfl rfl hb2 (Y.fieldAddr0 Fi.fo104_2 rfl) rfl rfl ?_
      | refine LX.gT rfl rfl rfl hb2 (Y.fieldAddr Fi.fo104_2 rfl) rfl rfl ?_
    first
      | refine LX.gT rfl rfl rfl hb2 (Y.ldB 0 Fi.one3 rfl rfl rfl) rfl rfl ?_
      | refine LX.gT rfl rfl rfl hb2 (Y.ldB 1 Fi.one3 rfl rfl rfl) rfl rfl ?_
    first
      | refine LX.gT rfl rfl rfl hb2 (Y.fieldAddr0 Fi.fo104_2 rfl) rfl rfl ?_
      | refine LX.gT rfl rfl rfl hb2 (Y.fieldAddr Fi.fo104_2 rfl) rfl rfl ?_
    first
      | refine LX.gT rfl rfl rfl hb2 (Y.ldB 0 Fi.one3 rfl rfl rfl) rfl rfl ?_
      | refine LX.gT rfl rfl rfl hb2 (Y.ldB 1 Fi.one3 rfl rfl rfl) rfl rfl ?_
    first
      | refine LX.gT rfl rfl rfl hb2 (Y.eqN rfl rfl) rfl rfl ?_
      | refine LX.gT rfl rfl rfl hb2 (Y.eqI rfl rfl) rfl rfl ?_
    refine LX.pure (Y.pickT rfl hb2 rfl) rfl rfl rfl ?_
    exact LX.left ⟨rfl, rfl, rfl, rfl, rfl, trivial⟩
  · intro hb2
    have hb2p := hb2
    try simp at hb2p
    refine LX.gF rfl rfl rfl hb2 rfl rfl ?_
    refine LX.gF rfl rfl rfl hb2 rfl rfl ?_
    refine LX.gF rfl rfl rfl hb2 rfl rfl ?_
    refine LX.gF rfl rfl rfl hb2 rfl rfl ?_
    refine LX.gF rfl rfl rfl hb2 rfl rfl ?_
    refine LX.pure (Y.pickF rfl hb2 rfl) rfl rfl rfl ?_
    exact LX.left ⟨rfl, rfl, rfl, rfl, rfl, trivial⟩
  refine LX.pure (Y.move rfl) rfl rfl rfl ?_
  refine LX.sub (l' := [(2, _), (3, _), (4, _), (24, _)]) ⟨rfl, rfl, rfl, rfl, trivial⟩ ?_
  apply LX.joinAnd 6 30 24 rfl
  · intro hb3
    have hb3p := hb3
    try simp at hb3p
    first
      | refine LX.gT rfl rfl rfl hb3 (Y.fieldAddr0 Fi.fo104_3 rfl) rfl rfl ?_
      | refine LX.gT rfl rfl rfl hb3 (Y.fieldAddr Fi.fo104_3 rfl) rfl rfl ?_
    first
      | refine LX.gT rfl rfl rfl hb3 (Y.ldB 0 Fi.one4 rfl rfl rfl) rfl rfl ?_
      | refine LX.gT rfl rfl rfl hb3 (Y.ldB 1 Fi.one4 rfl rfl rfl) rfl rfl ?_
    first
      | refine LX.gT rfl rfl rfl hb3 (Y.fieldAddr0 Fi.fo104_3 rfl) rfl rfl ?_
      | refine LX.gT rfl rfl rfl hb3 (Y.fieldAddr Fi.fo104_3 rfl) rfl rfl ?_
    first
      | refine LX.gT rfl rfl rfl hb3 (Y.ldB 0 Fi.one4 rfl rfl rfl) rfl rfl ?_
      | refine LX.gT rfl rfl rfl hb3 (Y.ldB 1 Fi.one4 rfl rfl rfl) rfl rfl ?_
    refine LX.gT rfl rfl rfl hb3 (Y.eqB rfl rfl Fi.un4) rfl rfl ?_
    refine LX.pure (Y.pickT rfl hb3 rfl) rfl rfl rfl ?_
    exact LX.left ⟨rfl, rfl, rfl, rfl, rfl, trivial⟩
  · intro hb3
    have hb3p := hb3
    try simp at hb3p
    refine LX.gF rfl rfl rfl hb3 rfl rfl ?_
    refine LX.gF rfl rfl rfl hb3 rfl rfl ?_
    refine LX.gF rfl rfl rfl hb3 rfl rfl ?_
    refine LX.gF rfl rfl rfl hb3 rfl rfl ?_
    refine LX.gF rfl rfl rfl hb3 rfl rfl ?_
    refine LX.pure (Y.pickF rfl hb3 rfl) rfl rfl rfl ?_
    exact LX.left ⟨rfl, rfl, rfl, rfl, rfl, trivial⟩
  refine LX.pure (Y.move rfl) rfl rfl rfl ?_
  refine LX.sub (l' := [(2, _), (3, _), (4, _), (31, _)]) ⟨rfl, rfl, rfl, rfl, trivial⟩ ?_
  apply LX.joinAnd 6 37 31 rfl
  · intro hb4
    have hb4p := hb4
    try simp at hb4p
    first
      | refine LX.gT rfl rfl rfl hb4 (Y.fieldAddr0 Fi.fo104_4 rfl) rfl rfl ?_
      | refine LX.gT rfl rfl rfl hb4 (Y.fieldAddr Fi.fo104_4 rfl) rfl rfl ?_
    first
      | refine LX.gT rfl rfl rfl hb4 (Y.ldB 0 Fi.one9 rfl rfl rfl) rfl rfl ?_
      | refine LX.gT rfl rfl rfl hb4 (Y.ldB 1 Fi.one9 rfl rfl rfl) rfl rfl ?_
    first
      | refine LX.gT rfl rfl rfl hb4 (Y.fieldAddr0 Fi.fo104_4 rfl) rfl rfl ?_
      | refine LX.gT rfl rfl rfl hb4 (Y.fieldAddr Fi.fo104_4 rfl) rfl rfl ?_
    first
      | refine LX.gT rfl rfl rfl hb4 (Y.ldB 0 Fi.one9 rfl rfl rfl) rfl rfl ?_
      | refine LX.gT rfl rfl rfl hb4 (Y.ldB 1 Fi.one9 rfl rfl rfl) rfl rfl ?_
    refine LX.gT rfl rfl rfl hb4 (Y.eqS rfl rfl) rfl rfl ?_
    refine LX.pure (Y.pickT rfl hb4 rfl) rfl rfl rfl ?_
    exact LX.left ⟨rfl, rfl, rfl, rfl, rfl, trivial⟩
  · intro hb4
    have hb4p := hb4
    try simp at hb4p
    refine LX.gF rfl rfl rfl hb4 rfl rfl ?_
    refine LX.gF rfl rfl rfl hb4 rfl rfl ?_
    refine LX.gF rfl rfl rfl hb4 rfl rfl ?_
    refine LX.gF rfl rfl rfl hb4 rfl rfl ?_
    refine LX.gF rfl rfl rfl hb4 rfl rfl ?_
    refine LX.pure (Y.pickF rfl hb4 rfl) rfl rfl rfl ?_
    exact LX.left ⟨rfl, rfl, rfl, rfl, rfl, trivial⟩
  refine LX.pure (Y.assign rfl) rfl rfl rfl ?_
  refine LX.sub (l' := [(4, _)]) ⟨rfl, trivial⟩ ?_
  refine LX.next ?_
  refine PX.thenN ?_
  refine CX.ret ?_
  refine PX.ret1 (by simp) Tryz.results65 rfl ?_
  exact fun w hw => ⟨(), by obtain ⟨a, b, c, d, e⟩ := x; obtain ⟨a', b', c', d', e'⟩ := y; simp [Flt.mk.injEq, Bool.and_assoc, Bool.decide_and, Bool.beq_eq_decide_eq], hw.drop ((List.sublist_cons_self _ _).cons _)⟩

theorem placedBare_c {w0 : World} {base : Nat} {fr : List It} {aE : Nat → Addr} (hS : EnvS w0 base aE) {i : Nat} (hi : i < 17) : FnC Tryz.prog 90 #[errV (aE i)] (WA w0 base fr) (fun _ : Unit => Flt.v ⟨101 + i, false, 0, false, []⟩) (fun _ => WA w0 base fr) := by
  refine FnC.of_body (fn := Tryz.f90) [(0, _)] Tryz.func90 rfl Tryz.ntmps90 rfl ⟨rfl, trivial⟩ ?_
  refine CX.seq ?_
  refine CX.region ?_
  refine LX.alloc rfl Fi.zv104 rfl rfl rfl ?_
  intro bx0
  refine LX.sub (l' := [(0, _), (2, _)]) ⟨rfl, rfl, trivial⟩ ?_
  refine LX.next ?_
  refine PX.thenN ?_
  refine CX.seq ?_
  refine CX.region ?_
  refine LX.pure (Y.move rfl) rfl rfl rfl ?_
  first
    | refine LX.pure (Y.assertYes Fi.nif194 rfl) rfl rfl rfl ?_
    | refine LX.pure (Y.assertNo Fi.nif194 rfl (by decide) Fi.zv194) rfl rfl rfl ?_
  refine LX.pure (Y.move rfl) rfl rfl rfl ?_
  refine LX.pure (Y.extract rfl rfl) rfl rfl rfl ?_
  refine LX.pure (Y.extract rfl rfl) rfl rfl rfl ?_
  refine LX.pure (Y.assign rfl) rfl rfl rfl ?_
  refine LX.pure (Y.assign rfl) rfl rfl rfl ?_
  refine LX.sub (l' := [(0, _), (2, _), (3, _), (4, _)]) ⟨rfl, rfl, rfl, rfl, trivial⟩ ?_
  refine LX.next ?_
  refine PX.thenN ?_
  refine CX.seq ?_
  refine CX.seq ?_
  refine CX.region ?_
  refine LX.pure (Y.move rfl) rfl rfl rfl ?_
  refine LX.pure (Y.not rfl) rfl rfl rfl ?_
  refine LX.sub (l' := [(0, _), (2, _), (3, _), (11, _)]) ⟨rfl, rfl, rfl, rfl, trivial⟩ ?_
  refine LX.next ?_
  refine PX.thenN ?_
  refine CX.cond rfl (fun hb1 => ?_) (fun hb1 => ?_)
  · try simp at hb1
    refine CX.seq ?_
    refine CX.region ?_
    refine LX.pure (Y.move rfl) rfl rfl rfl ?_
    refine LX.call (sentinel_c hS hi) Fi.en115 rfl rfl rfl rfl rfl ?_
    intro _
    refine LX.call (bare_c _) Fi.en47 rfl rfl rfl rfl rfl ?_
    intro _
    first
      | refine LX.storeA 0 Fi.ag104 rfl rfl rfl rfl rfl rfl rfl rfl rfl ?_
      | refine LX.storeA 1 Fi.ag104 rfl rfl rfl rfl rfl rfl rfl rfl rfl ?_
      | refine LX.storeA 2 Fi.ag104 rfl rfl rfl rfl rfl rfl rfl rfl rfl ?_
    refine LX.sub (l' := [(2, _), (3, _)]) ⟨rfl, rfl, trivial⟩ ?_
    refine LX.next ?_
    refine PX.thenN ?_
    refine CX.ret ?_
    refine PX.thenR ?_
    first
      | refine PX.retA (i := 0) (by simp) Tryz.results90 Fi.ag104 rfl rfl rfl ?_
      | refine PX.retA (i := 1) (by simp) Tryz.results90 Fi.ag104 rfl rfl rfl ?_
      | refine PX.retA (i := 2) (by simp) Tryz.results90 Fi.ag104 rfl rfl rfl ?_
    exact fun w hw => ⟨(), rfl, hw.drop ((List.sublist_cons_self _ _))⟩
  · try simp at hb1
    first | done | cases hb1

theorem faultBare_c {w0 : World} {base : Nat} {fr : List It} {aE : Nat → Addr} (hS : EnvS w0 base aE) {i : Nat} (hi : i < 17) : FnC Tryz.prog 66 #[errV (aE i)] (WA w0 base fr) (fun _ : Unit => Flt.v ⟨101 + i, false, 0, false, []⟩) (fun _ => WA w0 base fr) := by
  refine FnC.of_body (fn := Tryz.f66) [(0, _)] Tryz.func66 rfl Tryz.ntmps66 rfl ⟨rfl, trivial⟩ ?_
  refine CX.seq ?_
  refine CX.region ?_
  refine LX.alloc rfl Fi.zv104 rfl rfl rfl ?_
  intro bx0
  refine LX.sub (l' := [(0, _), (2, _)]) ⟨rfl, rfl, trivial⟩ ?_
  refine LX.next ?_
  refine PX.thenN ?_
  refine CX.seq ?_
  refine CX.seq ?_
  refine CX.region ?_
  refine LX.pure (Y.move rfl) rfl rfl rfl ?_
  first
    | refine LX.pure (Y.eqNil Fi.un40 rfl rfl) rfl rfl rfl ?_
    | refine LX.pure (Y.eqNilNil Fi.un40 rfl) rfl rfl rfl ?_
  refine LX.sub (l' := [(0, _), (2, _), (7, _)]) ⟨rfl, rfl, rfl, trivial⟩ ?_
  refine LX.next ?_
  refine PX.thenN ?_
  refine CX.cond rfl (fun hb1 => ?_) (fun hb1 => ?_)
  · try simp at hb1
    first | done | cases hb1
  · try simp at hb1
    refine CX.skip ?_
    refine PX.thenN ?_
    refine CX.seq ?_
    refine CX.region ?_
    refine LX.pure (Y.move rfl) rfl rfl rfl ?_
    first
      | refine LX.pure (Y.assertYes Fi.nif180 rfl) rfl rfl rfl ?_
      | refine LX.pure (Y.assertNo Fi.nif180 rfl (by decide) Fi.zv180) rfl rfl rfl ?_
    refine LX.pure (Y.move rfl) rfl rfl rfl ?_
    refine LX.pure (Y.extract rfl rfl) rfl rfl rfl ?_
    refine LX.pure (Y.extract rfl rfl) rfl rfl rfl ?_
    refine LX.pure (Y.assign rfl) rfl rfl rfl ?_
    refine LX.pure (Y.assign rfl) rfl rfl rfl ?_
    refine LX.sub (l' := [(0, _), (2, _), (3, _), (4, _)]) ⟨rfl, rfl, rfl, rfl, trivial⟩ ?_
    refine LX.next ?_
    refine PX.thenN ?_
    refine CX.seq ?_
    refine CX.seq ?_
    refine CX.region ?_
    refine LX.pure (Y.move rfl) rfl rfl rfl ?_
    refine LX.pure (Y.not rfl) rfl rfl rfl ?_
    refine LX.sub (l' := [(0, _), (2, _), (3, _), (15, _)]) ⟨rfl, rfl, rfl, rfl, trivial⟩ ?_
    refine LX.next ?_
    refine PX.thenN ?_
    refine CX.cond rfl (fun hb2 => ?_) (fun hb2 => ?_)
    · try simp at hb2
      refine CX.seq ?_
      refine CX.region ?_
      refine LX.pure (Y.move rfl) rfl rfl rfl ?_
      refine LX.call (placedBare_c hS hi) Fi.en90 rfl rfl rfl rfl rfl ?_
      intro _
      first
        | refine LX.storeA 0 Fi.ag104 rfl rfl rfl rfl rfl rfl rfl rfl rfl ?_
        | refine LX.storeA 1 Fi.ag104 rfl rfl rfl rfl rfl rfl rfl rfl rfl ?_
        | refine LX.storeA 2 Fi.ag104 rfl rfl rfl rfl rfl rfl rfl rfl rfl ?_
      refine LX.sub (l' := [(2, _), (3, _)]) ⟨rfl, rfl, trivial⟩ ?_
      refine LX.next ?_
      refine PX.thenN ?_
      refine CX.ret ?_
      refine PX.thenR ?_
      first
        | refine PX.retA (i := 0) (by simp) Tryz.results66 Fi.ag104 rfl rfl rfl ?_
        | refine PX.retA (i := 1) (by simp) Tryz.results66 Fi.ag104 rfl rfl rfl ?_
        | refine PX.retA (i := 2) (by simp) Tryz.results66 Fi.ag104 rfl rfl rfl ?_
      exact fun w hw => ⟨(), rfl, hw.drop ((List.sublist_cons_self _ _))⟩
    · try simp at hb2
      first | done | cases hb2

theorem sameBare_c {w0 : World} {base : Nat} {fr : List It} {aE : Nat → Addr} (hS : EnvS w0 base aE) {i : Nat} (hi : i < 17) (x : Flt) : FnC Tryz.prog 46 #[errV (aE i), x.v] (WA w0 base fr) (fun _ : Unit => .bool (decide (⟨101 + i, false, 0, false, []⟩ = x))) (fun _ => WA w0 base fr) := by
  refine FnC.of_body (fn := Tryz.f46) [(0, _), (1, _)] Tryz.func46 rfl Tryz.ntmps46 rfl ⟨rfl, rfl, trivial⟩ ?_
  refine CX.seq ?_
  refine CX.region ?_
  refine LX.box rfl rfl rfl rfl rfl ?_
  intro bx0
  refine LX.pure (Y.assign rfl) rfl rfl rfl ?_
  refine LX.sub (l' := [(0, _), (3, _), (4, _)]) ⟨rfl, rfl, rfl, trivial⟩ ?_
  refine LX.next ?_
  refine PX.thenN ?_
  refine CX.seq ?_
  refine CX.regionM [(0, .anywhere), (2, .held), (1, .alone), (3, .alone), (4, .anywhere)] rfl (by kernel_rfl) ?_
  refine MX.lift0 (i := 0) rfl (Y.move rfl) rfl rfl rfl ?_
  first
    | refine MX.lift1 (i := 2) (pend' := []) rfl (fun w hw => by first | exact hw | exact hw.1 | exact hw.drop (List.sublist_cons_self _ _) | exact hw.drop ((List.sublist_cons_self _ _).cons _)) (Y.ldAggB 0 Fi.ag104 rfl rfl rfl rfl) rfl rfl rfl (by kernel_rfl) ?_
    | refine MX.lift1 (i := 2) (pend' := []) rfl (fun w hw => by first | exact hw | exact hw.1 | exact hw.drop (List.sublist_cons_self _ _) | exact hw.drop ((List.sublist_cons_self _ _).cons _)) (Y.ldAggB 1 Fi.ag104 rfl rfl rfl rfl) rfl rfl rfl (by kernel_rfl) ?_
    | refine MX.lift1 (i := 2) (pend' := []) rfl (fun w hw => by first | exact hw | exact hw.1 | exact hw.drop (List.sublist_cons_self _ _) | exact hw.drop ((List.sublist_cons_self _ _).cons _)) (Y.ldAggB 2 Fi.ag104 rfl rfl rfl rfl) rfl rfl rfl (by kernel_rfl) ?_
  refine MX.force (i := 1) rfl ?_
  refine LX.call (faultBare_c hS hi) Fi.en66 rfl rfl rfl rfl rfl ?_
  intro _
  refine LX.nextM [2] (by kernel_rfl) (fun _ => (fun w hw => by first | exact hw | exact hw.1 | exact hw.drop (List.sublist_cons_self _ _) | exact hw.drop ((List.sublist_cons_self _ _).cons _))) ?_
  refine MX.force (i := 3) rfl ?_
  refine LX.call (sameFault_c ⟨101 + i, false, 0, false, []⟩ x) Fi.en65 rfl rfl rfl rfl rfl ?_
  intro _
  refine LX.nextM [] (by kernel_rfl) (fun h => absurd rfl h) ?_
  refine MX.lift0 (i := 4) rfl (Y.assign rfl) rfl rfl rfl ?_
  refine MX.sub (l' := [(4, _)]) ⟨rfl, trivial⟩ ?_
  refine MX.done ?_
  refine PX.thenN ?_
  refine CX.ret ?_
  refine PX.ret1 (by simp) Tryz.results46 rfl ?_
  exact fun w hw => ⟨(), rfl, hw.drop ((List.sublist_cons_self _ _))⟩

theorem isBare_c {w0 : World} {base : Nat} {fr : List It} {aE : Nat → Addr} (hS : EnvS w0 base aE) {i : Nat} (hi : i < 17) (k : Int) : FnC Tryz.prog 23 #[errV (aE i), .int .i64 k] (WA w0 base fr) (fun _ : Unit => .bool (decide (101 + (i : Int) = k))) (fun _ => WA w0 base fr) := by
  refine FnC.of_body (fn := Tryz.f23) [(0, _), (1, _)] Tryz.func23 rfl Tryz.ntmps23 rfl ⟨rfl, rfl, trivial⟩ ?_
  refine CX.seq ?_
  refine CX.region ?_
  refine LX.pure (Y.assign rfl) rfl rfl rfl ?_
  refine LX.sub (l' := [(0, _), (1, _), (4, _)]) ⟨rfl, rfl, rfl, trivial⟩ ?_
  refine LX.next ?_
  refine PX.thenN ?_
  refine CX.seq ?_
  refine CX.region ?_
  refine LX.pure (Y.move rfl) rfl rfl rfl ?_
  refine LX.pure (Y.move rfl) rfl rfl rfl ?_
  refine LX.call (bare_c _) Fi.en47 rfl rfl rfl rfl rfl ?_
  intro _
  refine LX.call (sameBare_c hS hi ⟨k, false, 0, false, []⟩) Fi.en46 rfl rfl rfl rfl rfl ?_
  intro _
  refine LX.pure (Y.assign rfl) rfl rfl rfl ?_
  refine LX.sub (l' := [(4, _)]) ⟨rfl, trivial⟩ ?_
  refine LX.next ?_
  refine PX.thenN ?_
  refine CX.ret ?_
  refine PX.ret1 (by simp) Tryz.results23 rfl ?_
  exact fun w hw => ⟨(), by simp [Flt.mk.injEq], hw⟩

theorem is_q {W : World → Prop} [Stab W] {aE : Nat → Addr} (hS : ∀ w, W w → EnvS w w.heap.size aE) {i : Nat} (hi : i < 17) {k : Int} {b : Bool} (hb : decide (101 + (i : Int) = k) = b) : FnQ Tryz.prog 23 #[errV (aE i), .int .i64 k] W (.bool b) := fun w hw =>
  (isBare_c (fr := []) (hS w hw) hi k w (WA.start w)).mono fun _ _ ⟨_, he, h⟩ => ⟨by rw [he, hb], h.below⟩
end Go.Proofs.YtifanilblkellaaGreatDoor.Isa
