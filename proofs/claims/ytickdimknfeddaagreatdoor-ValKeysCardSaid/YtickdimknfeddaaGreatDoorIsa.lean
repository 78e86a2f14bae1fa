/-
  Proved here: Is, of one of api's errors with nothing around it.
-/
import Derived.Test.YtickdimknfeddaaGreatDoorAgg
import Derived.Test.YtickdimknfeddaaGreatDoorEnvQ
import Derived.Test.YtickdimknfeddaaGreatDoorProg
namespace Go.Proofs.YtickdimknfeddaaGreatDoor.Isa
open Go.SX Go.RowKit Go.Proofs.YtickdimknfeddaaGreatDoor.Env
namespace Fi
theorem ag48 : AggT Tryz.prog 48 5 := AggT.of (by kernel_rfl) (by kernel_rfl)
theorem cp247 : CmpT Tryz.prog 247 264 := CmpT.of (by kernel_rfl) (by kernel_rfl) (by kernel_rfl)
theorem en103 : Enters Tryz.prog 103 := Enters.of Tryz.func103 (by kernel_rfl) (by kernel_rfl)
theorem en137 : Enters Tryz.prog 137 := Enters.of Tryz.func137 (by kernel_rfl) (by kernel_rfl)
theorem en158 : Enters Tryz.prog 158 := Enters.of Tryz.func158 (by kernel_rfl) (by kernel_rfl)
theorem en159 : Enters Tryz.prog 159 := Enters.of Tryz.func159 (by kernel_rfl) (by kernel_rfl)
theorem en31 : Enters Tryz.prog 31 := Enters.of Tryz.func31 (by kernel_rfl) (by kernel_rfl)
theorem en32 : Enters Tryz.prog 32 := Enters.of Tryz.func32 (by kernel_rfl) (by kernel_rfl)
theorem en73 : Enters Tryz.prog 73 := Enters.of Tryz.func73 (by kernel_rfl) (by kernel_rfl)
theorem en74 : Enters Tryz.prog 74 := Enters.of Tryz.func74 (by kernel_rfl) (by kernel_rfl)
theorem fo48_0 : FieldOff Tryz.prog 48 0 0 := fun b o w => by kernel_rfl
theorem fo48_1 : FieldOff Tryz.prog 48 1 1 := fun b o w => by kernel_rfl
theorem fo48_2 : FieldOff Tryz.prog 48 2 2 := fun b o w => by kernel_rfl
theorem fo48_3 : FieldOff Tryz.prog 48 3 3 := fun b o w => by kernel_rfl
theorem fo48_4 : FieldOff Tryz.prog 48 4 4 := fun b o w => by kernel_rfl
theorem one28 : One Tryz.prog 28 := fun w => by kernel_rfl
theorem one3 : One Tryz.prog 3 := fun w => by kernel_rfl
theorem one4 : One Tryz.prog 4 := fun w => by kernel_rfl
theorem one9 : One Tryz.prog 9 := fun w => by kernel_rfl
theorem sz28 : SizeIs Tryz.prog 28 1 := fun w => by kernel_rfl
theorem un191 : Tryz.prog.underlying 191 = some (.pointer 194) := by kernel_rfl
theorem un226 : Tryz.prog.underlying 226 = some (.slice 28) := by kernel_rfl
theorem un28 : Tryz.prog.underlying 28 = some (.interface #[("Error", 113)]) := by kernel_rfl
theorem un4 : Tryz.prog.underlying 4 = some .bool := by kernel_rfl
theorem un91 : Tryz.prog.underlying 91 = some (.pointer 93) := by kernel_rfl
theorem zv191 : ∀ w, (zeroValue 191).run Tryz.prog w = .ok (.pointer none) w := fun w => by kernel_rfl
theorem zv48 : ∀ w, (zeroValue 48).run Tryz.prog w = .ok (.agg #[.int .i64 0, .bool false, .int .i64 0, .bool false, .string ⟨#[]⟩]) w := fun w => by kernel_rfl
theorem zv91 : ∀ w, (zeroValue 91).run Tryz.prog w = .ok (.pointer none) w := fun w => by kernel_rfl
theorem nif191 : NotIface Tryz.prog 191 := NotIface.of un191 (fun ms h => by cases h)
theorem nif91 : NotIface Tryz.prog 91 := NotIface.of un91 (fun ms h => by cases h)
end Fi
structure Flt where
  code : Int
  placed : Bool
  pos : Int
  filed : Bool
  file : List UInt8
  deriving DecidableEq
@[reducible] def Flt.v (x : Flt) : Value := .agg #[.int .i64 x.code, .bool x.placed, .int .i64 x.pos, .bool x.filed, str x.file]
theorem sent_cell {aE : Nat → Addr} {k : Nat} (h : k < 17) : ((List.range 17).map fun i => errV (aE i))[k * 1]? = some (errV (aE k)) := by
  rw [Nat.mul_one, List.getElem?_map, List.getElem?_range h]; rfl
theorem Y.alike {l : Fr} {W : World → Prop} {w0 : World} {base : Nat} {aE : Nat → Addr} (hS : EnvS w0 base aE) (hW : ∀ w, W w → Below base w0 w) {i j : Nat} (hi : i < 17) (hj : j < 17) {x y : Operand} {ty ty2 : TypeId}
    (hx : evl l x = some (errV (aE i))) (hy : evl l y = some (errV (aE j))) : Y Tryz.prog l W (.binOp .eql 28 x y ty2) ty (.bool (decide (i = j))) := by
  by_cases h : i = j
  · subst h
    rw [show decide (i = i) = true by simp]
    exact Y.eqSame Fi.un28 Fi.cp247 hx hy
  rw [show decide (i = j) = false by simp [h]]
  refine Y.eqOther Fi.un28 Fi.cp247 (hS.ne i j hi hj h) (fun w hw => ?_) (fun w hw => ?_) hx hy
  · obtain ⟨h1, c, t, h2⟩ := hS.blk i hi
    exact ⟨c, t, ((hW w hw).block _ h1).trans h2⟩
  obtain ⟨h1, c, t, h2⟩ := hS.blk j hj
  exact ⟨c, t, ((hW w hw).block _ h1).trans h2⟩

theorem sentinels_c {w0 : World} {base : Nat} {fr : List It} {aE : Nat → Addr} (hS : EnvS w0 base aE) : FnC Tryz.prog 158 #[] (WA w0 base fr) (fun b : Nat => .slice (some ⟨b, 0, none⟩) 17 17) (fun b => WA w0 base (.row (some b) 17 17 28 1 ((List.range 17).map fun i => errV (aE i)) :: fr)) := by
  refine FnC.of_body (fn := Tryz.f158) [] Tryz.func158 rfl Tryz.ntmps158 rfl trivial ?_
  refine CX.seq <| CX.region <| LX.pure (Y.assign rfl) rfl rfl rfl <| LX.sub (l' := [(0, _)]) ⟨rfl, trivial⟩ <| LX.next <| PX.thenN <| CX.seq <| CX.region <| LX.pure (Y.ldO Fi.one28 rfl (hS.at_ 0 5 rfl) (hS.lt 5 (by decide))) rfl rfl rfl <| LX.pure (Y.ldO Fi.one28 rfl (hS.at_ 1 4 rfl) (hS.lt 4 (by decide))) rfl rfl rfl <| LX.pure (Y.ldO Fi.one28 rfl (hS.at_ 2 7 rfl) (hS.lt 7 (by decide))) rfl rfl rfl <| LX.pure (Y.ldO Fi.one28 rfl (hS.at_ 3 3 rfl) (hS.lt 3 (by decide))) rfl rfl rfl <| LX.pure (Y.ldO Fi.one28 rfl (hS.at_ 4 8 rfl) (hS.lt 8 (by decide))) rfl rfl rfl <| LX.pure (Y.ldO Fi.one28 rfl (hS.at_ 5 9 rfl) (hS.lt 9 (by decide))) rfl rfl rfl <| LX.pure (Y.ldO Fi.one28 rfl (hS.at_ 6 10 rfl) (hS.lt 10 (by decide))) rfl rfl rfl <| LX.pure (Y.ldO Fi.one28 rfl (hS.at_ 7 2 rfl) (hS.lt 2 (by decide))) rfl rfl rfl <| LX.pure (Y.ldO Fi.one28 rfl (hS.at_ 8 11 rfl) (hS.lt 11 (by decide))) rfl rfl rfl <| LX.pure (Y.ldO Fi.one28 rfl (hS.at_ 9 1 rfl) (hS.lt 1 (by decide))) rfl rfl rfl <| LX.pure (Y.ldO Fi.one28 rfl (hS.at_ 10 12 rfl) (hS.lt 12 (by decide))) rfl rfl rfl <| LX.pure (Y.ldO Fi.one28 rfl (hS.at_ 11 13 rfl) (hS.lt 13 (by decide))) rfl rfl rfl <| LX.pure (Y.ldO Fi.one28 rfl (hS.at_ 12 0 rfl) (hS.lt 0 (by decide))) rfl rfl rfl <| LX.pure (Y.ldO Fi.one28 rfl (hS.at_ 13 14 rfl) (hS.lt 14 (by decide))) rfl rfl rfl <| LX.pure (Y.ldO Fi.one28 rfl (hS.at_ 14 15 rfl) (hS.lt 15 (by decide))) rfl rfl rfl <| LX.pure (Y.ldO Fi.one28 rfl (hS.at_ 15 16 rfl) (hS.lt 16 (by decide))) rfl rfl rfl <| LX.pure (Y.ldO Fi.one28 rfl (hS.at_ 16 17 rfl) (hS.lt 17 (by decide))) rfl rfl rfl <| LX.buildSlice (e := 28) (size := 1) rfl rfl (fun _ => by kernel_rfl) rfl (by decide) rfl rfl rfl ?_
  intro gt18
  refine LX.pure (Y.assign rfl) rfl rfl rfl <| LX.sub (l' := [(0, _)]) ⟨rfl, trivial⟩ <| LX.next <| PX.thenN <| CX.ret <| PX.ret1 (by simp) Tryz.results158 rfl ?_
  exact fun w hw => ⟨_, rfl, hw⟩

theorem alike_q {W : World → Prop} [Stab W] {w0 : World} {base : Nat} {aE : Nat → Addr} (hS : EnvS w0 base aE) (hB : ∀ w, W w → Below base w0 w) {i j : Nat} (hi : i < 17) (hj : j < 17) : FnQ Tryz.prog 159 #[errV (aE i), errV (aE j)] W (.bool (decide (i = j))) := by
  refine FnQ.all fun W' _ hW => ?_
  refine FnC.of_body (fn := Tryz.f159) [(0, _), (1, _)] Tryz.func159 rfl Tryz.ntmps159 rfl ⟨rfl, rfl, trivial⟩ ?_
  refine CX.seq <| CX.region <| LX.pure (Y.assign rfl) rfl rfl rfl <| LX.sub (l' := [(0, _), (1, _), (4, _)]) ⟨rfl, rfl, rfl, trivial⟩ <| LX.next <| PX.thenN <| CX.seq <| CX.seq <| CX.region <| LX.pure (Y.move rfl) rfl rfl rfl <| LX.pure (Y.eqNil Fi.un28 rfl rfl) rfl rfl rfl <| LX.pure (Y.move rfl) rfl rfl rfl <| LX.sub (l' := [(0, _), (1, _), (4, _), (7, _)]) ⟨rfl, rfl, rfl, rfl, trivial⟩ ?_
  apply LX.joinOr 3 10 7 rfl
  · intro hb1
    cases hb1
  · intro hb1
    refine LX.gT rfl rfl rfl hb1 (Y.move rfl) rfl rfl <| LX.gT rfl rfl rfl hb1 (Y.eqNil Fi.un28 rfl rfl) rfl rfl <| LX.pure (Y.pickF rfl hb1 rfl) rfl rfl rfl ?_
    exact LX.left ⟨rfl, rfl, rfl, rfl, rfl, trivial⟩
  refine LX.sub (l' := [(0, _), (1, _), (4, _), (10, _)]) ⟨rfl, rfl, rfl, rfl, trivial⟩ <| LX.next <| PX.thenN ?_
  refine CX.cond rfl (fun hb2 => ?_) (fun hb2 => ?_)
  · try simp at hb2
    done
  try simp at hb2
  refine CX.skip <| PX.thenN <| CX.seq <| CX.region <| LX.pure (Y.move rfl) rfl rfl rfl <| LX.pure (Y.move rfl) rfl rfl rfl <| LX.pure (Y.alike hS (fun w hw => hB w (hW w hw)) hi hj rfl rfl) rfl rfl rfl <| LX.pure (Y.assign rfl) rfl rfl rfl <| LX.sub (l' := [(4, _)]) ⟨rfl, trivial⟩ <| LX.next <| PX.thenN <| CX.ret <| PX.ret1 (by simp) Tryz.results159 rfl ?_
  exact fun w hw => ⟨(), rfl, hw⟩

theorem sentinel_c {w0 : World} {base : Nat} {fr : List It} {aE : Nat → Addr} (hS : EnvS w0 base aE) {i : Nat} (hi : i < 17) : FnC Tryz.prog 137 #[errV (aE i)] (WA w0 base fr) (fun _ : Unit => .int .i64 (101 + i : Int)) (fun _ => WA w0 base fr) := by
  refine FnC.of_body (fn := Tryz.f137) [(0, _)] Tryz.func137 rfl Tryz.ntmps137 rfl ⟨rfl, trivial⟩ ?_
  refine CX.seq <| CX.region <| LX.pure (Y.assign rfl) rfl rfl rfl <| LX.sub (l' := [(0, _), (2, _)]) ⟨rfl, rfl, trivial⟩ <| LX.next <| PX.thenN <| CX.seq <| CX.region <| LX.call (sentinels_c hS) Fi.en158 rfl rfl rfl rfl rfl ?_
  intro bs
  refine LX.pure (Y.assign rfl) rfl rfl rfl <| LX.sub (l' := [(0, _), (2, _), (3, _)]) ⟨rfl, rfl, rfl, trivial⟩ <| LX.next <| PX.thenN <| CX.seq <| CX.seq <| CX.region <| LX.pure (Y.assign rfl) rfl rfl rfl <| LX.sub (l' := [(0, _), (2, _), (3, _), (4, _)]) ⟨rfl, rfl, rfl, rfl, trivial⟩ <| LX.next <| PX.thenN <| CX.block <| CX.loop (τ := Nat) (fun k => [(0, errV (aE i)), (3, .slice (some ⟨bs, 0, none⟩) 17 17), (4, .int .i64 (k : Int))]) (fun k w => k ≤ i ∧ WA w0 base (.row (some bs) 17 17 28 1 ((List.range 17).map fun i => errV (aE i)) :: fr) w) (fun k => i - k) 0 ⟨rfl, rfl, rfl, trivial⟩ (fun w hw => ⟨Nat.zero_le _, hw⟩) ?_
  intro k
  refine CX.have fun hk => ?_
  have hk17 : k < 17 := by omega
  refine CX.seq <| CX.seq <| CX.region <| LX.pure (Y.move rfl) rfl rfl rfl <| LX.pure (Y.move rfl) rfl rfl rfl <| LX.pure (Y.lenSl rfl Fi.un226 rfl) rfl rfl rfl <| LX.pure (Y.ltN rfl rfl) rfl rfl rfl <| LX.sub (l' := [(0, _), (3, _), (4, _), (9, _)]) ⟨rfl, rfl, rfl, rfl, trivial⟩ <| LX.next <| PX.thenN ?_
  refine CX.cond rfl (fun hb1 => ?_) (fun hb1 => ?_)
  · try simp at hb1
    refine CX.skip <| PX.thenN <| CX.seq <| CX.block <| CX.seq <| CX.region <| LX.pure (Y.move rfl) rfl rfl rfl <| LX.pure (Y.move rfl) rfl rfl rfl <| LX.pure (Y.move rfl) rfl rfl rfl <| LX.pure (Y.idxR 0 Fi.un226 Fi.sz28 rfl rfl rfl (by omega)) rfl rfl rfl <| LX.pure (Y.ldR 0 (v := errV (aE k)) Fi.one28 rfl rfl (sent_cell hk17)) rfl rfl rfl <| LX.callQ (alike_q hS (fun w hw => hw.below) hi hk17) Fi.en159 rfl rfl rfl rfl rfl <| LX.sub (l' := [(0, _), (3, _), (4, _), (17, _)]) ⟨rfl, rfl, rfl, rfl, trivial⟩ <| LX.next <| PX.thenN ?_
    refine CX.cond rfl (fun hb2 => ?_) (fun hb2 => ?_)
    · try simp at hb2
      have hik : k = i := hb2.symm
      subst hik
      refine CX.seq <| CX.region <| LX.pure (Y.move rfl) rfl rfl rfl <| LX.pure (Y.addN rfl rfl (by (simp only []; omega))) rfl rfl rfl <| LX.pure (Y.assign rfl) rfl rfl rfl <| LX.sub (l' := [(0, _), (2, _), (3, _), (4, _)]) ⟨rfl, rfl, rfl, rfl, trivial⟩ <| LX.next <| PX.thenN <| CX.ret <| PX.blockR <| PX.thenR <| PX.thenR <| PX.blockR <| PX.thenR <| PX.ret1 (by simp) Tryz.results137 rfl ?_
      exact fun w hw => ⟨(), rfl, hw.drop ((List.sublist_cons_self _ _))⟩
    try simp at hb2
    refine CX.skip <| PX.blockN <| PX.thenN <| CX.region <| LX.pure (Y.move rfl) rfl rfl rfl <| LX.pure (Y.addN rfl rfl (by (simp only []; omega))) rfl rfl rfl <| LX.pure (Y.assign rfl) rfl rfl rfl <| LX.sub (l' := [(0, _), (3, _), (4, _)]) ⟨rfl, rfl, rfl, trivial⟩ <| LX.next ?_
    exact PX.again (k + 1) (by show i - (k + 1) < i - k; omega) ⟨rfl, rfl, rfl, trivial⟩ (fun w hw => ⟨by omega, hw⟩)
  try simp at hb1
  exfalso; omega

theorem bare_c {w0 : World} {base : Nat} {fr : List It} (code : Int) : FnC Tryz.prog 32 #[.int .i64 code] (WA w0 base fr) (fun _ : Unit => Flt.v ⟨code, false, 0, false, []⟩) (fun _ => WA w0 base fr) := by
  refine FnC.of_body (fn := Tryz.f32) [(0, _)] Tryz.func32 rfl Tryz.ntmps32 rfl ⟨rfl, trivial⟩ ?_
  refine CX.seq <| CX.region <| LX.alloc rfl Fi.zv48 rfl rfl rfl ?_
  intro bx0
  refine LX.sub (l' := [(0, _), (2, _)]) ⟨rfl, rfl, trivial⟩ <| LX.next <| PX.thenN <| CX.seq <| CX.region <| LX.pure (Y.move rfl) rfl rfl rfl <| LX.pure (Y.build (v := Flt.v ⟨code, false, 0, false, []⟩) rfl (fun _ => by kernel_rfl)) rfl rfl rfl <| LX.storeA 0 Fi.ag48 rfl rfl rfl rfl rfl rfl rfl rfl rfl <| LX.sub (l' := [(2, _)]) ⟨rfl, trivial⟩ <| LX.next <| PX.thenN <| CX.ret <| PX.retA (i := 0) (by simp) Tryz.results32 Fi.ag48 rfl rfl rfl ?_
  exact fun w hw => ⟨(), rfl, hw.drop ((List.sublist_cons_self _ _))⟩

theorem sameFault_c {w0 : World} {base : Nat} {fr : List It} (x y : Flt) : FnC Tryz.prog 73 #[x.v, y.v] (WA w0 base fr) (fun _ : Unit => .bool (decide (x = y))) (fun _ => WA w0 base fr) := by
  refine FnC.of_body (fn := Tryz.f73) [(0, _), (1, _)] Tryz.func73 rfl Tryz.ntmps73 rfl ⟨rfl, rfl, trivial⟩ ?_
  refine CX.seq <| CX.region <| LX.box rfl rfl rfl rfl rfl ?_
  intro bx0
  refine LX.box rfl rfl rfl rfl rfl ?_
  intro bx1
  refine LX.pure (Y.assign rfl) rfl rfl rfl <| LX.sub (l' := [(2, _), (3, _), (4, _)]) ⟨rfl, rfl, rfl, trivial⟩ <| LX.next <| PX.thenN <| CX.seq <| CX.region <| LX.pure (Y.fieldAddr0 Fi.fo48_0 rfl) rfl rfl rfl <| LX.pure (Y.ldB 1 Fi.one3 rfl rfl rfl) rfl rfl rfl <| LX.pure (Y.fieldAddr0 Fi.fo48_0 rfl) rfl rfl rfl <| LX.pure (Y.ldB 0 Fi.one3 rfl rfl rfl) rfl rfl rfl <| LX.pure (Y.eqI rfl rfl) rfl rfl rfl <| LX.pure (Y.move rfl) rfl rfl rfl <| LX.sub (l' := [(2, _), (3, _), (4, _), (10, _)]) ⟨rfl, rfl, rfl, rfl, trivial⟩ ?_
  apply LX.joinAnd 6 16 10 rfl
  · intro hb1
    refine LX.gT rfl rfl rfl hb1 (Y.fieldAddr0 Fi.fo48_1 rfl) rfl rfl <| LX.gT rfl rfl rfl hb1 (Y.ldB 1 Fi.one4 rfl rfl rfl) rfl rfl <| LX.gT rfl rfl rfl hb1 (Y.fieldAddr0 Fi.fo48_1 rfl) rfl rfl <| LX.gT rfl rfl rfl hb1 (Y.ldB 0 Fi.one4 rfl rfl rfl) rfl rfl <| LX.gT rfl rfl rfl hb1 (Y.eqB rfl rfl Fi.un4) rfl rfl <| LX.pure (Y.pickT rfl hb1 rfl) rfl rfl rfl ?_
    exact LX.left ⟨rfl, rfl, rfl, rfl, rfl, trivial⟩
  · intro hb1
    refine LX.gF rfl rfl rfl hb1 rfl rfl <| LX.gF rfl rfl rfl hb1 rfl rfl <| LX.gF rfl rfl rfl hb1 rfl rfl <| LX.gF rfl rfl rfl hb1 rfl rfl <| LX.gF rfl rfl rfl hb1 rfl rfl <| LX.pure (Y.pickF rfl hb1 rfl) rfl rfl rfl ?_
    exact LX.left ⟨rfl, rfl, rfl, rfl, rfl, trivial⟩
  refine LX.pure (Y.move rfl) rfl rfl rfl <| LX.sub (l' := [(2, _), (3, _), (4, _), (17, _)]) ⟨rfl, rfl, rfl, rfl, trivial⟩ ?_
  apply LX.joinAnd 6 23 17 rfl
  · intro hb2
    refine LX.gT rfl rfl rfl hb2 (Y.fieldAddr0 Fi.fo48_2 rfl) rfl rfl <| LX.gT rfl rfl rfl hb2 (Y.ldB 1 Fi.one3 rfl rfl rfl) rfl rfl <| LX.gT rfl rfl rfl hb2 (Y.fieldAddr0 Fi.fo48_2 rfl) rfl rfl <| LX.gT rfl rfl rfl hb2 (Y.ldB 0 Fi.one3 rfl rfl rfl) rfl rfl <| LX.gT rfl rfl rfl hb2 (Y.eqI rfl rfl) rfl rfl <| LX.pure (Y.pickT rfl hb2 rfl) rfl rfl rfl ?_
    exact LX.left ⟨rfl, rfl, rfl, rfl, rfl, trivial⟩
  · intro hb2
    refine LX.gF rfl rfl rfl hb2 rfl rfl <| LX.gF rfl rfl rfl hb2 rfl rfl <| LX.gF rfl rfl rfl hb2 rfl rfl <| LX.gF rfl rfl rfl hb2 rfl rfl <| LX.gF rfl rfl rfl hb2 rfl rfl <| LX.pure (Y.pickF rfl hb2 rfl) rfl rfl rfl ?_
    exact LX.left ⟨rfl, rfl, rfl, rfl, rfl, trivial⟩
  refine LX.pure (Y.move rfl) rfl rfl rfl <| LX.sub (l' := [(2, _), (3, _), (4, _), (24, _)]) ⟨rfl, rfl, rfl, rfl, trivial⟩ ?_
  apply LX.joinAnd 6 30 24 rfl
  · intro hb3
    refine LX.gT rfl rfl rfl hb3 (Y.fieldAddr0 Fi.fo48_3 rfl) rfl rfl <| LX.gT rfl rfl rfl hb3 (Y.ldB 1 Fi.one4 rfl rfl rfl) rfl rfl <| LX.gT rfl rfl rfl hb3 (Y.fieldAddr0 Fi.fo48_3 rfl) rfl rfl <| LX.gT rfl rfl rfl hb3 (Y.ldB 0 Fi.one4 rfl rfl rfl) rfl rfl <| LX.gT rfl rfl rfl hb3 (Y.eqB rfl rfl Fi.un4) rfl rfl <| LX.pure (Y.pickT rfl hb3 rfl) rfl rfl rfl ?_
    exact LX.left ⟨rfl, rfl, rfl, rfl, rfl, trivial⟩
  · intro hb3
    refine LX.gF rfl rfl rfl hb3 rfl rfl <| LX.gF rfl rfl rfl hb3 rfl rfl <| LX.gF rfl rfl rfl hb3 rfl rfl <| LX.gF rfl rfl rfl hb3 rfl rfl <| LX.gF rfl rfl rfl hb3 rfl rfl <| LX.pure (Y.pickF rfl hb3 rfl) rfl rfl rfl ?_
    exact LX.left ⟨rfl, rfl, rfl, rfl, rfl, trivial⟩
  refine LX.pure (Y.move rfl) rfl rfl rfl <| LX.sub (l' := [(2, _), (3, _), (4, _), (31, _)]) ⟨rfl, rfl, rfl, rfl, trivial⟩ ?_
  apply LX.joinAnd 6 37 31 rfl
  · intro hb4
    refine LX.gT rfl rfl rfl hb4 (Y.fieldAddr0 Fi.fo48_4 rfl) rfl rfl <| LX.gT rfl rfl rfl hb4 (Y.ldB 1 Fi.one9 rfl rfl rfl) rfl rfl <| LX.gT rfl rfl rfl hb4 (Y.fieldAddr0 Fi.fo48_4 rfl) rfl rfl <| LX.gT rfl rfl rfl hb4 (Y.ldB 0 Fi.one9 rfl rfl rfl) rfl rfl <| LX.gT rfl rfl rfl hb4 (Y.eqS rfl rfl) rfl rfl <| LX.pure (Y.pickT rfl hb4 rfl) rfl rfl rfl ?_
    exact LX.left ⟨rfl, rfl, rfl, rfl, rfl, trivial⟩
  · intro hb4
    refine LX.gF rfl rfl rfl hb4 rfl rfl <| LX.gF rfl rfl rfl hb4 rfl rfl <| LX.gF rfl rfl rfl hb4 rfl rfl <| LX.gF rfl rfl rfl hb4 rfl rfl <| LX.gF rfl rfl rfl hb4 rfl rfl <| LX.pure (Y.pickF rfl hb4 rfl) rfl rfl rfl ?_
    exact LX.left ⟨rfl, rfl, rfl, rfl, rfl, trivial⟩
  refine LX.pure (Y.assign rfl) rfl rfl rfl <| LX.sub (l' := [(4, _)]) ⟨rfl, trivial⟩ <| LX.next <| PX.thenN <| CX.ret <| PX.ret1 (by simp) Tryz.results73 rfl ?_
  exact fun w hw => ⟨(), by obtain ⟨a, b, c, d, e⟩ := x; obtain ⟨a', b', c', d', e'⟩ := y; simp [Flt.mk.injEq, Bool.and_assoc, Bool.decide_and, Bool.beq_eq_decide_eq], hw.drop ((List.sublist_cons_self _ _).cons _)⟩

theorem placedBare_c {w0 : World} {base : Nat} {fr : List It} {aE : Nat → Addr} (hS : EnvS w0 base aE) {i : Nat} (hi : i < 17) : FnC Tryz.prog 103 #[errV (aE i)] (WA w0 base fr) (fun _ : Unit => Flt.v ⟨101 + i, false, 0, false, []⟩) (fun _ => WA w0 base fr) := by
  refine FnC.of_body (fn := Tryz.f103) [(0, _)] Tryz.func103 rfl Tryz.ntmps103 rfl ⟨rfl, trivial⟩ ?_
  refine CX.seq <| CX.region <| LX.alloc rfl Fi.zv48 rfl rfl rfl ?_
  intro bx0
  refine LX.sub (l' := [(0, _), (2, _)]) ⟨rfl, rfl, trivial⟩ <| LX.next <| PX.thenN <| CX.seq <| CX.region <| LX.pure (Y.move rfl) rfl rfl rfl <| LX.pure (Y.assertNo Fi.nif91 rfl (by decide) Fi.zv91) rfl rfl rfl <| LX.pure (Y.move rfl) rfl rfl rfl <| LX.pure (Y.extract rfl rfl) rfl rfl rfl <| LX.pure (Y.extract rfl rfl) rfl rfl rfl <| LX.pure (Y.assign rfl) rfl rfl rfl <| LX.pure (Y.assign rfl) rfl rfl rfl <| LX.sub (l' := [(0, _), (2, _), (3, _), (4, _)]) ⟨rfl, rfl, rfl, rfl, trivial⟩ <| LX.next <| PX.thenN <| CX.seq <| CX.seq <| CX.region <| LX.pure (Y.move rfl) rfl rfl rfl <| LX.pure (Y.not rfl) rfl rfl rfl <| LX.sub (l' := [(0, _), (2, _), (3, _), (11, _)]) ⟨rfl, rfl, rfl, rfl, trivial⟩ <| LX.next <| PX.thenN ?_
  refine CX.cond rfl (fun hb1 => ?_) (fun hb1 => ?_)
  · try simp at hb1
    refine CX.seq <| CX.region <| LX.pure (Y.move rfl) rfl rfl rfl <| LX.call (sentinel_c hS hi) Fi.en137 rfl rfl rfl rfl rfl ?_
    intro _
    refine LX.call (bare_c _) Fi.en32 rfl rfl rfl rfl rfl ?_
    intro _
    refine LX.storeA 0 Fi.ag48 rfl rfl rfl rfl rfl rfl rfl rfl rfl <| LX.sub (l' := [(2, _), (3, _)]) ⟨rfl, rfl, trivial⟩ <| LX.next <| PX.thenN <| CX.ret <| PX.thenR <| PX.retA (i := 0) (by simp) Tryz.results103 Fi.ag48 rfl rfl rfl ?_
    exact fun w hw => ⟨(), rfl, hw.drop ((List.sublist_cons_self _ _))⟩
  try simp at hb1
  done

theorem faultBare_c {w0 : World} {base : Nat} {fr : List It} {aE : Nat → Addr} (hS : EnvS w0 base aE) {i : Nat} (hi : i < 17) : FnC Tryz.prog 74 #[errV (aE i)] (WA w0 base fr) (fun _ : Unit => Flt.v ⟨101 + i, false, 0, false, []⟩) (fun _ => WA w0 base fr) := by
  refine FnC.of_body (fn := Tryz.f74) [(0, _)] Tryz.func74 rfl Tryz.ntmps74 rfl ⟨rfl, trivial⟩ ?_
  refine CX.seq <| CX.region <| LX.alloc rfl Fi.zv48 rfl rfl rfl ?_
  intro bx0
  refine LX.sub (l' := [(0, _), (2, _)]) ⟨rfl, rfl, trivial⟩ <| LX.next <| PX.thenN <| CX.seq <| CX.seq <| CX.region <| LX.pure (Y.move rfl) rfl rfl rfl <| LX.pure (Y.eqNil Fi.un28 rfl rfl) rfl rfl rfl <| LX.sub (l' := [(0, _), (2, _), (7, _)]) ⟨rfl, rfl, rfl, trivial⟩ <| LX.next <| PX.thenN ?_
  refine CX.cond rfl (fun hb1 => ?_) (fun hb1 => ?_)
  · try simp at hb1
    done
  try simp at hb1
  refine CX.skip <| PX.thenN <| CX.seq <| CX.region <| LX.pure (Y.move rfl) rfl rfl rfl <| LX.pure (Y.assertNo Fi.nif191 rfl (by decide) Fi.zv191) rfl rfl rfl <| LX.pure (Y.move rfl) rfl rfl rfl <| LX.pure (Y.extract rfl rfl) rfl rfl rfl <| LX.pure (Y.extract rfl rfl) rfl rfl rfl <| LX.pure (Y.assign rfl) rfl rfl rfl <| LX.pure (Y.assign rfl) rfl rfl rfl <| LX.sub (l' := [(0, _), (2, _), (3, _), (4, _)]) ⟨rfl, rfl, rfl, rfl, trivial⟩ <| LX.next <| PX.thenN <| CX.seq <| CX.seq <| CX.region <| LX.pure (Y.move rfl) rfl rfl rfl <| LX.pure (Y.not rfl) rfl rfl rfl <| LX.sub (l' := [(0, _), (2, _), (3, _), (15, _)]) ⟨rfl, rfl, rfl, rfl, trivial⟩ <| LX.next <| PX.thenN ?_
  refine CX.cond rfl (fun hb2 => ?_) (fun hb2 => ?_)
  · try simp at hb2
    refine CX.seq <| CX.region <| LX.pure (Y.move rfl) rfl rfl rfl <| LX.call (placedBare_c hS hi) Fi.en103 rfl rfl rfl rfl rfl ?_
    intro _
    refine LX.storeA 0 Fi.ag48 rfl rfl rfl rfl rfl rfl rfl rfl rfl <| LX.sub (l' := [(2, _), (3, _)]) ⟨rfl, rfl, trivial⟩ <| LX.next <| PX.thenN <| CX.ret <| PX.thenR <| PX.retA (i := 0) (by simp) Tryz.results74 Fi.ag48 rfl rfl rfl ?_
    exact fun w hw => ⟨(), rfl, hw.drop ((List.sublist_cons_self _ _))⟩
  try simp at hb2
  done

theorem sameBare_c {w0 : World} {base : Nat} {fr : List It} {aE : Nat → Addr} (hS : EnvS w0 base aE) {i : Nat} (hi : i < 17) (x : Flt) : FnC Tryz.prog 31 #[errV (aE i), x.v] (WA w0 base fr) (fun _ : Unit => .bool (decide (⟨101 + i, false, 0, false, []⟩ = x))) (fun _ => WA w0 base fr) := by
  refine FnC.of_body (fn := Tryz.f31) [(0, _), (1, _)] Tryz.func31 rfl Tryz.ntmps31 rfl ⟨rfl, rfl, trivial⟩ ?_
  refine CX.seq <| CX.region <| LX.box rfl rfl rfl rfl rfl ?_
  intro bx0
  refine LX.pure (Y.assign rfl) rfl rfl rfl <| LX.sub (l' := [(0, _), (3, _), (4, _)]) ⟨rfl, rfl, rfl, trivial⟩ <| LX.next <| PX.thenN <| CX.seq <| CX.regionM [(0, .anywhere), (2, .held), (1, .alone), (3, .alone), (4, .anywhere)] rfl (by kernel_rfl) <| MX.lift0 (i := 0) rfl (Y.move rfl) rfl rfl rfl <| MX.lift1 (i := 2) (pend' := []) rfl (fun w hw => by exact hw) (Y.ldAggB 0 Fi.ag48 rfl rfl rfl rfl) rfl rfl rfl (by kernel_rfl) <| MX.force (i := 1) rfl <| LX.call (faultBare_c hS hi) Fi.en74 rfl rfl rfl rfl rfl ?_
  intro _
  refine LX.nextM [2] (by kernel_rfl) (fun _ => (fun w hw => by exact hw)) <| MX.force (i := 3) rfl <| LX.call (sameFault_c ⟨101 + i, false, 0, false, []⟩ x) Fi.en73 rfl rfl rfl rfl rfl ?_
  intro _
  refine LX.nextM [] (by kernel_rfl) (fun h => absurd rfl h) <| MX.lift0 (i := 4) rfl (Y.assign rfl) rfl rfl rfl <| MX.sub (l' := [(4, _)]) ⟨rfl, trivial⟩ <| MX.done <| PX.thenN <| CX.ret <| PX.ret1 (by simp) Tryz.results31 rfl ?_
  exact fun w hw => ⟨(), rfl, hw.drop ((List.sublist_cons_self _ _))⟩

theorem isBare_c {w0 : World} {base : Nat} {fr : List It} {aE : Nat → Addr} (hS : EnvS w0 base aE) {i : Nat} (hi : i < 17) (k : Int) : FnC Tryz.prog 18 #[errV (aE i), .int .i64 k] (WA w0 base fr) (fun _ : Unit => .bool (decide (101 + (i : Int) = k))) (fun _ => WA w0 base fr) := by
  refine FnC.of_body (fn := Tryz.f18) [(0, _), (1, _)] Tryz.func18 rfl Tryz.ntmps18 rfl ⟨rfl, rfl, trivial⟩ ?_
  refine CX.seq <| CX.region <| LX.pure (Y.assign rfl) rfl rfl rfl <| LX.sub (l' := [(0, _), (1, _), (4, _)]) ⟨rfl, rfl, rfl, trivial⟩ <| LX.next <| PX.thenN <| CX.seq <| CX.region <| LX.pure (Y.move rfl) rfl rfl rfl <| LX.pure (Y.move rfl) rfl rfl rfl <| LX.call (bare_c _) Fi.en32 rfl rfl rfl rfl rfl ?_
  intro _
  refine LX.call (sameBare_c hS hi ⟨k, false, 0, false, []⟩) Fi.en31 rfl rfl rfl rfl rfl ?_
  intro _
  refine LX.pure (Y.assign rfl) rfl rfl rfl <| LX.sub (l' := [(4, _)]) ⟨rfl, trivial⟩ <| LX.next <| PX.thenN <| CX.ret <| PX.ret1 (by simp) Tryz.results18 rfl ?_
  exact fun w hw => ⟨(), by simp [Flt.mk.injEq], hw⟩

theorem is_q {W : World → Prop} [Stab W] {aE : Nat → Addr} (hS : ∀ w, W w → EnvS w w.heap.size aE) {i : Nat} (hi : i < 17) {k : Int} {b : Bool} (hb : decide (101 + (i : Int) = k) = b) : FnQ Tryz.prog 18 #[errV (aE i), .int .i64 k] W (.bool b) := fun w hw =>
  (isBare_c (fr := []) (hS w hw) hi k w (WA.start w)).mono fun _ _ ⟨_, he, h⟩ => ⟨by rw [he, hb], h.below⟩
end Go.Proofs.YtickdimknfeddaaGreatDoor.Isa
