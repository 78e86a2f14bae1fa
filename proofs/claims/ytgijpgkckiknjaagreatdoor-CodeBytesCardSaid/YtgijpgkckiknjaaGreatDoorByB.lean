/-
  Proved here: a reader of bytes: its faults, its next byte.
-/
import Derived.Test.YtgijpgkckiknjaaGreatDoorByS
import Derived.Test.YtgijpgkckiknjaaGreatDoorByR
import Derived.Test.YtgijpgkckiknjaaGreatDoorEnvQ
import Derived.Test.YtgijpgkckiknjaaGreatDoorCpP
namespace Go.Proofs.YtgijpgkckiknjaaGreatDoor
open Go.SX Go.RowKit Go.Ck Go.Lex Go.By
namespace Gr
theorem en79 : Enters Tryz.prog 79 := Enters.of Tryz.func79 (by kernel_rfl) (by kernel_rfl)
theorem fa159_0 : FieldOffA Tryz.prog 159 0 0 := fun a w => by kernel_rfl
theorem fa159_1 : FieldOffA Tryz.prog 159 1 1 := fun a w => by kernel_rfl
theorem fa159_2 : FieldOffA Tryz.prog 159 2 2 := fun a w => by kernel_rfl
theorem fo159_0 : FieldOff Tryz.prog 159 0 0 := fun b o w => by kernel_rfl
theorem fo159_1 : FieldOff Tryz.prog 159 1 1 := fun b o w => by kernel_rfl
theorem fo159_2 : FieldOff Tryz.prog 159 2 2 := fun b o w => by kernel_rfl
theorem ni136 : NoIface Tryz.prog 136 := fun w v => by kernel_rfl
theorem one30 : One Tryz.prog 30 := fun w => by kernel_rfl
theorem one5 : One Tryz.prog 5 := fun w => by kernel_rfl
theorem one79 : One Tryz.prog 79 := fun w => by kernel_rfl
theorem sz30 : SizeIs Tryz.prog 30 1 := fun w => by kernel_rfl
theorem sz5 : SizeIs Tryz.prog 5 1 := fun w => by kernel_rfl
theorem un30 : Tryz.prog.underlying 30 = some (.interface #[("Error", 164)]) := by kernel_rfl
theorem un79 : Tryz.prog.underlying 79 = some (.slice 5) := by kernel_rfl
end Gr
open Go.Proofs.YtgijpgkckiknjaaGreatDoor.Env (EnvS errV sentG)
/-- an error with its place, as a value, and where it lies -/
@[reducible] def atW (b : Nat) : Value := .iface 136 (.pointer (some ⟨b, 0, none⟩))
@[reducible] def atJ (b pos : Nat) (e : Value) : It := blk b [.int .i64 (pos : Int), e] 138
@[reducible] def vS (s : St) (b : Nat) : Value := match s.e with | none => .nilIface | some _ => atW b
@[reducible] def iS (aE : Nat → Addr) (s : St) (b : Nat) : List It := match s.e with | none => [] | some q => [atJ b q.2 (errV (aE q.1))]
@[reducible] def rdC (ab : Option Addr) (n cb : Nat) (s : St) (b : Nat) : List Value := [.slice ab n cb, .int .i64 (s.at_ : Int), vS s b]
theorem Y.sNe {l : Fr} {W : World → Prop} {x : Operand} {ty ty2 : TypeId} {s : St} {b : Nat} (hx : evl l x = some (vS s b)) : Y Tryz.prog l W (.binOp .neq 30 x (.const .nilIface) ty2) ty (.bool (decide (s.e ≠ none))) := by
  obtain ⟨a, e⟩ := s
  cases e with
  | none => exact Y.neNilNil Gr.un30 hx
  | some i => exact Y.neNil Gr.un30 hx rfl
theorem Y.sEq {l : Fr} {W : World → Prop} {x : Operand} {ty ty2 : TypeId} {s : St} {b : Nat} (hx : evl l x = some (vS s b)) : Y Tryz.prog l W (.binOp .eql 30 x (.const .nilIface) ty2) ty (.bool (decide (s.e = none))) := by
  obtain ⟨a, e⟩ := s
  cases e with
  | none => exact Y.eqNilNil Gr.un30 hx
  | some i => exact Y.eqNil Gr.un30 hx rfl
theorem vS_one (s : St) (b : Nat) : (vS s b).oneCell' = true := by
  obtain ⟨a, e⟩ := s
  cases e <;> rfl
theorem fault_c {w0 : World} {base : Nat} {fr : List It} {bw : Nat} {ab : Option Addr} {cb : Nat} {b : List UInt8} {aE : Nat → Addr} (at_ pl k : Nat) : FnC Tryz.prog 79 #[.pointer (some ⟨bw, 0, none⟩), .int .i64 (pl : Int), errV (aE k)] (WA w0 base (blk bw [.slice ab b.length cb, .int .i64 ((at_ : Nat) : Int), .nilIface] 159 :: fr)) (fun _ : Nat => .tuple #[]) (fun ax => WA w0 base (blk bw [.slice ab b.length cb, .int .i64 ((at_ : Nat) : Int), atW ax] 159 :: atJ ax pl (errV (aE k)) :: fr)) := by
  refine FnC.of_body (fn := Tryz.f79) [(0, _), (1, _), (2, _)] Tryz.func79 rfl Tryz.ntmps79 rfl ⟨rfl, rfl, rfl, trivial⟩ ?_
  refine CX.seq ?_
  refine CX.region ?_
  refine LX.pure (Y.move rfl) rfl rfl rfl ?_
  refine LX.pure (Y.nilCheck rfl) rfl rfl rfl ?_
  refine LX.pure (Y.fieldAddr0 Gr.fo159_2 rfl) rfl rfl rfl ?_
  refine LX.pure (Y.ldB 0 Gr.one30 rfl rfl rfl) rfl rfl rfl ?_
  refine LX.pure (Y.eqNilNil Gr.un30 rfl) rfl rfl rfl ?_
  refine LX.sub (l' := [(0, _), (1, _), (2, _), (10, _)]) ⟨rfl, rfl, rfl, rfl, trivial⟩ ?_
  refine LX.next ?_
  refine PX.thenN ?_
  refine CX.cond rfl (fun hb1 => ?_) (fun hb1 => ?_)
  · try simp at hb1
    refine CX.region ?_
    refine LX.pure (Y.move rfl) rfl rfl rfl ?_
    refine LX.pure (Y.move rfl) rfl rfl rfl ?_
    refine LX.pure (Y.move rfl) rfl rfl rfl ?_
    refine LX.pure (Y.build (v := .agg #[.int .i64 (pl : Int), errV (aE k)]) rfl (fun _ => by kernel_rfl)) rfl rfl rfl ?_
    refine LX.box rfl rfl rfl rfl rfl ?_
    intro bE
    refine LX.pure (Y.mkI Gr.ni136 rfl) rfl rfl rfl ?_
    refine LX.pure (Y.nilCheck rfl) rfl rfl rfl ?_
    refine LX.pure (Y.fieldAddr0 Gr.fo159_2 rfl) rfl rfl rfl ?_
    refine LX.storeB 1 Gr.sz30 rfl rfl rfl rfl rfl rfl rfl rfl ?_
    refine LX.sub (l' := []) trivial ?_
    refine LX.next ?_
    refine PX.ret0 (by simp) Tryz.results79 ?_
    exact fun w hw => ⟨bE, rfl, hw.perm (.swap _ _ _)⟩
  · try simp at hb1
    done
theorem faultX_c {w0 : World} {base : Nat} {fr : List It} {bw : Nat} {ab : Option Addr} {cb : Nat} {b : List UInt8} (at_ ax : Nat) (pl : Int) (e : Value) : FnC Tryz.prog 79 #[.pointer (some ⟨bw, 0, none⟩), .int .i64 pl, e] (WA w0 base (blk bw [.slice ab b.length cb, .int .i64 ((at_ : Nat) : Int), atW ax] 159 :: fr)) (fun _ : Unit => .tuple #[]) (fun _ => WA w0 base (blk bw [.slice ab b.length cb, .int .i64 ((at_ : Nat) : Int), atW ax] 159 :: fr)) := by
  refine FnC.of_body (fn := Tryz.f79) [(0, _), (1, _), (2, _)] Tryz.func79 rfl Tryz.ntmps79 rfl ⟨rfl, rfl, rfl, trivial⟩ ?_
  refine CX.seq ?_
  refine CX.region ?_
  refine LX.pure (Y.move rfl) rfl rfl rfl ?_
  refine LX.pure (Y.nilCheck rfl) rfl rfl rfl ?_
  refine LX.pure (Y.fieldAddr0 Gr.fo159_2 rfl) rfl rfl rfl ?_
  refine LX.pure (Y.ldB 0 Gr.one30 rfl rfl rfl) rfl rfl rfl ?_
  refine LX.pure (Y.eqNil Gr.un30 rfl rfl) rfl rfl rfl ?_
  refine LX.sub (l' := [(0, _), (1, _), (2, _), (10, _)]) ⟨rfl, rfl, rfl, rfl, trivial⟩ ?_
  refine LX.next ?_
  refine PX.thenN ?_
  refine CX.cond rfl (fun hb1 => ?_) (fun hb1 => ?_)
  · try simp at hb1
    done
  · try simp at hb1
    refine CX.skip ?_
    refine PX.ret0 (by simp) Tryz.results79 ?_
    exact fun w hw => ⟨(), rfl, hw⟩
theorem next_c {w0 : World} {base : Nat} {fr : List It} {bw : Nat} {ab : Option Addr} {cb : Nat} {b : List UInt8} {aE : Nat → Addr} (hS : EnvS w0 base aE) (hb : SlAt 1 byteA (Lies w0 base) ab b) (hbn : b.length ≤ 1099511627776) (at_ : Nat) : FnC Tryz.prog 78 #[.pointer (some ⟨bw, 0, none⟩)] (WA w0 base (blk bw [.slice ab b.length cb, .int .i64 ((at_ : Nat) : Int), .nilIface] 159 :: fr)) (fun _ : Nat => .int .u8 (nxV b at_ : Int)) (fun ax => WA w0 base (blk bw (rdC ab b.length cb (nx b at_) ax) 159 :: (iS aE (nx b at_) ax ++ fr))) := by
  refine FnC.of_body (fn := Tryz.f78) [(0, _)] Tryz.func78 rfl Tryz.ntmps78 rfl ⟨rfl, trivial⟩ ?_
  refine CX.seq ?_
  refine CX.region ?_
  refine LX.pure (Y.assign rfl) rfl rfl rfl ?_
  refine LX.sub (l' := [(0, _), (2, _)]) ⟨rfl, rfl, trivial⟩ ?_
  refine LX.next ?_
  refine PX.thenN ?_
  refine CX.seq ?_
  refine CX.seq ?_
  refine CX.regionQ rfl (by kernel_rfl) ?_
  refine LX.pure (Y.move rfl) rfl rfl rfl ?_
  refine LX.pure (Y.nilCheck rfl) rfl rfl rfl ?_
  refine LX.pure (Y.fieldAddr0 Gr.fo159_1 rfl) rfl rfl rfl ?_
  refine LX.pure (Y.ldB 0 Fjb.one3 rfl rfl rfl) rfl rfl rfl ?_
  refine LX.pure (Y.move rfl) rfl rfl rfl ?_
  refine LX.pure (Y.nilCheck rfl) rfl rfl rfl ?_
  refine LX.pure (Y.fieldAddr0 Gr.fo159_0 rfl) rfl rfl rfl ?_
  refine LX.pure (Y.ldB 0 Gr.one79 rfl rfl rfl) rfl rfl rfl ?_
  refine LX.pure (Y.lenSl rfl Gr.un79 rfl) rfl rfl rfl ?_
  refine LX.pure (Y.geN rfl rfl) rfl rfl rfl ?_
  refine LX.sub (l' := [(0, _), (2, _), (12, _)]) ⟨rfl, rfl, rfl, trivial⟩ ?_
  refine LX.nextQ ?_
  refine PX.thenN ?_
  refine CX.cond rfl (fun hb1 => ?_) (fun hb1 => ?_)
  · try simp at hb1
    refine CX.regionM [(0, .anywhere), (1, .anywhere), (2, .anywhere), (3, .anywhere), (4, .held), (5, .held), (6, .held), (7, .alone)] rfl (by kernel_rfl) ?_
    refine MX.lift0 (i := 0) rfl (Y.move rfl) rfl rfl rfl ?_
    refine MX.lift0 (i := 1) rfl (Y.move rfl) rfl rfl rfl ?_
    refine MX.lift0 (i := 2) rfl (Y.nilCheck rfl) rfl rfl rfl ?_
    refine MX.lift0 (i := 3) rfl (Y.fieldAddr0 Gr.fo159_0 rfl) rfl rfl rfl ?_
    refine MX.lift1 (i := 4) (pend' := []) rfl (fun w hw => by exact hw) (Y.ldB 0 Gr.one79 rfl rfl rfl) rfl rfl rfl (by kernel_rfl) ?_
    refine MX.lift1 (i := 5) (pend' := []) rfl (fun w hw => by exact hw) (Y.lenSl rfl Gr.un79 rfl) rfl rfl rfl (by kernel_rfl) ?_
    refine MX.lift1 (i := 6) (pend' := [5]) rfl (fun w hw => by exact hw) (Y.ldO Gr.one30 rfl (hS.at_ 13 3 rfl) (hS.lt 3 (by decide))) rfl rfl rfl (by kernel_rfl) ?_
    refine MX.force (i := 7) rfl ?_
    refine LX.call (fault_c (aE := aE) at_ b.length 13) Gr.en79 rfl rfl rfl rfl rfl ?_
    intro bE
    refine LX.nextM [] (by kernel_rfl) (fun h => absurd rfl h) ?_
    refine MX.sub (l' := [(0, _), (2, _)]) ⟨rfl, rfl, trivial⟩ ?_
    refine MX.done ?_
    refine PX.thenN ?_
    refine CX.seq ?_
    refine CX.seq ?_
    refine CX.region ?_
    refine LX.pure (Y.move rfl) rfl rfl rfl ?_
    refine LX.pure (Y.nilCheck rfl) rfl rfl rfl ?_
    refine LX.pure (Y.fieldAddr0 Gr.fo159_2 rfl) rfl rfl rfl ?_
    refine LX.pure (Y.ldB 0 Gr.one30 rfl rfl rfl) rfl rfl rfl ?_
    refine LX.pure (Y.neNil Gr.un30 rfl rfl) rfl rfl rfl ?_
    refine LX.sub (l' := [(0, _), (2, _), (25, _)]) ⟨rfl, rfl, rfl, trivial⟩ ?_
    refine LX.next ?_
    refine PX.thenN ?_
    refine CX.cond rfl (fun hb2 => ?_) (fun hb2 => ?_)
    · try simp at hb2
      refine CX.seq ?_
      refine CX.region ?_
      refine LX.pure (Y.assign rfl) rfl rfl rfl ?_
      refine LX.sub (l' := [(0, _), (2, _)]) ⟨rfl, rfl, trivial⟩ ?_
      refine LX.next ?_
      refine PX.thenN ?_
      refine CX.ret ?_
      refine PX.thenR ?_
      refine PX.ret1 (by simp) Tryz.results78 rfl ?_
      exact fun w hw => ⟨bE, by rw [nxV_ge (by omega)]; rfl, by rw [nx_ge (by omega)]; exact hw⟩
    · try simp at hb2
      done
  · try simp at hb1
    obtain ⟨c, hc⟩ : ∃ c, b[at_]? = some c := ⟨_, List.getElem?_eq_getElem (by omega)⟩
    obtain ⟨a0, hav, hL⟩ := byteA_at hb hc
    refine CX.skip ?_
    refine PX.thenN ?_
    refine CX.seq ?_
    refine CX.seq ?_
    refine CX.region ?_
    refine LX.pure (Y.move rfl) rfl rfl rfl ?_
    refine LX.pure (Y.nilCheck rfl) rfl rfl rfl ?_
    refine LX.pure (Y.fieldAddr0 Gr.fo159_2 rfl) rfl rfl rfl ?_
    refine LX.pure (Y.ldB 0 Gr.one30 rfl rfl rfl) rfl rfl rfl ?_
    refine LX.pure (Y.neNilNil Gr.un30 rfl) rfl rfl rfl ?_
    refine LX.sub (l' := [(0, _), (2, _), (25, _)]) ⟨rfl, rfl, rfl, trivial⟩ ?_
    refine LX.next ?_
    refine PX.thenN ?_
    refine CX.cond rfl (fun hb3 => ?_) (fun hb3 => ?_)
    · try simp at hb3
      done
    · try simp at hb3
      refine CX.skip ?_
      refine PX.thenN ?_
      refine CX.seq ?_
      refine CX.region ?_
      refine LX.pure (Y.move rfl) rfl rfl rfl ?_
      refine LX.pure (Y.nilCheck rfl) rfl rfl rfl ?_
      refine LX.pure (Y.fieldAddr0 Gr.fo159_1 rfl) rfl rfl rfl ?_
      refine LX.pure (Y.ldB 0 Fjb.one3 rfl rfl rfl) rfl rfl rfl ?_
      refine LX.pure (Y.addN rfl rfl (by (simp only []; omega))) rfl rfl rfl ?_
      refine LX.pure (Y.nilCheck rfl) rfl rfl rfl ?_
      refine LX.pure (Y.fieldAddr0 Gr.fo159_1 rfl) rfl rfl rfl ?_
      refine LX.storeB 0 Fjb.sz3 rfl rfl rfl rfl rfl rfl rfl rfl ?_
      refine LX.sub (l' := [(0, _), (2, _)]) ⟨rfl, rfl, trivial⟩ ?_
      refine LX.next ?_
      refine PX.thenN ?_
      refine CX.seq ?_
      refine CX.regionQ rfl (by kernel_rfl) ?_
      refine LX.pure (Y.move rfl) rfl rfl rfl ?_
      refine LX.pure (Y.nilCheck rfl) rfl rfl rfl ?_
      refine LX.pure (Y.fieldAddr0 Gr.fo159_0 rfl) rfl rfl rfl ?_
      refine LX.pure (Y.ldB 0 Gr.one79 rfl rfl rfl) rfl rfl rfl ?_
      refine LX.pure (Y.move rfl) rfl rfl rfl ?_
      refine LX.pure (Y.nilCheck rfl) rfl rfl rfl ?_
      refine LX.pure (Y.fieldAddr0 Gr.fo159_1 rfl) rfl rfl rfl ?_
      refine LX.pure (Y.ldB 0 Fjb.one3 rfl rfl rfl) rfl rfl rfl ?_
      refine LX.pure (Y.subN rfl rfl (by omega) (by (simp only []; omega))) rfl rfl rfl ?_
      refine LX.pure (Y.idxZ Gr.un79 Gr.sz5 rfl rfl hav (j := at_) rfl (by omega)) rfl rfl rfl ?_
      refine LX.pure (Y.ldO1 (v := b8 c) Gr.one5 rfl hL) rfl rfl rfl ?_
      refine LX.pure (Y.assign rfl) rfl rfl rfl ?_
      refine LX.sub (l' := [(2, _)]) ⟨rfl, trivial⟩ ?_
      refine LX.nextQ ?_
      refine PX.thenN ?_
      refine CX.ret ?_
      refine PX.ret1 (by simp) Tryz.results78 rfl ?_
      exact fun w hw => ⟨0, by rw [nxV_lt hc]; rfl, by rw [nx_lt (by omega)]; exact hw⟩
theorem nextX_c {w0 : World} {base : Nat} {fr : List It} {bw : Nat} {ab : Option Addr} {cb : Nat} {b : List UInt8} {aE : Nat → Addr} (hS : EnvS w0 base aE) (at_ ax : Nat) : FnC Tryz.prog 78 #[.pointer (some ⟨bw, 0, none⟩)] (WA w0 base (blk bw [.slice ab b.length cb, .int .i64 ((at_ : Nat) : Int), atW ax] 159 :: fr)) (fun _ : Unit => .int .u8 0) (fun _ => WA w0 base (blk bw [.slice ab b.length cb, .int .i64 ((at_ : Nat) : Int), atW ax] 159 :: fr)) := by
  refine FnC.of_body (fn := Tryz.f78) [(0, _)] Tryz.func78 rfl Tryz.ntmps78 rfl ⟨rfl, trivial⟩ ?_
  refine CX.seq ?_
  refine CX.region ?_
  refine LX.pure (Y.assign rfl) rfl rfl rfl ?_
  refine LX.sub (l' := [(0, _), (2, _)]) ⟨rfl, rfl, trivial⟩ ?_
  refine LX.next ?_
  refine PX.thenN ?_
  refine CX.seq ?_
  refine CX.seq ?_
  refine CX.regionQ rfl (by kernel_rfl) ?_
  refine LX.pure (Y.move rfl) rfl rfl rfl ?_
  refine LX.pure (Y.nilCheck rfl) rfl rfl rfl ?_
  refine LX.pure (Y.fieldAddr0 Gr.fo159_1 rfl) rfl rfl rfl ?_
  refine LX.pure (Y.ldB 0 Fjb.one3 rfl rfl rfl) rfl rfl rfl ?_
  refine LX.pure (Y.move rfl) rfl rfl rfl ?_
  refine LX.pure (Y.nilCheck rfl) rfl rfl rfl ?_
  refine LX.pure (Y.fieldAddr0 Gr.fo159_0 rfl) rfl rfl rfl ?_
  refine LX.pure (Y.ldB 0 Gr.one79 rfl rfl rfl) rfl rfl rfl ?_
  refine LX.pure (Y.lenSl rfl Gr.un79 rfl) rfl rfl rfl ?_
  refine LX.pure (Y.geN rfl rfl) rfl rfl rfl ?_
  refine LX.sub (l' := [(0, _), (2, _), (12, _)]) ⟨rfl, rfl, rfl, trivial⟩ ?_
  refine LX.nextQ ?_
  refine PX.thenN ?_
  refine CX.cond rfl (fun hb1 => ?_) (fun hb1 => ?_)
  · try simp at hb1
    refine CX.regionM [(0, .anywhere), (1, .anywhere), (2, .anywhere), (3, .anywhere), (4, .held), (5, .held), (6, .held), (7, .alone)] rfl (by kernel_rfl) ?_
    refine MX.lift0 (i := 0) rfl (Y.move rfl) rfl rfl rfl ?_
    refine MX.lift0 (i := 1) rfl (Y.move rfl) rfl rfl rfl ?_
    refine MX.lift0 (i := 2) rfl (Y.nilCheck rfl) rfl rfl rfl ?_
    refine MX.lift0 (i := 3) rfl (Y.fieldAddr0 Gr.fo159_0 rfl) rfl rfl rfl ?_
    refine MX.lift1 (i := 4) (pend' := []) rfl (fun w hw => by exact hw) (Y.ldB 0 Gr.one79 rfl rfl rfl) rfl rfl rfl (by kernel_rfl) ?_
    refine MX.lift1 (i := 5) (pend' := []) rfl (fun w hw => by exact hw) (Y.lenSl rfl Gr.un79 rfl) rfl rfl rfl (by kernel_rfl) ?_
    refine MX.lift1 (i := 6) (pend' := [5]) rfl (fun w hw => by exact hw) (Y.ldO Gr.one30 rfl (hS.at_ 13 3 rfl) (hS.lt 3 (by decide))) rfl rfl rfl (by kernel_rfl) ?_
    refine MX.force (i := 7) rfl ?_
    refine LX.call (faultX_c at_ ax b.length _) Gr.en79 rfl rfl rfl rfl rfl ?_
    intro _
    refine LX.nextM [] (by kernel_rfl) (fun h => absurd rfl h) ?_
    refine MX.sub (l' := [(0, _), (2, _)]) ⟨rfl, rfl, trivial⟩ ?_
    refine MX.done ?_
    refine PX.thenN ?_
    refine CX.seq ?_
    refine CX.seq ?_
    refine CX.region ?_
    refine LX.pure (Y.move rfl) rfl rfl rfl ?_
    refine LX.pure (Y.nilCheck rfl) rfl rfl rfl ?_
    refine LX.pure (Y.fieldAddr0 Gr.fo159_2 rfl) rfl rfl rfl ?_
    refine LX.pure (Y.ldB 0 Gr.one30 rfl rfl rfl) rfl rfl rfl ?_
    refine LX.pure (Y.neNil Gr.un30 rfl rfl) rfl rfl rfl ?_
    refine LX.sub (l' := [(0, _), (2, _), (25, _)]) ⟨rfl, rfl, rfl, trivial⟩ ?_
    refine LX.next ?_
    refine PX.thenN ?_
    refine CX.cond rfl (fun hb2 => ?_) (fun hb2 => ?_)
    · try simp at hb2
      refine CX.seq ?_
      refine CX.region ?_
      refine LX.pure (Y.assign rfl) rfl rfl rfl ?_
      refine LX.sub (l' := [(0, _), (2, _)]) ⟨rfl, rfl, trivial⟩ ?_
      refine LX.next ?_
      refine PX.thenN ?_
      refine CX.ret ?_
      refine PX.thenR ?_
      refine PX.ret1 (by simp) Tryz.results78 rfl ?_
      exact fun w hw => ⟨(), rfl, hw⟩
    · try simp at hb2
      done
  · try simp at hb1
    refine CX.skip ?_
    refine PX.thenN ?_
    refine CX.seq ?_
    refine CX.seq ?_
    refine CX.region ?_
    refine LX.pure (Y.move rfl) rfl rfl rfl ?_
    refine LX.pure (Y.nilCheck rfl) rfl rfl rfl ?_
    refine LX.pure (Y.fieldAddr0 Gr.fo159_2 rfl) rfl rfl rfl ?_
    refine LX.pure (Y.ldB 0 Gr.one30 rfl rfl rfl) rfl rfl rfl ?_
    refine LX.pure (Y.neNil Gr.un30 rfl rfl) rfl rfl rfl ?_
    refine LX.sub (l' := [(0, _), (2, _), (25, _)]) ⟨rfl, rfl, rfl, trivial⟩ ?_
    refine LX.next ?_
    refine PX.thenN ?_
    refine CX.cond rfl (fun hb3 => ?_) (fun hb3 => ?_)
    · try simp at hb3
      refine CX.seq ?_
      refine CX.region ?_
      refine LX.pure (Y.assign rfl) rfl rfl rfl ?_
      refine LX.sub (l' := [(0, _), (2, _)]) ⟨rfl, rfl, trivial⟩ ?_
      refine LX.next ?_
      refine PX.thenN ?_
      refine CX.ret ?_
      refine PX.thenR ?_
      refine PX.ret1 (by simp) Tryz.results78 rfl ?_
      exact fun w hw => ⟨(), rfl, hw⟩
    · try simp at hb3
      done
end Go.Proofs.YtgijpgkckiknjaaGreatDoor

namespace Go.Proofs.YtgijpgkckiknjaaGreatDoor
open Go.SX Go.RowKit Go.Ck Go.Lex Go.By
namespace Gs
theorem en78 : Enters Tryz.prog 78 := Enters.of Tryz.func78 (by kernel_rfl) (by kernel_rfl)
theorem un228 : Tryz.prog.underlying 228 = some (.int .u64) := by kernel_rfl
theorem un3 : Tryz.prog.underlying 3 = some (.int .i64) := by kernel_rfl
theorem un5 : Tryz.prog.underlying 5 = some (.int .u8) := by kernel_rfl
end Gs
open Go.Proofs.YtgijpgkckiknjaaGreatDoor.Env (EnvS errV sentG)
theorem inI0 : inI 0 := by unfold inI; omega
theorem in63 {n : Nat} (h : n < 9223372036854775808) : -9223372036854775808 ≤ (n : Int) ∧ (n : Int) ≤ 9223372036854775807 := by omega
theorem mod2_lt (n : Nat) : n % 2 < 9223372036854775808 := Nat.lt_trans (Nat.mod_lt _ (by decide)) (by decide)
theorem num_ok {w0 : World} {base : Nat} {fr : List It} {bw : Nat} {ab : Option Addr} {cb : Nat} {b : List UInt8} {aE : Nat → Addr} (hS : EnvS w0 base aE) (hb : SlAt 1 byteA (Lies w0 base) ab b) (hbn : b.length ≤ 1099511627776) (at_ : Nat) (hat : at_ ≤ b.length) : FnC Tryz.prog 82 #[.pointer (some ⟨bw, 0, none⟩)] (WA w0 base (blk bw [.slice ab b.length cb, .int .i64 ((at_ : Nat) : Int), .nilIface] 159 :: fr)) (fun q : Int × St × Nat => .int .i64 q.1) (fun q w => (Res (rNum b at_) q.1 q.2.1 ∧ q.2.1.at_ ≤ b.length ∧ inI q.1) ∧ WA w0 base (blk bw (rdC ab b.length cb q.2.1 q.2.2) 159 :: (iS aE q.2.1 q.2.2 ++ fr)) w) := by
  refine FnC.of_body (fn := Tryz.f82) [(0, _)] Tryz.func82 rfl Tryz.ntmps82 rfl ⟨rfl, trivial⟩ ?_
  refine CX.seq ?_
  refine CX.region ?_
  refine LX.pure (Y.assign rfl) rfl rfl rfl ?_
  refine LX.sub (l' := [(0, _), (2, _)]) ⟨rfl, rfl, trivial⟩ ?_
  refine LX.next ?_
  refine PX.thenN ?_
  refine CX.seq ?_
  refine CX.region ?_
  refine LX.pure (Y.assign rfl) rfl rfl rfl ?_
  refine LX.sub (l' := [(0, _), (2, _), (3, _)]) ⟨rfl, rfl, rfl, trivial⟩ ?_
  refine LX.next ?_
  refine PX.thenN ?_
  refine CX.seq ?_
  refine CX.seq ?_
  refine CX.region ?_
  refine LX.pure (Y.move rfl) rfl rfl rfl ?_
  refine LX.sub (l' := [(0, _), (2, _), (3, _), (6, _)]) ⟨rfl, rfl, rfl, rfl, trivial⟩ ?_
  refine LX.next ?_
  refine PX.thenN ?_
  refine CX.block ?_
  refine CX.loop (fun s : Nat × Nat × Nat => [(0, .pointer (some ⟨bw, 0, none⟩)), (3, .int .u64 (s.2.2 : Int)), (6, .int .i64 (s.1 : Int))]) (fun (s : Nat × Nat × Nat) w => (s.1 ≤ 9 ∧ s.2.1 ≤ b.length ∧ s.2.2 < 2 ^ (7 * s.1) ∧ rU b (10 - s.1) s.1 s.2.1 s.2.2 = rU b 10 0 at_ 0) ∧ WA w0 base (blk bw [.slice ab b.length cb, .int .i64 ((s.2.1 : Nat) : Int), .nilIface] 159 :: fr) w) (fun s => 10 - s.1) (0, at_, 0) ⟨rfl, rfl, rfl, trivial⟩ (fun w hw => ⟨⟨Nat.zero_le _, hat, Nat.two_pow_pos _, rfl⟩, hw⟩) ?_
  rintro ⟨i, a, u⟩
  refine CX.have fun ⟨hi, ha, hu, hU⟩ => ?_
  replace hi : i ≤ 9 := hi
  replace ha : a ≤ b.length := ha
  replace hu : u < 2 ^ (7 * i) := hu
  replace hU : rU b (10 - i) i a u = rU b 10 0 at_ 0 := hU
  try dsimp only
  have h10 : 10 - i = (9 - i) + 1 := by omega
  rw [h10] at hU
  refine CX.seq ?_
  refine CX.region ?_
  refine LX.pure (Y.ltN rfl rfl) rfl rfl rfl ?_
  refine LX.sub (l' := [(0, _), (3, _), (6, _), (7, _)]) ⟨rfl, rfl, rfl, rfl, trivial⟩ ?_
  refine LX.next ?_
  refine PX.thenN ?_
  refine CX.seq ?_
  refine CX.cond rfl (fun hb1 => ?_) (fun hb1 => ?_)
  · try simp at hb1
    refine CX.skip ?_
    refine PX.thenN ?_
    refine CX.seq ?_
    refine CX.block ?_
    refine CX.seq ?_
    refine CX.region ?_
    refine LX.pure (Y.move rfl) rfl rfl rfl ?_
    refine LX.pure (Y.assign rfl) rfl rfl rfl ?_
    refine LX.sub (l' := [(0, _), (3, _), (4, _), (6, _)]) ⟨rfl, rfl, rfl, rfl, trivial⟩ ?_
    refine LX.next ?_
    refine PX.thenN ?_
    refine CX.seq ?_
    refine CX.region ?_
    refine LX.pure (Y.move rfl) rfl rfl rfl ?_
    refine LX.call (next_c hS hb hbn a) Gs.en78 rfl rfl rfl rfl rfl ?_
    intro ax
    refine LX.pure (Y.assign rfl) rfl rfl rfl ?_
    refine LX.sub (l' := [(0, _), (3, _), (4, _), (5, _), (6, _)]) ⟨rfl, rfl, rfl, rfl, rfl, trivial⟩ ?_
    refine LX.next ?_
    refine PX.thenN ?_
    refine CX.seq ?_
    refine CX.seq ?_
    refine CX.region ?_
    refine LX.pure (Y.move rfl) rfl rfl rfl ?_
    refine LX.pure (Y.nilCheck rfl) rfl rfl rfl ?_
    refine LX.pure (Y.fieldAddr0 Gr.fo159_2 rfl) rfl rfl rfl ?_
    refine LX.pure (Y.ldB 0 Gr.one30 rfl rfl rfl) rfl rfl rfl ?_
    refine LX.pure (Y.sNe rfl) rfl rfl rfl ?_
    refine LX.sub (l' := [(0, _), (3, _), (4, _), (5, _), (6, _), (15, _)]) ⟨rfl, rfl, rfl, rfl, rfl, rfl, trivial⟩ ?_
    refine LX.next ?_
    refine PX.thenN ?_
    refine CX.cond rfl (fun hb2 => ?_) (fun hb2 => ?_)
    · try simp at hb2
      have hge : b.length ≤ a := Nat.le_of_not_lt fun h => hb2 (by rw [nx_lt h])
      refine CX.seq ?_
      refine CX.region ?_
      refine LX.pure (Y.assign rfl) rfl rfl rfl ?_
      refine LX.sub (l' := [(0, _), (2, _), (3, _), (4, _), (5, _), (6, _)]) ⟨rfl, rfl, rfl, rfl, rfl, rfl, trivial⟩ ?_
      refine LX.next ?_
      refine PX.thenN ?_
      refine CX.ret ?_
      refine PX.thenR ?_
      refine PX.blockR ?_
      refine PX.thenR ?_
      refine PX.thenR ?_
      refine PX.blockR ?_
      refine PX.thenR ?_
      refine PX.ret1 (by simp) Tryz.results82 rfl ?_
      exact fun w hw => ⟨(0, ⟨a, some (13, b.length)⟩, ax), rfl, ⟨⟨by rw [num_bad (hU.symm.trans (rU_end hge))]; rfl, ha, inI0⟩, by rw [nx_ge hge] at hw; exact hw⟩⟩
    · try simp at hb2
      have hlt : a < b.length := Nat.lt_of_not_le fun h => by rw [nx_ge h] at hb2; cases hb2
      obtain ⟨c, hc⟩ : ∃ c, b[a]? = some c := ⟨_, List.getElem?_eq_getElem hlt⟩
      rw [nx_lt hlt, nxV_lt hc]
      have hc256 := c.toNat_lt
      refine CX.world (W' := WA w0 base (blk bw [.slice ab b.length cb, .int .i64 ((a + 1 : Nat) : Int), .nilIface] 159 :: fr)) (fun w hw => hw) ?_
      refine CX.skip ?_
      refine PX.thenN ?_
      refine CX.seq ?_
      refine CX.seq ?_
      refine CX.region ?_
      refine LX.pure (Y.move rfl) rfl rfl rfl ?_
      refine LX.pure (Y.eqN rfl rfl) rfl rfl rfl ?_
      refine LX.pure (Y.move rfl) rfl rfl rfl ?_
      refine LX.sub (l' := [(0, _), (3, _), (4, _), (5, _), (6, _), (18, _)]) ⟨rfl, rfl, rfl, rfl, rfl, rfl, trivial⟩ ?_
      apply LX.joinAnd 3 21 18 rfl
      · intro hb3
        have hb3p := hb3
        try simp at hb3p
        refine LX.gT rfl rfl rfl hb3 (Y.move rfl) rfl rfl ?_
        refine LX.gT rfl rfl rfl hb3 (Y.gtN rfl rfl) rfl rfl ?_
        refine LX.pure (Y.pickT rfl hb3 rfl) rfl rfl rfl ?_
        exact LX.left ⟨rfl, rfl, rfl, rfl, rfl, rfl, rfl, trivial⟩
      · intro hb3
        have hb3p := hb3
        try simp at hb3p
        refine LX.gF rfl rfl rfl hb3 rfl rfl ?_
        refine LX.gF rfl rfl rfl hb3 rfl rfl ?_
        refine LX.pure (Y.pickF rfl hb3 rfl) rfl rfl rfl ?_
        exact LX.left ⟨rfl, rfl, rfl, rfl, rfl, rfl, rfl, trivial⟩
      refine LX.pure (Y.move rfl) rfl rfl rfl ?_
      refine LX.sub (l' := [(0, _), (3, _), (4, _), (5, _), (6, _), (22, _)]) ⟨rfl, rfl, rfl, rfl, rfl, rfl, trivial⟩ ?_
      apply LX.joinOr 7 29 22 rfl
      · intro hb4
        have hb4p := hb4
        try simp at hb4p
        refine LX.gF rfl rfl rfl hb4 rfl rfl ?_
        refine LX.gF rfl rfl rfl hb4 rfl rfl ?_
        refine LX.gF rfl rfl rfl hb4 rfl rfl ?_
        refine LX.gU rfl rfl rfl rfl rfl ?_
        refine LX.gU rfl rfl rfl rfl rfl ?_
        refine LX.gF rfl rfl rfl hb4 rfl rfl ?_
        refine LX.pure (Y.pickT rfl hb4 rfl) rfl rfl rfl ?_
        exact LX.left ⟨rfl, rfl, rfl, rfl, rfl, rfl, rfl, trivial⟩
      · intro hb4
        have hb4p := hb4
        try simp at hb4p
        refine LX.gT rfl rfl rfl hb4 (Y.move rfl) rfl rfl ?_
        refine LX.gT rfl rfl rfl hb4 (Y.gtN rfl rfl) rfl rfl ?_
        refine LX.gT rfl rfl rfl hb4 (Y.move rfl) rfl rfl ?_
        refine LX.sub (l' := [(0, _), (3, _), (4, _), (5, _), (6, _), (22, _), (25, _)]) ⟨rfl, rfl, rfl, rfl, rfl, rfl, rfl, trivial⟩ ?_
        apply LX.joinAnd 3 28 25 rfl
        · intro hb5
          have hb5p := hb5
          try simp at hb5p
          refine LX.gT rfl rfl rfl hb5 (Y.move rfl) rfl rfl ?_
          refine LX.gT rfl rfl rfl hb5 (Y.eqN rfl rfl) rfl rfl ?_
          refine LX.gT rfl rfl rfl hb4 (Y.pickT rfl hb5 rfl) rfl rfl ?_
          exact LX.left ⟨rfl, rfl, rfl, rfl, rfl, rfl, rfl, rfl, trivial⟩
        · intro hb5
          have hb5p := hb5
          try simp at hb5p
          refine LX.gF rfl rfl rfl hb5 rfl rfl ?_
          refine LX.gF rfl rfl rfl hb5 rfl rfl ?_
          refine LX.gT rfl rfl rfl hb4 (Y.pickF rfl hb5 rfl) rfl rfl ?_
          exact LX.left ⟨rfl, rfl, rfl, rfl, rfl, rfl, rfl, rfl, trivial⟩
        refine LX.pure (Y.pickF rfl hb4 rfl) rfl rfl rfl ?_
        exact LX.left ⟨rfl, rfl, rfl, rfl, rfl, rfl, rfl, trivial⟩
      refine LX.sub (l' := [(0, _), (3, _), (4, _), (5, _), (6, _), (29, _)]) ⟨rfl, rfl, rfl, rfl, rfl, rfl, trivial⟩ ?_
      refine LX.next ?_
      refine PX.thenN ?_
      refine CX.cond rfl (fun hb6 => ?_) (fun hb6 => ?_)
      · try simp at hb6
        have hbad : (i = 9 ∧ 1 < c.toNat) ∨ (0 < i ∧ c.toNat = 0) := by assumption
        have hU2 := hU.symm.trans (rU_bad hc hbad)
        refine CX.seq ?_
        refine CX.regionM [(0, .anywhere), (1, .anywhere), (2, .anywhere), (3, .anywhere), (4, .held), (5, .held), (6, .held), (7, .alone)] rfl (by kernel_rfl) ?_
        refine MX.lift0 (i := 0) rfl (Y.move rfl) rfl rfl rfl ?_
        refine MX.lift0 (i := 1) rfl (Y.move rfl) rfl rfl rfl ?_
        refine MX.lift0 (i := 2) rfl (Y.nilCheck rfl) rfl rfl rfl ?_
        refine MX.lift0 (i := 3) rfl (Y.fieldAddr0 Gr.fo159_1 rfl) rfl rfl rfl ?_
        refine MX.lift1 (i := 4) (pend' := []) rfl (fun w hw => by exact hw) (Y.ldB 0 Fjb.one3 rfl rfl rfl) rfl rfl rfl (by kernel_rfl) ?_
        refine MX.lift1 (i := 5) (pend' := []) rfl (fun w hw => by exact hw) (Y.subN rfl rfl (by (simp only []; omega)) (by omega)) rfl rfl rfl (by kernel_rfl) ?_
        refine MX.lift1 (i := 6) (pend' := [5]) rfl (fun w hw => by exact hw) (Y.ldO Gr.one30 rfl (hS.at_ 12 1 rfl) (hS.lt 1 (by decide))) rfl rfl rfl (by kernel_rfl) ?_
        refine MX.force (i := 7) rfl ?_
        refine LX.call (fault_c (aE := aE) (a + 1) (a + 1 - 1) 12) Gr.en79 rfl rfl rfl rfl rfl ?_
        intro bE
        refine LX.nextM [] (by kernel_rfl) (fun h => absurd rfl h) ?_
        refine MX.sub (l' := [(0, _), (3, _), (4, _), (5, _), (6, _)]) ⟨rfl, rfl, rfl, rfl, rfl, trivial⟩ ?_
        refine MX.done ?_
        refine PX.thenN ?_
        refine CX.seq ?_
        refine CX.region ?_
        refine LX.pure (Y.assign rfl) rfl rfl rfl ?_
        refine LX.sub (l' := [(0, _), (2, _), (3, _), (4, _), (5, _), (6, _)]) ⟨rfl, rfl, rfl, rfl, rfl, rfl, trivial⟩ ?_
        refine LX.next ?_
        refine PX.thenN ?_
        refine CX.ret ?_
        refine PX.thenR ?_
        refine PX.blockR ?_
        refine PX.thenR ?_
        refine PX.thenR ?_
        refine PX.blockR ?_
        refine PX.thenR ?_
        refine PX.ret1 (by simp) Tryz.results82 rfl ?_
        exact fun w hw => ⟨(0, ⟨a + 1, some (12, a)⟩, bE), rfl, ⟨⟨by rw [num_bad hU2]; rfl, by show a + 1 ≤ b.length; omega, inI0⟩, hw⟩⟩
      · try simp at hb6
        have hbad : ¬((i = 9 ∧ 1 < c.toNat) ∨ (0 < i ∧ c.toNat = 0)) := by omega
        obtain ⟨hs1, hs2, hs3, hs4⟩ := byte_step hi hu hbad
        refine CX.skip ?_
        refine PX.thenN ?_
        refine CX.seq ?_
        refine CX.region ?_
        refine LX.pure (Y.move rfl) rfl rfl rfl ?_
        refine LX.pure (Y.move rfl) rfl rfl rfl ?_
        refine LX.pure (Y.low7 rfl rfl c.toNat_lt) rfl rfl rfl ?_
        refine LX.pure (Y.convN rfl Gs.un5 Gs.un228 (wrap_u64 (by omega))) rfl rfl rfl ?_
        refine LX.pure (Y.move rfl) rfl rfl rfl ?_
        refine LX.pure (Y.mulN (a := 7) (b := i) rfl rfl (by omega)) rfl rfl rfl ?_
        refine LX.pure (Y.shlF (b := 7 * i) rfl rfl (by omega) hs1) rfl rfl rfl ?_
        refine LX.pure (Y.orAdd rfl rfl hu hs2 hs1) rfl rfl rfl ?_
        refine LX.pure (Y.assign rfl) rfl rfl rfl ?_
        refine LX.sub (l' := [(0, _), (3, _), (5, _), (6, _)]) ⟨rfl, rfl, rfl, rfl, trivial⟩ ?_
        refine LX.next ?_
        refine PX.thenN ?_
        refine CX.seq ?_
        refine CX.region ?_
        refine LX.pure (Y.move rfl) rfl rfl rfl ?_
        refine LX.pure (Y.ltN rfl rfl) rfl rfl rfl ?_
        refine LX.sub (l' := [(0, _), (3, _), (6, _), (47, _)]) ⟨rfl, rfl, rfl, rfl, trivial⟩ ?_
        refine LX.next ?_
        refine PX.thenN ?_
        refine CX.cond rfl (fun hb7 => ?_) (fun hb7 => ?_)
        · try simp at hb7
          have hl : c.toNat < 128 := by omega
          have hU2 := hU.symm.trans (rU_last hc hbad hl)
          have hv2 : (u + c.toNat % 128 * 2 ^ (7 * i)) / 2 < 9223372036854775808 := Nat.div_lt_of_lt_mul (Nat.lt_of_lt_of_le hs4 (by decide))
          refine CX.exit ?_
          refine PX.blockO rfl ?_
          refine PX.thenE ?_
          refine PX.thenE ?_
          refine PX.blockE ?_
          refine PX.thenN ?_
          refine CX.seq ?_
          refine CX.region ?_
          refine LX.pure (Y.move rfl) rfl rfl rfl ?_
          refine LX.pure (Y.half rfl rfl) rfl rfl rfl ?_
          refine LX.pure (Y.convN rfl Gs.un228 Gs.un3 (IntWalk.i64_in _ (in63 hv2))) rfl rfl rfl ?_
          refine LX.pure (Y.move rfl) rfl rfl rfl ?_
          refine LX.pure (Y.low1 rfl rfl hs4) rfl rfl rfl ?_
          refine LX.pure (Y.convN rfl Gs.un228 Gs.un3 (IntWalk.i64_in _ (in63 (mod2_lt _)))) rfl rfl rfl ?_
          refine LX.pure (Y.negN rfl (mod2_lt _)) rfl rfl rfl ?_
          refine LX.pure (Y.unzig rfl rfl hs4) rfl rfl rfl ?_
          refine LX.pure (Y.assign rfl) rfl rfl rfl ?_
          refine LX.sub (l' := [(2, _)]) ⟨rfl, trivial⟩ ?_
          refine LX.next ?_
          refine PX.thenN ?_
          refine CX.ret ?_
          refine PX.ret1 (by simp) Tryz.results82 rfl ?_
          exact fun w hw => ⟨(unzig (u + c.toNat % 128 * 2 ^ (7 * i)), ⟨a + 1, none⟩, 0), rfl, ⟨⟨by rw [num_fine hU2]; exact ⟨rfl, rfl⟩, by show a + 1 ≤ b.length; omega, unzig_inI hs4⟩, hw⟩⟩
        · try simp at hb7
          have hl : ¬c.toNat < 128 := by omega
          refine CX.skip ?_
          refine PX.blockN ?_
          refine PX.thenN ?_
          refine CX.region ?_
          refine LX.pure (Y.addN rfl rfl (by (simp only []; omega))) rfl rfl rfl ?_
          refine LX.pure (Y.move rfl) rfl rfl rfl ?_
          refine LX.sub (l' := [(0, _), (3, _), (6, _)]) ⟨rfl, rfl, rfl, trivial⟩ ?_
          refine LX.next ?_
          exact PX.again (L := (fun s : Nat × Nat × Nat => [(0, .pointer (some ⟨bw, 0, none⟩)), (3, .int .u64 (s.2.2 : Int)), (6, .int .i64 (s.1 : Int))])) (WW := (fun (s : Nat × Nat × Nat) w => (s.1 ≤ 9 ∧ s.2.1 ≤ b.length ∧ s.2.2 < 2 ^ (7 * s.1) ∧ rU b (10 - s.1) s.1 s.2.1 s.2.2 = rU b 10 0 at_ 0) ∧ WA w0 base (blk bw [.slice ab b.length cb, .int .i64 ((s.2.1 : Nat) : Int), .nilIface] 159 :: fr) w)) (μ := fun s => 10 - s.1) (i := (i, a, u)) (i + 1, a + 1, u + c.toNat % 128 * 2 ^ (7 * i)) (by show 10 - (i + 1) < 10 - i; omega) ⟨rfl, rfl, rfl, trivial⟩ (fun w hw => ⟨⟨by show i + 1 ≤ 9; omega, by show a + 1 ≤ b.length; omega, hs3, by show rU b (10 - (i + 1)) (i + 1) (a + 1) _ = _; rw [show 10 - (i + 1) = 9 - i by omega, ← rU_more hc hbad hl]; exact hU⟩, hw⟩)
  · try simp at hb1
    exfalso; omega
theorem num_X {w0 : World} {base : Nat} {fr : List It} {bw : Nat} {ab : Option Addr} {cb : Nat} {b : List UInt8} {aE : Nat → Addr} (hS : EnvS w0 base aE) (at_ ax : Nat) : FnC Tryz.prog 82 #[.pointer (some ⟨bw, 0, none⟩)] (WA w0 base (blk bw [.slice ab b.length cb, .int .i64 ((at_ : Nat) : Int), atW ax] 159 :: fr)) (fun _ : Unit => .int .i64 0) (fun _ => WA w0 base (blk bw [.slice ab b.length cb, .int .i64 ((at_ : Nat) : Int), atW ax] 159 :: fr)) := by
  refine FnC.of_body (fn := Tryz.f82) [(0, _)] Tryz.func82 rfl Tryz.ntmps82 rfl ⟨rfl, trivial⟩ ?_
  refine CX.seq ?_
  refine CX.region ?_
  refine LX.pure (Y.assign rfl) rfl rfl rfl ?_
  refine LX.sub (l' := [(0, _), (2, _)]) ⟨rfl, rfl, trivial⟩ ?_
  refine LX.next ?_
  refine PX.thenN ?_
  refine CX.seq ?_
  refine CX.region ?_
  refine LX.pure (Y.assign rfl) rfl rfl rfl ?_
  refine LX.sub (l' := [(0, _), (2, _), (3, _)]) ⟨rfl, rfl, rfl, trivial⟩ ?_
  refine LX.next ?_
  refine PX.thenN ?_
  refine CX.seq ?_
  refine CX.seq ?_
  refine CX.region ?_
  refine LX.pure (Y.move rfl) rfl rfl rfl ?_
  refine LX.sub (l' := [(0, _), (2, _), (3, _), (6, _)]) ⟨rfl, rfl, rfl, rfl, trivial⟩ ?_
  refine LX.next ?_
  refine PX.thenN ?_
  refine CX.block ?_
  refine CX.loop (fun _ : Unit => [(0, .pointer (some ⟨bw, 0, none⟩)), (3, .int .u64 0), (6, .int .i64 0)]) (fun _ w => WA w0 base (blk bw [.slice ab b.length cb, .int .i64 ((at_ : Nat) : Int), atW ax] 159 :: fr) w) (fun _ => 0) () ⟨rfl, rfl, rfl, trivial⟩ (fun w hw => hw) ?_
  intro _
  refine CX.seq ?_
  refine CX.region ?_
  refine LX.pure (Y.ltN rfl rfl) rfl rfl rfl ?_
  refine LX.sub (l' := [(0, _), (3, _), (6, _), (7, _)]) ⟨rfl, rfl, rfl, rfl, trivial⟩ ?_
  refine LX.next ?_
  refine PX.thenN ?_
  refine CX.seq ?_
  refine CX.cond rfl (fun hb1 => ?_) (fun hb1 => ?_)
  · try simp at hb1
    refine CX.skip ?_
    refine PX.thenN ?_
    refine CX.seq ?_
    refine CX.block ?_
    refine CX.seq ?_
    refine CX.region ?_
    refine LX.pure (Y.move rfl) rfl rfl rfl ?_
    refine LX.pure (Y.assign rfl) rfl rfl rfl ?_
    refine LX.sub (l' := [(0, _), (3, _), (4, _), (6, _)]) ⟨rfl, rfl, rfl, rfl, trivial⟩ ?_
    refine LX.next ?_
    refine PX.thenN ?_
    refine CX.seq ?_
    refine CX.region ?_
    refine LX.pure (Y.move rfl) rfl rfl rfl ?_
    refine LX.call (nextX_c hS at_ ax) Gs.en78 rfl rfl rfl rfl rfl ?_
    intro _
    refine LX.pure (Y.assign rfl) rfl rfl rfl ?_
    refine LX.sub (l' := [(0, _), (3, _), (4, _), (5, _), (6, _)]) ⟨rfl, rfl, rfl, rfl, rfl, trivial⟩ ?_
    refine LX.next ?_
    refine PX.thenN ?_
    refine CX.seq ?_
    refine CX.seq ?_
    refine CX.region ?_
    refine LX.pure (Y.move rfl) rfl rfl rfl ?_
    refine LX.pure (Y.nilCheck rfl) rfl rfl rfl ?_
    refine LX.pure (Y.fieldAddr0 Gr.fo159_2 rfl) rfl rfl rfl ?_
    refine LX.pure (Y.ldB 0 Gr.one30 rfl rfl rfl) rfl rfl rfl ?_
    refine LX.pure (Y.neNil Gr.un30 rfl rfl) rfl rfl rfl ?_
    refine LX.sub (l' := [(0, _), (3, _), (4, _), (5, _), (6, _), (15, _)]) ⟨rfl, rfl, rfl, rfl, rfl, rfl, trivial⟩ ?_
    refine LX.next ?_
    refine PX.thenN ?_
    refine CX.cond rfl (fun hb2 => ?_) (fun hb2 => ?_)
    · try simp at hb2
      refine CX.seq ?_
      refine CX.region ?_
      refine LX.pure (Y.assign rfl) rfl rfl rfl ?_
      refine LX.sub (l' := [(0, _), (2, _), (3, _), (4, _), (5, _), (6, _)]) ⟨rfl, rfl, rfl, rfl, rfl, rfl, trivial⟩ ?_
      refine LX.next ?_
      refine PX.thenN ?_
      refine CX.ret ?_
      refine PX.thenR ?_
      refine PX.blockR ?_
      refine PX.thenR ?_
      refine PX.thenR ?_
      refine PX.blockR ?_
      refine PX.thenR ?_
      refine PX.ret1 (by simp) Tryz.results82 rfl ?_
      exact fun w hw => ⟨(), rfl, hw⟩
    · try simp at hb2
      done
  · try simp at hb1
    done
theorem num_c {w0 : World} {base : Nat} {bw : Nat} {ab : Option Addr} {cb : Nat} {b : List UInt8} {aE : Nat → Addr} (hS : EnvS w0 base aE) (hb : SlAt 1 byteA (Lies w0 base) ab b) (hbn : b.length ≤ 1099511627776) (s : St) (ax : Nat) (f1 f2 : List It) (hat : s.at_ ≤ b.length) : FnC Tryz.prog 82 #[.pointer (some ⟨bw, 0, none⟩)] (WA w0 base (blk bw (rdC ab b.length cb s ax) 159 :: (f1 ++ (iS aE s ax ++ f2)))) (fun q : Int × St × Nat => .int .i64 q.1) (fun q w => (Res (s.run (rNum b)) q.1 q.2.1 ∧ q.2.1.at_ ≤ b.length ∧ inI q.1) ∧ WA w0 base (blk bw (rdC ab b.length cb q.2.1 q.2.2) 159 :: (f1 ++ (iS aE q.2.1 q.2.2 ++ f2))) w) := by
  refine FnC.midI (T := fun (q : Int × St × Nat) _ => Res (s.run (rNum b)) q.1 q.2.1 ∧ q.2.1.at_ ≤ b.length ∧ inI q.1) (fun fr => ?_) f1 f2
  obtain ⟨a, e⟩ := s
  cases e with
  | none => exact num_ok hS hb hbn a hat
  | some e => exact fun w hw => (num_X hS (fr := (iS aE ⟨a, some e⟩ ax ++ fr)) a ax w hw).mono fun _ w' ⟨_, he, h⟩ => ⟨(0, ⟨a, some e⟩, ax), he, ⟨rfl, hat, inI0⟩, h⟩
end Go.Proofs.YtgijpgkckiknjaaGreatDoor

namespace Go.Proofs.YtgijpgkckiknjaaGreatDoor
open Go.SX Go.RowKit Go.Ck Go.Lex Go.By
namespace Gt
theorem en137 : Enters Tryz.prog 137 := Enters.of Tryz.func137 (by kernel_rfl) (by kernel_rfl)
theorem en82 : Enters Tryz.prog 82 := Enters.of Tryz.func82 (by kernel_rfl) (by kernel_rfl)
end Gt
open Go.Proofs.YtgijpgkckiknjaaGreatDoor.Env (EnvS errV sentG)
theorem count_ok {w0 : World} {base : Nat} {fr : List It} {bw : Nat} {ab : Option Addr} {cb : Nat} {b : List UInt8} {aE : Nat → Addr} (hS : EnvS w0 base aE) (hb : SlAt 1 byteA (Lies w0 base) ab b) (hbn : b.length ≤ 1099511627776) (at_ : Nat) (hat : at_ ≤ b.length) : FnC Tryz.prog 137 #[.pointer (some ⟨bw, 0, none⟩)] (WA w0 base (blk bw [.slice ab b.length cb, .int .i64 ((at_ : Nat) : Int), .nilIface] 159 :: fr)) (fun q : Nat × St × Nat => .int .i64 (q.1 : Int)) (fun q w => (Res (rCount b at_) q.1 q.2.1 ∧ q.2.1.at_ ≤ b.length ∧ q.1 ≤ 1048576 ∧ (q.2.1.e ≠ none → q.1 = 0)) ∧ WA w0 base (blk bw (rdC ab b.length cb q.2.1 q.2.2) 159 :: (iS aE q.2.1 q.2.2 ++ fr)) w) := by
  refine FnC.of_body (fn := Tryz.f137) [(0, _)] Tryz.func137 rfl Tryz.ntmps137 rfl ⟨rfl, trivial⟩ ?_
  refine CX.seq ?_
  refine CX.region ?_
  refine LX.pure (Y.assign rfl) rfl rfl rfl ?_
  refine LX.sub (l' := [(0, _), (2, _)]) ⟨rfl, rfl, trivial⟩ ?_
  refine LX.next ?_
  refine PX.thenN ?_
  refine CX.seq ?_
  refine CX.region ?_
  refine LX.pure (Y.move rfl) rfl rfl rfl ?_
  refine LX.pure (Y.nilCheck rfl) rfl rfl rfl ?_
  refine LX.pure (Y.fieldAddr0 Gr.fo159_1 rfl) rfl rfl rfl ?_
  refine LX.pure (Y.ldB 0 Fjb.one3 rfl rfl rfl) rfl rfl rfl ?_
  refine LX.pure (Y.assign rfl) rfl rfl rfl ?_
  refine LX.sub (l' := [(0, _), (2, _), (3, _)]) ⟨rfl, rfl, rfl, trivial⟩ ?_
  refine LX.next ?_
  refine PX.thenN ?_
  refine CX.seq ?_
  refine CX.region ?_
  refine LX.pure (Y.move rfl) rfl rfl rfl ?_
  refine LX.call (num_ok hS hb hbn at_ hat) Gt.en82 rfl rfl rfl rfl rfl ?_
  rintro ⟨n, s, ax⟩
  refine LX.have fun ⟨hres, hle, hex⟩ => ?_
  replace hres : Res (rNum b at_) n s := hres
  replace hle : s.at_ ≤ b.length := hle
  replace hex : inI n := hex
  refine LX.pure (Y.assign rfl) rfl rfl rfl ?_
  refine LX.sub (l' := [(0, _), (2, _), (3, _), (4, _)]) ⟨rfl, rfl, rfl, rfl, trivial⟩ ?_
  refine LX.next ?_
  refine PX.thenN ?_
  refine CX.seq ?_
  refine CX.block ?_
  refine CX.seq ?_
  refine CX.region ?_
  refine LX.pure (Y.move rfl) rfl rfl rfl ?_
  refine LX.pure (Y.nilCheck rfl) rfl rfl rfl ?_
  refine LX.pure (Y.fieldAddr0 Gr.fo159_2 rfl) rfl rfl rfl ?_
  refine LX.pure (Y.ldB 0 Gr.one30 rfl rfl rfl) rfl rfl rfl ?_
  refine LX.pure (Y.sNe rfl) rfl rfl rfl ?_
  refine LX.pure (Y.assign rfl) rfl rfl rfl ?_
  refine LX.sub (l' := [(0, _), (2, _), (3, _), (4, _), (11, _)]) ⟨rfl, rfl, rfl, rfl, rfl, trivial⟩ ?_
  refine LX.next ?_
  refine PX.thenN ?_
  refine CX.cond rfl (fun hb1 => ?_) (fun hb1 => ?_)
  · try simp at hb1
    obtain ⟨e, he, hr⟩ := hres.e_of hb1
    refine CX.seq ?_
    refine CX.region ?_
    refine LX.pure (Y.assign rfl) rfl rfl rfl ?_
    refine LX.sub (l' := [(2, _), (4, _)]) ⟨rfl, rfl, trivial⟩ ?_
    refine LX.next ?_
    refine PX.thenN ?_
    refine CX.ret ?_
    refine PX.blockR ?_
    refine PX.thenR ?_
    refine PX.ret1 (by simp) Tryz.results137 rfl ?_
    exact fun w hw => ⟨(0, s, ax), rfl, ⟨by rw [count_bad hr]; exact he, hle, Nat.zero_le _, fun _ => rfl⟩, hw⟩
  · try simp at hb1
    obtain ⟨a1, e1⟩ := s
    obtain rfl : e1 = none := by assumption
    have hn := hres.fine
    replace hle : a1 ≤ b.length := hle
    refine CX.world (W' := WA w0 base (blk bw [.slice ab b.length cb, .int .i64 ((a1 : Nat) : Int), .nilIface] 159 :: fr)) (fun w hw => hw) ?_
    refine CX.seq ?_
    refine CX.region ?_
    refine LX.pure (Y.move rfl) rfl rfl rfl ?_
    refine LX.pure (Y.gtI rfl rfl) rfl rfl rfl ?_
    refine LX.pure (Y.assign rfl) rfl rfl rfl ?_
    refine LX.sub (l' := [(0, _), (2, _), (3, _), (4, _), (17, _)]) ⟨rfl, rfl, rfl, rfl, rfl, trivial⟩ ?_
    refine LX.next ?_
    refine PX.thenN ?_
    refine CX.cond rfl (fun hb2 => ?_) (fun hb2 => ?_)
    · try simp at hb2
      refine CX.seq ?_
      refine CX.region ?_
      refine LX.pure (Y.move rfl) rfl rfl rfl ?_
      refine LX.pure (Y.move rfl) rfl rfl rfl ?_
      refine LX.pure (Y.ldO Gr.one30 rfl (hS.at_ 9 2 rfl) (hS.lt 2 (by decide))) rfl rfl rfl ?_
      refine LX.call (fault_c (aE := aE) a1 at_ 9) Gr.en79 rfl rfl rfl rfl rfl ?_
      intro bE
      refine LX.sub (l' := [(2, _), (4, _)]) ⟨rfl, rfl, trivial⟩ ?_
      refine LX.next ?_
      refine PX.thenN ?_
      refine CX.seq ?_
      refine CX.region ?_
      refine LX.pure (Y.assign rfl) rfl rfl rfl ?_
      refine LX.sub (l' := [(2, _), (4, _)]) ⟨rfl, rfl, trivial⟩ ?_
      refine LX.next ?_
      refine PX.thenN ?_
      refine CX.ret ?_
      refine PX.blockR ?_
      refine PX.thenR ?_
      refine PX.ret1 (by simp) Tryz.results137 rfl ?_
      exact fun w hw => ⟨(0, ⟨a1, some (9, at_)⟩, bE), rfl, ⟨by rw [count_many hn hb2]; rfl, hle, Nat.zero_le _, fun _ => rfl⟩, hw⟩
    · try simp at hb2
      refine CX.seq ?_
      refine CX.region ?_
      refine LX.pure (Y.move rfl) rfl rfl rfl ?_
      refine LX.pure (Y.ltI rfl rfl) rfl rfl rfl ?_
      refine LX.pure (Y.assign rfl) rfl rfl rfl ?_
      refine LX.sub (l' := [(0, _), (2, _), (3, _), (4, _), (24, _)]) ⟨rfl, rfl, rfl, rfl, rfl, trivial⟩ ?_
      refine LX.next ?_
      refine PX.thenN ?_
      refine CX.cond rfl (fun hb3 => ?_) (fun hb3 => ?_)
      · try simp at hb3
        refine CX.seq ?_
        refine CX.region ?_
        refine LX.pure (Y.move rfl) rfl rfl rfl ?_
        refine LX.pure (Y.move rfl) rfl rfl rfl ?_
        refine LX.pure (Y.ldO Gr.one30 rfl (hS.at_ 12 1 rfl) (hS.lt 1 (by decide))) rfl rfl rfl ?_
        refine LX.call (fault_c (aE := aE) a1 at_ 12) Gr.en79 rfl rfl rfl rfl rfl ?_
        intro bE
        refine LX.sub (l' := [(2, _), (4, _)]) ⟨rfl, rfl, trivial⟩ ?_
        refine LX.next ?_
        refine PX.thenN ?_
        refine CX.seq ?_
        refine CX.region ?_
        refine LX.pure (Y.assign rfl) rfl rfl rfl ?_
        refine LX.sub (l' := [(2, _), (4, _)]) ⟨rfl, rfl, trivial⟩ ?_
        refine LX.next ?_
        refine PX.thenN ?_
        refine CX.ret ?_
        refine PX.blockR ?_
        refine PX.thenR ?_
        refine PX.ret1 (by simp) Tryz.results137 rfl ?_
        exact fun w hw => ⟨(0, ⟨a1, some (12, at_)⟩, bE), rfl, ⟨by rw [count_low hn hb3]; rfl, hle, Nat.zero_le _, fun _ => rfl⟩, hw⟩
      · try simp at hb3
        refine CX.skip ?_
        refine PX.blockN ?_
        refine PX.thenN ?_
        refine CX.seq ?_
        refine CX.region ?_
        refine LX.pure (Y.move rfl) rfl rfl rfl ?_
        refine LX.pure (Y.assign rfl) rfl rfl rfl ?_
        refine LX.sub (l' := [(2, _)]) ⟨rfl, trivial⟩ ?_
        refine LX.next ?_
        refine PX.thenN ?_
        refine CX.ret ?_
        refine PX.ret1 (by simp) Tryz.results137 rfl ?_
        exact fun w hw => ⟨(n.toNat, ⟨a1, none⟩, 0), by show Ending.returned (.int .i64 n) = .returned (.int .i64 (n.toNat : Int)); rw [Int.toNat_of_nonneg (by omega)], ⟨by rw [count_fine hn (by omega) (by omega)]; exact ⟨rfl, rfl⟩, hle, by show n.toNat ≤ 1048576; omega, fun h => absurd rfl h⟩, hw⟩
theorem count_X {w0 : World} {base : Nat} {fr : List It} {bw : Nat} {ab : Option Addr} {cb : Nat} {b : List UInt8} {aE : Nat → Addr} (hS : EnvS w0 base aE) (at_ ax : Nat) : FnC Tryz.prog 137 #[.pointer (some ⟨bw, 0, none⟩)] (WA w0 base (blk bw [.slice ab b.length cb, .int .i64 ((at_ : Nat) : Int), atW ax] 159 :: fr)) (fun _ : Unit => .int .i64 0) (fun _ => WA w0 base (blk bw [.slice ab b.length cb, .int .i64 ((at_ : Nat) : Int), atW ax] 159 :: fr)) := by
  refine FnC.of_body (fn := Tryz.f137) [(0, _)] Tryz.func137 rfl Tryz.ntmps137 rfl ⟨rfl, trivial⟩ ?_
  refine CX.seq ?_
  refine CX.region ?_
  refine LX.pure (Y.assign rfl) rfl rfl rfl ?_
  refine LX.sub (l' := [(0, _), (2, _)]) ⟨rfl, rfl, trivial⟩ ?_
  refine LX.next ?_
  refine PX.thenN ?_
  refine CX.seq ?_
  refine CX.region ?_
  refine LX.pure (Y.move rfl) rfl rfl rfl ?_
  refine LX.pure (Y.nilCheck rfl) rfl rfl rfl ?_
  refine LX.pure (Y.fieldAddr0 Gr.fo159_1 rfl) rfl rfl rfl ?_
  refine LX.pure (Y.ldB 0 Fjb.one3 rfl rfl rfl) rfl rfl rfl ?_
  refine LX.pure (Y.assign rfl) rfl rfl rfl ?_
  refine LX.sub (l' := [(0, _), (2, _), (3, _)]) ⟨rfl, rfl, rfl, trivial⟩ ?_
  refine LX.next ?_
  refine PX.thenN ?_
  refine CX.seq ?_
  refine CX.region ?_
  refine LX.pure (Y.move rfl) rfl rfl rfl ?_
  refine LX.call (num_X hS at_ ax) Gt.en82 rfl rfl rfl rfl rfl ?_
  intro _
  refine LX.pure (Y.assign rfl) rfl rfl rfl ?_
  refine LX.sub (l' := [(0, _), (2, _), (3, _), (4, _)]) ⟨rfl, rfl, rfl, rfl, trivial⟩ ?_
  refine LX.next ?_
  refine PX.thenN ?_
  refine CX.seq ?_
  refine CX.block ?_
  refine CX.seq ?_
  refine CX.region ?_
  refine LX.pure (Y.move rfl) rfl rfl rfl ?_
  refine LX.pure (Y.nilCheck rfl) rfl rfl rfl ?_
  refine LX.pure (Y.fieldAddr0 Gr.fo159_2 rfl) rfl rfl rfl ?_
  refine LX.pure (Y.ldB 0 Gr.one30 rfl rfl rfl) rfl rfl rfl ?_
  refine LX.pure (Y.neNil Gr.un30 rfl rfl) rfl rfl rfl ?_
  refine LX.pure (Y.assign rfl) rfl rfl rfl ?_
  refine LX.sub (l' := [(0, _), (2, _), (3, _), (4, _), (11, _)]) ⟨rfl, rfl, rfl, rfl, rfl, trivial⟩ ?_
  refine LX.next ?_
  refine PX.thenN ?_
  refine CX.cond rfl (fun hb1 => ?_) (fun hb1 => ?_)
  · try simp at hb1
    refine CX.seq ?_
    refine CX.region ?_
    refine LX.pure (Y.assign rfl) rfl rfl rfl ?_
    refine LX.sub (l' := [(2, _), (4, _)]) ⟨rfl, rfl, trivial⟩ ?_
    refine LX.next ?_
    refine PX.thenN ?_
    refine CX.ret ?_
    refine PX.blockR ?_
    refine PX.thenR ?_
    refine PX.ret1 (by simp) Tryz.results137 rfl ?_
    exact fun w hw => ⟨(), rfl, hw⟩
  · try simp at hb1
    done
theorem count_c {w0 : World} {base : Nat} {bw : Nat} {ab : Option Addr} {cb : Nat} {b : List UInt8} {aE : Nat → Addr} (hS : EnvS w0 base aE) (hb : SlAt 1 byteA (Lies w0 base) ab b) (hbn : b.length ≤ 1099511627776) (s : St) (ax : Nat) (f1 f2 : List It) (hat : s.at_ ≤ b.length) : FnC Tryz.prog 137 #[.pointer (some ⟨bw, 0, none⟩)] (WA w0 base (blk bw (rdC ab b.length cb s ax) 159 :: (f1 ++ (iS aE s ax ++ f2)))) (fun q : Nat × St × Nat => .int .i64 (q.1 : Int)) (fun q w => (Res (s.run (rCount b)) q.1 q.2.1 ∧ q.2.1.at_ ≤ b.length ∧ q.1 ≤ 1048576 ∧ (q.2.1.e ≠ none → q.1 = 0)) ∧ WA w0 base (blk bw (rdC ab b.length cb q.2.1 q.2.2) 159 :: (f1 ++ (iS aE q.2.1 q.2.2 ++ f2))) w) := by
  refine FnC.midI (T := fun (q : Nat × St × Nat) _ => Res (s.run (rCount b)) q.1 q.2.1 ∧ q.2.1.at_ ≤ b.length ∧ q.1 ≤ 1048576 ∧ (q.2.1.e ≠ none → q.1 = 0)) (fun fr => ?_) f1 f2
  obtain ⟨a, e⟩ := s
  cases e with
  | none => exact count_ok hS hb hbn a hat
  | some e => exact fun w hw => (count_X hS (fr := (iS aE ⟨a, some e⟩ ax ++ fr)) a ax w hw).mono fun _ w' ⟨_, he, h⟩ => ⟨(0, ⟨a, some e⟩, ax), he, ⟨rfl, hat, Nat.zero_le _, fun _ => rfl⟩, h⟩
theorem text_ok {w0 : World} {base : Nat} {fr : List It} {bw : Nat} {ab : Option Addr} {cb : Nat} {b : List UInt8} {aE : Nat → Addr} (hS : EnvS w0 base aE) (hb : SlAt 1 byteA (Lies w0 base) ab b) (hbn : b.length ≤ 1099511627776) (hcb : b.length ≤ cb) (at_ : Nat) (hat : at_ ≤ b.length) : FnC Tryz.prog 83 #[.pointer (some ⟨bw, 0, none⟩)] (WA w0 base (blk bw [.slice ab b.length cb, .int .i64 ((at_ : Nat) : Int), .nilIface] 159 :: fr)) (fun q : List UInt8 × St × Nat => str q.1) (fun q w => (Res (rText b at_) q.1 q.2.1 ∧ q.2.1.at_ ≤ b.length ∧ q.1.length ≤ 1048576) ∧ WA w0 base (blk bw (rdC ab b.length cb q.2.1 q.2.2) 159 :: (iS aE q.2.1 q.2.2 ++ fr)) w) := by
  refine FnC.of_body (fn := Tryz.f83) [(0, _)] Tryz.func83 rfl Tryz.ntmps83 rfl ⟨rfl, trivial⟩ ?_
  refine CX.seq ?_
  refine CX.region ?_
  refine LX.pure (Y.assign rfl) rfl rfl rfl ?_
  refine LX.sub (l' := [(0, _), (2, _)]) ⟨rfl, rfl, trivial⟩ ?_
  refine LX.next ?_
  refine PX.thenN ?_
  refine CX.seq ?_
  refine CX.region ?_
  refine LX.pure (Y.move rfl) rfl rfl rfl ?_
  refine LX.call (count_ok hS hb hbn at_ hat) Gt.en137 rfl rfl rfl rfl rfl ?_
  rintro ⟨n, s, ax⟩
  refine LX.have fun ⟨hres, hle, hex⟩ => ?_
  replace hres : Res (rCount b at_) n s := hres
  replace hle : s.at_ ≤ b.length := hle
  obtain ⟨hn20, hz⟩ := hex
  replace hn20 : n ≤ 1048576 := hn20
  replace hz : s.e ≠ none → n = 0 := hz
  refine LX.pure (Y.assign rfl) rfl rfl rfl ?_
  refine LX.sub (l' := [(0, _), (2, _), (3, _)]) ⟨rfl, rfl, rfl, trivial⟩ ?_
  refine LX.next ?_
  refine PX.thenN ?_
  refine CX.seq ?_
  refine CX.seq ?_
  refine CX.regionQ rfl (by kernel_rfl) ?_
  refine LX.pure (Y.move rfl) rfl rfl rfl ?_
  refine LX.pure (Y.move rfl) rfl rfl rfl ?_
  refine LX.pure (Y.nilCheck rfl) rfl rfl rfl ?_
  refine LX.pure (Y.fieldAddr0 Gr.fo159_0 rfl) rfl rfl rfl ?_
  refine LX.pure (Y.ldB 0 Gr.one79 rfl rfl rfl) rfl rfl rfl ?_
  refine LX.pure (Y.lenSl rfl Gr.un79 rfl) rfl rfl rfl ?_
  refine LX.pure (Y.move rfl) rfl rfl rfl ?_
  refine LX.pure (Y.nilCheck rfl) rfl rfl rfl ?_
  refine LX.pure (Y.fieldAddr0 Gr.fo159_1 rfl) rfl rfl rfl ?_
  refine LX.pure (Y.ldB 0 Fjb.one3 rfl rfl rfl) rfl rfl rfl ?_
  refine LX.pure (Y.subN rfl rfl (by omega) (by omega)) rfl rfl rfl ?_
  refine LX.pure (Y.gtN rfl rfl) rfl rfl rfl ?_
  refine LX.sub (l' := [(0, _), (2, _), (3, _), (17, _)]) ⟨rfl, rfl, rfl, rfl, trivial⟩ ?_
  refine LX.nextQ ?_
  refine PX.thenN ?_
  refine CX.cond rfl (fun hb1 => ?_) (fun hb1 => ?_)
  · try simp at hb1
    have he0 : s.e = none := by
      cases he : s.e with
      | none => rfl
      | some e => exact absurd (hz (by rw [he]; simp)) (by omega)
    obtain ⟨a1, e1⟩ := s
    obtain rfl : e1 = none := by assumption
    have hn := hres.fine
    replace hle : a1 ≤ b.length := hle
    refine CX.world (W' := WA w0 base (blk bw [.slice ab b.length cb, .int .i64 ((a1 : Nat) : Int), .nilIface] 159 :: fr)) (fun w hw => hw) ?_
    replace hb1 : b.length - a1 < n := hb1
    refine CX.regionM [(0, .anywhere), (1, .anywhere), (2, .anywhere), (3, .anywhere), (4, .held), (5, .held), (6, .held), (7, .alone)] rfl (by kernel_rfl) ?_
    refine MX.lift0 (i := 0) rfl (Y.move rfl) rfl rfl rfl ?_
    refine MX.lift0 (i := 1) rfl (Y.move rfl) rfl rfl rfl ?_
    refine MX.lift0 (i := 2) rfl (Y.nilCheck rfl) rfl rfl rfl ?_
    refine MX.lift0 (i := 3) rfl (Y.fieldAddr0 Gr.fo159_0 rfl) rfl rfl rfl ?_
    refine MX.lift1 (i := 4) (pend' := []) rfl (fun w hw => by exact hw) (Y.ldB 0 Gr.one79 rfl rfl rfl) rfl rfl rfl (by kernel_rfl) ?_
    refine MX.lift1 (i := 5) (pend' := []) rfl (fun w hw => by exact hw) (Y.lenSl rfl Gr.un79 rfl) rfl rfl rfl (by kernel_rfl) ?_
    refine MX.lift1 (i := 6) (pend' := [5]) rfl (fun w hw => by exact hw) (Y.ldO Gr.one30 rfl (hS.at_ 13 3 rfl) (hS.lt 3 (by decide))) rfl rfl rfl (by kernel_rfl) ?_
    refine MX.force (i := 7) rfl ?_
    refine LX.call (fault_c (aE := aE) a1 b.length 13) Gr.en79 rfl rfl rfl rfl rfl ?_
    intro bE
    refine LX.nextM [] (by kernel_rfl) (fun h => absurd rfl h) ?_
    refine MX.sub (l' := [(0, _), (2, _), (3, _)]) ⟨rfl, rfl, rfl, trivial⟩ ?_
    refine MX.done ?_
    refine PX.thenN ?_
    refine CX.seq ?_
    refine CX.seq ?_
    refine CX.region ?_
    refine LX.pure (Y.move rfl) rfl rfl rfl ?_
    refine LX.pure (Y.nilCheck rfl) rfl rfl rfl ?_
    refine LX.pure (Y.fieldAddr0 Gr.fo159_2 rfl) rfl rfl rfl ?_
    refine LX.pure (Y.ldB 0 Gr.one30 rfl rfl rfl) rfl rfl rfl ?_
    refine LX.pure (Y.neNil Gr.un30 rfl rfl) rfl rfl rfl ?_
    refine LX.sub (l' := [(0, _), (2, _), (3, _), (30, _)]) ⟨rfl, rfl, rfl, rfl, trivial⟩ ?_
    refine LX.next ?_
    refine PX.thenN ?_
    refine CX.cond rfl (fun hb2 => ?_) (fun hb2 => ?_)
    · try simp at hb2
      refine CX.seq ?_
      refine CX.region ?_
      refine LX.pure (Y.assign rfl) rfl rfl rfl ?_
      refine LX.sub (l' := [(0, _), (2, _), (3, _)]) ⟨rfl, rfl, rfl, trivial⟩ ?_
      refine LX.next ?_
      refine PX.thenN ?_
      refine CX.ret ?_
      refine PX.thenR ?_
      refine PX.ret1 (by simp) Tryz.results83 rfl ?_
      exact fun w hw => ⟨([], ⟨a1, some (13, b.length)⟩, bE), rfl, ⟨by rw [text_end hn (by omega)]; rfl, hle, Nat.zero_le _⟩, hw⟩
    · try simp at hb2
      done
  · try simp at hb1
    refine CX.skip ?_
    refine PX.thenN ?_
    refine CX.seq ?_
    refine CX.seq ?_
    refine CX.region ?_
    refine LX.pure (Y.move rfl) rfl rfl rfl ?_
    refine LX.pure (Y.nilCheck rfl) rfl rfl rfl ?_
    refine LX.pure (Y.fieldAddr0 Gr.fo159_2 rfl) rfl rfl rfl ?_
    refine LX.pure (Y.ldB 0 Gr.one30 rfl rfl rfl) rfl rfl rfl ?_
    refine LX.pure (Y.sNe rfl) rfl rfl rfl ?_
    refine LX.sub (l' := [(0, _), (2, _), (3, _), (30, _)]) ⟨rfl, rfl, rfl, rfl, trivial⟩ ?_
    refine LX.next ?_
    refine PX.thenN ?_
    refine CX.cond rfl (fun hb3 => ?_) (fun hb3 => ?_)
    · try simp at hb3
      obtain ⟨e, he, hr⟩ := hres.e_of hb3
      refine CX.seq ?_
      refine CX.region ?_
      refine LX.pure (Y.assign rfl) rfl rfl rfl ?_
      refine LX.sub (l' := [(0, _), (2, _), (3, _)]) ⟨rfl, rfl, rfl, trivial⟩ ?_
      refine LX.next ?_
      refine PX.thenN ?_
      refine CX.ret ?_
      refine PX.thenR ?_
      refine PX.ret1 (by simp) Tryz.results83 rfl ?_
      exact fun w hw => ⟨([], s, ax), rfl, ⟨by rw [text_bad hr]; exact he, hle, Nat.zero_le _⟩, hw⟩
    · try simp at hb3
      obtain ⟨a1, e1⟩ := s
      obtain rfl : e1 = none := by assumption
      have hn := hres.fine
      replace hle : a1 ≤ b.length := hle
      refine CX.world (W' := WA w0 base (blk bw [.slice ab b.length cb, .int .i64 ((a1 : Nat) : Int), .nilIface] 159 :: fr)) (fun w hw => hw) ?_
      replace hb1 : n ≤ b.length - a1 := by exact hb1
      have hA : SlAt 1 byteA (Lies w0 base) (if cb = a1 + n - n then ab else ab.map fun q => q.add ((a1 + n - n) * 1)) ((b.drop a1).take n) := by
        have h := (hb.dropV hcb (a1 + n - n)).take n
        rw [show b.drop (a1 + n - n) = b.drop a1 by rw [Nat.add_sub_cancel]] at h
        exact h
      have hk : ((b.drop a1).take n).length = n := by rw [List.length_take, List.length_drop]; omega
      refine CX.skip ?_
      refine PX.thenN ?_
      refine CX.seq ?_
      refine CX.region ?_
      refine LX.pure (Y.move rfl) rfl rfl rfl ?_
      refine LX.pure (Y.nilCheck rfl) rfl rfl rfl ?_
      refine LX.pure (Y.fieldAddr0 Gr.fo159_1 rfl) rfl rfl rfl ?_
      refine LX.pure (Y.ldB 0 Fjb.one3 rfl rfl rfl) rfl rfl rfl ?_
      refine LX.pure (Y.move rfl) rfl rfl rfl ?_
      refine LX.pure (Y.addN rfl rfl (by omega)) rfl rfl rfl ?_
      refine LX.pure (Y.nilCheck rfl) rfl rfl rfl ?_
      refine LX.pure (Y.fieldAddr0 Gr.fo159_1 rfl) rfl rfl rfl ?_
      refine LX.storeB 0 Fjb.sz3 rfl rfl rfl rfl rfl rfl rfl rfl ?_
      refine LX.sub (l' := [(0, _), (2, _), (3, _)]) ⟨rfl, rfl, rfl, trivial⟩ ?_
      refine LX.next ?_
      refine PX.thenN ?_
      refine CX.seq ?_
      refine CX.regionQ rfl (by kernel_rfl) ?_
      refine LX.pure (Y.move rfl) rfl rfl rfl ?_
      refine LX.pure (Y.nilCheck rfl) rfl rfl rfl ?_
      refine LX.pure (Y.fieldAddr0 Gr.fo159_0 rfl) rfl rfl rfl ?_
      refine LX.pure (Y.ldB 0 Gr.one79 rfl rfl rfl) rfl rfl rfl ?_
      refine LX.pure (Y.move rfl) rfl rfl rfl ?_
      refine LX.pure (Y.nilCheck rfl) rfl rfl rfl ?_
      refine LX.pure (Y.fieldAddr0 Gr.fo159_1 rfl) rfl rfl rfl ?_
      refine LX.pure (Y.ldB 0 Fjb.one3 rfl rfl rfl) rfl rfl rfl ?_
      refine LX.pure (Y.move rfl) rfl rfl rfl ?_
      refine LX.pure (Y.subN rfl rfl (by omega) (by omega)) rfl rfl rfl ?_
      refine LX.pure (Y.move rfl) rfl rfl rfl ?_
      refine LX.pure (Y.nilCheck rfl) rfl rfl rfl ?_
      refine LX.pure (Y.fieldAddr0 Gr.fo159_1 rfl) rfl rfl rfl ?_
      refine LX.pure (Y.ldB 0 Fjb.one3 rfl rfl rfl) rfl rfl rfl ?_
      refine LX.pure (Y.cutBothT (m := n) Gr.un79 Gr.sz5 rfl rfl rfl (by omega) (by omega) (by omega)) rfl rfl rfl ?_
      refine LX.pure (Y.strZ (bs := (b.drop a1).take n) rfl hA hk Gr.un79 Gs.un5 Fj.un9) rfl rfl rfl ?_
      refine LX.pure (Y.assign rfl) rfl rfl rfl ?_
      refine LX.sub (l' := [(2, _)]) ⟨rfl, trivial⟩ ?_
      refine LX.nextQ ?_
      refine PX.thenN ?_
      refine CX.ret ?_
      refine PX.ret1 (by simp) Tryz.results83 rfl ?_
      exact fun w hw => ⟨((b.drop a1).take n, ⟨a1 + n, none⟩, 0), rfl, ⟨by rw [text_fine hn (by omega)]; exact ⟨rfl, rfl⟩, by show a1 + n ≤ b.length; omega, by show ((b.drop a1).take n).length ≤ 1048576; omega⟩, hw⟩
theorem text_X {w0 : World} {base : Nat} {fr : List It} {bw : Nat} {ab : Option Addr} {cb : Nat} {b : List UInt8} {aE : Nat → Addr} (hS : EnvS w0 base aE) (at_ ax : Nat) (hbn : b.length ≤ 1099511627776) (hat : at_ ≤ b.length) : FnC Tryz.prog 83 #[.pointer (some ⟨bw, 0, none⟩)] (WA w0 base (blk bw [.slice ab b.length cb, .int .i64 ((at_ : Nat) : Int), atW ax] 159 :: fr)) (fun _ : Unit => str []) (fun _ => WA w0 base (blk bw [.slice ab b.length cb, .int .i64 ((at_ : Nat) : Int), atW ax] 159 :: fr)) := by
  refine FnC.of_body (fn := Tryz.f83) [(0, _)] Tryz.func83 rfl Tryz.ntmps83 rfl ⟨rfl, trivial⟩ ?_
  refine CX.seq ?_
  refine CX.region ?_
  refine LX.pure (Y.assign rfl) rfl rfl rfl ?_
  refine LX.sub (l' := [(0, _), (2, _)]) ⟨rfl, rfl, trivial⟩ ?_
  refine LX.next ?_
  refine PX.thenN ?_
  refine CX.seq ?_
  refine CX.region ?_
  refine LX.pure (Y.move rfl) rfl rfl rfl ?_
  refine LX.call (count_X hS at_ ax) Gt.en137 rfl rfl rfl rfl rfl ?_
  intro _
  refine LX.pure (Y.assign rfl) rfl rfl rfl ?_
  refine LX.sub (l' := [(0, _), (2, _), (3, _)]) ⟨rfl, rfl, rfl, trivial⟩ ?_
  refine LX.next ?_
  refine PX.thenN ?_
  refine CX.seq ?_
  refine CX.seq ?_
  refine CX.regionQ rfl (by kernel_rfl) ?_
  refine LX.pure (Y.move rfl) rfl rfl rfl ?_
  refine LX.pure (Y.move rfl) rfl rfl rfl ?_
  refine LX.pure (Y.nilCheck rfl) rfl rfl rfl ?_
  refine LX.pure (Y.fieldAddr0 Gr.fo159_0 rfl) rfl rfl rfl ?_
  refine LX.pure (Y.ldB 0 Gr.one79 rfl rfl rfl) rfl rfl rfl ?_
  refine LX.pure (Y.lenSl rfl Gr.un79 rfl) rfl rfl rfl ?_
  refine LX.pure (Y.move rfl) rfl rfl rfl ?_
  refine LX.pure (Y.nilCheck rfl) rfl rfl rfl ?_
  refine LX.pure (Y.fieldAddr0 Gr.fo159_1 rfl) rfl rfl rfl ?_
  refine LX.pure (Y.ldB 0 Fjb.one3 rfl rfl rfl) rfl rfl rfl ?_
  refine LX.pure (Y.subN rfl rfl (by omega) (by omega)) rfl rfl rfl ?_
  refine LX.pure (Y.gtN (a := 0) rfl rfl) rfl rfl rfl ?_
  refine LX.sub (l' := [(0, _), (2, _), (3, _), (17, _)]) ⟨rfl, rfl, rfl, rfl, trivial⟩ ?_
  refine LX.nextQ ?_
  refine PX.thenN ?_
  refine CX.cond rfl (fun hb1 => ?_) (fun hb1 => ?_)
  · try simp at hb1
    done
  · try simp at hb1
    refine CX.skip ?_
    refine PX.thenN ?_
    refine CX.seq ?_
    refine CX.seq ?_
    refine CX.region ?_
    refine LX.pure (Y.move rfl) rfl rfl rfl ?_
    refine LX.pure (Y.nilCheck rfl) rfl rfl rfl ?_
    refine LX.pure (Y.fieldAddr0 Gr.fo159_2 rfl) rfl rfl rfl ?_
    refine LX.pure (Y.ldB 0 Gr.one30 rfl rfl rfl) rfl rfl rfl ?_
    refine LX.pure (Y.neNil Gr.un30 rfl rfl) rfl rfl rfl ?_
    refine LX.sub (l' := [(0, _), (2, _), (3, _), (30, _)]) ⟨rfl, rfl, rfl, rfl, trivial⟩ ?_
    refine LX.next ?_
    refine PX.thenN ?_
    refine CX.cond rfl (fun hb2 => ?_) (fun hb2 => ?_)
    · try simp at hb2
      refine CX.seq ?_
      refine CX.region ?_
      refine LX.pure (Y.assign rfl) rfl rfl rfl ?_
      refine LX.sub (l' := [(0, _), (2, _), (3, _)]) ⟨rfl, rfl, rfl, trivial⟩ ?_
      refine LX.next ?_
      refine PX.thenN ?_
      refine CX.ret ?_
      refine PX.thenR ?_
      refine PX.ret1 (by simp) Tryz.results83 rfl ?_
      exact fun w hw => ⟨(), rfl, hw⟩
    · try simp at hb2
      done
theorem text_c {w0 : World} {base : Nat} {bw : Nat} {ab : Option Addr} {cb : Nat} {b : List UInt8} {aE : Nat → Addr} (hS : EnvS w0 base aE) (hb : SlAt 1 byteA (Lies w0 base) ab b) (hbn : b.length ≤ 1099511627776) (hcb : b.length ≤ cb) (s : St) (ax : Nat) (f1 f2 : List It) (hat : s.at_ ≤ b.length) : FnC Tryz.prog 83 #[.pointer (some ⟨bw, 0, none⟩)] (WA w0 base (blk bw (rdC ab b.length cb s ax) 159 :: (f1 ++ (iS aE s ax ++ f2)))) (fun q : List UInt8 × St × Nat => str q.1) (fun q w => (Res (s.run (rText b)) q.1 q.2.1 ∧ q.2.1.at_ ≤ b.length ∧ q.1.length ≤ 1048576) ∧ WA w0 base (blk bw (rdC ab b.length cb q.2.1 q.2.2) 159 :: (f1 ++ (iS aE q.2.1 q.2.2 ++ f2))) w) := by
  refine FnC.midI (T := fun (q : List UInt8 × St × Nat) _ => Res (s.run (rText b)) q.1 q.2.1 ∧ q.2.1.at_ ≤ b.length ∧ q.1.length ≤ 1048576) (fun fr => ?_) f1 f2
  obtain ⟨a, e⟩ := s
  cases e with
  | none => exact text_ok hS hb hbn hcb a hat
  | some e => exact fun w hw => (text_X hS (fr := (iS aE ⟨a, some e⟩ ax ++ fr)) a ax hbn hat w hw).mono fun _ w' ⟨_, he, h⟩ => ⟨([], ⟨a, some e⟩, ax), he, ⟨rfl, hat, Nat.zero_le _⟩, h⟩
end Go.Proofs.YtgijpgkckiknjaaGreatDoor

namespace Go.Proofs.YtgijpgkckiknjaaGreatDoor
open Go.SX Go.RowKit Go.Ck Go.Lex Go.By
namespace Gu

end Gu
open Go.Proofs.YtgijpgkckiknjaaGreatDoor.Env (EnvS errV sentG)
theorem many_c {w0 : World} {base : Nat} {fr : List It} {bw : Nat} {ab : Option Addr} {cb : Nat} {b : List UInt8} {aE : Nat → Addr} (hS : EnvS w0 base aE) (hb : SlAt 1 byteA (Lies w0 base) ab b) (hbn : b.length ≤ 1099511627776) {σ α : Type} {item : Nat → Er (α × Nat)} {G : σ → List It} {R : σ → List α → Prop} {fi : FuncId} {cap : Array Value} (hen : Enters Tryz.prog fi) (hItem : ∀ (t : σ) (xs : List α) (a : Nat), a ≤ b.length → xs.length < 1048576 → R t xs → FnC Tryz.prog fi cap (WA w0 base (blk bw [.slice ab b.length cb, .int .i64 ((a : Nat) : Int), .nilIface] 159 :: (G t ++ fr))) (fun _ : σ × α × St × Nat => .tuple #[]) (fun q w => (Res (item a) q.2.1 q.2.2.1 ∧ q.2.2.1.at_ ≤ b.length ∧ R q.1 (xs ++ [q.2.1])) ∧ WA w0 base (blk bw (rdC ab b.length cb q.2.2.1 q.2.2.2) 159 :: (G q.1 ++ (iS aE q.2.2.1 q.2.2.2 ++ fr))) w)) (t0 : σ) (hR : R t0 []) (s : St) (ax : Nat) (hat : s.at_ ≤ b.length) : FnC Tryz.prog 80 #[.pointer (some ⟨bw, 0, none⟩), .func (.func fi) #[] cap] (WA w0 base (blk bw (rdC ab b.length cb s ax) 159 :: (G t0 ++ (iS aE s ax ++ fr)))) (fun _ : σ × List α × St × Nat => .tuple #[]) (fun q w => (Res (s.run fun a => (rCount b a).bind fun k => rMany item k.1 k.2) q.2.1 q.2.2.1 ∧ q.2.2.1.at_ ≤ b.length ∧ R q.1 q.2.1 ∧ q.2.1.length ≤ 1048576) ∧ WA w0 base (blk bw (rdC ab b.length cb q.2.2.1 q.2.2.2) 159 :: (G q.1 ++ (iS aE q.2.2.1 q.2.2.2 ++ fr))) w) := by
  refine FnC.of_body (fn := Tryz.f80) [(0, _), (1, _)] Tryz.func80 rfl Tryz.ntmps80 rfl ⟨rfl, rfl, trivial⟩ ?_
  refine CX.seq ?_
  refine CX.region ?_
  refine LX.pure (Y.move rfl) rfl rfl rfl ?_
  refine LX.call (count_c hS hb hbn s ax (G t0) fr hat) Gt.en137 rfl rfl rfl rfl rfl ?_
  rintro ⟨n, s1, ax1⟩
  refine LX.have fun ⟨hres, hle, hn20, hz⟩ => ?_
  replace hres : Res (s.run (rCount b)) n s1 := hres
  replace hn20 : n ≤ 1048576 := hn20
  refine LX.pure (Y.assign rfl) rfl rfl rfl ?_
  refine LX.sub (l' := [(0, _), (1, _), (4, _)]) ⟨rfl, rfl, rfl, trivial⟩ ?_
  refine LX.next ?_
  refine PX.thenN ?_
  refine CX.block ?_
  refine CX.loop (fun z : List α × σ × St × Nat × Nat => [(0, .pointer (some ⟨bw, 0, none⟩)), (1, .func (.func fi) #[] cap), (4, .int .i64 (z.2.2.2.2 : Int))]) (fun (z : List α × σ × St × Nat × Nat) w => (z.1.length + z.2.2.2.2 ≤ 1048576 ∧ z.2.2.1.at_ ≤ b.length ∧ R z.2.1 z.1 ∧ Go.By.Left item ((s.run (rCount b)).bind fun k => rMany item k.1 k.2) z.1 z.2.2.2.2 z.2.2.1) ∧ WA w0 base (blk bw (rdC ab b.length cb z.2.2.1 z.2.2.2.1) 159 :: (G z.2.1 ++ (iS aE z.2.2.1 z.2.2.2.1 ++ fr))) w) (fun z => z.2.2.2.2) ([], t0, s1, ax1, n) ⟨rfl, rfl, rfl, trivial⟩ (fun w hw => ⟨⟨by show 0 + n ≤ 1048576; omega, hle, hR, Go.By.Left.from hres⟩, hw⟩) ?_
  clear hres hle hn20 hz
  rintro ⟨xs, t, s2, ax2, m⟩
  refine CX.have fun ⟨hxm, hle2, hRt, hL⟩ => ?_
  replace hxm : xs.length + m ≤ 1048576 := hxm
  replace hle2 : s2.at_ ≤ b.length := hle2
  replace hRt : R t xs := hRt
  replace hL : Go.By.Left item ((s.run (rCount b)).bind fun k => rMany item k.1 k.2) xs m s2 := hL
  try dsimp only
  refine CX.seq ?_
  refine CX.seq ?_
  refine CX.region ?_
  refine LX.pure (Y.move rfl) rfl rfl rfl ?_
  refine LX.pure (Y.gtN rfl rfl) rfl rfl rfl ?_
  refine LX.pure (Y.move rfl) rfl rfl rfl ?_
  refine LX.sub (l' := [(0, _), (1, _), (4, _), (9, _)]) ⟨rfl, rfl, rfl, rfl, trivial⟩ ?_
  apply LX.joinAnd 6 15 9 rfl
  · intro hb1
    have hb1p := hb1
    try simp at hb1p
    refine LX.gT rfl rfl rfl hb1 (Y.move rfl) rfl rfl ?_
    refine LX.gT rfl rfl rfl hb1 (Y.nilCheck rfl) rfl rfl ?_
    refine LX.gT rfl rfl rfl hb1 (Y.fieldAddr0 Gr.fo159_2 rfl) rfl rfl ?_
    refine LX.gT rfl rfl rfl hb1 (Y.ldB 0 Gr.one30 rfl rfl rfl) rfl rfl ?_
    refine LX.gT rfl rfl rfl hb1 (Y.sEq rfl) rfl rfl ?_
    refine LX.pure (Y.pickT rfl hb1 rfl) rfl rfl rfl ?_
    exact LX.left ⟨rfl, rfl, rfl, rfl, rfl, trivial⟩
  · intro hb1
    have hb1p := hb1
    try simp at hb1p
    refine LX.gF rfl rfl rfl hb1 rfl rfl ?_
    refine LX.gF rfl rfl rfl hb1 rfl rfl ?_
    refine LX.gF rfl rfl rfl hb1 rfl rfl ?_
    refine LX.gF rfl rfl rfl hb1 rfl rfl ?_
    refine LX.gF rfl rfl rfl hb1 rfl rfl ?_
    refine LX.pure (Y.pickF rfl hb1 rfl) rfl rfl rfl ?_
    exact LX.left ⟨rfl, rfl, rfl, rfl, rfl, trivial⟩
  refine LX.sub (l' := [(0, _), (1, _), (4, _), (15, _)]) ⟨rfl, rfl, rfl, rfl, trivial⟩ ?_
  refine LX.next ?_
  refine PX.thenN ?_
  refine CX.cond rfl (fun hb2 => ?_) (fun hb2 => ?_)
  · try simp at hb2
    obtain ⟨hm0, he0⟩ := hb2
    obtain ⟨m, rfl⟩ : ∃ m0, m = m0 + 1 := ⟨m - 1, by omega⟩
    obtain ⟨a1, e1⟩ := s2
    obtain rfl : e1 = none := he0
    refine CX.world (W' := WA w0 base (blk bw [.slice ab b.length cb, .int .i64 ((a1 : Nat) : Int), .nilIface] 159 :: (G t ++ fr))) (fun w hw => hw) ?_
    refine CX.skip ?_
    refine PX.thenN ?_
    refine CX.seq ?_
    refine CX.block ?_
    refine CX.region ?_
    refine LX.pure (Y.move rfl) rfl rfl rfl ?_
    refine LX.callV (fst := #[]) (vs := []) (cap := cap) (hItem t xs a1 hle2 (by omega) hRt).caps hen rfl rfl rfl rfl rfl rfl ?_
    rintro ⟨t2, x, s2, ax3⟩
    refine LX.have fun ⟨hr2, hle3, hR2⟩ => ?_
    refine LX.sub (l' := [(0, _), (1, _), (4, _)]) ⟨rfl, rfl, rfl, trivial⟩ ?_
    refine LX.next ?_
    refine PX.blockN ?_
    refine PX.thenN ?_
    refine CX.region ?_
    refine LX.pure (Y.move rfl) rfl rfl rfl ?_
    refine LX.pure (Y.subN rfl rfl (by (simp only []; omega)) (by omega)) rfl rfl rfl ?_
    refine LX.pure (Y.assign rfl) rfl rfl rfl ?_
    refine LX.sub (l' := [(0, _), (1, _), (4, _)]) ⟨rfl, rfl, rfl, trivial⟩ ?_
    refine LX.next ?_
    exact PX.again (L := (fun z : List α × σ × St × Nat × Nat => [(0, .pointer (some ⟨bw, 0, none⟩)), (1, .func (.func fi) #[] cap), (4, .int .i64 (z.2.2.2.2 : Int))])) (WW := (fun (z : List α × σ × St × Nat × Nat) w => (z.1.length + z.2.2.2.2 ≤ 1048576 ∧ z.2.2.1.at_ ≤ b.length ∧ R z.2.1 z.1 ∧ Go.By.Left item ((s.run (rCount b)).bind fun k => rMany item k.1 k.2) z.1 z.2.2.2.2 z.2.2.1) ∧ WA w0 base (blk bw (rdC ab b.length cb z.2.2.1 z.2.2.2.1) 159 :: (G z.2.1 ++ (iS aE z.2.2.1 z.2.2.2.1 ++ fr))) w)) (μ := fun z => z.2.2.2.2) (i := (xs, t, ⟨a1, none⟩, ax2, m + 1)) (xs ++ [x], t2, s2, ax3, m + 1 - 1) (by show m + 1 - 1 < m + 1; omega) ⟨rfl, rfl, rfl, trivial⟩ (fun w hw => ⟨⟨by show (xs ++ [x]).length + (m + 1 - 1) ≤ 1048576; rw [List.length_append, List.length_singleton]; omega, hle3, hR2, hL.next hr2⟩, hw⟩)
  · try simp at hb2
    refine CX.exit ?_
    refine PX.thenE ?_
    refine PX.thenE ?_
    refine PX.blockE ?_
    refine PX.ret0 (by simp) Tryz.results80 ?_
    exact fun w hw => ⟨(t, xs, s2, ax2), rfl, ⟨by rw [St.run_bind]; exact hL.out (fun he => by (simp [he] at hb2; omega)), hle2, hRt, by show xs.length ≤ 1048576; omega⟩, hw⟩
end Go.Proofs.YtgijpgkckiknjaaGreatDoor

namespace Go.Proofs.YtgijpgkckiknjaaGreatDoor
open Go.SX Go.RowKit Go.Ck Go.Lex Go.By
namespace Gv
theorem en138 : Enters Tryz.prog 138 := Enters.of Tryz.func138 (by kernel_rfl) (by kernel_rfl)
theorem en80 : Enters Tryz.prog 80 := Enters.of Tryz.func80 (by kernel_rfl) (by kernel_rfl)
theorem en83 : Enters Tryz.prog 83 := Enters.of Tryz.func83 (by kernel_rfl) (by kernel_rfl)
theorem one157 : One Tryz.prog 157 := fun w => by kernel_rfl
theorem sz26 : SizeIs Tryz.prog 26 1 := fun w => by kernel_rfl
theorem zv26 : ∀ w, (zeroValue 26).run Tryz.prog w = .ok (.slice none 0 0) w := fun w => by kernel_rfl
end Gv
open Go.Proofs.YtgijpgkckiknjaaGreatDoor.Env (EnvS errV sentG)
/-- texts read so far, where they lie -/
@[reducible] def gT (bl br bw : Nat) (t : (Option Nat × Nat) × List (List UInt8)) : List It := [blk bl [rv t.1.1 t.2.length t.1.2] 26, .row t.1.1 t.1.2 t.2.length 9 1 (t.2.map str), blk br [.pointer (some ⟨bw, 0, none⟩)] 157]
theorem texts1_c {w0 : World} {base : Nat} {fr : List It} {bw : Nat} {ab : Option Addr} {cb : Nat} {b : List UInt8} {aE : Nat → Addr} (hS : EnvS w0 base aE) (hb : SlAt 1 byteA (Lies w0 base) ab b) (hbn : b.length ≤ 1099511627776) (hcb : b.length ≤ cb) {bl br : Nat} {g : Option Nat} {cp : Nat} {xs : List (List UInt8)} (a : Nat) (ha : a ≤ b.length) (hx : xs.length < 1048576) : FnC Tryz.prog 138 #[.pointer (some ⟨bl, 0, none⟩), .pointer (some ⟨br, 0, none⟩)] (WA w0 base (blk bw [.slice ab b.length cb, .int .i64 ((a : Nat) : Int), .nilIface] 159 :: (gT bl br bw ((g, cp), xs) ++ fr))) (fun _ : ((Option Nat × Nat) × List (List UInt8)) × List UInt8 × St × Nat => .tuple #[]) (fun q w => (Res (rText b a) q.2.1 q.2.2.1 ∧ q.2.2.1.at_ ≤ b.length ∧ q.1.2 = xs ++ [q.2.1]) ∧ WA w0 base (blk bw (rdC ab b.length cb q.2.2.1 q.2.2.2) 159 :: (gT bl br bw q.1 ++ (iS aE q.2.2.1 q.2.2.2 ++ fr))) w) := by
  refine FnC.of_body (fn := Tryz.f138) [(0, _), (1, _)] Tryz.func138 rfl Tryz.ntmps138 rfl ⟨rfl, rfl, trivial⟩ ?_
  refine CX.regionS (WA w0 base (blk bl [rv g xs.length cp] 26 :: .row g cp xs.length 9 1 (xs.map str) :: blk br [.pointer (some ⟨bw, 0, none⟩)] 157 :: fr)) [(0, .held), (1, .held), (2, .alone), (3, .alone), (4, .alone), (5, .alone)] rfl (by kernel_rfl) ?_
  refine MX.lift1 (i := 0) (pend' := []) rfl (fun w hw => (show WA w0 base ((blk bl [rv g xs.length cp] 26 :: .row g cp xs.length 9 1 (xs.map str) :: blk br [.pointer (some ⟨bw, 0, none⟩)] 157 :: fr)) w from by exact hw.drop (List.sublist_cons_self _ _))) (Y.ldB 0 Fja.one26 rfl rfl rfl) rfl rfl rfl (by kernel_rfl) ?_
  refine MX.lift1 (i := 1) (pend' := [0]) rfl (fun w hw => (show WA w0 base ((blk bl [rv g xs.length cp] 26 :: .row g cp xs.length 9 1 (xs.map str) :: blk br [.pointer (some ⟨bw, 0, none⟩)] 157 :: fr)) w from by exact hw.drop (List.sublist_cons_self _ _))) (Y.ldB 2 Gv.one157 rfl rfl rfl) rfl rfl rfl (by kernel_rfl) ?_
  refine MX.force (i := 2) rfl ?_
  refine LX.call (text_c hS hb hbn hcb ⟨a, none⟩ 0 (gT bl br bw ((g, cp), xs)) fr ha) Gv.en83 rfl rfl rfl rfl rfl ?_
  rintro ⟨x, s, ax⟩
  refine LX.have fun ⟨hres, hle, hxl⟩ => ?_
  refine LX.nextM [0] (by kernel_rfl) (fun _ => (fun w hw => (show WA w0 base ((blk bl [rv g xs.length cp] 26 :: .row g cp xs.length 9 1 (xs.map str) :: blk br [.pointer (some ⟨bw, 0, none⟩)] 157 :: fr)) w from by exact hw.drop (.cons _ (.cons_cons _ (.cons_cons _ (.cons_cons _ (List.sublist_append_right _ _)))))))) ?_
  refine MX.force (i := 3) rfl ?_
  refine LX.buildSlice (e := 9) (size := 1) rfl rfl (fun _ => by kernel_rfl) rfl (by decide) rfl rfl rfl ?_
  intro gt3
  refine LX.nextM [0] (by kernel_rfl) (fun _ => (fun w hw => (show WA w0 base ((blk bl [rv g xs.length cp] 26 :: .row g cp xs.length 9 1 (xs.map str) :: blk br [.pointer (some ⟨bw, 0, none⟩)] 157 :: fr)) w from by exact hw.drop (.cons _ (.cons _ (.cons_cons _ (.cons_cons _ (.cons_cons _ (List.sublist_append_right _ _))))))))) ?_
  refine MX.force (i := 4) rfl ?_
  refine LX.appendT 2 Fjb.el26 rfl rfl rfl rfl rfl rfl rfl (by omega) (by omega) rfl rfl rfl ?_
  intro g' cap'
  refine LX.nextM [] (by kernel_rfl) (fun h => absurd rfl h) ?_
  refine MX.force (i := 5) rfl ?_
  refine LX.storeB 1 Gv.sz26 rfl rfl rfl rfl rfl rfl rfl rfl ?_
  refine LX.nextM [] (by kernel_rfl) (fun h => absurd rfl h) ?_
  refine MX.sub (l' := []) trivial ?_
  refine MX.done ?_
  refine PX.ret0 (by simp) Tryz.results138 ?_
  exact fun w hw => ⟨(((g', cap'), xs ++ [x]), x, s, ax), rfl, ⟨hres, hle, rfl⟩, by show WA w0 base (blk bw (rdC ab b.length cb s ax) 159 :: blk bl [rv g' (xs ++ [x]).length cap'] 26 :: .row g' cap' (xs ++ [x]).length 9 1 ((xs ++ [x]).map str) :: blk br [.pointer (some ⟨bw, 0, none⟩)] 157 :: (iS aE s ax ++ fr)) w; rw [List.length_append, List.map_append]; exact hw⟩
theorem drop2_wa {w0 w : World} {base : Nat} {x y z u : It} {r : List It} (h : WA w0 base (x :: y :: z :: u :: r) w) : WA w0 base (x :: z :: r) w := h.drop (.cons_cons _ (.cons _ (.cons_cons _ (.cons _ (List.Sublist.refl _)))))
theorem texts_s {w0 : World} {base : Nat} {fr : List It} {bw : Nat} {ab : Option Addr} {cb : Nat} {b : List UInt8} {aE : Nat → Addr} (hS : EnvS w0 base aE) (hb : SlAt 1 byteA (Lies w0 base) ab b) (hbn : b.length ≤ 1099511627776) (hcb : b.length ≤ cb) (s : St) (ax : Nat) (hat : s.at_ ≤ b.length) : FnC Tryz.prog 84 #[.pointer (some ⟨bw, 0, none⟩)] (WA w0 base (blk bw (rdC ab b.length cb s ax) 159 :: (iS aE s ax ++ fr))) (fun q : ((Option Nat × Nat) × List (List UInt8)) × St × Nat => rv q.1.1.1 q.1.2.length q.1.1.2) (fun q w => (Res (s.run (rTexts b)) q.1.2 q.2.1 ∧ q.2.1.at_ ≤ b.length ∧ q.1.2.length ≤ 1048576) ∧ WA w0 base (blk bw (rdC ab b.length cb q.2.1 q.2.2) 159 :: (((.row q.1.1.1 q.1.1.2 q.1.2.length 9 1 (q.1.2.map str) :: iS aE q.2.1 q.2.2) ++ fr))) w) := by
  refine FnC.of_body (fn := Tryz.f84) [(0, _)] Tryz.func84 rfl Tryz.ntmps84 rfl ⟨rfl, trivial⟩ ?_
  refine CX.seq ?_
  refine CX.region ?_
  refine LX.box rfl rfl rfl rfl rfl ?_
  intro br
  refine LX.pure (Y.assign rfl) rfl rfl rfl ?_
  refine LX.sub (l' := [(1, _), (2, _)]) ⟨rfl, rfl, trivial⟩ ?_
  refine LX.next ?_
  refine PX.thenN ?_
  refine CX.seq ?_
  refine CX.region ?_
  refine LX.alloc rfl Gv.zv26 rfl rfl rfl ?_
  intro bl
  refine LX.sub (l' := [(1, _), (2, _), (3, _)]) ⟨rfl, rfl, rfl, trivial⟩ ?_
  refine LX.next ?_
  refine PX.thenN ?_
  refine CX.seq ?_
  refine CX.region ?_
  refine LX.pure (Y.ldB 1 Gv.one157 rfl rfl rfl) rfl rfl rfl ?_
  refine LX.pure (Y.mkFunc rfl rfl) rfl rfl rfl ?_
  refine LX.world (W' := WA w0 base (blk bw (rdC ab b.length cb s ax) 159 :: (gT bl br bw ((none, 0), []) ++ (iS aE s ax ++ fr)))) (fun w hw => ?_) ?_
  · have h1 := (show WA w0 base (blk bl [.slice none 0 0] 26 :: blk br [.pointer (some ⟨bw, 0, none⟩)] 157 :: blk bw (rdC ab b.length cb s ax) 159 :: (iS aE s ax ++ fr)) w from hw).nilRow 9 1
    show WA w0 base (blk bw (rdC ab b.length cb s ax) 159 :: blk bl [.slice none 0 0] 26 :: .row none 0 0 9 1 [] :: blk br [.pointer (some ⟨bw, 0, none⟩)] 157 :: (iS aE s ax ++ fr)) w
    exact h1.perm (by (refine perm_cnt fun x => ?_; simp only [cnt_append, cnt_cons, cnt_nil]; omega))
  refine LX.call (many_c hS hb hbn (item := rText b) (G := gT bl br bw) (R := fun t xs => t.2 = xs) Gv.en138 (fun t xs a ha hx hR => by subst hR; exact texts1_c hS hb hbn hcb a ha hx) ((none, 0), []) rfl s ax hat) Gv.en80 rfl rfl rfl rfl rfl ?_
  rintro ⟨⟨⟨g, cp⟩, ys⟩, xs, s2, ax2⟩
  refine LX.have fun ⟨hres, hle, hR, hxl⟩ => ?_
  obtain rfl : ys = xs := hR
  try dsimp only
  refine LX.sub (l' := [(2, _), (3, _)]) ⟨rfl, rfl, trivial⟩ ?_
  refine LX.next ?_
  refine PX.thenN ?_
  refine CX.seq ?_
  refine CX.region ?_
  refine LX.pure (Y.ldB 1 Fja.one26 rfl rfl rfl) rfl rfl rfl ?_
  refine LX.pure (Y.assign rfl) rfl rfl rfl ?_
  refine LX.sub (l' := [(2, _)]) ⟨rfl, trivial⟩ ?_
  refine LX.next ?_
  refine PX.thenN ?_
  refine CX.ret ?_
  refine PX.ret1 (by simp) Tryz.results84 rfl ?_
  exact fun w hw => ⟨(((g, cp), ys), s2, ax2), rfl, ⟨hres, hle, hxl⟩, drop2_wa (show WA w0 base (blk bw (rdC ab b.length cb s2 ax2) 159 :: blk bl [rv g ys.length cp] 26 :: .row g cp ys.length 9 1 (ys.map str) :: blk br [.pointer (some ⟨bw, 0, none⟩)] 157 :: (iS aE s2 ax2 ++ fr)) w from hw)⟩
theorem texts_c {w0 : World} {base : Nat} {bw : Nat} {ab : Option Addr} {cb : Nat} {b : List UInt8} {aE : Nat → Addr} (hS : EnvS w0 base aE) (hb : SlAt 1 byteA (Lies w0 base) ab b) (hbn : b.length ≤ 1099511627776) (hcb : b.length ≤ cb) (s : St) (ax : Nat) (f1 f2 : List It) (hat : s.at_ ≤ b.length) : FnC Tryz.prog 84 #[.pointer (some ⟨bw, 0, none⟩)] (WA w0 base (blk bw (rdC ab b.length cb s ax) 159 :: (f1 ++ (iS aE s ax ++ f2)))) (fun q : ((Option Nat × Nat) × List (List UInt8)) × St × Nat => rv q.1.1.1 q.1.2.length q.1.1.2) (fun q w => (Res (s.run (rTexts b)) q.1.2 q.2.1 ∧ q.2.1.at_ ≤ b.length ∧ q.1.2.length ≤ 1048576) ∧ WA w0 base (blk bw (rdC ab b.length cb q.2.1 q.2.2) 159 :: (f1 ++ ((.row q.1.1.1 q.1.1.2 q.1.2.length 9 1 (q.1.2.map str) :: iS aE q.2.1 q.2.2) ++ f2))) w) :=
  FnC.midI (T := fun (q : ((Option Nat × Nat) × List (List UInt8)) × St × Nat) _ => Res (s.run (rTexts b)) q.1.2 q.2.1 ∧ q.2.1.at_ ≤ b.length ∧ q.1.2.length ≤ 1048576) (j := fun q => .row q.1.1.1 q.1.1.2 q.1.2.length 9 1 (q.1.2.map str) :: iS aE q.2.1 q.2.2) (fun fr => texts_s hS hb hbn hcb s ax hat) f1 f2
end Go.Proofs.YtgijpgkckiknjaaGreatDoor

namespace Go.Proofs.YtgijpgkckiknjaaGreatDoor
open Go.SX Go.RowKit Go.Ck Go.Lex Go.By
namespace Gw
theorem en139 : Enters Tryz.prog 139 := Enters.of Tryz.func139 (by kernel_rfl) (by kernel_rfl)
theorem en84 : Enters Tryz.prog 84 := Enters.of Tryz.func84 (by kernel_rfl) (by kernel_rfl)
theorem sz49 : SizeIs Tryz.prog 49 1 := fun w => by kernel_rfl
theorem el49 : Elem Tryz.prog 49 53 4 32 := Elem.of Fja.un49 (z := .agg #[.int .i64 0, .int .i64 0, .int .i64 0, .int .i64 0]) (by kernel_rfl) rfl
end Gw
open Go.Proofs.YtgijpgkckiknjaaGreatDoor.Env (EnvS errV sentG)
/-- instructions read so far, where they lie -/
@[reducible] def gI (bf br bw : Nat) (nm : List UInt8) (pa gi sl : Int) (vn : Value) (t : (Option Nat × Nat) × List Ins) : List It := [blk bf [str nm, .int .i64 pa, .int .i64 gi, .int .i64 sl, vn, rv t.1.1 t.2.length t.1.2] 51, .row t.1.1 t.1.2 t.2.length 53 4 (insR t.2), blk br [.pointer (some ⟨bw, 0, none⟩)] 157]
theorem insR_snoc (xs : List Ins) (i : Ins) : insR (xs ++ [i]) = insR xs ++ insCs i := by unfold insR; rw [List.flatMap_append]; simp
theorem fn1_c {w0 : World} {base : Nat} {fr : List It} {bw : Nat} {ab : Option Addr} {cb : Nat} {b : List UInt8} {aE : Nat → Addr} (hS : EnvS w0 base aE) (hb : SlAt 1 byteA (Lies w0 base) ab b) (hbn : b.length ≤ 1099511627776) {bf br : Nat} {nm : List UInt8} {pa gi sl : Int} {vn : Value} {g : Option Nat} {cp : Nat} {xs : List Ins} (a : Nat) (ha : a ≤ b.length) (hx : xs.length < 1048576) (hxi : ∀ i ∈ xs, insI i) : FnC Tryz.prog 139 #[.pointer (some ⟨br, 0, none⟩), .pointer (some ⟨bf, 0, none⟩)] (WA w0 base (blk bw [.slice ab b.length cb, .int .i64 ((a : Nat) : Int), .nilIface] 159 :: (gI bf br bw nm pa gi sl vn ((g, cp), xs) ++ fr))) (fun _ : ((Option Nat × Nat) × List Ins) × Ins × St × Nat => .tuple #[]) (fun q w => (Res (rIns b a) q.2.1 q.2.2.1 ∧ q.2.2.1.at_ ≤ b.length ∧ (q.1.2 = xs ++ [q.2.1] ∧ ∀ i ∈ q.1.2, insI i)) ∧ WA w0 base (blk bw (rdC ab b.length cb q.2.2.1 q.2.2.2) 159 :: (gI bf br bw nm pa gi sl vn q.1 ++ (iS aE q.2.2.1 q.2.2.2 ++ fr))) w) := by
  refine FnC.of_body (fn := Tryz.f139) [(0, _), (1, _)] Tryz.func139 rfl Tryz.ntmps139 rfl ⟨rfl, rfl, trivial⟩ ?_
  refine CX.seq ?_
  refine CX.region ?_
  refine LX.alloc rfl Fjf.zv53 rfl rfl rfl ?_
  intro bi
  refine LX.world (W' := WA w0 base (blk bw [.slice ab b.length cb, .int .i64 ((a : Nat) : Int), .nilIface] 159 :: blk bi [.int .i64 0, .int .i64 0, .int .i64 0, .int .i64 0] 53 :: blk bf [str nm, .int .i64 pa, .int .i64 gi, .int .i64 sl, vn, rv g xs.length cp] 51 :: .row g cp xs.length 53 4 (insR xs) :: blk br [.pointer (some ⟨bw, 0, none⟩)] 157 :: fr)) (fun w hw => (show WA w0 base (blk bi [.int .i64 0, .int .i64 0, .int .i64 0, .int .i64 0] 53 :: blk bw [.slice ab b.length cb, .int .i64 ((a : Nat) : Int), .nilIface] 159 :: blk bf [str nm, .int .i64 pa, .int .i64 gi, .int .i64 sl, vn, rv g xs.length cp] 51 :: .row g cp xs.length 53 4 (insR xs) :: blk br [.pointer (some ⟨bw, 0, none⟩)] 157 :: fr) w from hw).perm (by (refine perm_cnt fun x => ?_; simp only [cnt_append, cnt_cons, cnt_nil]; omega))) ?_
  refine LX.sub (l' := [(0, _), (1, _), (2, _)]) ⟨rfl, rfl, rfl, trivial⟩ ?_
  refine LX.next ?_
  refine PX.thenN ?_
  refine CX.seq ?_
  refine CX.regionS (WA w0 base (blk bi [.int .i64 0, .int .i64 0, .int .i64 0, .int .i64 0] 53 :: blk bf [str nm, .int .i64 pa, .int .i64 gi, .int .i64 sl, vn, rv g xs.length cp] 51 :: .row g cp xs.length 53 4 (insR xs) :: blk br [.pointer (some ⟨bw, 0, none⟩)] 157 :: fr)) [(0, .held), (2, .held), (4, .held), (6, .held), (1, .alone), (8, .anywhere), (3, .alone), (5, .alone), (7, .alone), (9, .alone), (10, .anywhere), (11, .alone), (12, .anywhere), (13, .alone), (14, .anywhere), (15, .alone)] rfl (by kernel_rfl) ?_
  refine MX.lift1 (i := 0) (pend' := []) rfl (fun w hw => (show WA w0 base ((blk bi [.int .i64 0, .int .i64 0, .int .i64 0, .int .i64 0] 53 :: blk bf [str nm, .int .i64 pa, .int .i64 gi, .int .i64 sl, vn, rv g xs.length cp] 51 :: .row g cp xs.length 53 4 (insR xs) :: blk br [.pointer (some ⟨bw, 0, none⟩)] 157 :: fr)) w from by exact hw.drop (List.sublist_cons_self _ _))) (Y.ldB 3 Gv.one157 rfl rfl rfl) rfl rfl rfl (by kernel_rfl) ?_
  refine MX.lift1 (i := 2) (pend' := [0]) rfl (fun w hw => (show WA w0 base ((blk bi [.int .i64 0, .int .i64 0, .int .i64 0, .int .i64 0] 53 :: blk bf [str nm, .int .i64 pa, .int .i64 gi, .int .i64 sl, vn, rv g xs.length cp] 51 :: .row g cp xs.length 53 4 (insR xs) :: blk br [.pointer (some ⟨bw, 0, none⟩)] 157 :: fr)) w from by exact hw.drop (List.sublist_cons_self _ _))) (Y.ldB 3 Gv.one157 rfl rfl rfl) rfl rfl rfl (by kernel_rfl) ?_
  refine MX.lift1 (i := 4) (pend' := [2, 0]) rfl (fun w hw => (show WA w0 base ((blk bi [.int .i64 0, .int .i64 0, .int .i64 0, .int .i64 0] 53 :: blk bf [str nm, .int .i64 pa, .int .i64 gi, .int .i64 sl, vn, rv g xs.length cp] 51 :: .row g cp xs.length 53 4 (insR xs) :: blk br [.pointer (some ⟨bw, 0, none⟩)] 157 :: fr)) w from by exact hw.drop (List.sublist_cons_self _ _))) (Y.ldB 3 Gv.one157 rfl rfl rfl) rfl rfl rfl (by kernel_rfl) ?_
  refine MX.lift1 (i := 6) (pend' := [4, 2, 0]) rfl (fun w hw => (show WA w0 base ((blk bi [.int .i64 0, .int .i64 0, .int .i64 0, .int .i64 0] 53 :: blk bf [str nm, .int .i64 pa, .int .i64 gi, .int .i64 sl, vn, rv g xs.length cp] 51 :: .row g cp xs.length 53 4 (insR xs) :: blk br [.pointer (some ⟨bw, 0, none⟩)] 157 :: fr)) w from by exact hw.drop (List.sublist_cons_self _ _))) (Y.ldB 3 Gv.one157 rfl rfl rfl) rfl rfl rfl (by kernel_rfl) ?_
  refine MX.force (i := 1) rfl ?_
  refine LX.call (num_c hS hb hbn ⟨a, none⟩ 0 (blk bi [.int .i64 0, .int .i64 0, .int .i64 0, .int .i64 0] 53 :: gI bf br bw nm pa gi sl vn ((g, cp), xs)) fr ha) Gt.en82 rfl rfl rfl rfl rfl ?_
  rintro ⟨o, s1, ax1⟩
  refine LX.have fun ⟨h1, l1, i1⟩ => ?_
  refine LX.nextM [6, 4, 2] (by kernel_rfl) (fun _ => (fun w hw => (show WA w0 base ((blk bi [.int .i64 0, .int .i64 0, .int .i64 0, .int .i64 0] 53 :: blk bf [str nm, .int .i64 pa, .int .i64 gi, .int .i64 sl, vn, rv g xs.length cp] 51 :: .row g cp xs.length 53 4 (insR xs) :: blk br [.pointer (some ⟨bw, 0, none⟩)] 157 :: fr)) w from by exact hw.drop (.cons _ (.cons_cons _ (.cons_cons _ (.cons_cons _ (.cons_cons _ (List.sublist_append_right _ _))))))))) ?_
  refine MX.lift0 (i := 8) rfl (Y.fieldAddr0 Fjf.fo53_0 rfl) rfl rfl rfl ?_
  refine MX.force (i := 3) rfl ?_
  refine LX.call (num_c hS hb hbn s1 ax1 (blk bi [.int .i64 0, .int .i64 0, .int .i64 0, .int .i64 0] 53 :: gI bf br bw nm pa gi sl vn ((g, cp), xs)) fr l1) Gt.en82 rfl rfl rfl rfl rfl ?_
  rintro ⟨x, s2, ax2⟩
  refine LX.have fun ⟨h2, l2, i2⟩ => ?_
  refine LX.nextM [6, 4] (by kernel_rfl) (fun _ => (fun w hw => (show WA w0 base ((blk bi [.int .i64 0, .int .i64 0, .int .i64 0, .int .i64 0] 53 :: blk bf [str nm, .int .i64 pa, .int .i64 gi, .int .i64 sl, vn, rv g xs.length cp] 51 :: .row g cp xs.length 53 4 (insR xs) :: blk br [.pointer (some ⟨bw, 0, none⟩)] 157 :: fr)) w from by exact hw.drop (.cons _ (.cons_cons _ (.cons_cons _ (.cons_cons _ (.cons_cons _ (List.sublist_append_right _ _))))))))) ?_
  refine MX.force (i := 5) rfl ?_
  refine LX.call (num_c hS hb hbn s2 ax2 (blk bi [.int .i64 0, .int .i64 0, .int .i64 0, .int .i64 0] 53 :: gI bf br bw nm pa gi sl vn ((g, cp), xs)) fr l2) Gt.en82 rfl rfl rfl rfl rfl ?_
  rintro ⟨y, s3, ax3⟩
  refine LX.have fun ⟨h3, l3, i3⟩ => ?_
  refine LX.nextM [6] (by kernel_rfl) (fun _ => (fun w hw => (show WA w0 base ((blk bi [.int .i64 0, .int .i64 0, .int .i64 0, .int .i64 0] 53 :: blk bf [str nm, .int .i64 pa, .int .i64 gi, .int .i64 sl, vn, rv g xs.length cp] 51 :: .row g cp xs.length 53 4 (insR xs) :: blk br [.pointer (some ⟨bw, 0, none⟩)] 157 :: fr)) w from by exact hw.drop (.cons _ (.cons_cons _ (.cons_cons _ (.cons_cons _ (.cons_cons _ (List.sublist_append_right _ _))))))))) ?_
  refine MX.force (i := 7) rfl ?_
  refine LX.call (num_c hS hb hbn s3 ax3 (blk bi [.int .i64 0, .int .i64 0, .int .i64 0, .int .i64 0] 53 :: gI bf br bw nm pa gi sl vn ((g, cp), xs)) fr l3) Gt.en82 rfl rfl rfl rfl rfl ?_
  rintro ⟨z, s4, ax4⟩
  refine LX.have fun ⟨h4, l4, i4⟩ => ?_
  refine LX.nextM [] (by kernel_rfl) (fun h => absurd rfl h) ?_
  refine MX.force (i := 9) rfl ?_
  refine LX.storeB 1 Fjb.sz3 rfl rfl rfl rfl rfl rfl rfl rfl ?_
  refine LX.nextM [] (by kernel_rfl) (fun h => absurd rfl h) ?_
  refine MX.lift0 (i := 10) rfl (Y.fieldAddr0 Fjf.fo53_1 rfl) rfl rfl rfl ?_
  refine MX.force (i := 11) rfl ?_
  refine LX.storeB 1 Fjb.sz3 rfl rfl rfl rfl rfl rfl rfl rfl ?_
  refine LX.nextM [] (by kernel_rfl) (fun h => absurd rfl h) ?_
  refine MX.lift0 (i := 12) rfl (Y.fieldAddr0 Fjf.fo53_2 rfl) rfl rfl rfl ?_
  refine MX.force (i := 13) rfl ?_
  refine LX.storeB 1 Fjb.sz3 rfl rfl rfl rfl rfl rfl rfl rfl ?_
  refine LX.nextM [] (by kernel_rfl) (fun h => absurd rfl h) ?_
  refine MX.lift0 (i := 14) rfl (Y.fieldAddr0 Fjf.fo53_3 rfl) rfl rfl rfl ?_
  refine MX.force (i := 15) rfl ?_
  refine LX.storeB 1 Fjb.sz3 rfl rfl rfl rfl rfl rfl rfl rfl ?_
  refine LX.nextM [] (by kernel_rfl) (fun h => absurd rfl h) ?_
  refine MX.sub (l' := [(1, _), (2, _)]) ⟨rfl, rfl, trivial⟩ ?_
  refine MX.done ?_
  refine PX.thenN ?_
  refine CX.region ?_
  refine LX.pure (Y.fieldAddr0 Fja.fo51_5 rfl) rfl rfl rfl ?_
  refine LX.pure (Y.ldB 2 Fja.one49 rfl rfl rfl) rfl rfl rfl ?_
  refine LX.pure (Y.ldAggB (vs := insCs ⟨o, x, y, z⟩) 1 Fjf.ag53 rfl rfl rfl rfl) rfl rfl rfl ?_
  refine LX.buildSlice (e := 53) (size := 4) rfl rfl (fun _ => by kernel_rfl) rfl (by decide) rfl rfl rfl ?_
  intro gt20
  refine LX.appendT 3 Gw.el49 rfl rfl rfl rfl rfl rfl rfl (by (dsimp only; omega)) (by (dsimp only; omega)) rfl rfl rfl ?_
  intro g' cap'
  refine LX.pure (Y.fieldAddr0 Fja.fo51_5 rfl) rfl rfl rfl ?_
  refine LX.storeB 2 Gw.sz49 rfl rfl rfl rfl rfl rfl rfl rfl ?_
  refine LX.sub (l' := []) trivial ?_
  refine LX.next ?_
  refine PX.ret0 (by simp) Tryz.results139 ?_
  exact fun w hw => ⟨(((g', cap'), xs ++ [(⟨o, x, y, z⟩ : Ins)]), ⟨o, x, y, z⟩, s4, ax4), rfl, ⟨rIns_res h1 h2 h3 h4, l4, rfl, fun i hi => (List.mem_append.1 hi).elim (hxi i) fun h => by cases List.mem_singleton.1 h; exact ⟨i1, i2, i3, i4⟩⟩, by show WA w0 base (blk bw (rdC ab b.length cb s4 ax4) 159 :: blk bf [str nm, .int .i64 pa, .int .i64 gi, .int .i64 sl, vn, rv g' (xs ++ [(⟨o, x, y, z⟩ : Ins)]).length cap'] 51 :: .row g' cap' (xs ++ [(⟨o, x, y, z⟩ : Ins)]).length 53 4 (insR (xs ++ [(⟨o, x, y, z⟩ : Ins)])) :: blk br [.pointer (some ⟨bw, 0, none⟩)] 157 :: (iS aE s4 ax4 ++ fr)) w; rw [insR_snoc, List.length_append]; exact hw.drop (.cons_cons _ (.cons _ (List.Sublist.refl _)))⟩
theorem fn_s {w0 : World} {base : Nat} {fr : List It} {bw : Nat} {ab : Option Addr} {cb : Nat} {b : List UInt8} {aE : Nat → Addr} (hS : EnvS w0 base aE) (hb : SlAt 1 byteA (Lies w0 base) ab b) (hbn : b.length ≤ 1099511627776) (hcb : b.length ≤ cb) (s : St) (ax : Nat) (hat : s.at_ ≤ b.length) : FnC Tryz.prog 86 #[.pointer (some ⟨bw, 0, none⟩)] (WA w0 base (blk bw (rdC ab b.length cb s ax) 159 :: (iS aE s ax ++ fr))) (fun q : Fc × (Option Nat × Nat) × (Option Nat × Nat) × St × Nat => .agg #[str q.1.name, .int .i64 q.1.params, .int .i64 q.1.given, .int .i64 q.1.slots, rv q.2.1.1 q.1.names.length q.2.1.2, rv q.2.2.1.1 q.1.code.length q.2.2.1.2]) (fun q w => (Res (s.run (rFn b)) q.1 q.2.2.2.1 ∧ q.2.2.2.1.at_ ≤ b.length ∧ (q.1.names.length ≤ 1048576 ∧ q.1.code.length ≤ 1048576 ∧ (inI q.1.params ∧ inI q.1.given ∧ inI q.1.slots) ∧ ∀ i ∈ q.1.code, insI i)) ∧ WA w0 base (blk bw (rdC ab b.length cb q.2.2.2.1 q.2.2.2.2) 159 :: (((.row q.2.2.1.1 q.2.2.1.2 q.1.code.length 53 4 (insR q.1.code) :: .row q.2.1.1 q.2.1.2 q.1.names.length 9 1 (q.1.names.map str) :: iS aE q.2.2.2.1 q.2.2.2.2) ++ fr))) w) := by
  refine FnC.of_body (fn := Tryz.f86) [(0, _)] Tryz.func86 rfl Tryz.ntmps86 rfl ⟨rfl, trivial⟩ ?_
  refine CX.seq ?_
  refine CX.region ?_
  refine LX.box rfl rfl rfl rfl rfl ?_
  intro br
  refine LX.alloc rfl Fjf.zv51 rfl rfl rfl ?_
  intro b2
  refine LX.sub (l' := [(1, _), (2, _)]) ⟨rfl, rfl, trivial⟩ ?_
  refine LX.next ?_
  refine PX.thenN ?_
  refine CX.seq ?_
  refine CX.region ?_
  refine LX.pure (Y.ldB 1 Gv.one157 rfl rfl rfl) rfl rfl rfl ?_
  refine LX.world (W' := WA w0 base (blk bw (rdC ab b.length cb s ax) 159 :: blk b2 [.string ⟨#[]⟩, .int .i64 0, .int .i64 0, .int .i64 0, .slice none 0 0, .slice none 0 0] 51 :: blk br [.pointer (some ⟨bw, 0, none⟩)] 157 :: (iS aE s ax ++ fr))) (fun w hw => (show WA w0 base (blk b2 [.string ⟨#[]⟩, .int .i64 0, .int .i64 0, .int .i64 0, .slice none 0 0, .slice none 0 0] 51 :: blk br [.pointer (some ⟨bw, 0, none⟩)] 157 :: blk bw (rdC ab b.length cb s ax) 159 :: (iS aE s ax ++ fr)) w from hw).perm (by (refine perm_cnt fun x => ?_; simp only [cnt_append, cnt_cons, cnt_nil]; omega))) ?_
  refine LX.call (text_c hS hb hbn hcb s ax (blk b2 [.string ⟨#[]⟩, .int .i64 0, .int .i64 0, .int .i64 0, .slice none 0 0, .slice none 0 0] 51 :: [blk br [.pointer (some ⟨bw, 0, none⟩)] 157]) fr hat) Gv.en83 rfl rfl rfl rfl rfl ?_
  rintro ⟨nm, s1, ax1⟩
  refine LX.have fun ⟨h1, l1, _⟩ => ?_
  refine LX.pure (Y.build (v := .agg #[str nm, .int .i64 0, .int .i64 0, .int .i64 0, .slice none 0 0, .slice none 0 0]) rfl (fun _ => by kernel_rfl)) rfl rfl rfl ?_
  refine LX.alloc rfl Fjf.zv51 rfl rfl rfl ?_
  intro bf
  refine LX.storeA 0 Fjf.ag51 rfl rfl rfl rfl rfl rfl rfl rfl rfl ?_
  refine LX.world (W' := WA w0 base (blk bw (rdC ab b.length cb s1 ax1) 159 :: blk bf [str nm, .int .i64 0, .int .i64 0, .int .i64 0, .slice none 0 0, .slice none 0 0] 51 :: blk b2 [.string ⟨#[]⟩, .int .i64 0, .int .i64 0, .int .i64 0, .slice none 0 0, .slice none 0 0] 51 :: blk br [.pointer (some ⟨bw, 0, none⟩)] 157 :: (iS aE s1 ax1 ++ fr))) (fun w hw => (show WA w0 base (blk bf [str nm, .int .i64 0, .int .i64 0, .int .i64 0, .slice none 0 0, .slice none 0 0] 51 :: blk bw (rdC ab b.length cb s1 ax1) 159 :: blk b2 [.string ⟨#[]⟩, .int .i64 0, .int .i64 0, .int .i64 0, .slice none 0 0, .slice none 0 0] 51 :: blk br [.pointer (some ⟨bw, 0, none⟩)] 157 :: (iS aE s1 ax1 ++ fr)) w from hw).perm (by (refine perm_cnt fun x => ?_; simp only [cnt_append, cnt_cons, cnt_nil]; omega))) ?_
  refine LX.sub (l' := [(1, _), (2, _), (3, _)]) ⟨rfl, rfl, rfl, trivial⟩ ?_
  refine LX.next ?_
  refine PX.thenN ?_
  refine CX.seq ?_
  refine CX.regionS (WA w0 base (blk bf [str nm, .int .i64 0, .int .i64 0, .int .i64 0, .slice none 0 0, .slice none 0 0] 51 :: blk b2 [.string ⟨#[]⟩, .int .i64 0, .int .i64 0, .int .i64 0, .slice none 0 0, .slice none 0 0] 51 :: blk br [.pointer (some ⟨bw, 0, none⟩)] 157 :: fr)) [(0, .held), (2, .held), (4, .held), (1, .alone), (6, .anywhere), (3, .alone), (5, .alone), (7, .alone), (8, .anywhere), (9, .alone), (10, .anywhere), (11, .alone)] rfl (by kernel_rfl) ?_
  refine MX.lift1 (i := 0) (pend' := []) rfl (fun w hw => (show WA w0 base ((blk bf [str nm, .int .i64 0, .int .i64 0, .int .i64 0, .slice none 0 0, .slice none 0 0] 51 :: blk b2 [.string ⟨#[]⟩, .int .i64 0, .int .i64 0, .int .i64 0, .slice none 0 0, .slice none 0 0] 51 :: blk br [.pointer (some ⟨bw, 0, none⟩)] 157 :: fr)) w from by exact hw.drop (.cons _ (.cons_cons _ (.cons_cons _ (.cons_cons _ (List.sublist_append_right _ _))))))) (Y.ldB 2 Gv.one157 rfl rfl rfl) rfl rfl rfl (by kernel_rfl) ?_
  refine MX.lift1 (i := 2) (pend' := [0]) rfl (fun w hw => (show WA w0 base ((blk bf [str nm, .int .i64 0, .int .i64 0, .int .i64 0, .slice none 0 0, .slice none 0 0] 51 :: blk b2 [.string ⟨#[]⟩, .int .i64 0, .int .i64 0, .int .i64 0, .slice none 0 0, .slice none 0 0] 51 :: blk br [.pointer (some ⟨bw, 0, none⟩)] 157 :: fr)) w from by exact hw.drop (.cons _ (.cons_cons _ (.cons_cons _ (.cons_cons _ (List.sublist_append_right _ _))))))) (Y.ldB 2 Gv.one157 rfl rfl rfl) rfl rfl rfl (by kernel_rfl) ?_
  refine MX.lift1 (i := 4) (pend' := [2, 0]) rfl (fun w hw => (show WA w0 base ((blk bf [str nm, .int .i64 0, .int .i64 0, .int .i64 0, .slice none 0 0, .slice none 0 0] 51 :: blk b2 [.string ⟨#[]⟩, .int .i64 0, .int .i64 0, .int .i64 0, .slice none 0 0, .slice none 0 0] 51 :: blk br [.pointer (some ⟨bw, 0, none⟩)] 157 :: fr)) w from by exact hw.drop (.cons _ (.cons_cons _ (.cons_cons _ (.cons_cons _ (List.sublist_append_right _ _))))))) (Y.ldB 2 Gv.one157 rfl rfl rfl) rfl rfl rfl (by kernel_rfl) ?_
  refine MX.force (i := 1) rfl ?_
  refine LX.call (num_c hS hb hbn s1 ax1 (blk bf [str nm, .int .i64 0, .int .i64 0, .int .i64 0, .slice none 0 0, .slice none 0 0] 51 :: blk b2 [.string ⟨#[]⟩, .int .i64 0, .int .i64 0, .int .i64 0, .slice none 0 0, .slice none 0 0] 51 :: [blk br [.pointer (some ⟨bw, 0, none⟩)] 157]) fr l1) Gt.en82 rfl rfl rfl rfl rfl ?_
  rintro ⟨pa, s2, ax2⟩
  refine LX.have fun ⟨h2, l2, i2⟩ => ?_
  refine LX.nextM [4, 2] (by kernel_rfl) (fun _ => (fun w hw => (show WA w0 base ((blk bf [str nm, .int .i64 0, .int .i64 0, .int .i64 0, .slice none 0 0, .slice none 0 0] 51 :: blk b2 [.string ⟨#[]⟩, .int .i64 0, .int .i64 0, .int .i64 0, .slice none 0 0, .slice none 0 0] 51 :: blk br [.pointer (some ⟨bw, 0, none⟩)] 157 :: fr)) w from by exact hw.drop (.cons _ (.cons_cons _ (.cons_cons _ (.cons_cons _ (List.sublist_append_right _ _)))))))) ?_
  refine MX.lift0 (i := 6) rfl (Y.fieldAddr0 Fjf.fo51_1 rfl) rfl rfl rfl ?_
  refine MX.force (i := 3) rfl ?_
  refine LX.call (num_c hS hb hbn s2 ax2 (blk bf [str nm, .int .i64 0, .int .i64 0, .int .i64 0, .slice none 0 0, .slice none 0 0] 51 :: blk b2 [.string ⟨#[]⟩, .int .i64 0, .int .i64 0, .int .i64 0, .slice none 0 0, .slice none 0 0] 51 :: [blk br [.pointer (some ⟨bw, 0, none⟩)] 157]) fr l2) Gt.en82 rfl rfl rfl rfl rfl ?_
  rintro ⟨gi, s3, ax3⟩
  refine LX.have fun ⟨h3, l3, i3⟩ => ?_
  refine LX.nextM [4] (by kernel_rfl) (fun _ => (fun w hw => (show WA w0 base ((blk bf [str nm, .int .i64 0, .int .i64 0, .int .i64 0, .slice none 0 0, .slice none 0 0] 51 :: blk b2 [.string ⟨#[]⟩, .int .i64 0, .int .i64 0, .int .i64 0, .slice none 0 0, .slice none 0 0] 51 :: blk br [.pointer (some ⟨bw, 0, none⟩)] 157 :: fr)) w from by exact hw.drop (.cons _ (.cons_cons _ (.cons_cons _ (.cons_cons _ (List.sublist_append_right _ _)))))))) ?_
  refine MX.force (i := 5) rfl ?_
  refine LX.call (num_c hS hb hbn s3 ax3 (blk bf [str nm, .int .i64 0, .int .i64 0, .int .i64 0, .slice none 0 0, .slice none 0 0] 51 :: blk b2 [.string ⟨#[]⟩, .int .i64 0, .int .i64 0, .int .i64 0, .slice none 0 0, .slice none 0 0] 51 :: [blk br [.pointer (some ⟨bw, 0, none⟩)] 157]) fr l3) Gt.en82 rfl rfl rfl rfl rfl ?_
  rintro ⟨sl, s4, ax4⟩
  refine LX.have fun ⟨h4, l4, i4⟩ => ?_
  refine LX.nextM [] (by kernel_rfl) (fun h => absurd rfl h) ?_
  refine MX.force (i := 7) rfl ?_
  refine LX.storeB 1 Fjb.sz3 rfl rfl rfl rfl rfl rfl rfl rfl ?_
  refine LX.nextM [] (by kernel_rfl) (fun h => absurd rfl h) ?_
  refine MX.lift0 (i := 8) rfl (Y.fieldAddr0 Fjf.fo51_2 rfl) rfl rfl rfl ?_
  refine MX.force (i := 9) rfl ?_
  refine LX.storeB 1 Fjb.sz3 rfl rfl rfl rfl rfl rfl rfl rfl ?_
  refine LX.nextM [] (by kernel_rfl) (fun h => absurd rfl h) ?_
  refine MX.lift0 (i := 10) rfl (Y.fieldAddr0 Fjf.fo51_3 rfl) rfl rfl rfl ?_
  refine MX.force (i := 11) rfl ?_
  refine LX.storeB 1 Fjb.sz3 rfl rfl rfl rfl rfl rfl rfl rfl ?_
  refine LX.nextM [] (by kernel_rfl) (fun h => absurd rfl h) ?_
  refine MX.sub (l' := [(1, _), (2, _), (3, _)]) ⟨rfl, rfl, rfl, trivial⟩ ?_
  refine MX.done ?_
  refine PX.thenN ?_
  refine CX.seq ?_
  refine CX.region ?_
  refine LX.pure (Y.ldB 3 Gv.one157 rfl rfl rfl) rfl rfl rfl ?_
  refine LX.call (texts_c hS hb hbn hcb s4 ax4 (blk bf [str nm, .int .i64 pa, .int .i64 gi, .int .i64 sl, .slice none 0 0, .slice none 0 0] 51 :: blk b2 [.string ⟨#[]⟩, .int .i64 0, .int .i64 0, .int .i64 0, .slice none 0 0, .slice none 0 0] 51 :: [blk br [.pointer (some ⟨bw, 0, none⟩)] 157]) fr l4) Gw.en84 rfl rfl rfl rfl rfl ?_
  rintro ⟨⟨⟨gn, cn⟩, nms⟩, s5, ax5⟩
  refine LX.have fun ⟨h5, l5, n5⟩ => ?_
  refine LX.pure (Y.fieldAddr0 Fja.fo51_4 rfl) rfl rfl rfl ?_
  refine LX.storeB 1 Gv.sz26 rfl rfl rfl rfl rfl rfl rfl rfl ?_
  refine LX.sub (l' := [(1, _), (2, _), (3, _)]) ⟨rfl, rfl, rfl, trivial⟩ ?_
  refine LX.next ?_
  refine PX.thenN ?_
  refine CX.seq ?_
  refine CX.region ?_
  refine LX.pure (Y.ldB 3 Gv.one157 rfl rfl rfl) rfl rfl rfl ?_
  refine LX.pure (Y.mkFunc rfl rfl) rfl rfl rfl ?_
  refine LX.world (W' := WA w0 base (blk bw (rdC ab b.length cb s5 ax5) 159 :: (gI bf br bw nm pa gi sl (rv gn nms.length cn) ((none, 0), []) ++ (iS aE s5 ax5 ++ (blk b2 [.string ⟨#[]⟩, .int .i64 0, .int .i64 0, .int .i64 0, .slice none 0 0, .slice none 0 0] 51 :: .row gn cn nms.length 9 1 (nms.map str) :: fr))))) (fun w hw => ?_) ?_
  · have h1 := (show WA w0 base (blk bw (rdC ab b.length cb s5 ax5) 159 :: blk bf [str nm, .int .i64 pa, .int .i64 gi, .int .i64 sl, rv gn nms.length cn, .slice none 0 0] 51 :: blk b2 [.string ⟨#[]⟩, .int .i64 0, .int .i64 0, .int .i64 0, .slice none 0 0, .slice none 0 0] 51 :: blk br [.pointer (some ⟨bw, 0, none⟩)] 157 :: (.row gn cn nms.length 9 1 (nms.map str) :: iS aE s5 ax5 ++ fr)) w from hw).nilRow 53 4
    show WA w0 base (blk bw (rdC ab b.length cb s5 ax5) 159 :: blk bf [str nm, .int .i64 pa, .int .i64 gi, .int .i64 sl, rv gn nms.length cn, .slice none 0 0] 51 :: .row none 0 0 53 4 [] :: blk br [.pointer (some ⟨bw, 0, none⟩)] 157 :: (iS aE s5 ax5 ++ (blk b2 [.string ⟨#[]⟩, .int .i64 0, .int .i64 0, .int .i64 0, .slice none 0 0, .slice none 0 0] 51 :: .row gn cn nms.length 9 1 (nms.map str) :: fr))) w
    exact h1.perm (by (refine perm_cnt fun x => ?_; simp only [cnt_append, cnt_cons, cnt_nil]; omega))
  refine LX.call (many_c hS hb hbn (item := rIns b) (G := gI bf br bw nm pa gi sl (rv gn nms.length cn)) (R := fun t xs => t.2 = xs ∧ ∀ i ∈ t.2, insI i) Gw.en139 (fun t xs a ha hx hR => by obtain ⟨rfl, hR⟩ := hR; exact fn1_c hS hb hbn a ha hx hR) ((none, 0), []) ⟨rfl, fun i h => by cases h⟩ s5 ax5 l5) Gv.en80 rfl rfl rfl rfl rfl ?_
  rintro ⟨⟨⟨gc, cc⟩, is⟩, is', s6, ax6⟩
  refine LX.have fun ⟨h6, l6, hR, n6⟩ => ?_
  obtain ⟨rfl, hii⟩ : is = is' ∧ ∀ i ∈ is, insI i := hR
  try dsimp only
  refine LX.sub (l' := [(2, _), (3, _)]) ⟨rfl, rfl, trivial⟩ ?_
  refine LX.next ?_
  refine PX.thenN ?_
  refine CX.seq ?_
  refine CX.region ?_
  refine LX.world (W' := WA w0 base (blk b2 [.string ⟨#[]⟩, .int .i64 0, .int .i64 0, .int .i64 0, .slice none 0 0, .slice none 0 0] 51 :: blk bw (rdC ab b.length cb s6 ax6) 159 :: blk bf [str nm, .int .i64 pa, .int .i64 gi, .int .i64 sl, rv gn nms.length cn, rv gc is.length cc] 51 :: .row gc cc is.length 53 4 (insR is) :: blk br [.pointer (some ⟨bw, 0, none⟩)] 157 :: (iS aE s6 ax6 ++ (.row gn cn nms.length 9 1 (nms.map str) :: fr)))) (fun w hw => (show WA w0 base (blk bw (rdC ab b.length cb s6 ax6) 159 :: blk bf [str nm, .int .i64 pa, .int .i64 gi, .int .i64 sl, rv gn nms.length cn, rv gc is.length cc] 51 :: .row gc cc is.length 53 4 (insR is) :: blk br [.pointer (some ⟨bw, 0, none⟩)] 157 :: (iS aE s6 ax6 ++ (blk b2 [.string ⟨#[]⟩, .int .i64 0, .int .i64 0, .int .i64 0, .slice none 0 0, .slice none 0 0] 51 :: .row gn cn nms.length 9 1 (nms.map str) :: fr))) w from hw).perm (by (refine perm_cnt fun x => ?_; simp only [cnt_append, cnt_cons, cnt_nil]; omega))) ?_
  refine LX.pure (Y.ldAggB (vs := [str nm, .int .i64 pa, .int .i64 gi, .int .i64 sl, rv gn nms.length cn, rv gc is.length cc]) 2 Fjf.ag51 rfl rfl rfl rfl) rfl rfl rfl ?_
  refine LX.storeA 0 Fjf.ag51 rfl rfl rfl rfl rfl rfl rfl rfl rfl ?_
  refine LX.sub (l' := [(2, _)]) ⟨rfl, trivial⟩ ?_
  refine LX.next ?_
  refine PX.thenN ?_
  refine CX.ret ?_
  refine PX.retA (i := 0) (by simp) Tryz.results86 Fjf.ag51 rfl rfl rfl ?_
  exact fun w hw => ⟨(⟨nm, pa, gi, sl, nms, is⟩, (gn, cn), (gc, cc), s6, ax6), rfl, ⟨rFn_res h1 h2 h3 h4 h5 h6, l6, n5, n6, ⟨i2, i3, i4⟩, hii⟩, ((show WA w0 base (blk b2 [str nm, .int .i64 pa, .int .i64 gi, .int .i64 sl, rv gn nms.length cn, rv gc is.length cc] 51 :: blk bw (rdC ab b.length cb s6 ax6) 159 :: blk bf [str nm, .int .i64 pa, .int .i64 gi, .int .i64 sl, rv gn nms.length cn, rv gc is.length cc] 51 :: .row gc cc is.length 53 4 (insR is) :: blk br [.pointer (some ⟨bw, 0, none⟩)] 157 :: (iS aE s6 ax6 ++ (.row gn cn nms.length 9 1 (nms.map str) :: fr))) w from hw).drop (.cons _ (.cons_cons _ (.cons _ (.cons_cons _ (.cons _ (List.Sublist.refl _))))))).perm (show List.Perm (blk bw (rdC ab b.length cb s6 ax6) 159 :: .row gc cc is.length 53 4 (insR is) :: .row gn cn nms.length 9 1 (nms.map str) :: (iS aE s6 ax6 ++ fr)) _ by (refine perm_cnt fun x => ?_; simp only [cnt_append, cnt_cons, cnt_nil]; omega))⟩
theorem fn_c {w0 : World} {base : Nat} {bw : Nat} {ab : Option Addr} {cb : Nat} {b : List UInt8} {aE : Nat → Addr} (hS : EnvS w0 base aE) (hb : SlAt 1 byteA (Lies w0 base) ab b) (hbn : b.length ≤ 1099511627776) (hcb : b.length ≤ cb) (s : St) (ax : Nat) (f1 f2 : List It) (hat : s.at_ ≤ b.length) : FnC Tryz.prog 86 #[.pointer (some ⟨bw, 0, none⟩)] (WA w0 base (blk bw (rdC ab b.length cb s ax) 159 :: (f1 ++ (iS aE s ax ++ f2)))) (fun q : Fc × (Option Nat × Nat) × (Option Nat × Nat) × St × Nat => .agg #[str q.1.name, .int .i64 q.1.params, .int .i64 q.1.given, .int .i64 q.1.slots, rv q.2.1.1 q.1.names.length q.2.1.2, rv q.2.2.1.1 q.1.code.length q.2.2.1.2]) (fun q w => (Res (s.run (rFn b)) q.1 q.2.2.2.1 ∧ q.2.2.2.1.at_ ≤ b.length ∧ (q.1.names.length ≤ 1048576 ∧ q.1.code.length ≤ 1048576 ∧ (inI q.1.params ∧ inI q.1.given ∧ inI q.1.slots) ∧ ∀ i ∈ q.1.code, insI i)) ∧ WA w0 base (blk bw (rdC ab b.length cb q.2.2.2.1 q.2.2.2.2) 159 :: (f1 ++ ((.row q.2.2.1.1 q.2.2.1.2 q.1.code.length 53 4 (insR q.1.code) :: .row q.2.1.1 q.2.1.2 q.1.names.length 9 1 (q.1.names.map str) :: iS aE q.2.2.2.1 q.2.2.2.2) ++ f2))) w) :=
  FnC.midI (T := fun (q : Fc × (Option Nat × Nat) × (Option Nat × Nat) × St × Nat) _ => Res (s.run (rFn b)) q.1 q.2.2.2.1 ∧ q.2.2.2.1.at_ ≤ b.length ∧ (q.1.names.length ≤ 1048576 ∧ q.1.code.length ≤ 1048576 ∧ (inI q.1.params ∧ inI q.1.given ∧ inI q.1.slots) ∧ ∀ i ∈ q.1.code, insI i)) (j := fun q => .row q.2.2.1.1 q.2.2.1.2 q.1.code.length 53 4 (insR q.1.code) :: .row q.2.1.1 q.2.1.2 q.1.names.length 9 1 (q.1.names.map str) :: iS aE q.2.2.2.1 q.2.2.2.2) (fun fr => fn_s hS hb hbn hcb s ax hat) f1 f2
end Go.Proofs.YtgijpgkckiknjaaGreatDoor

namespace Go.Proofs.YtgijpgkckiknjaaGreatDoor
open Go.SX Go.RowKit Go.Ck Go.Lex Go.By
namespace Gx
theorem en86 : Enters Tryz.prog 86 := Enters.of Tryz.func86 (by kernel_rfl) (by kernel_rfl)
theorem sz22 : SizeIs Tryz.prog 22 1 := fun w => by kernel_rfl
theorem sz25 : SizeIs Tryz.prog 25 1 := fun w => by kernel_rfl
theorem el25 : Elem Tryz.prog 25 51 6 88 := Elem.of Fja.un25 (z := .agg #[.string ⟨#[]⟩, .int .i64 0, .int .i64 0, .int .i64 0, .slice none 0 0, .slice none 0 0]) (by kernel_rfl) rfl
end Gx
open Go.Proofs.YtgijpgkckiknjaaGreatDoor.Env (EnvS errV sentG)
open Go.Tr (ndA row_at map_A)
@[reducible] def ndC5 (x : Nd) : List Value := [.int .i64 x.op, .int .i64 0, .int .i64 0, str x.s, .slice none 0 0]
/-- a constant, as one is read -/
def cK (x : Nd) : Prop := x.n = 0 ∧ x.pos = 0 ∧ x.kids = [] ∧ inI x.op
theorem nd_at : ∀ {l : List Nd} {i : Nat} {z : Nd}, l[i]? = some z → ((l.flatMap ndC5).drop (i * 5)).take 5 = ndC5 z
  | [], _, _, h => by cases h
  | x :: r, 0, z, h => by cases h; rfl
  | x :: r, i + 1, z, h => by
    have := nd_at (l := r) (i := i) (z := z) h
    rw [show (x :: r).flatMap ndC5 = ndC5 x ++ r.flatMap ndC5 from rfl, show (i + 1) * 5 = (ndC5 x).length + i * 5 by show _ = 5 + _; omega, ← List.drop_drop, List.drop_left]
    exact this
theorem nd_snoc (xs : List Nd) (x : Nd) : (xs ++ [x]).flatMap ndC5 = xs.flatMap ndC5 ++ ndC5 x := by rw [List.flatMap_append]; simp
theorem ndA_of {M : Rd} {x : Nd} (h : cK x) : ndA M (ndC5 x) x := by
  obtain ⟨o, n, q, s, k⟩ := x
  obtain ⟨h1, h2, h3, h4⟩ := h
  simp only at h1 h2 h3 h4
  subst h1; subst h2; subst h3
  exact ⟨_, rfl, ⟨none, 0, rfl, ⟨Nat.zero_le _, Nat.le_refl _⟩, fun i x h => by cases h⟩, h4, inI0, inI0⟩
theorem nds_M {w0 w : World} {base : Nat} {its : List It} (hw : WA w0 base its w) {e c : Nat} {g : Option Nat} {xs : List Nd} (hm : It.row g c xs.length e 5 (xs.flatMap ndC5) ∈ its) (h : ∀ x ∈ xs, cK x) : SlAt 5 ndA (Lies w w.heap.size) (g.map fun b => ⟨b, 0, none⟩) xs := by
  obtain ⟨j, hj⟩ := List.mem_iff_getElem?.1 hm
  exact row_at hw hj rfl (by decide) fun i z hz => by rw [nd_at hz]; exact ndA_of (h z (List.mem_of_getElem? hz))
/-- constants, functions read so far, where they lie -/
@[reducible] def gC (bp br bw : Nat) (t : (Option Nat × Nat) × List Nd) : List It := [blk bp [.slice none 0 0, rv t.1.1 t.2.length t.1.2, .slice none 0 0, .slice none 0 0] 28, .row t.1.1 t.1.2 t.2.length 44 5 (t.2.flatMap ndC5), blk br [.pointer (some ⟨bw, 0, none⟩)] 157]
@[reducible] def gF (bp br bw : Nat) (vc vg vn : Value) (t : (Option Nat × Nat) × List Fc × List Value × List It) : List It := blk bp [rv t.1.1 t.2.1.length t.1.2, vc, vg, vn] 28 :: .row t.1.1 t.1.2 t.2.1.length 51 6 t.2.2.1 :: blk br [.pointer (some ⟨bw, 0, none⟩)] 157 :: t.2.2.2
theorem fault_g {w0 : World} {base : Nat} {bw : Nat} {ab : Option Addr} {cb : Nat} {b : List UInt8} {aE : Nat → Addr} (s : St) (ax pl k : Nat) (f1 f2 : List It) : FnC Tryz.prog 79 #[.pointer (some ⟨bw, 0, none⟩), .int .i64 (pl : Int), errV (aE k)] (WA w0 base (blk bw (rdC ab b.length cb s ax) 159 :: (f1 ++ (iS aE s ax ++ f2)))) (fun _ : Nat => .tuple #[]) (fun q => WA w0 base (blk bw (rdC ab b.length cb (s.fail k pl) q) 159 :: (f1 ++ (iS aE (s.fail k pl) q ++ f2)))) := by
  refine FnC.midW (fun fr => ?_) f1 f2
  obtain ⟨a, e⟩ := s
  cases e with
  | none => exact fault_c a pl k
  | some e => exact fun w hw => (faultX_c (fr := (iS aE ⟨a, some e⟩ ax ++ fr)) a ax pl _ w hw).mono fun _ w' ⟨_, he, h⟩ => ⟨ax, he, h⟩
theorem next_g {w0 : World} {base : Nat} {bw : Nat} {ab : Option Addr} {cb : Nat} {b : List UInt8} {aE : Nat → Addr} (hS : EnvS w0 base aE) (hb : SlAt 1 byteA (Lies w0 base) ab b) (hbn : b.length ≤ 1099511627776) (s : St) (ax : Nat) (f1 f2 : List It) : FnC Tryz.prog 78 #[.pointer (some ⟨bw, 0, none⟩)] (WA w0 base (blk bw (rdC ab b.length cb s ax) 159 :: (f1 ++ (iS aE s ax ++ f2)))) (fun _ : Nat => .int .u8 (nxB b s : Int)) (fun q => WA w0 base (blk bw (rdC ab b.length cb (nxS b s) q) 159 :: (f1 ++ (iS aE (nxS b s) q ++ f2)))) := by
  refine FnC.midW (fun fr => ?_) f1 f2
  obtain ⟨a, e⟩ := s
  cases e with
  | none => exact next_c hS hb hbn a
  | some e => exact fun w hw => (nextX_c hS (fr := (iS aE ⟨a, some e⟩ ax ++ fr)) a ax w hw).mono fun _ w' ⟨_, he, h⟩ => ⟨ax, he, h⟩
theorem read1_c {w0 : World} {base : Nat} {fr : List It} {bw : Nat} {ab : Option Addr} {cb : Nat} {b : List UInt8} {aE : Nat → Addr} (hS : EnvS w0 base aE) (hb : SlAt 1 byteA (Lies w0 base) ab b) (hbn : b.length ≤ 1099511627776) (hcb : b.length ≤ cb) {bp br : Nat} {g : Option Nat} {cp : Nat} {xs : List Nd} (a : Nat) (ha : a ≤ b.length) (hx : xs.length < 1048576) (hxi : ∀ x ∈ xs, cK x) : FnC Tryz.prog 81 #[.pointer (some ⟨br, 0, none⟩), .pointer (some ⟨bp, 0, none⟩)] (WA w0 base (blk bw [.slice ab b.length cb, .int .i64 ((a : Nat) : Int), .nilIface] 159 :: (gC bp br bw ((g, cp), xs) ++ fr))) (fun _ : ((Option Nat × Nat) × List Nd) × Nd × St × Nat => .tuple #[]) (fun q w => (Res (rC b a) q.2.1 q.2.2.1 ∧ q.2.2.1.at_ ≤ b.length ∧ (q.1.2 = xs ++ [q.2.1] ∧ ∀ x ∈ q.1.2, cK x)) ∧ WA w0 base (blk bw (rdC ab b.length cb q.2.2.1 q.2.2.2) 159 :: (gC bp br bw q.1 ++ (iS aE q.2.2.1 q.2.2.2 ++ fr))) w) := by
  refine FnC.of_body (fn := Tryz.f81) [(0, _), (1, _)] Tryz.func81 rfl Tryz.ntmps81 rfl ⟨rfl, rfl, trivial⟩ ?_
  refine CX.seq ?_
  refine CX.region ?_
  refine LX.pure (Y.ldB 3 Gv.one157 rfl rfl rfl) rfl rfl rfl ?_
  refine LX.call (num_c hS hb hbn ⟨a, none⟩ 0 (gC bp br bw ((g, cp), xs)) fr ha) Gt.en82 rfl rfl rfl rfl rfl ?_
  rintro ⟨o, s1, ax1⟩
  refine LX.have fun ⟨h1, l1, i1⟩ => ?_
  refine LX.pure (Y.build (v := .agg #[.int .i64 o, .int .i64 0, .int .i64 0, str [], .slice none 0 0]) rfl (fun _ => by kernel_rfl)) rfl rfl rfl ?_
  refine LX.alloc rfl Fjc.zv44 rfl rfl rfl ?_
  intro bx
  refine LX.storeA 0 Fjc.ag44 rfl rfl rfl rfl rfl rfl rfl rfl rfl ?_
  refine LX.world (W' := WA w0 base (blk bw (rdC ab b.length cb s1 ax1) 159 :: blk bx [.int .i64 o, .int .i64 0, .int .i64 0, str [], .slice none 0 0] 44 :: blk bp [.slice none 0 0, rv g xs.length cp, .slice none 0 0, .slice none 0 0] 28 :: .row g cp xs.length 44 5 (xs.flatMap ndC5) :: blk br [.pointer (some ⟨bw, 0, none⟩)] 157 :: (iS aE s1 ax1 ++ fr))) (fun w hw => (show WA w0 base (blk bx [.int .i64 o, .int .i64 0, .int .i64 0, str [], .slice none 0 0] 44 :: blk bw (rdC ab b.length cb s1 ax1) 159 :: blk bp [.slice none 0 0, rv g xs.length cp, .slice none 0 0, .slice none 0 0] 28 :: .row g cp xs.length 44 5 (xs.flatMap ndC5) :: blk br [.pointer (some ⟨bw, 0, none⟩)] 157 :: (iS aE s1 ax1 ++ fr)) w from hw).perm (by (refine perm_cnt fun x => ?_; simp only [cnt_append, cnt_cons, cnt_nil]; omega))) ?_
  refine LX.sub (l' := [(0, _), (1, _), (2, _)]) ⟨rfl, rfl, rfl, trivial⟩ ?_
  refine LX.next ?_
  refine PX.thenN ?_
  refine CX.seq ?_
  refine CX.region ?_
  refine LX.pure (Y.ldB 4 Gv.one157 rfl rfl rfl) rfl rfl rfl ?_
  refine LX.call (text_c hS hb hbn hcb s1 ax1 (blk bx [.int .i64 o, .int .i64 0, .int .i64 0, str [], .slice none 0 0] 44 :: gC bp br bw ((g, cp), xs)) fr l1) Gv.en83 rfl rfl rfl rfl rfl ?_
  rintro ⟨x, s2, ax2⟩
  refine LX.have fun ⟨h2, l2, _⟩ => ?_
  refine LX.pure (Y.fieldAddr0 Fj.fo44_3 rfl) rfl rfl rfl ?_
  refine LX.storeB 1 Fj.sz9 rfl rfl rfl rfl rfl rfl rfl rfl ?_
  refine LX.sub (l' := [(1, _), (2, _)]) ⟨rfl, rfl, trivial⟩ ?_
  refine LX.next ?_
  refine PX.thenN ?_
  refine CX.region ?_
  refine LX.pure (Y.fieldAddr0 Fja.fo28_1 rfl) rfl rfl rfl ?_
  refine LX.pure (Y.ldB 2 Fja.one22 rfl rfl rfl) rfl rfl rfl ?_
  refine LX.pure (Y.ldAggB (vs := [.int .i64 o, .int .i64 0, .int .i64 0, str x, .slice none 0 0]) 1 Fjc.ag44 rfl rfl rfl rfl) rfl rfl rfl ?_
  refine LX.buildSlice (e := 44) (size := 5) rfl rfl (fun _ => by kernel_rfl) rfl (by decide) rfl rfl rfl ?_
  intro gt12
  refine LX.appendT 3 Fjd.el22 rfl rfl rfl rfl rfl rfl rfl (by (dsimp only; omega)) (by (dsimp only; omega)) rfl rfl rfl ?_
  intro g' cap'
  refine LX.pure (Y.fieldAddr0 Fja.fo28_1 rfl) rfl rfl rfl ?_
  refine LX.storeB 2 Gx.sz22 rfl rfl rfl rfl rfl rfl rfl rfl ?_
  refine LX.sub (l' := []) trivial ?_
  refine LX.next ?_
  refine PX.ret0 (by simp) Tryz.results81 ?_
  exact fun w hw => ⟨(((g', cap'), xs ++ [(⟨o, 0, 0, x, []⟩ : Nd)]), ⟨o, 0, 0, x, []⟩, s2, ax2), rfl, ⟨rC_res h1 h2, l2, rfl, fun i hi => (List.mem_append.1 hi).elim (hxi i) fun h => by cases List.mem_singleton.1 h; exact ⟨rfl, rfl, rfl, i1⟩⟩, by show WA w0 base (blk bw (rdC ab b.length cb s2 ax2) 159 :: blk bp [.slice none 0 0, rv g' (xs ++ [(⟨o, 0, 0, x, []⟩ : Nd)]).length cap', .slice none 0 0, .slice none 0 0] 28 :: .row g' cap' (xs ++ [(⟨o, 0, 0, x, []⟩ : Nd)]).length 44 5 ((xs ++ [(⟨o, 0, 0, x, []⟩ : Nd)]).flatMap ndC5) :: blk br [.pointer (some ⟨bw, 0, none⟩)] 157 :: (iS aE s2 ax2 ++ fr)) w; rw [nd_snoc, List.length_append]; exact hw.drop (.cons_cons _ (.cons _ (List.Sublist.refl _)))⟩
theorem read2_c {w0 : World} {base : Nat} {fr : List It} {bw : Nat} {ab : Option Addr} {cb : Nat} {b : List UInt8} {aE : Nat → Addr} (hS : EnvS w0 base aE) (hb : SlAt 1 byteA (Lies w0 base) ab b) (hbn : b.length ≤ 1099511627776) (hcb : b.length ≤ cb) {bp br : Nat} {vc vg vn : Value} {g : Option Nat} {cp : Nat} {xs : List Fc} {cells : List Value} {rs : List It} (a : Nat) (ha : a ≤ b.length) (hx : xs.length < 1048576) (hff : FnsF w0 base rs cells xs) : FnC Tryz.prog 85 #[.pointer (some ⟨bp, 0, none⟩), .pointer (some ⟨br, 0, none⟩)] (WA w0 base (blk bw [.slice ab b.length cb, .int .i64 ((a : Nat) : Int), .nilIface] 159 :: (gF bp br bw vc vg vn ((g, cp), xs, cells, rs) ++ fr))) (fun _ : ((Option Nat × Nat) × List Fc × List Value × List It) × Fc × St × Nat => .tuple #[]) (fun q w => (Res (rFn b a) q.2.1 q.2.2.1 ∧ q.2.2.1.at_ ≤ b.length ∧ (q.1.2.1 = xs ++ [q.2.1] ∧ FnsF w0 base q.1.2.2.2 q.1.2.2.1 q.1.2.1)) ∧ WA w0 base (blk bw (rdC ab b.length cb q.2.2.1 q.2.2.2) 159 :: (gF bp br bw vc vg vn q.1 ++ (iS aE q.2.2.1 q.2.2.2 ++ fr))) w) := by
  refine FnC.of_body (fn := Tryz.f85) [(0, _), (1, _)] Tryz.func85 rfl Tryz.ntmps85 rfl ⟨rfl, rfl, trivial⟩ ?_
  refine CX.regionS (WA w0 base (blk bp [rv g xs.length cp, vc, vg, vn] 28 :: .row g cp xs.length 51 6 cells :: blk br [.pointer (some ⟨bw, 0, none⟩)] 157 :: (rs ++ fr))) [(0, .anywhere), (1, .held), (2, .held), (3, .alone), (4, .alone), (5, .alone), (6, .anywhere), (7, .alone)] rfl (by kernel_rfl) ?_
  refine MX.lift0 (i := 0) rfl (Y.fieldAddr0 Fja.fo28_0 rfl) rfl rfl rfl ?_
  refine MX.lift1 (i := 1) (pend' := []) rfl (fun w hw => (show WA w0 base (blk bp [rv g xs.length cp, vc, vg, vn] 28 :: .row g cp xs.length 51 6 cells :: blk br [.pointer (some ⟨bw, 0, none⟩)] 157 :: (rs ++ fr)) w from by exact hw.drop (List.sublist_cons_self _ _))) (Y.ldB 0 Fja.one25 rfl rfl rfl) rfl rfl rfl (by kernel_rfl) ?_
  refine MX.lift1 (i := 2) (pend' := [1]) rfl (fun w hw => (show WA w0 base (blk bp [rv g xs.length cp, vc, vg, vn] 28 :: .row g cp xs.length 51 6 cells :: blk br [.pointer (some ⟨bw, 0, none⟩)] 157 :: (rs ++ fr)) w from by exact hw.drop (List.sublist_cons_self _ _))) (Y.ldB 2 Gv.one157 rfl rfl rfl) rfl rfl rfl (by kernel_rfl) ?_
  refine MX.force (i := 3) rfl ?_
  refine LX.call (fn_c hS hb hbn hcb ⟨a, none⟩ 0 (gF bp br bw vc vg vn ((g, cp), xs, cells, rs)) fr ha) Gx.en86 rfl rfl rfl rfl rfl ?_
  rintro ⟨y, ⟨gn, cn⟩, ⟨gc, cc⟩, s1, ax1⟩
  refine LX.have fun ⟨h1, l1, n1, n2, ⟨i1, i2, i3⟩, i4⟩ => ?_
  replace n1 : y.names.length ≤ 1048576 := n1
  replace n2 : y.code.length ≤ 1048576 := n2
  refine LX.nextM [1] (by kernel_rfl) (fun _ => (fun w hw => (show WA w0 base (blk bp [rv g xs.length cp, vc, vg, vn] 28 :: .row g cp xs.length 51 6 cells :: blk br [.pointer (some ⟨bw, 0, none⟩)] 157 :: (rs ++ fr)) w from by exact hw.drop (.cons _ (.cons_cons _ (.cons_cons _ (.cons_cons _ (List.Sublist.append (List.Sublist.refl rs) (.cons _ (.cons _ (List.sublist_append_right _ _))))))))))) ?_
  refine MX.force (i := 4) rfl ?_
  refine LX.buildSlice (e := 51) (size := 6) rfl rfl (fun _ => by kernel_rfl) rfl (by decide) rfl rfl rfl ?_
  intro gt4
  refine LX.nextM [1] (by kernel_rfl) (fun _ => (fun w hw => (show WA w0 base (blk bp [rv g xs.length cp, vc, vg, vn] 28 :: .row g cp xs.length 51 6 cells :: blk br [.pointer (some ⟨bw, 0, none⟩)] 157 :: (rs ++ fr)) w from by exact hw.drop (.cons _ (.cons _ (.cons_cons _ (.cons_cons _ (.cons_cons _ (List.Sublist.append (List.Sublist.refl rs) (.cons _ (.cons _ (List.sublist_append_right _ _)))))))))))) ?_
  refine MX.force (i := 5) rfl ?_
  refine LX.appendT 2 Gx.el25 rfl rfl rfl rfl rfl rfl rfl (by omega) (by omega) rfl rfl rfl ?_
  intro g' cap'
  refine LX.nextM [] (by kernel_rfl) (fun h => absurd rfl h) ?_
  refine MX.lift0 (i := 6) rfl (Y.fieldAddr0 Fja.fo28_0 rfl) rfl rfl rfl ?_
  refine MX.force (i := 7) rfl ?_
  refine LX.storeB 1 Gx.sz25 rfl rfl rfl rfl rfl rfl rfl rfl ?_
  refine LX.nextM [] (by kernel_rfl) (fun h => absurd rfl h) ?_
  refine MX.sub (l' := []) trivial ?_
  refine MX.done ?_
  refine PX.ret0 (by simp) Tryz.results85 ?_
  refine fun w hw0 => ?_
  have hw : WA w0 base (blk bw (rdC ab b.length cb s1 ax1) 159 :: blk bp [rv g' (xs.length + 1) cap', vc, vg, vn] 28 :: .row g' cap' (xs.length + 1) 51 6 (cells ++ [str y.name, .int .i64 y.params, .int .i64 y.given, .int .i64 y.slots, rv gn y.names.length cn, rv gc y.code.length cc]) :: blk br [.pointer (some ⟨bw, 0, none⟩)] 157 :: (rs ++ ((.row gc cc y.code.length 53 4 (insR y.code) :: .row gn cn y.names.length 9 1 (y.names.map str) :: iS aE s1 ax1) ++ fr))) w := hw0
  have hw2 := hw.perm (show List.Perm (.row gc cc y.code.length 53 4 (insR y.code) :: .row gn cn y.names.length 9 1 (y.names.map str) :: blk bw (rdC ab b.length cb s1 ax1) 159 :: blk bp [rv g' (xs.length + 1) cap', vc, vg, vn] 28 :: .row g' cap' (xs.length + 1) 51 6 (cells ++ [str y.name, .int .i64 y.params, .int .i64 y.given, .int .i64 y.slots, rv gn y.names.length cn, rv gc y.code.length cc]) :: blk br [.pointer (some ⟨bw, 0, none⟩)] 157 :: (rs ++ (iS aE s1 ax1 ++ fr))) _ by (refine perm_cnt fun x => ?_; simp only [cnt_append, cnt_cons, cnt_nil]; omega))
  exact ⟨(((g', cap'), xs ++ [y], cells ++ [str y.name, .int .i64 y.params, .int .i64 y.given, .int .i64 y.slots, rv gn y.names.length cn, rv gc y.code.length cc], .row gc cc y.code.length 53 4 (insR y.code) :: .row gn cn y.names.length 9 1 (y.names.map str) :: rs), y, s1, ax1), rfl, ⟨h1, l1, rfl, hff.next rfl ⟨_, _, rfl, texts_A (i := 1) hw2 rfl (by simp) (by omega), code_A (i := 0) hw2 rfl i4 (by simp) (by omega), i1, i2, i3⟩⟩, by show WA w0 base (blk bw (rdC ab b.length cb s1 ax1) 159 :: blk bp [rv g' (xs ++ [y]).length cap', vc, vg, vn] 28 :: .row g' cap' (xs ++ [y]).length 51 6 (cells ++ [str y.name, .int .i64 y.params, .int .i64 y.given, .int .i64 y.slots, rv gn y.names.length cn, rv gc y.code.length cc]) :: blk br [.pointer (some ⟨bw, 0, none⟩)] 157 :: ((.row gc cc y.code.length 53 4 (insR y.code) :: .row gn cn y.names.length 9 1 (y.names.map str) :: rs) ++ (iS aE s1 ax1 ++ fr))) w; rw [List.length_append, List.length_singleton]; exact hw.perm (by (refine perm_cnt fun x => ?_; simp only [cnt_append, cnt_cons, cnt_nil]; omega))⟩
end Go.Proofs.YtgijpgkckiknjaaGreatDoor

namespace Go.Proofs.YtgijpgkckiknjaaGreatDoor
open Go.SX Go.RowKit Go.Ck Go.Lex Go.By
namespace Gy
theorem ag28 : AggT Tryz.prog 28 4 := AggT.of (by kernel_rfl) (by kernel_rfl)
theorem en81 : Enters Tryz.prog 81 := Enters.of Tryz.func81 (by kernel_rfl) (by kernel_rfl)
theorem en85 : Enters Tryz.prog 85 := Enters.of Tryz.func85 (by kernel_rfl) (by kernel_rfl)
theorem sz157 : SizeIs Tryz.prog 157 1 := fun w => by kernel_rfl
theorem zv157 : ∀ w, (zeroValue 157).run Tryz.prog w = .ok (.pointer none) w := fun w => by kernel_rfl
theorem zv28 : ∀ w, (zeroValue 28).run Tryz.prog w = .ok (.agg #[.slice none 0 0, .slice none 0 0, .slice none 0 0, .slice none 0 0]) w := fun w => by kernel_rfl
end Gy
open Go.Proofs.YtgijpgkckiknjaaGreatDoor.Env (EnvS errV sentG)
open Go.Tr (ndA row_at map_A)
theorem end_bad {b : List UInt8} {s : St} {p q : Pg} (h : rPg b = match s.e with | some e => .error e | none => if s.at_ < b.length then .error (12, s.at_) else .ok p) (hl : s.at_ < b.length) : rPg b = match (s.fail 12 s.at_).e with | none => .ok q | some e => .error e := by
  obtain ⟨a, e⟩ := s
  cases e with
  | none => exact h.trans (if_pos hl)
  | some e => exact h
theorem end_err {b : List UInt8} {s : St} {p q : Pg} (h : rPg b = match s.e with | some e => .error e | none => if s.at_ < b.length then .error (12, s.at_) else .ok p) (he : s.e ≠ none) : rPg b = match s.e with | none => .ok q | some e => .error e := by
  obtain ⟨a, e⟩ := s
  cases e with
  | none => exact absurd rfl he
  | some e => exact h
theorem end_ok {b : List UInt8} {s : St} {p : Pg} (h : rPg b = match s.e with | some e => .error e | none => if s.at_ < b.length then .error (12, s.at_) else .ok p) (he : s.e = none) (hl : ¬s.at_ < b.length) : rPg b = .ok p := by
  obtain ⟨a, e⟩ := s
  obtain rfl : e = none := he
  exact h.trans (if_neg hl)
@[reducible] def cxNil : Cx := ⟨none, none, none, none, none, none, 0, 0, 0, 0, 0, 0⟩
theorem ck_nil {M : Rd} : CkAt M cxNil ⟨[], [], [], []⟩ ⟨[], 0, 0, 0, [], []⟩ := ⟨fun i x h => (by cases h), fun i x h => (by cases h), fun i x h => (by cases h), fun i x h => (by cases h), fun i x h => (by cases h), fun i x h => (by cases h), ⟨inI0, inI0, inI0⟩⟩
theorem read_c {w0 : World} {base : Nat} {fr : List It} {ab : Option Addr} {cb : Nat} {b : List UInt8} {aE : Nat → Addr} (hS : EnvS w0 base aE) (hb : SlAt 1 byteA (Lies w0 base) ab b) (hbn : b.length ≤ 1099511627776) (hcb : b.length ≤ cb) : FnC Tryz.prog 32 #[.slice ab b.length cb] (WA w0 base fr) (fun q : Cx × Pg × Option (Nat × Nat) × Nat => .tuple #[.agg (q.1.pcs q.2.1).toArray, vS ⟨0, q.2.2.1⟩ q.2.2.2]) (fun q w => (rPg b = (match q.2.2.1 with | none => .ok q.2.1 | some e => .error e) ∧ (q.2.2.1 ≠ none → q.2.1 = ⟨[], [], [], []⟩)) ∧ CkAt (Lies w w.heap.size) q.1 q.2.1 ⟨[], 0, 0, 0, [], []⟩ ∧ WA w0 base (iS aE ⟨0, q.2.2.1⟩ q.2.2.2 ++ fr) w) := by
  refine FnC.of_body (fn := Tryz.f32) [(0, _)] Tryz.func32 rfl Tryz.ntmps32 rfl ⟨rfl, trivial⟩ ?_
  refine CX.seq ?_
  refine CX.region ?_
  refine LX.alloc rfl Gy.zv28 rfl rfl rfl ?_
  intro b2
  refine LX.pure (Y.assign rfl) rfl rfl rfl ?_
  refine LX.sub (l' := [(0, _), (2, _), (3, _)]) ⟨rfl, rfl, rfl, trivial⟩ ?_
  refine LX.next ?_
  refine PX.thenN ?_
  refine CX.seq ?_
  refine CX.region ?_
  refine LX.pure (Y.move rfl) rfl rfl rfl ?_
  refine LX.pure (Y.build (v := .agg #[.slice ab b.length cb, .int .i64 0, .nilIface]) rfl (fun _ => by kernel_rfl)) rfl rfl rfl ?_
  refine LX.box rfl rfl rfl rfl rfl ?_
  intro bw
  refine LX.alloc rfl Gy.zv157 rfl rfl rfl ?_
  intro br
  refine LX.storeB 0 Gy.sz157 rfl rfl rfl rfl rfl rfl rfl rfl ?_
  refine LX.sub (l' := [(0, _), (2, _), (3, _), (4, _)]) ⟨rfl, rfl, rfl, rfl, trivial⟩ ?_
  refine LX.next ?_
  refine PX.thenN ?_
  refine CX.seq ?_
  refine CX.seq ?_
  refine CX.region ?_
  refine LX.pure (Y.move rfl) rfl rfl rfl ?_
  refine LX.sub (l' := [(0, _), (2, _), (3, _), (4, _), (11, _)]) ⟨rfl, rfl, rfl, rfl, rfl, trivial⟩ ?_
  refine LX.next ?_
  refine PX.thenN ?_
  refine CX.block ?_
  refine CX.loop (fun z : Nat × St × Nat => [(0, .slice ab b.length cb), (2, .pointer (some ⟨b2, 0, none⟩)), (4, .pointer (some ⟨br, 0, none⟩)), (11, .int .i64 (z.1 : Int))]) (fun (z : Nat × St × Nat) w => (z.1 ≤ 3 ∧ z.2.1.at_ ≤ b.length ∧ HeadTo b z.1 z.2.1) ∧ WA w0 base (blk bw (rdC ab b.length cb z.2.1 z.2.2) 159 :: blk br [.pointer (some ⟨bw, 0, none⟩)] 157 :: blk b2 [.slice none 0 0, .slice none 0 0, .slice none 0 0, .slice none 0 0] 28 :: (iS aE z.2.1 z.2.2 ++ fr)) w) (fun z => 3 - z.1) (0, ⟨0, none⟩, 0) ⟨rfl, rfl, rfl, rfl, trivial⟩ (fun w hw => ⟨⟨Nat.zero_le _, Nat.zero_le _, rfl, rfl⟩, (show WA w0 base (blk br [.pointer (some ⟨bw, 0, none⟩)] 157 :: blk bw [.slice ab b.length cb, .int .i64 ((0 : Nat) : Int), .nilIface] 159 :: blk b2 [.slice none 0 0, .slice none 0 0, .slice none 0 0, .slice none 0 0] 28 :: fr) w from hw).perm (.swap _ _ _)⟩) ?_
  rintro ⟨i, s, ax⟩
  refine CX.have fun ⟨hi, hle, hh⟩ => ?_
  replace hi : i ≤ 3 := hi
  replace hle : s.at_ ≤ b.length := hle
  replace hh : HeadTo b i s := hh
  try dsimp only
  refine CX.seq ?_
  refine CX.region ?_
  refine LX.pure (Y.ltN rfl rfl) rfl rfl rfl ?_
  refine LX.sub (l' := [(0, _), (2, _), (4, _), (11, _), (12, _)]) ⟨rfl, rfl, rfl, rfl, rfl, trivial⟩ ?_
  refine LX.next ?_
  refine PX.thenN ?_
  refine CX.seq ?_
  refine CX.cond rfl (fun hb1 => ?_) (fun hb1 => ?_)
  · try simp at hb1
    have hi3 : i < 3 := by omega
    refine CX.skip ?_
    refine PX.thenN ?_
    refine CX.seq ?_
    refine CX.block ?_
    refine CX.seq ?_
    refine CX.region ?_
    refine LX.pure (Y.move rfl) rfl rfl rfl ?_
    refine LX.pure (Y.assign rfl) rfl rfl rfl ?_
    refine LX.sub (l' := [(0, _), (2, _), (4, _), (5, _), (11, _)]) ⟨rfl, rfl, rfl, rfl, rfl, trivial⟩ ?_
    refine LX.next ?_
    refine PX.thenN ?_
    refine CX.seq ?_
    refine CX.region ?_
    refine LX.pure (Y.ldB 1 Gv.one157 rfl rfl rfl) rfl rfl rfl ?_
    refine LX.call (next_g hS hb hbn s ax (blk br [.pointer (some ⟨bw, 0, none⟩)] 157 :: [blk b2 [.slice none 0 0, .slice none 0 0, .slice none 0 0, .slice none 0 0] 28]) fr) Gs.en78 rfl rfl rfl rfl rfl ?_
    intro ax1
    refine LX.pure (Y.assign rfl) rfl rfl rfl ?_
    refine LX.sub (l' := [(0, _), (2, _), (4, _), (5, _), (6, _), (11, _)]) ⟨rfl, rfl, rfl, rfl, rfl, rfl, trivial⟩ ?_
    refine LX.next ?_
    refine PX.thenN ?_
    refine CX.seq ?_
    refine CX.region ?_
    refine LX.pure (Y.ldB 1 Gv.one157 rfl rfl rfl) rfl rfl rfl ?_
    refine LX.pure (Y.nilCheck rfl) rfl rfl rfl ?_
    refine LX.pure (Y.fieldAddr0 Gr.fo159_2 rfl) rfl rfl rfl ?_
    refine LX.pure (Y.ldB 0 Gr.one30 rfl rfl rfl) rfl rfl rfl ?_
    refine LX.pure (Y.sEq rfl) rfl rfl rfl ?_
    refine LX.pure (Y.move rfl) rfl rfl rfl ?_
    refine LX.sub (l' := [(0, _), (2, _), (4, _), (5, _), (6, _), (11, _), (21, _)]) ⟨rfl, rfl, rfl, rfl, rfl, rfl, rfl, trivial⟩ ?_
    apply LX.joinAnd 5 26 21 rfl
    · intro hb2
      have hb2p := hb2
      try simp at hb2p
      refine LX.gT rfl rfl rfl hb2 (Y.move rfl) rfl rfl ?_
      refine LX.gT rfl rfl rfl hb2 (Y.move rfl) rfl rfl ?_
      refine LX.gT rfl rfl rfl hb2 (Y.index (s := [83, 77, 49]) rfl rfl Fj.un9 (show i < 3 from hi3)) rfl rfl ?_
      refine LX.gT rfl rfl rfl hb2 (Y.neN rfl rfl) rfl rfl ?_
      refine LX.pure (Y.pickT rfl hb2 rfl) rfl rfl rfl ?_
      exact LX.left ⟨rfl, rfl, rfl, rfl, rfl, rfl, rfl, rfl, trivial⟩
    · intro hb2
      have hb2p := hb2
      try simp at hb2p
      refine LX.gF rfl rfl rfl hb2 rfl rfl ?_
      refine LX.gF rfl rfl rfl hb2 rfl rfl ?_
      refine LX.gF rfl rfl rfl hb2 rfl rfl ?_
      refine LX.gF rfl rfl rfl hb2 rfl rfl ?_
      refine LX.pure (Y.pickF rfl hb2 rfl) rfl rfl rfl ?_
      exact LX.left ⟨rfl, rfl, rfl, rfl, rfl, rfl, rfl, rfl, trivial⟩
    refine LX.sub (l' := [(0, _), (2, _), (4, _), (5, _), (11, _), (26, _)]) ⟨rfl, rfl, rfl, rfl, rfl, rfl, trivial⟩ ?_
    refine LX.next ?_
    refine PX.thenN ?_
    refine CX.cond rfl (fun hb3 => ?_) (fun hb3 => ?_)
    · try simp at hb3
      have hbx : (nxS b s).e = none ∧ nxB b s ≠ (head.getD i 0).toNat := by assumption
      refine CX.region ?_
      refine LX.pure (Y.ldB 1 Gv.one157 rfl rfl rfl) rfl rfl rfl ?_
      refine LX.pure (Y.move rfl) rfl rfl rfl ?_
      refine LX.pure (Y.ldO Gr.one30 rfl (hS.at_ 12 1 rfl) (hS.lt 1 (by decide))) rfl rfl rfl ?_
      refine LX.call (fault_g (aE := aE) (nxS b s) ax1 i 12 (blk br [.pointer (some ⟨bw, 0, none⟩)] 157 :: [blk b2 [.slice none 0 0, .slice none 0 0, .slice none 0 0, .slice none 0 0] 28]) fr) Gr.en79 rfl rfl rfl rfl rfl ?_
      intro ax2
      refine LX.sub (l' := [(0, _), (2, _), (4, _), (11, _)]) ⟨rfl, rfl, rfl, rfl, trivial⟩ ?_
      refine LX.next ?_
      refine PX.blockN ?_
      refine PX.thenN ?_
      refine CX.region ?_
      refine LX.pure (Y.addN rfl rfl (by (simp only []; omega))) rfl rfl rfl ?_
      refine LX.pure (Y.move rfl) rfl rfl rfl ?_
      refine LX.sub (l' := [(0, _), (2, _), (4, _), (11, _)]) ⟨rfl, rfl, rfl, rfl, trivial⟩ ?_
      refine LX.next ?_
      exact PX.again (L := (fun z : Nat × St × Nat => [(0, .slice ab b.length cb), (2, .pointer (some ⟨b2, 0, none⟩)), (4, .pointer (some ⟨br, 0, none⟩)), (11, .int .i64 (z.1 : Int))])) (WW := (fun (z : Nat × St × Nat) w => (z.1 ≤ 3 ∧ z.2.1.at_ ≤ b.length ∧ HeadTo b z.1 z.2.1) ∧ WA w0 base (blk bw (rdC ab b.length cb z.2.1 z.2.2) 159 :: blk br [.pointer (some ⟨bw, 0, none⟩)] 157 :: blk b2 [.slice none 0 0, .slice none 0 0, .slice none 0 0, .slice none 0 0] 28 :: (iS aE z.2.1 z.2.2 ++ fr)) w)) (μ := fun z => 3 - z.1) (i := (i, s, ax)) (i + 1, (nxS b s).fail 12 i, ax2) (by show 3 - (i + 1) < 3 - i; omega) ⟨rfl, rfl, rfl, rfl, trivial⟩ (fun w hw => ⟨⟨by show i + 1 ≤ 3; omega, fail_le (nxS_le hle), head_bad hi3 hh hbx.1 hbx.2⟩, hw⟩)
    · try simp at hb3
      have hbx : ¬((nxS b s).e = none ∧ nxB b s ≠ (head.getD i 0).toNat) := by (intro h; obtain ⟨h1, h2⟩ := h; simp only [h1] at hb3; exact h2 (hb3 trivial))
      refine CX.skip ?_
      refine PX.blockN ?_
      refine PX.thenN ?_
      refine CX.region ?_
      refine LX.pure (Y.addN rfl rfl (by (simp only []; omega))) rfl rfl rfl ?_
      refine LX.pure (Y.move rfl) rfl rfl rfl ?_
      refine LX.sub (l' := [(0, _), (2, _), (4, _), (11, _)]) ⟨rfl, rfl, rfl, rfl, trivial⟩ ?_
      refine LX.next ?_
      exact PX.again (L := (fun z : Nat × St × Nat => [(0, .slice ab b.length cb), (2, .pointer (some ⟨b2, 0, none⟩)), (4, .pointer (some ⟨br, 0, none⟩)), (11, .int .i64 (z.1 : Int))])) (WW := (fun (z : Nat × St × Nat) w => (z.1 ≤ 3 ∧ z.2.1.at_ ≤ b.length ∧ HeadTo b z.1 z.2.1) ∧ WA w0 base (blk bw (rdC ab b.length cb z.2.1 z.2.2) 159 :: blk br [.pointer (some ⟨bw, 0, none⟩)] 157 :: blk b2 [.slice none 0 0, .slice none 0 0, .slice none 0 0, .slice none 0 0] 28 :: (iS aE z.2.1 z.2.2 ++ fr)) w)) (μ := fun z => 3 - z.1) (i := (i, s, ax)) (i + 1, nxS b s, ax1) (by show 3 - (i + 1) < 3 - i; omega) ⟨rfl, rfl, rfl, rfl, trivial⟩ (fun w hw => ⟨⟨by show i + 1 ≤ 3; omega, nxS_le hle, head_step hi3 hh hbx⟩, hw⟩)
  · try simp at hb1
    obtain rfl : i = 3 := by omega
    refine CX.exit ?_
    refine PX.thenE ?_
    refine PX.thenE ?_
    refine PX.blockE ?_
    refine PX.thenN ?_
    refine CX.seq ?_
    refine CX.region ?_
    refine LX.alloc rfl Gy.zv28 rfl rfl rfl ?_
    intro bp
    refine LX.sub (l' := [(0, _), (2, _), (4, _), (7, _)]) ⟨rfl, rfl, rfl, rfl, trivial⟩ ?_
    refine LX.next ?_
    refine PX.thenN ?_
    refine CX.seq ?_
    refine CX.region ?_
    refine LX.pure (Y.ldB 2 Gv.one157 rfl rfl rfl) rfl rfl rfl ?_
    refine LX.pure (Y.mkFunc rfl rfl) rfl rfl rfl ?_
    refine LX.world (W' := WA w0 base (blk bw (rdC ab b.length cb s ax) 159 :: (gC bp br bw ((none, 0), []) ++ (iS aE s ax ++ (blk b2 [.slice none 0 0, .slice none 0 0, .slice none 0 0, .slice none 0 0] 28 :: fr))))) (fun w hw => ?_) ?_
    · have h1 := (show WA w0 base (blk bp [.slice none 0 0, .slice none 0 0, .slice none 0 0, .slice none 0 0] 28 :: blk bw (rdC ab b.length cb s ax) 159 :: blk br [.pointer (some ⟨bw, 0, none⟩)] 157 :: blk b2 [.slice none 0 0, .slice none 0 0, .slice none 0 0, .slice none 0 0] 28 :: (iS aE s ax ++ fr)) w from hw).nilRow 44 5
      show WA w0 base (blk bw (rdC ab b.length cb s ax) 159 :: blk bp [.slice none 0 0, .slice none 0 0, .slice none 0 0, .slice none 0 0] 28 :: .row none 0 0 44 5 [] :: blk br [.pointer (some ⟨bw, 0, none⟩)] 157 :: (iS aE s ax ++ (blk b2 [.slice none 0 0, .slice none 0 0, .slice none 0 0, .slice none 0 0] 28 :: fr))) w
      exact h1.perm (by (refine perm_cnt fun x => ?_; simp only [cnt_append, cnt_cons, cnt_nil]; omega))
    refine LX.call (many_c hS hb hbn (item := rC b) (G := gC bp br bw) (R := fun t xs => t.2 = xs ∧ ∀ x ∈ t.2, cK x) Gy.en81 (fun t xs a ha hx hR => by obtain ⟨rfl, hR⟩ := hR; exact read1_c hS hb hbn hcb a ha hx hR) ((none, 0), []) ⟨rfl, fun i h => by cases h⟩ s ax hle) Gv.en80 rfl rfl rfl rfl rfl ?_
    rintro ⟨⟨⟨gc, cc⟩, cs⟩, cs', s1, ax1⟩
    refine LX.have fun ⟨h1, l1, hR, n1⟩ => ?_
    obtain ⟨rfl, hck⟩ : cs = cs' ∧ ∀ x ∈ cs, cK x := hR
    try dsimp only
    refine LX.sub (l' := [(0, _), (2, _), (4, _), (7, _)]) ⟨rfl, rfl, rfl, rfl, trivial⟩ ?_
    refine LX.next ?_
    refine PX.thenN ?_
    refine CX.seq ?_
    refine CX.region ?_
    refine LX.pure (Y.ldB 3 Gv.one157 rfl rfl rfl) rfl rfl rfl ?_
    refine LX.call (texts_c hS hb hbn hcb s1 ax1 (gC bp br bw ((gc, cc), cs)) (blk b2 [.slice none 0 0, .slice none 0 0, .slice none 0 0, .slice none 0 0] 28 :: fr) l1) Gw.en84 rfl rfl rfl rfl rfl ?_
    rintro ⟨⟨⟨gg, cg⟩, gs⟩, s2, ax2⟩
    refine LX.have fun ⟨h2, l2, n2⟩ => ?_
    refine LX.pure (Y.fieldAddr0 Fja.fo28_2 rfl) rfl rfl rfl ?_
    refine LX.storeB 1 Gv.sz26 rfl rfl rfl rfl rfl rfl rfl rfl ?_
    refine LX.sub (l' := [(0, _), (2, _), (4, _), (7, _)]) ⟨rfl, rfl, rfl, rfl, trivial⟩ ?_
    refine LX.next ?_
    refine PX.thenN ?_
    refine CX.seq ?_
    refine CX.region ?_
    refine LX.pure (Y.ldB 3 Gv.one157 rfl rfl rfl) rfl rfl rfl ?_
    refine LX.call (texts_c hS hb hbn hcb s2 ax2 (blk bp [.slice none 0 0, rv gc cs.length cc, rv gg gs.length cg, .slice none 0 0] 28 :: .row gc cc cs.length 44 5 (cs.flatMap ndC5) :: blk br [.pointer (some ⟨bw, 0, none⟩)] 157 :: [.row gg cg gs.length 9 1 (gs.map str)]) (blk b2 [.slice none 0 0, .slice none 0 0, .slice none 0 0, .slice none 0 0] 28 :: fr) l2) Gw.en84 rfl rfl rfl rfl rfl ?_
    rintro ⟨⟨⟨gn, cn⟩, ms⟩, s3, ax3⟩
    refine LX.have fun ⟨h3, l3, n3⟩ => ?_
    refine LX.pure (Y.fieldAddr0 Fja.fo28_3 rfl) rfl rfl rfl ?_
    refine LX.storeB 1 Gv.sz26 rfl rfl rfl rfl rfl rfl rfl rfl ?_
    refine LX.sub (l' := [(0, _), (2, _), (4, _), (7, _)]) ⟨rfl, rfl, rfl, rfl, trivial⟩ ?_
    refine LX.next ?_
    refine PX.thenN ?_
    refine CX.seq ?_
    refine CX.region ?_
    refine LX.pure (Y.ldB 3 Gv.one157 rfl rfl rfl) rfl rfl rfl ?_
    refine LX.pure (Y.mkFunc rfl rfl) rfl rfl rfl ?_
    refine LX.world (W' := WA w0 base (blk bw (rdC ab b.length cb s3 ax3) 159 :: (gF bp br bw (rv gc cs.length cc) (rv gg gs.length cg) (rv gn ms.length cn) ((none, 0), [], [], []) ++ (iS aE s3 ax3 ++ (blk b2 [.slice none 0 0, .slice none 0 0, .slice none 0 0, .slice none 0 0] 28 :: .row gn cn ms.length 9 1 (ms.map str) :: .row gg cg gs.length 9 1 (gs.map str) :: .row gc cc cs.length 44 5 (cs.flatMap ndC5) :: fr))))) (fun w hw => ?_) ?_
    · have h1 := (show WA w0 base (blk bw (rdC ab b.length cb s3 ax3) 159 :: blk bp [.slice none 0 0, rv gc cs.length cc, rv gg gs.length cg, rv gn ms.length cn] 28 :: .row gc cc cs.length 44 5 (cs.flatMap ndC5) :: blk br [.pointer (some ⟨bw, 0, none⟩)] 157 :: .row gg cg gs.length 9 1 (gs.map str) :: (.row gn cn ms.length 9 1 (ms.map str) :: iS aE s3 ax3 ++ (blk b2 [.slice none 0 0, .slice none 0 0, .slice none 0 0, .slice none 0 0] 28 :: fr))) w from hw).nilRow 51 6
      show WA w0 base (blk bw (rdC ab b.length cb s3 ax3) 159 :: blk bp [.slice none 0 0, rv gc cs.length cc, rv gg gs.length cg, rv gn ms.length cn] 28 :: .row none 0 0 51 6 [] :: blk br [.pointer (some ⟨bw, 0, none⟩)] 157 :: (iS aE s3 ax3 ++ (blk b2 [.slice none 0 0, .slice none 0 0, .slice none 0 0, .slice none 0 0] 28 :: .row gn cn ms.length 9 1 (ms.map str) :: .row gg cg gs.length 9 1 (gs.map str) :: .row gc cc cs.length 44 5 (cs.flatMap ndC5) :: fr))) w
      exact h1.perm (by (refine perm_cnt fun x => ?_; simp only [cnt_append, cnt_cons, cnt_nil]; omega))
    refine LX.call (many_c hS hb hbn (item := rFn b) (G := gF bp br bw (rv gc cs.length cc) (rv gg gs.length cg) (rv gn ms.length cn)) (R := fun t xs => t.2.1 = xs ∧ FnsF w0 base t.2.2.2 t.2.2.1 t.2.1) Gy.en85 (fun t xs a ha hx hR => by obtain ⟨rfl, hR⟩ := hR; exact read2_c hS hb hbn hcb a ha hx hR) ((none, 0), [], [], []) ⟨rfl, rfl, fun i x h => by cases h⟩ s3 ax3 l3) Gv.en80 rfl rfl rfl rfl rfl ?_
    rintro ⟨⟨⟨gf, cf⟩, fs, cells, rs⟩, fs', s4, ax4⟩
    refine LX.have fun ⟨h4, l4, hR, n4⟩ => ?_
    obtain ⟨rfl, hff⟩ : fs = fs' ∧ FnsF w0 base rs cells fs := hR
    try dsimp only
    refine LX.world (W' := WA w0 base (blk bw (rdC ab b.length cb s4 ax4) 159 :: blk br [.pointer (some ⟨bw, 0, none⟩)] 157 :: blk b2 [.slice none 0 0, .slice none 0 0, .slice none 0 0, .slice none 0 0] 28 :: blk bp [rv gf fs.length cf, rv gc cs.length cc, rv gg gs.length cg, rv gn ms.length cn] 28 :: .row gf cf fs.length 51 6 cells :: ((rs ++ [.row gn cn ms.length 9 1 (ms.map str), .row gg cg gs.length 9 1 (gs.map str), .row gc cc cs.length 44 5 (cs.flatMap ndC5)]) ++ (iS aE s4 ax4 ++ fr)))) (fun w hw => (show WA w0 base (blk bw (rdC ab b.length cb s4 ax4) 159 :: blk bp [rv gf fs.length cf, rv gc cs.length cc, rv gg gs.length cg, rv gn ms.length cn] 28 :: .row gf cf fs.length 51 6 cells :: blk br [.pointer (some ⟨bw, 0, none⟩)] 157 :: (rs ++ (iS aE s4 ax4 ++ (blk b2 [.slice none 0 0, .slice none 0 0, .slice none 0 0, .slice none 0 0] 28 :: .row gn cn ms.length 9 1 (ms.map str) :: .row gg cg gs.length 9 1 (gs.map str) :: .row gc cc cs.length 44 5 (cs.flatMap ndC5) :: fr)))) w from hw).perm (by (refine perm_cnt fun x => ?_; simp only [cnt_append, cnt_cons, cnt_nil]; omega))) ?_
    refine LX.sub (l' := [(0, _), (2, _), (4, _), (7, _)]) ⟨rfl, rfl, rfl, rfl, trivial⟩ ?_
    refine LX.next ?_
    refine PX.thenN ?_
    refine CX.seq ?_
    refine CX.seq ?_
    refine CX.region ?_
    refine LX.pure (Y.ldB 1 Gv.one157 rfl rfl rfl) rfl rfl rfl ?_
    refine LX.pure (Y.nilCheck rfl) rfl rfl rfl ?_
    refine LX.pure (Y.fieldAddr0 Gr.fo159_1 rfl) rfl rfl rfl ?_
    refine LX.pure (Y.ldB 0 Fjb.one3 rfl rfl rfl) rfl rfl rfl ?_
    refine LX.pure (Y.move rfl) rfl rfl rfl ?_
    refine LX.pure (Y.lenSl rfl Gr.un79 rfl) rfl rfl rfl ?_
    refine LX.pure (Y.ltN rfl rfl) rfl rfl rfl ?_
    refine LX.sub (l' := [(2, _), (4, _), (7, _), (50, _)]) ⟨rfl, rfl, rfl, rfl, trivial⟩ ?_
    refine LX.next ?_
    refine PX.thenN ?_
    refine CX.cond rfl (fun hb4 => ?_) (fun hb4 => ?_)
    · try simp at hb4
      have hP := rPg_end hh h1 h2 h3 h4
      refine CX.regionM [(0, .held), (1, .held), (2, .held), (3, .held), (4, .held), (5, .held), (6, .alone)] rfl (by kernel_rfl) ?_
      refine MX.lift1 (i := 0) (pend' := []) rfl (fun w hw => by exact hw) (Y.ldB 1 Gv.one157 rfl rfl rfl) rfl rfl rfl (by kernel_rfl) ?_
      refine MX.lift1 (i := 1) (pend' := [0]) rfl (fun w hw => by exact hw) (Y.ldB 1 Gv.one157 rfl rfl rfl) rfl rfl rfl (by kernel_rfl) ?_
      refine MX.lift1 (i := 2) (pend' := [0]) rfl (fun w hw => by exact hw) (Y.nilCheck rfl) rfl rfl rfl (by kernel_rfl) ?_
      refine MX.lift1 (i := 3) (pend' := [0]) rfl (fun w hw => by exact hw) (Y.fieldAddr0 Gr.fo159_1 rfl) rfl rfl rfl (by kernel_rfl) ?_
      refine MX.lift1 (i := 4) (pend' := [0]) rfl (fun w hw => by exact hw) (Y.ldB 0 Fjb.one3 rfl rfl rfl) rfl rfl rfl (by kernel_rfl) ?_
      refine MX.lift1 (i := 5) (pend' := [4, 0]) rfl (fun w hw => by exact hw) (Y.ldO Gr.one30 rfl (hS.at_ 12 1 rfl) (hS.lt 1 (by decide))) rfl rfl rfl (by kernel_rfl) ?_
      refine MX.force (i := 6) rfl ?_
      refine LX.call (fault_g (aE := aE) s4 ax4 s4.at_ 12 (blk br [.pointer (some ⟨bw, 0, none⟩)] 157 :: blk b2 [.slice none 0 0, .slice none 0 0, .slice none 0 0, .slice none 0 0] 28 :: blk bp [rv gf fs.length cf, rv gc cs.length cc, rv gg gs.length cg, rv gn ms.length cn] 28 :: .row gf cf fs.length 51 6 cells :: (rs ++ [.row gn cn ms.length 9 1 (ms.map str), .row gg cg gs.length 9 1 (gs.map str), .row gc cc cs.length 44 5 (cs.flatMap ndC5)])) fr) Gr.en79 rfl rfl rfl rfl rfl ?_
      intro ax5
      refine LX.nextM [] (by kernel_rfl) (fun h => absurd rfl h) ?_
      refine MX.sub (l' := [(2, _), (4, _), (7, _)]) ⟨rfl, rfl, rfl, trivial⟩ ?_
      refine MX.done ?_
      refine PX.thenN ?_
      refine CX.seq ?_
      refine CX.seq ?_
      refine CX.region ?_
      refine LX.pure (Y.ldB 1 Gv.one157 rfl rfl rfl) rfl rfl rfl ?_
      refine LX.pure (Y.nilCheck rfl) rfl rfl rfl ?_
      refine LX.pure (Y.fieldAddr0 Gr.fo159_2 rfl) rfl rfl rfl ?_
      refine LX.pure (Y.ldB 0 Gr.one30 rfl rfl rfl) rfl rfl rfl ?_
      refine LX.pure (Y.sNe rfl) rfl rfl rfl ?_
      refine LX.sub (l' := [(2, _), (4, _), (7, _), (62, _)]) ⟨rfl, rfl, rfl, rfl, trivial⟩ ?_
      refine LX.next ?_
      refine PX.thenN ?_
      refine CX.cond rfl (fun hb5 => ?_) (fun hb5 => ?_)
      · try simp at hb5
        refine CX.seq ?_
        refine CX.regionS (WA w0 base (blk bw (rdC ab b.length cb (s4.fail 12 s4.at_) ax5) 159 :: [blk br [.pointer (some ⟨bw, 0, none⟩)] 157])) [(0, .anywhere), (1, .held), (2, .held), (3, .held), (4, .held), (5, .alone), (6, .alone)] rfl (by kernel_rfl) ?_
        refine MX.lift0 (i := 0) rfl (Y.build (v := .agg #[.slice none 0 0, .slice none 0 0, .slice none 0 0, .slice none 0 0]) rfl (fun _ => by kernel_rfl)) rfl rfl rfl ?_
        refine MX.lift1 (i := 1) (pend' := []) rfl (fun w hw => by exact hw.drop (.cons_cons _ (.cons_cons _ (List.nil_sublist _)))) (Y.ldB 1 Gv.one157 rfl rfl rfl) rfl rfl rfl (by kernel_rfl) ?_
        refine MX.lift1 (i := 2) (pend' := []) rfl (fun w hw => by exact hw.drop (.cons_cons _ (.cons_cons _ (List.nil_sublist _)))) (Y.nilCheck rfl) rfl rfl rfl (by kernel_rfl) ?_
        refine MX.lift1 (i := 3) (pend' := []) rfl (fun w hw => by exact hw.drop (.cons_cons _ (.cons_cons _ (List.nil_sublist _)))) (Y.fieldAddr0 Gr.fo159_2 rfl) rfl rfl rfl (by kernel_rfl) ?_
        refine MX.lift1 (i := 4) (pend' := []) rfl (fun w hw => by exact hw.drop (.cons_cons _ (.cons_cons _ (List.nil_sublist _)))) (Y.ldB 0 Gr.one30 rfl rfl rfl) rfl rfl rfl (by kernel_rfl) ?_
        refine MX.force (i := 5) rfl ?_
        refine LX.storeA 2 Gy.ag28 rfl rfl rfl rfl rfl rfl rfl rfl rfl ?_
        refine LX.nextM [4] (by kernel_rfl) (fun _ => (fun w hw => by exact hw.drop (.cons_cons _ (.cons_cons _ (List.nil_sublist _))))) ?_
        refine MX.force (i := 6) rfl ?_
        refine LX.pure (Y.assign rfl) rfl rfl rfl ?_
        refine LX.nextM [] (by kernel_rfl) (fun h => absurd rfl h) ?_
        refine MX.sub (l' := [(2, _), (3, _), (7, _)]) ⟨rfl, rfl, rfl, trivial⟩ ?_
        refine MX.done ?_
        refine PX.thenN ?_
        refine CX.ret ?_
        refine PX.thenR ?_
        refine PX.retA2 (i := 2) (by simp) Tryz.results32 Gy.ag28 rfl rfl rfl rfl ?_
        exact fun w hw => ⟨(cxNil, ⟨[], [], [], []⟩, (s4.fail 12 s4.at_).e, ax5), rfl, ⟨end_bad hP (by omega), fun _ => rfl⟩, ck_nil, hw.drop (.cons _ (.cons _ (.cons _ (.cons _ (.cons _ (List.sublist_append_right _ _))))))⟩
      · try simp at hb5
        exact absurd (by assumption) (fail_e s4 12 s4.at_)
    · try simp at hb4
      refine CX.skip ?_
      refine PX.thenN ?_
      refine CX.seq ?_
      refine CX.seq ?_
      refine CX.region ?_
      refine LX.pure (Y.ldB 1 Gv.one157 rfl rfl rfl) rfl rfl rfl ?_
      refine LX.pure (Y.nilCheck rfl) rfl rfl rfl ?_
      refine LX.pure (Y.fieldAddr0 Gr.fo159_2 rfl) rfl rfl rfl ?_
      refine LX.pure (Y.ldB 0 Gr.one30 rfl rfl rfl) rfl rfl rfl ?_
      refine LX.pure (Y.sNe rfl) rfl rfl rfl ?_
      refine LX.sub (l' := [(2, _), (4, _), (7, _), (62, _)]) ⟨rfl, rfl, rfl, rfl, trivial⟩ ?_
      refine LX.next ?_
      refine PX.thenN ?_
      refine CX.cond rfl (fun hb6 => ?_) (fun hb6 => ?_)
      · try simp at hb6
        have hP := rPg_end hh h1 h2 h3 h4
        refine CX.seq ?_
        refine CX.regionS (WA w0 base (blk bw (rdC ab b.length cb s4 ax4) 159 :: [blk br [.pointer (some ⟨bw, 0, none⟩)] 157])) [(0, .anywhere), (1, .held), (2, .held), (3, .held), (4, .held), (5, .alone), (6, .alone)] rfl (by kernel_rfl) ?_
        refine MX.lift0 (i := 0) rfl (Y.build (v := .agg #[.slice none 0 0, .slice none 0 0, .slice none 0 0, .slice none 0 0]) rfl (fun _ => by kernel_rfl)) rfl rfl rfl ?_
        refine MX.lift1 (i := 1) (pend' := []) rfl (fun w hw => by exact hw.drop (.cons_cons _ (.cons_cons _ (List.nil_sublist _)))) (Y.ldB 1 Gv.one157 rfl rfl rfl) rfl rfl rfl (by kernel_rfl) ?_
        refine MX.lift1 (i := 2) (pend' := []) rfl (fun w hw => by exact hw.drop (.cons_cons _ (.cons_cons _ (List.nil_sublist _)))) (Y.nilCheck rfl) rfl rfl rfl (by kernel_rfl) ?_
        refine MX.lift1 (i := 3) (pend' := []) rfl (fun w hw => by exact hw.drop (.cons_cons _ (.cons_cons _ (List.nil_sublist _)))) (Y.fieldAddr0 Gr.fo159_2 rfl) rfl rfl rfl (by kernel_rfl) ?_
        refine MX.lift1 (i := 4) (pend' := []) rfl (fun w hw => by exact hw.drop (.cons_cons _ (.cons_cons _ (List.nil_sublist _)))) (Y.ldB 0 Gr.one30 rfl rfl rfl) rfl rfl rfl (by kernel_rfl) ?_
        refine MX.force (i := 5) rfl ?_
        refine LX.storeA 2 Gy.ag28 rfl rfl rfl rfl rfl rfl rfl rfl rfl ?_
        refine LX.nextM [4] (by kernel_rfl) (fun _ => (fun w hw => by exact hw.drop (.cons_cons _ (.cons_cons _ (List.nil_sublist _))))) ?_
        refine MX.force (i := 6) rfl ?_
        refine LX.pure (Y.assign rfl) rfl rfl rfl ?_
        refine LX.nextM [] (by kernel_rfl) (fun h => absurd rfl h) ?_
        refine MX.sub (l' := [(2, _), (3, _), (7, _)]) ⟨rfl, rfl, rfl, trivial⟩ ?_
        refine MX.done ?_
        refine PX.thenN ?_
        refine CX.ret ?_
        refine PX.thenR ?_
        refine PX.retA2 (i := 2) (by simp) Tryz.results32 Gy.ag28 rfl rfl rfl rfl ?_
        exact fun w hw => ⟨(cxNil, ⟨[], [], [], []⟩, s4.e, ax4), rfl, ⟨end_err hP hb6, fun _ => rfl⟩, ck_nil, hw.drop (.cons _ (.cons _ (.cons _ (.cons _ (.cons _ (List.sublist_append_right _ _))))))⟩
      · try simp at hb6
        have hP := rPg_end hh h1 h2 h3 h4
        refine CX.skip ?_
        refine PX.thenN ?_
        refine CX.seq ?_
        refine CX.region ?_
        refine LX.pure (Y.ldAggB (vs := [rv gf fs.length cf, rv gc cs.length cc, rv gg gs.length cg, rv gn ms.length cn]) 3 Gy.ag28 rfl rfl rfl rfl) rfl rfl rfl ?_
        refine LX.storeA 2 Gy.ag28 rfl rfl rfl rfl rfl rfl rfl rfl rfl ?_
        refine LX.pure (Y.assign rfl) rfl rfl rfl ?_
        refine LX.sub (l' := [(2, _), (3, _)]) ⟨rfl, rfl, trivial⟩ ?_
        refine LX.next ?_
        refine PX.thenN ?_
        refine CX.ret ?_
        refine PX.retA2 (i := 2) (by simp) Tryz.results32 Gy.ag28 rfl rfl rfl rfl ?_
        refine fun w hw0 => ?_
        have hw : WA w0 base (blk bw (rdC ab b.length cb s4 ax4) 159 :: blk br [.pointer (some ⟨bw, 0, none⟩)] 157 :: blk b2 [rv gf fs.length cf, rv gc cs.length cc, rv gg gs.length cg, rv gn ms.length cn] 28 :: blk bp [rv gf fs.length cf, rv gc cs.length cc, rv gg gs.length cg, rv gn ms.length cn] 28 :: .row gf cf fs.length 51 6 cells :: ((rs ++ [.row gn cn ms.length 9 1 (ms.map str), .row gg cg gs.length 9 1 (gs.map str), .row gc cc cs.length 44 5 (cs.flatMap ndC5)]) ++ (iS aE s4 ax4 ++ fr))) w := hw0
        exact ⟨(⟨gf.map fun z => ⟨z, 0, none⟩, gc.map fun z => ⟨z, 0, none⟩, gg.map fun z => ⟨z, 0, none⟩, gn.map fun z => ⟨z, 0, none⟩, none, none, cf, cc, cg, cn, 0, 0⟩, ⟨fs, cs, gs, ms⟩, none, 0), rfl, ⟨end_ok hP hb6 (Nat.not_lt.2 hb4), fun h => absurd rfl h⟩, ⟨hff.lies hw (fun it hit => by simp [hit]) (j := 4) rfl, nds_M hw (e := 44) (c := cc) (g := gc) (by simp) hck, texts_M hw (e := 9) (c := cg) (g := gg) (by simp), texts_M hw (e := 9) (c := cn) (g := gn) (by simp), fun i x h => (by cases h), fun i x h => (by cases h), ⟨inI0, inI0, inI0⟩⟩, hw.drop (.cons _ (.cons _ (.cons _ (.cons _ (.cons _ ((List.sublist_append_right _ _).trans (List.sublist_append_right _ _)))))))⟩
end Go.Proofs.YtgijpgkckiknjaaGreatDoor
