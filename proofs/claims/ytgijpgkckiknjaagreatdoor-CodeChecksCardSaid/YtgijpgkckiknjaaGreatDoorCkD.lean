/-
  Proved here: what constants may be.
-/
import Derived.Test.YtgijpgkckiknjaaGreatDoorTrJ
import Derived.Test.YtgijpgkckiknjaaGreatDoorTrL
import Derived.Test.YtgijpgkckiknjaaGreatDoorCkS
namespace Go.Proofs.YtgijpgkckiknjaaGreatDoor
open Go.SX Go.RowKit Go.Ck Go.Lex
namespace Fq
theorem en62 : Enters Tryz.prog 62 := Enters.of Tryz.func62 (by kernel_rfl) (by kernel_rfl)
theorem fa44_2 : FieldOffA Tryz.prog 44 2 2 := fun a w => by kernel_rfl
theorem fo44_2 : FieldOff Tryz.prog 44 2 2 := fun b o w => by kernel_rfl
theorem un30 : Tryz.prog.underlying 30 = some (.interface #[("Error", 164)]) := by kernel_rfl
end Fq
open Go.Tr (ndA leafL leaf_valid row_at EnvV)
theorem EnvV.push {w0 w : World} {base : Nat} {its : List It} {g : Nat} {e : Value} (h : EnvV w0 base g e) (hw : WA w0 base its w) : EnvV w w.heap.size g e := ⟨hw.old h.lt h.at_, Nat.lt_of_lt_of_le h.lt hw.fits, h.one⟩
theorem Y.errNil {l : Fr} {W : World → Prop} {x : Operand} {ty ty2 : TypeId} {r : Option Nat} {b : Nat} (hx : evl l x = some (vE r b)) : Y Tryz.prog l W (.binOp .eql 30 x (.const .nilIface) ty2) ty (.bool (decide (r = none))) := by
  cases r with
  | none => exact Y.eqNilNil Fq.un30 hx
  | some i => exact Y.eqNil Fq.un30 hx rfl
/-- nodes are looked at, wherever they lie -/
theorem valid_w {W : World → Prop} [Stab W] {al : Option Addr} (cl : Nat) {l : List Nd} (hl : ∀ w, W w → SlAt 5 ndA (Lies w w.heap.size) al l) (hln : l.length ≤ 1048576) (hkb : ∀ (k : Nat) (x : Nd), l[k]? = some x → x.kids.length ≤ 1048576) (hsb : ∀ (k : Nat) (x : Nd), l[k]? = some x → x.s.length ≤ 9223372036854775807) {eS : Value} (hE : ∀ w, W w → EnvV w w.heap.size 1 eS) :
    FnC Tryz.prog 62 #[.slice al l.length cl] W (fun b : Nat => vE (Tr.valid l nameB) b) (fun _ => W) :=
  FnC.re fun w hw w1 h1 => (Go.Proofs.YtgijpgkckiknjaaGreatDoor.valid_c cl (hl w hw) hln hkb hsb (hE w hw) w1 h1).mono fun e w2 ⟨b, he, h2⟩ => ⟨b, he, h2.drop (List.nil_sublist _)⟩
theorem one_int {w0 w : World} {base : Nat} {its : List It} (hw : WA w0 base its w) {j g : Nat} {z : Int} (h : its[j]? = some (.row (some g) 1 1 3 1 [.int .i64 z])) (hz : inI z) : SlA 1 intA (Lies w w.heap.size) (.slice (some ⟨g, 0, none⟩) 1 1) [z] :=
  ⟨_, 1, rfl, ⟨Nat.le_of_ble_eq_true rfl, Nat.le_refl _⟩, row_at hw h rfl (by decide) (fun i y hy => by
    match i, hy with
    | 0, hy => cases hy; exact ⟨rfl, hz⟩)⟩
theorem leaf_at {w0 w : World} {base : Nat} {its : List It} (hw : WA w0 base its w) {j0 j1 j2 g g1 g2 : Nat} {x : Nd} {vk : Value} (h0 : its[j0]? = some (.row (some g) 3 3 44 5 [.int .i64 x.op, .int .i64 x.n, .int .i64 0, str x.s, vk, .int .i64 35, .int .i64 0, .int .i64 0, str [], .slice (some ⟨g1, 0, none⟩) 1 1, .int .i64 47, .int .i64 0, .int .i64 0, str [], .slice (some ⟨g2, 0, none⟩) 1 1])) (h1 : its[j1]? = some (.row (some g1) 1 1 3 1 [.int .i64 0])) (h2 : its[j2]? = some (.row (some g2) 1 1 3 1 [.int .i64 1]))
    (hks : SlA 1 intA (Lies w0 base) vk x.kids) (hin : inI x.op ∧ inI x.n) : SlAt 5 ndA (Lies w w.heap.size) (some ⟨g, 0, none⟩) (leafL x.op x.n x.s x.kids) := by
  refine row_at (xs := leafL x.op x.n x.s x.kids) hw h0 rfl (by decide) (fun i y hy => ?_)
  match i, hy with
  | 0, hy => cases hy; exact ⟨vk, rfl, hks.mono (fun _ _ q => q.push hw), hin.1, hin.2, show inI 0 by constructor <;> decide⟩
  | 1, hy => cases hy; exact ⟨_, rfl, one_int hw h1 (by constructor <;> decide), by constructor <;> decide, by constructor <;> decide, by constructor <;> decide⟩
  | 2, hy => cases hy; exact ⟨_, rfl, one_int hw h2 (by constructor <;> decide), by constructor <;> decide, by constructor <;> decide, by constructor <;> decide⟩
theorem leaf_c {w0 : World} {base : Nat} {fr : List It} {x : Nd} {cs : List Value} (hx : ndA (Lies w0 base) cs x) (hkb : x.kids.length ≤ 1048576) (hxs : x.s.length ≤ 9223372036854775807) {eS : Value} (hE : EnvV w0 base 1 eS) : FnC Tryz.prog 111 #[.agg cs.toArray] (WA w0 base fr) (fun _ : Unit => .bool (decide (leafOk x))) (fun _ => WA w0 base fr) := by
  obtain ⟨vk, rfl, hks, hin⟩ := hx
  refine FnC.of_body (fn := Tryz.f111) [(0, _)] Tryz.func111 rfl Tryz.ntmps111 rfl ⟨rfl, trivial⟩ ?_
  refine CX.seq ?_
  refine CX.region ?_
  refine LX.box rfl rfl rfl rfl rfl ?_
  intro bx0
  refine LX.pure (Y.assign rfl) rfl rfl rfl ?_
  refine LX.sub (l' := [(1, _), (2, _)]) ⟨rfl, rfl, trivial⟩ ?_
  refine LX.next ?_
  refine PX.thenN ?_
  refine CX.seq ?_
  refine CX.seq ?_
  refine CX.region ?_
  refine LX.pure (Y.fieldAddr0 Ft.fo44_0 rfl) rfl rfl rfl ?_
  refine LX.pure (Y.ldB 0 Ft.one3 rfl rfl rfl) rfl rfl rfl ?_
  refine LX.sub (l' := [(1, _), (2, _), (4, _)]) ⟨rfl, rfl, rfl, trivial⟩ ?_
  refine LX.next ?_
  refine PX.thenN ?_
  refine CX.block ?_
  refine CX.sub (l' := [(1, _), (2, _), (4, _)]) ⟨rfl, rfl, rfl, trivial⟩ ?_
  apply CX.seqSw 5
  ·
    refine CX.seq ?_
    refine CX.region ?_
    refine LX.pure (Y.eqI rfl rfl) rfl rfl rfl ?_
    refine LX.pure (Y.assign rfl) rfl rfl rfl ?_
    refine LX.next ?_
    refine PX.thenN ?_
    apply CX.swOr
    · rfl
    · exact ⟨rfl, rfl, rfl, rfl, trivial⟩
    intro hb1
    try simp at hb1
    refine CX.seq ?_
    refine CX.region ?_
    refine LX.pure (Y.eqI rfl rfl) rfl rfl rfl ?_
    refine LX.pure (Y.assign rfl) rfl rfl rfl ?_
    refine LX.next ?_
    refine PX.thenN ?_
    apply CX.swOr
    · rfl
    · exact ⟨rfl, rfl, rfl, rfl, trivial⟩
    intro hb2
    try simp at hb2
    refine CX.seq ?_
    refine CX.region ?_
    refine LX.pure (Y.eqI rfl rfl) rfl rfl rfl ?_
    refine LX.pure (Y.assign rfl) rfl rfl rfl ?_
    refine LX.next ?_
    refine PX.thenN ?_
    apply CX.swOr
    · rfl
    · exact ⟨rfl, rfl, rfl, rfl, trivial⟩
    intro hb3
    try simp at hb3
    refine CX.seq ?_
    refine CX.region ?_
    refine LX.pure (Y.eqI rfl rfl) rfl rfl rfl ?_
    refine LX.pure (Y.assign rfl) rfl rfl rfl ?_
    refine LX.next ?_
    refine PX.thenN ?_
    apply CX.swOr
    · rfl
    · exact ⟨rfl, rfl, rfl, rfl, trivial⟩
    intro hb4
    try simp at hb4
    refine CX.region ?_
    refine LX.pure (Y.eqI rfl rfl) rfl rfl rfl ?_
    refine LX.pure (Y.assign rfl) rfl rfl rfl ?_
    refine LX.next ?_
    exact PX.sw ⟨rfl, rfl, rfl, rfl, trivial⟩
  refine CX.cond rfl (fun hb5 => ?_) (fun hb5 => ?_)
  · try simp at hb5
    refine CX.seq ?_
    refine CX.region ?_
    refine LX.pure (Y.fieldAddr0 Fq.fo44_2 rfl) rfl rfl rfl ?_
    refine LX.storeB 0 Ft.sz3 rfl rfl rfl rfl rfl rfl rfl rfl ?_
    refine LX.sub (l' := [(1, _), (2, _)]) ⟨rfl, rfl, trivial⟩ ?_
    refine LX.next ?_
    refine PX.thenN ?_
    refine CX.seq ?_
    refine CX.region ?_
    refine LX.pure (Y.ldAggB 0 Ft.ag44 rfl rfl rfl rfl) rfl rfl rfl ?_
    refine LX.buildSlice (e := 3) (size := 1) rfl rfl (fun _ => by kernel_rfl) rfl (by decide) rfl rfl rfl ?_
    intro gt13
    refine LX.pure (Y.build (v := .agg #[.int .i64 35, .int .i64 0, .int .i64 0, str [], .slice (some ⟨gt13, 0, none⟩) 1 1]) rfl (fun _ => by kernel_rfl)) rfl rfl rfl ?_
    refine LX.buildSlice (e := 3) (size := 1) rfl rfl (fun _ => by kernel_rfl) rfl (by decide) rfl rfl rfl ?_
    intro gt15
    refine LX.pure (Y.build (v := .agg #[.int .i64 47, .int .i64 0, .int .i64 0, str [], .slice (some ⟨gt15, 0, none⟩) 1 1]) rfl (fun _ => by kernel_rfl)) rfl rfl rfl ?_
    refine LX.buildSlice (e := 44) (size := 5) rfl rfl (fun _ => by kernel_rfl) rfl (by decide) rfl rfl rfl ?_
    intro gt17
    refine LX.call (valid_w (al := some ⟨gt17, 0, none⟩) 3 (l := leafL x.op x.n x.s x.kids) (fun w hw => leaf_at (j0 := 0) (j1 := 2) (j2 := 1) (vk := vk) hw rfl rfl rfl hks ⟨hin.1, hin.2.1⟩) (show 3 ≤ 1048576 by decide) (fun k y hy => by
        match k, hy with
        | 0, hy => cases hy; exact hkb
        | 1, hy => cases hy; exact (by decide : 1 ≤ 1048576)
        | 2, hy => cases hy; exact (by decide : 1 ≤ 1048576)) (fun k y hy => by
        match k, hy with
        | 0, hy => cases hy; exact hxs
        | 1, hy => cases hy; exact Nat.zero_le _
        | 2, hy => cases hy; exact Nat.zero_le _) (fun w hw => EnvV.push hE hw)) Fq.en62 rfl rfl rfl rfl rfl ?_
    intro bV
    refine LX.pure (Y.errNil rfl) rfl rfl rfl ?_
    refine LX.pure (Y.assign rfl) rfl rfl rfl ?_
    refine LX.sub (l' := [(2, _)]) ⟨rfl, trivial⟩ ?_
    refine LX.next ?_
    refine PX.thenN ?_
    refine CX.ret ?_
    refine PX.blockR ?_
    refine PX.thenR ?_
    refine PX.ret1 (by simp) Tryz.results111 rfl ?_
    exact fun w hw => ⟨(), congrArg (fun z => Ending.returned (Value.bool z)) (decide_eq_decide.2 (leaf_valid (by omega))), hw.drop (.cons _ (.cons _ (.cons _ (.cons _ (List.Sublist.refl _)))))⟩
  · try simp at hb5
    refine CX.skip ?_
    refine PX.blockN ?_
    refine PX.thenN ?_
    refine CX.seq ?_
    refine CX.region ?_
    refine LX.pure (Y.assign rfl) rfl rfl rfl ?_
    refine LX.sub (l' := [(2, _)]) ⟨rfl, trivial⟩ ?_
    refine LX.next ?_
    refine PX.thenN ?_
    refine CX.ret ?_
    refine PX.ret1 (by simp) Tryz.results111 rfl ?_
    exact fun w hw => ⟨(), congrArg (fun z => Ending.returned (Value.bool z)) (decide_eq_false (by rintro ⟨_, _, (⟨h, _⟩ | ⟨h, _⟩ | h)⟩ <;> omega)).symm, hw.drop (List.sublist_cons_self _ _)⟩
theorem bad_c {w0 : World} {base : Nat} {fr : List It} {eS : Value} (hE : EnvV w0 base 1 eS) (z : Int) : FnC Tryz.prog 47 #[.int .i64 z] (WA w0 base fr) (fun b : Nat => atE b) (fun b => WA w0 base (blk b [.int .i64 z, eS] 138 :: fr)) := by
  refine FnC.of_body (fn := Tryz.f47) [(0, _)] Tryz.func47 rfl Tryz.ntmps47 rfl ⟨rfl, trivial⟩ ?_
  refine CX.seq ?_
  refine CX.region ?_
  refine LX.pure (Y.assign rfl) rfl rfl rfl ?_
  refine LX.sub (l' := [(0, _), (2, _)]) ⟨rfl, rfl, trivial⟩ ?_
  refine LX.next ?_
  refine PX.thenN ?_
  refine CX.seq ?_
  refine CX.region ?_
  refine LX.pure (Y.move rfl) rfl rfl rfl ?_
  refine LX.pure (Y.ldO Fzc.one30 rfl hE.at_ hE.lt) rfl rfl rfl ?_
  refine LX.pure (Y.build (v := .agg #[.int .i64 z, eS]) rfl (build_at hE.one _)) rfl rfl rfl ?_
  refine LX.box rfl rfl rfl rfl rfl ?_
  intro bx4
  refine LX.pure (Y.mkI Fzc.ni136 rfl) rfl rfl rfl ?_
  refine LX.pure (Y.assign rfl) rfl rfl rfl ?_
  refine LX.sub (l' := [(2, _)]) ⟨rfl, trivial⟩ ?_
  refine LX.next ?_
  refine PX.thenN ?_
  refine CX.ret ?_
  refine PX.ret1 (by simp) Tryz.results47 rfl ?_
  exact fun w hw => ⟨_, rfl, hw⟩
end Go.Proofs.YtgijpgkckiknjaaGreatDoor
