/-
  Proved here: a Dict that is told something.
-/
import Derived.Test.YtifanilblkellaaGreatDoorDdG
import Derived.Test.YtifanilblkellaaGreatDoorProg
namespace Go.Proofs.YtifanilblkellaaGreatDoor
open Go.SX Go.RowKit Go.Vo Go.Ss Go.Proofs.YtifanilblkellaaGreatDoor.Env Go.Proofs.YtifanilblkellaaGreatDoor.Bsf
namespace Dq
theorem en36 : Enters Tryz.prog 36 := Enters.of Tryz.func36 (by kernel_rfl) (by kernel_rfl)
theorem en37 : Enters Tryz.prog 37 := Enters.of Tryz.func37 (by kernel_rfl) (by kernel_rfl)
theorem fo76_1 : FieldOff Tryz.prog 76 1 0 := fun b o w => by kernel_rfl
theorem fo76_2 : FieldOff Tryz.prog 76 2 1 := fun b o w => by kernel_rfl
theorem fo76_3 : FieldOff Tryz.prog 76 3 2 := fun b o w => by kernel_rfl
theorem fo76_4 : FieldOff Tryz.prog 76 4 3 := fun b o w => by kernel_rfl
theorem fo91_2 : FieldOff Tryz.prog 91 2 2 := fun b o w => by kernel_rfl
theorem one31 : One Tryz.prog 31 := fun w => by kernel_rfl
theorem one71 : One Tryz.prog 71 := fun w => by kernel_rfl
theorem one74 : One Tryz.prog 74 := fun w => by kernel_rfl
theorem sz31 : SizeIs Tryz.prog 31 1 := fun w => by kernel_rfl
theorem sz74 : SizeIs Tryz.prog 74 1 := fun w => by kernel_rfl
theorem un71 : Tryz.prog.underlying 71 = some (.map 9 89) := by kernel_rfl
theorem un74 : Tryz.prog.underlying 74 = some (.slice 89) := by kernel_rfl
theorem un89 : Tryz.prog.underlying 89 = some (.pointer 91) := by kernel_rfl
theorem un9 : Tryz.prog.underlying 9 = some .string := by kernel_rfl
theorem el74 : Elem Tryz.prog 74 89 1 8 := Elem.of un74 (z := .pointer none) (by kernel_rfl) rfl
end Dq
theorem loose_c {w0 : World} {base : Nat} {fr : List It} {d : Nat} {x y : Value} {fz : Bool} : FnC Tryz.prog 37 #[.pointer (some ⟨d, 0, none⟩)] (WA w0 base (blk d [x, y, .bool fz, .int .i64 0] 76 :: fr)) (fun _ : Unit => .bool (!fz)) (fun _ => WA w0 base (blk d [x, y, .bool fz, .int .i64 0] 76 :: fr)) := by
  refine FnC.of_body (fn := Tryz.f37) [(0, _)] Tryz.func37 rfl Tryz.ntmps37 rfl ⟨rfl, trivial⟩ ?_
  refine CX.seq ?_
  refine CX.region ?_
  refine LX.pure (Y.assign rfl) rfl rfl rfl ?_
  refine LX.sub (l' := [(0, _), (2, _)]) ⟨rfl, rfl, trivial⟩ ?_
  refine LX.next ?_
  refine PX.thenN ?_
  refine CX.seq ?_
  refine CX.region ?_
  refine LX.pure (Y.move rfl) rfl rfl rfl ?_
  refine LX.pure (Y.nilCheck rfl) rfl rfl rfl ?_
  first
    | refine LX.pure (Y.fieldAddr0 Dq.fo76_3 rfl) rfl rfl rfl ?_
    | refine LX.pure (Y.fieldAddr Dq.fo76_3 rfl) rfl rfl rfl ?_
  first
    | refine LX.pure (Y.ldB 0 Fo.one4 rfl rfl rfl) rfl rfl rfl ?_
    | refine LX.pure (Y.ldB 1 Fo.one4 rfl rfl rfl) rfl rfl rfl ?_
    | refine LX.pure (Y.ldB 2 Fo.one4 rfl rfl rfl) rfl rfl rfl ?_
  refine LX.pure (Y.not rfl) rfl rfl rfl ?_
  refine LX.pure (Y.move rfl) rfl rfl rfl ?_
  refine LX.sub (l' := [(0, _), (2, _), (8, _)]) ⟨rfl, rfl, rfl, trivial⟩ ?_
  apply LX.joinAnd 6 14 8 rfl
  · intro hb1
    have hb1p := hb1
    try simp at hb1p
    refine LX.gT rfl rfl rfl hb1 (Y.move rfl) rfl rfl ?_
    refine LX.gT rfl rfl rfl hb1 (Y.nilCheck rfl) rfl rfl ?_
    first
      | refine LX.gT rfl rfl rfl hb1 (Y.fieldAddr0 Dq.fo76_4 rfl) rfl rfl ?_
      | refine LX.gT rfl rfl rfl hb1 (Y.fieldAddr Dq.fo76_4 rfl) rfl rfl ?_
    first
      | refine LX.gT rfl rfl rfl hb1 (Y.ldB 0 Fo.one3 rfl rfl rfl) rfl rfl ?_
      | refine LX.gT rfl rfl rfl hb1 (Y.ldB 1 Fo.one3 rfl rfl rfl) rfl rfl ?_
      | refine LX.gT rfl rfl rfl hb1 (Y.ldB 2 Fo.one3 rfl rfl rfl) rfl rfl ?_
    first
      | refine LX.gT rfl rfl rfl hb1 (Y.eqN rfl rfl) rfl rfl ?_
      | refine LX.gT rfl rfl rfl hb1 (Y.eqI rfl rfl) rfl rfl ?_
    refine LX.pure (Y.pickT rfl hb1 rfl) rfl rfl rfl ?_
    exact LX.left ⟨rfl, rfl, rfl, rfl, trivial⟩
  · intro hb1
    have hb1p := hb1
    try simp at hb1p
    refine LX.gF rfl rfl rfl hb1 rfl rfl ?_
    refine LX.gF rfl rfl rfl hb1 rfl rfl ?_
    refine LX.gF rfl rfl rfl hb1 rfl rfl ?_
    refine LX.gF rfl rfl rfl hb1 rfl rfl ?_
    refine LX.gF rfl rfl rfl hb1 rfl rfl ?_
    refine LX.pure (Y.pickF rfl hb1 rfl) rfl rfl rfl ?_
    exact LX.left ⟨rfl, rfl, rfl, rfl, trivial⟩
  refine LX.pure (Y.assign rfl) rfl rfl rfl ?_
  refine LX.sub (l' := [(2, _)]) ⟨rfl, trivial⟩ ?_
  refine LX.next ?_
  refine PX.thenN ?_
  refine CX.ret ?_
  refine PX.ret1 (by simp) Tryz.results37 rfl ?_
  exact fun w hw => ⟨(), by cases fz <;> rfl, hw⟩
theorem set_old {w0 : World} {base : Nat} {fr : List It} {aE : Nat → Addr} (hS : EnvS w0 base aE) {d bm ce ck : Nat} {ge : Option Nat} {es : List En} {bs : List Nat} (hD : Dk es bs ck) {k : Nat} (hk : k < 12) {kv : Value} (hK : ∀ w, WA w0 base (DI d ge ce bm false es bs ck fr) w → KW k kv w) {i : Nat} {e : En} (hi : es[i]? = some e) (he : e.k = k) {v : Int} {vt : TypeId} {vx : Value} : FnC Tryz.prog 12 #[.pointer (some ⟨d, 0, none⟩), kv, .iface vt vx] (WA w0 base (DI d ge ce bm false es bs ck fr)) (fun _ : Unit => .nilIface) (fun _ => WA w0 base (DI d ge ce bm false (es.set i ⟨e.k, v, e.eb, e.kv, .iface vt vx⟩) bs ck fr)) := by
  have hkey : (keysE es)[i]? = some (keyT k) := by rw [← he]; exact keysE_at hi
  have hlt := (List.getElem?_eq_some_iff.1 hi).1
  refine FnC.of_body (fn := Tryz.f12) [(0, _), (1, _), (2, _)] Tryz.func12 rfl Tryz.ntmps12 rfl ⟨rfl, rfl, rfl, trivial⟩ ?_
  refine CX.seq ?_
  refine CX.region ?_
  refine LX.pure (Y.assign rfl) rfl rfl rfl ?_
  refine LX.sub (l' := [(0, _), (1, _), (2, _), (6, _)]) ⟨rfl, rfl, rfl, rfl, trivial⟩ ?_
  refine LX.next ?_
  refine PX.thenN ?_
  refine CX.seq ?_
  refine CX.region ?_
  refine LX.pure (Y.move rfl) rfl rfl rfl ?_
  refine LX.callQ (key_q (fun w hw => push hS hw) hk hK) Dq.en36 rfl rfl rfl rfl rfl ?_
  refine LX.pure (Y.move rfl) rfl rfl rfl ?_
  refine LX.pure (Y.extract rfl rfl) rfl rfl rfl ?_
  refine LX.pure (Y.extract rfl rfl) rfl rfl rfl ?_
  refine LX.pure (Y.assign rfl) rfl rfl rfl ?_
  refine LX.pure (Y.assign rfl) rfl rfl rfl ?_
  refine LX.sub (l' := [(0, _), (1, _), (2, _), (6, _), (7, _), (8, _)]) ⟨rfl, rfl, rfl, rfl, rfl, rfl, trivial⟩ ?_
  refine LX.next ?_
  refine PX.thenN ?_
  refine CX.seq ?_
  refine CX.seq ?_
  refine CX.region ?_
  refine LX.pure (Y.move rfl) rfl rfl rfl ?_
  first
    | refine LX.pure (Y.neNil Fo.un40 rfl rfl) rfl rfl rfl ?_
    | refine LX.pure (Y.neNilNil Fo.un40 rfl) rfl rfl rfl ?_
  refine LX.sub (l' := [(0, _), (1, _), (2, _), (6, _), (7, _), (8, _), (17, _)]) ⟨rfl, rfl, rfl, rfl, rfl, rfl, rfl, trivial⟩ ?_
  refine LX.next ?_
  refine PX.thenN ?_
  refine CX.cond rfl (fun hb1 => ?_) (fun hb1 => ?_)
  · try simp at hb1
    first | done | (exfalso; omega) | (exfalso; simp_all; done) | (exfalso; simp_all; omega)
  · try simp at hb1
    refine CX.skip ?_
    refine PX.thenN ?_
    refine CX.seq ?_
    refine CX.seq ?_
    refine CX.region ?_
    refine LX.pure (Y.move rfl) rfl rfl rfl ?_
    refine LX.call (loose_c) Dq.en37 rfl rfl rfl rfl rfl ?_
    intro _
    refine LX.pure (Y.not rfl) rfl rfl rfl ?_
    refine LX.sub (l' := [(0, _), (1, _), (2, _), (6, _), (7, _), (21, _)]) ⟨rfl, rfl, rfl, rfl, rfl, rfl, trivial⟩ ?_
    refine LX.next ?_
    refine PX.thenN ?_
    refine CX.cond rfl (fun hb2 => ?_) (fun hb2 => ?_)
    · try simp at hb2
      first | done | (exfalso; omega) | (exfalso; simp_all; done) | (exfalso; simp_all; omega)
    · try simp at hb2
      refine CX.skip ?_
      refine PX.thenN ?_
      refine CX.seq ?_
      refine CX.seq ?_
      refine CX.region ?_
      refine LX.pure (Y.move rfl) rfl rfl rfl ?_
      refine LX.pure (Y.nilCheck rfl) rfl rfl rfl ?_
      first
        | refine LX.pure (Y.fieldAddr0 Dq.fo76_2 rfl) rfl rfl rfl ?_
        | refine LX.pure (Y.fieldAddr Dq.fo76_2 rfl) rfl rfl rfl ?_
      first
        | refine LX.pure (Y.ldB 0 Dq.one71 rfl rfl rfl) rfl rfl rfl ?_
        | refine LX.pure (Y.ldB 1 Dq.one71 rfl rfl rfl) rfl rfl rfl ?_
        | refine LX.pure (Y.ldB 2 Dq.one71 rfl rfl rfl) rfl rfl rfl ?_
      refine LX.pure (Y.move rfl) rfl rfl rfl ?_
      refine LX.pure (Y.lookS 2 (zv := .pointer none) Dq.un71 Dq.un9 (by kernel_rfl) rfl rfl rfl (by simp [keysE_len]) (by rw [keysE_len]; exact hD.bl) hD.keys hkey (ptrs_at hi)) rfl rfl rfl ?_
      refine LX.pure (Y.assign rfl) rfl rfl rfl ?_
      refine LX.sub (l' := [(0, _), (1, _), (2, _), (6, _), (7, _), (9, _)]) ⟨rfl, rfl, rfl, rfl, rfl, rfl, trivial⟩ ?_
      refine LX.next ?_
      refine PX.thenN ?_
      refine CX.seq ?_
      refine CX.region ?_
      refine LX.pure (Y.move rfl) rfl rfl rfl ?_
      refine LX.pure (Y.neP Dq.un89 rfl) rfl rfl rfl ?_
      refine LX.sub (l' := [(0, _), (1, _), (2, _), (6, _), (7, _), (9, _), (30, _)]) ⟨rfl, rfl, rfl, rfl, rfl, rfl, rfl, trivial⟩ ?_
      refine LX.next ?_
      refine PX.thenN ?_
      refine CX.cond rfl (fun hb3 => ?_) (fun hb3 => ?_)
      · try simp at hb3
        refine CX.seq ?_
        refine CX.region ?_
        refine LX.pure (Y.move rfl) rfl rfl rfl ?_
        refine LX.pure (Y.move rfl) rfl rfl rfl ?_
        refine LX.pure (Y.nilCheck rfl) rfl rfl rfl ?_
        first
          | refine LX.pure (Y.fieldAddr0 Dq.fo91_2 rfl) rfl rfl rfl ?_
          | refine LX.pure (Y.fieldAddr Dq.fo91_2 rfl) rfl rfl rfl ?_
        first
          | refine LX.storeB (i + 3) Dq.sz31 rfl rfl rfl rfl (ent_at hi) rfl rfl rfl ?_
        refine LX.sub (l' := [(0, _), (1, _), (2, _), (6, _), (7, _)]) ⟨rfl, rfl, rfl, rfl, rfl, trivial⟩ ?_
        refine LX.next ?_
        refine PX.thenN ?_
        refine CX.seq ?_
        refine CX.region ?_
        refine LX.pure (Y.assign rfl) rfl rfl rfl ?_
        refine LX.sub (l' := [(0, _), (1, _), (2, _), (6, _), (7, _)]) ⟨rfl, rfl, rfl, rfl, rfl, trivial⟩ ?_
        refine LX.next ?_
        refine PX.thenN ?_
        refine CX.ret ?_
        refine PX.thenR ?_
        refine PX.ret1 (by simp) Tryz.results12 rfl ?_
        exact fun w hw => ⟨(), rfl, DI_set hi hw⟩
      · try simp at hb3
        first | done | (exfalso; omega) | (exfalso; simp_all; done) | (exfalso; simp_all; omega)
theorem set_new {w0 : World} {base : Nat} {fr : List It} {aE : Nat → Addr} (hS : EnvS w0 base aE) {d bm ce ck : Nat} {ge : Option Nat} {es : List En} {bs : List Nat} (hD : Dk es bs ck) {k : Nat} (hk : k < 12) {kv : Value} (hK : ∀ w, WA w0 base (DI d ge ce bm false es bs ck fr) w → KW k kv w) (hn : k ∉ es.map (·.k)) {v : Int} {vt : TypeId} {vx : Value} {kt : TypeId} {kx : Value} (hkv : kv = .iface kt kx) (hd12 : es.length ≤ 12) : FnC Tryz.prog 12 #[.pointer (some ⟨d, 0, none⟩), kv, .iface vt vx] (WA w0 base (DI d ge ce bm false es bs ck fr)) (fun _ : Nat × (Option Nat × Nat) × List Nat × Nat => .nilIface) (fun q w => Dk (es ++ [⟨k, v, q.1, kv, .iface vt vx⟩]) q.2.2.1 q.2.2.2 ∧ WA w0 base (DI d q.2.1.1 q.2.1.2 bm false (es ++ [⟨k, v, q.1, kv, .iface vt vx⟩]) q.2.2.1 q.2.2.2 fr) w) := by
  have hno := hD.no hk hn
  subst hkv
  refine FnC.of_body (fn := Tryz.f12) [(0, _), (1, _), (2, _)] Tryz.func12 rfl Tryz.ntmps12 rfl ⟨rfl, rfl, rfl, trivial⟩ ?_
  refine CX.seq ?_
  refine CX.region ?_
  refine LX.pure (Y.assign rfl) rfl rfl rfl ?_
  refine LX.sub (l' := [(0, _), (1, _), (2, _), (6, _)]) ⟨rfl, rfl, rfl, rfl, trivial⟩ ?_
  refine LX.next ?_
  refine PX.thenN ?_
  refine CX.seq ?_
  refine CX.region ?_
  refine LX.pure (Y.move rfl) rfl rfl rfl ?_
  refine LX.callQ (key_q (fun w hw => push hS hw) hk hK) Dq.en36 rfl rfl rfl rfl rfl ?_
  refine LX.pure (Y.move rfl) rfl rfl rfl ?_
  refine LX.pure (Y.extract rfl rfl) rfl rfl rfl ?_
  refine LX.pure (Y.extract rfl rfl) rfl rfl rfl ?_
  refine LX.pure (Y.assign rfl) rfl rfl rfl ?_
  refine LX.pure (Y.assign rfl) rfl rfl rfl ?_
  refine LX.sub (l' := [(0, _), (1, _), (2, _), (6, _), (7, _), (8, _)]) ⟨rfl, rfl, rfl, rfl, rfl, rfl, trivial⟩ ?_
  refine LX.next ?_
  refine PX.thenN ?_
  refine CX.seq ?_
  refine CX.seq ?_
  refine CX.region ?_
  refine LX.pure (Y.move rfl) rfl rfl rfl ?_
  first
    | refine LX.pure (Y.neNil Fo.un40 rfl rfl) rfl rfl rfl ?_
    | refine LX.pure (Y.neNilNil Fo.un40 rfl) rfl rfl rfl ?_
  refine LX.sub (l' := [(0, _), (1, _), (2, _), (6, _), (7, _), (8, _), (17, _)]) ⟨rfl, rfl, rfl, rfl, rfl, rfl, rfl, trivial⟩ ?_
  refine LX.next ?_
  refine PX.thenN ?_
  refine CX.cond rfl (fun hb1 => ?_) (fun hb1 => ?_)
  · try simp at hb1
    first | done | (exfalso; omega) | (exfalso; simp_all; done) | (exfalso; simp_all; omega)
  · try simp at hb1
    refine CX.skip ?_
    refine PX.thenN ?_
    refine CX.seq ?_
    refine CX.seq ?_
    refine CX.region ?_
    refine LX.pure (Y.move rfl) rfl rfl rfl ?_
    refine LX.call (loose_c) Dq.en37 rfl rfl rfl rfl rfl ?_
    intro _
    refine LX.pure (Y.not rfl) rfl rfl rfl ?_
    refine LX.sub (l' := [(0, _), (1, _), (2, _), (6, _), (7, _), (21, _)]) ⟨rfl, rfl, rfl, rfl, rfl, rfl, trivial⟩ ?_
    refine LX.next ?_
    refine PX.thenN ?_
    refine CX.cond rfl (fun hb2 => ?_) (fun hb2 => ?_)
    · try simp at hb2
      first | done | (exfalso; omega) | (exfalso; simp_all; done) | (exfalso; simp_all; omega)
    · try simp at hb2
      refine CX.skip ?_
      refine PX.thenN ?_
      refine CX.seq ?_
      refine CX.seq ?_
      refine CX.region ?_
      refine LX.pure (Y.move rfl) rfl rfl rfl ?_
      refine LX.pure (Y.nilCheck rfl) rfl rfl rfl ?_
      first
        | refine LX.pure (Y.fieldAddr0 Dq.fo76_2 rfl) rfl rfl rfl ?_
        | refine LX.pure (Y.fieldAddr Dq.fo76_2 rfl) rfl rfl rfl ?_
      first
        | refine LX.pure (Y.ldB 0 Dq.one71 rfl rfl rfl) rfl rfl rfl ?_
        | refine LX.pure (Y.ldB 1 Dq.one71 rfl rfl rfl) rfl rfl rfl ?_
        | refine LX.pure (Y.ldB 2 Dq.one71 rfl rfl rfl) rfl rfl rfl ?_
      refine LX.pure (Y.move rfl) rfl rfl rfl ?_
      refine LX.pure (Y.lookNo 2 (zv := .pointer none) Dq.un71 Dq.un9 (by kernel_rfl) rfl rfl rfl (by simp [keysE_len]) (by rw [keysE_len]; exact hD.bl) hno) rfl rfl rfl ?_
      refine LX.pure (Y.assign rfl) rfl rfl rfl ?_
      refine LX.sub (l' := [(0, _), (1, _), (2, _), (6, _), (7, _), (9, _)]) ⟨rfl, rfl, rfl, rfl, rfl, rfl, trivial⟩ ?_
      refine LX.next ?_
      refine PX.thenN ?_
      refine CX.seq ?_
      refine CX.region ?_
      refine LX.pure (Y.move rfl) rfl rfl rfl ?_
      refine LX.pure (Y.neP Dq.un89 rfl) rfl rfl rfl ?_
      refine LX.sub (l' := [(0, _), (1, _), (2, _), (6, _), (7, _), (9, _), (30, _)]) ⟨rfl, rfl, rfl, rfl, rfl, rfl, rfl, trivial⟩ ?_
      refine LX.next ?_
      refine PX.thenN ?_
      refine CX.cond rfl (fun hb3 => ?_) (fun hb3 => ?_)
      · try simp at hb3
        first | done | (exfalso; omega) | (exfalso; simp_all; done) | (exfalso; simp_all; omega)
      · try simp at hb3
        refine CX.skip ?_
        refine PX.thenN ?_
        refine CX.seq ?_
        refine CX.region ?_
        refine LX.pure (Y.move rfl) rfl rfl rfl ?_
        refine LX.pure (Y.move rfl) rfl rfl rfl ?_
        refine LX.pure (Y.move rfl) rfl rfl rfl ?_
        refine LX.pure (Y.build (v := .agg #[str (keyT k), .iface kt kx, .iface vt vx]) rfl (fun _ => by kernel_rfl)) rfl rfl rfl ?_
        refine LX.box rfl rfl rfl rfl rfl ?_
        intro bx26
        refine LX.pure (Y.assign rfl) rfl rfl rfl ?_
        refine LX.sub (l' := [(0, _), (6, _), (7, _), (10, _)]) ⟨rfl, rfl, rfl, rfl, trivial⟩ ?_
        refine LX.next ?_
        refine PX.thenN ?_
        refine CX.seq ?_
        refine CX.region ?_
        refine LX.pure (Y.move rfl) rfl rfl rfl ?_
        refine LX.pure (Y.nilCheck rfl) rfl rfl rfl ?_
        first
          | refine LX.pure (Y.fieldAddr0 Dq.fo76_2 rfl) rfl rfl rfl ?_
          | refine LX.pure (Y.fieldAddr Dq.fo76_2 rfl) rfl rfl rfl ?_
        first
          | refine LX.pure (Y.ldB 0 Dq.one71 rfl rfl rfl) rfl rfl rfl ?_
          | refine LX.pure (Y.ldB 1 Dq.one71 rfl rfl rfl) rfl rfl rfl ?_
          | refine LX.pure (Y.ldB 2 Dq.one71 rfl rfl rfl) rfl rfl rfl ?_
        refine LX.pure (Y.move rfl) rfl rfl rfl ?_
        refine LX.pure (Y.move rfl) rfl rfl rfl ?_
        refine LX.mapPut 3 Dq.un71 Dq.un9 rfl rfl rfl rfl rfl (by simp [keysE_len]) (by rw [keysE_len]; exact hD.bl) hD.bn rfl rfl ?_
        intro ks9 us9 bs9 ck9 hk9 hl1 hl2 hb9
        obtain ⟨_, rfl, rfl⟩ := hk9.resolve_right (fun h => hno h.1)
        refine LX.sub (l' := [(0, _), (6, _), (10, _)]) ⟨rfl, rfl, rfl, trivial⟩ ?_
        refine LX.next ?_
        refine PX.thenN ?_
        refine CX.seq ?_
        refine CX.region ?_
        refine LX.pure (Y.move rfl) rfl rfl rfl ?_
        refine LX.pure (Y.move rfl) rfl rfl rfl ?_
        refine LX.pure (Y.nilCheck rfl) rfl rfl rfl ?_
        first
          | refine LX.pure (Y.fieldAddr0 Dq.fo76_1 rfl) rfl rfl rfl ?_
          | refine LX.pure (Y.fieldAddr Dq.fo76_1 rfl) rfl rfl rfl ?_
        first
          | refine LX.pure (Y.ldB 0 Dq.one74 rfl rfl rfl) rfl rfl rfl ?_
          | refine LX.pure (Y.ldB 1 Dq.one74 rfl rfl rfl) rfl rfl rfl ?_
          | refine LX.pure (Y.ldB 2 Dq.one74 rfl rfl rfl) rfl rfl rfl ?_
        refine LX.pure (Y.move rfl) rfl rfl rfl ?_
        refine LX.buildSlice (e := 89) (size := 1) rfl rfl (fun _ => by kernel_rfl) rfl (by decide) rfl rfl rfl ?_
        intro gt41
        refine LX.appendT 2 Dq.el74 rfl rfl rfl rfl rfl rfl rfl (by omega) (by omega) rfl rfl rfl ?_
        intro ge2 ce2
        refine LX.pure (Y.nilCheck rfl) rfl rfl rfl ?_
        first
          | refine LX.pure (Y.fieldAddr0 Dq.fo76_1 rfl) rfl rfl rfl ?_
          | refine LX.pure (Y.fieldAddr Dq.fo76_1 rfl) rfl rfl rfl ?_
        first
          | refine LX.storeB 0 Dq.sz74 rfl rfl rfl rfl rfl rfl rfl rfl ?_
          | refine LX.storeB 1 Dq.sz74 rfl rfl rfl rfl rfl rfl rfl rfl ?_
          | refine LX.storeB 2 Dq.sz74 rfl rfl rfl rfl rfl rfl rfl rfl ?_
        refine LX.sub (l' := [(6, _)]) ⟨rfl, trivial⟩ ?_
        refine LX.next ?_
        refine PX.thenN ?_
        refine CX.seq ?_
        refine CX.region ?_
        refine LX.pure (Y.assign rfl) rfl rfl rfl ?_
        refine LX.sub (l' := [(6, _)]) ⟨rfl, trivial⟩ ?_
        refine LX.next ?_
        refine PX.thenN ?_
        refine CX.ret ?_
        refine PX.ret1 (by simp) Tryz.results12 rfl ?_
        exact fun w hw => ⟨(_, (ge2, ce2), bs9, ck9), rfl, hD.new hk hn (by rw [hl2]; simp [keysE_len]) hb9, DI_new hw⟩
theorem get_no {w0 : World} {base : Nat} {fr : List It} {aE : Nat → Addr} (hS : EnvS w0 base aE) {d bm ce ck : Nat} {ge : Option Nat} {es : List En} {bs : List Nat} (hD : Dk es bs ck) {k : Nat} (hk : k < 12) {kv : Value} (hK : ∀ w, WA w0 base (DI d ge ce bm false es bs ck fr) w → KW k kv w) (hn : k ∉ es.map (·.k)) : FnC Tryz.prog 15 #[.pointer (some ⟨d, 0, none⟩), kv] (WA w0 base (DI d ge ce bm false es bs ck fr)) (fun _ : Unit => .tuple #[.nilIface, .bool false, .nilIface]) (fun _ => WA w0 base (DI d ge ce bm false es bs ck fr)) := by
  have hno := hD.no hk hn
  refine FnC.of_body (fn := Tryz.f15) [(0, _), (1, _)] Tryz.func15 rfl Tryz.ntmps15 rfl ⟨rfl, rfl, trivial⟩ ?_
  refine CX.seq ?_
  refine CX.region ?_
  refine LX.pure (Y.assign rfl) rfl rfl rfl ?_
  refine LX.pure (Y.assign rfl) rfl rfl rfl ?_
  refine LX.pure (Y.assign rfl) rfl rfl rfl ?_
  refine LX.sub (l' := [(0, _), (1, _), (4, _), (5, _), (6, _)]) ⟨rfl, rfl, rfl, rfl, rfl, trivial⟩ ?_
  refine LX.next ?_
  refine PX.thenN ?_
  refine CX.seq ?_
  refine CX.region ?_
  refine LX.pure (Y.move rfl) rfl rfl rfl ?_
  refine LX.callQ (key_q (fun w hw => push hS hw) hk hK) Dq.en36 rfl rfl rfl rfl rfl ?_
  refine LX.pure (Y.move rfl) rfl rfl rfl ?_
  refine LX.pure (Y.extract rfl rfl) rfl rfl rfl ?_
  refine LX.pure (Y.extract rfl rfl) rfl rfl rfl ?_
  refine LX.pure (Y.assign rfl) rfl rfl rfl ?_
  refine LX.pure (Y.assign rfl) rfl rfl rfl ?_
  refine LX.sub (l' := [(0, _), (4, _), (5, _), (6, _), (7, _), (8, _)]) ⟨rfl, rfl, rfl, rfl, rfl, rfl, trivial⟩ ?_
  refine LX.next ?_
  refine PX.thenN ?_
  refine CX.seq ?_
  refine CX.seq ?_
  refine CX.region ?_
  refine LX.pure (Y.move rfl) rfl rfl rfl ?_
  first
    | refine LX.pure (Y.neNil Fo.un40 rfl rfl) rfl rfl rfl ?_
    | refine LX.pure (Y.neNilNil Fo.un40 rfl) rfl rfl rfl ?_
  refine LX.sub (l' := [(0, _), (4, _), (5, _), (6, _), (7, _), (8, _), (16, _)]) ⟨rfl, rfl, rfl, rfl, rfl, rfl, rfl, trivial⟩ ?_
  refine LX.next ?_
  refine PX.thenN ?_
  refine CX.cond rfl (fun hb1 => ?_) (fun hb1 => ?_)
  · try simp at hb1
    first | done | (exfalso; omega) | (exfalso; simp_all; done) | (exfalso; simp_all; omega)
  · try simp at hb1
    refine CX.skip ?_
    refine PX.thenN ?_
    refine CX.seq ?_
    refine CX.region ?_
    refine LX.pure (Y.move rfl) rfl rfl rfl ?_
    refine LX.pure (Y.nilCheck rfl) rfl rfl rfl ?_
    first
      | refine LX.pure (Y.fieldAddr0 Dq.fo76_2 rfl) rfl rfl rfl ?_
      | refine LX.pure (Y.fieldAddr Dq.fo76_2 rfl) rfl rfl rfl ?_
    first
      | refine LX.pure (Y.ldB 0 Dq.one71 rfl rfl rfl) rfl rfl rfl ?_
      | refine LX.pure (Y.ldB 1 Dq.one71 rfl rfl rfl) rfl rfl rfl ?_
      | refine LX.pure (Y.ldB 2 Dq.one71 rfl rfl rfl) rfl rfl rfl ?_
    refine LX.pure (Y.move rfl) rfl rfl rfl ?_
    refine LX.pure (Y.lookNo 2 (zv := .pointer none) Dq.un71 Dq.un9 (by kernel_rfl) rfl rfl rfl (by simp [keysE_len]) (by rw [keysE_len]; exact hD.bl) hno) rfl rfl rfl ?_
    refine LX.pure (Y.assign rfl) rfl rfl rfl ?_
    refine LX.sub (l' := [(4, _), (5, _), (6, _), (9, _)]) ⟨rfl, rfl, rfl, rfl, trivial⟩ ?_
    refine LX.next ?_
    refine PX.thenN ?_
    refine CX.seq ?_
    refine CX.seq ?_
    refine CX.region ?_
    refine LX.pure (Y.move rfl) rfl rfl rfl ?_
    refine LX.pure (Y.eqP Dq.un89 rfl) rfl rfl rfl ?_
    refine LX.sub (l' := [(4, _), (5, _), (6, _), (9, _), (25, _)]) ⟨rfl, rfl, rfl, rfl, rfl, trivial⟩ ?_
    refine LX.next ?_
    refine PX.thenN ?_
    refine CX.cond rfl (fun hb2 => ?_) (fun hb2 => ?_)
    · try simp at hb2
      refine CX.seq ?_
      refine CX.region ?_
      refine LX.pure (Y.assign rfl) rfl rfl rfl ?_
      refine LX.pure (Y.assign rfl) rfl rfl rfl ?_
      refine LX.pure (Y.assign rfl) rfl rfl rfl ?_
      refine LX.sub (l' := [(4, _), (5, _), (6, _), (9, _)]) ⟨rfl, rfl, rfl, rfl, trivial⟩ ?_
      refine LX.next ?_
      refine PX.thenN ?_
      refine CX.ret ?_
      refine PX.thenR ?_
      refine PX.ret3 (by simp) Tryz.results15 rfl rfl rfl ?_
      exact fun w hw => ⟨(), rfl, hw⟩
    · try simp at hb2
      first | done | (exfalso; omega) | (exfalso; simp_all; done) | (exfalso; simp_all; omega)
theorem get_yes {w0 : World} {base : Nat} {fr : List It} {aE : Nat → Addr} (hS : EnvS w0 base aE) {d bm ce ck : Nat} {ge : Option Nat} {es : List En} {bs : List Nat} (hD : Dk es bs ck) {k : Nat} (hk : k < 12) {kv : Value} (hK : ∀ w, WA w0 base (DI d ge ce bm false es bs ck fr) w → KW k kv w) {i : Nat} {e : En} (hi : es[i]? = some e) (he : e.k = k) : FnC Tryz.prog 15 #[.pointer (some ⟨d, 0, none⟩), kv] (WA w0 base (DI d ge ce bm false es bs ck fr)) (fun _ : Unit => .tuple #[e.vv, .bool true, .nilIface]) (fun _ => WA w0 base (DI d ge ce bm false es bs ck fr)) := by
  have hkey : (keysE es)[i]? = some (keyT k) := by rw [← he]; exact keysE_at hi
  have hlt := (List.getElem?_eq_some_iff.1 hi).1
  refine FnC.of_body (fn := Tryz.f15) [(0, _), (1, _)] Tryz.func15 rfl Tryz.ntmps15 rfl ⟨rfl, rfl, trivial⟩ ?_
  refine CX.seq ?_
  refine CX.region ?_
  refine LX.pure (Y.assign rfl) rfl rfl rfl ?_
  refine LX.pure (Y.assign rfl) rfl rfl rfl ?_
  refine LX.pure (Y.assign rfl) rfl rfl rfl ?_
  refine LX.sub (l' := [(0, _), (1, _), (4, _), (5, _), (6, _)]) ⟨rfl, rfl, rfl, rfl, rfl, trivial⟩ ?_
  refine LX.next ?_
  refine PX.thenN ?_
  refine CX.seq ?_
  refine CX.region ?_
  refine LX.pure (Y.move rfl) rfl rfl rfl ?_
  refine LX.callQ (key_q (fun w hw => push hS hw) hk hK) Dq.en36 rfl rfl rfl rfl rfl ?_
  refine LX.pure (Y.move rfl) rfl rfl rfl ?_
  refine LX.pure (Y.extract rfl rfl) rfl rfl rfl ?_
  refine LX.pure (Y.extract rfl rfl) rfl rfl rfl ?_
  refine LX.pure (Y.assign rfl) rfl rfl rfl ?_
  refine LX.pure (Y.assign rfl) rfl rfl rfl ?_
  refine LX.sub (l' := [(0, _), (4, _), (5, _), (6, _), (7, _), (8, _)]) ⟨rfl, rfl, rfl, rfl, rfl, rfl, trivial⟩ ?_
  refine LX.next ?_
  refine PX.thenN ?_
  refine CX.seq ?_
  refine CX.seq ?_
  refine CX.region ?_
  refine LX.pure (Y.move rfl) rfl rfl rfl ?_
  first
    | refine LX.pure (Y.neNil Fo.un40 rfl rfl) rfl rfl rfl ?_
    | refine LX.pure (Y.neNilNil Fo.un40 rfl) rfl rfl rfl ?_
  refine LX.sub (l' := [(0, _), (4, _), (5, _), (6, _), (7, _), (8, _), (16, _)]) ⟨rfl, rfl, rfl, rfl, rfl, rfl, rfl, trivial⟩ ?_
  refine LX.next ?_
  refine PX.thenN ?_
  refine CX.cond rfl (fun hb1 => ?_) (fun hb1 => ?_)
  · try simp at hb1
    first | done | (exfalso; omega) | (exfalso; simp_all; done) | (exfalso; simp_all; omega)
  · try simp at hb1
    refine CX.skip ?_
    refine PX.thenN ?_
    refine CX.seq ?_
    refine CX.region ?_
    refine LX.pure (Y.move rfl) rfl rfl rfl ?_
    refine LX.pure (Y.nilCheck rfl) rfl rfl rfl ?_
    first
      | refine LX.pure (Y.fieldAddr0 Dq.fo76_2 rfl) rfl rfl rfl ?_
      | refine LX.pure (Y.fieldAddr Dq.fo76_2 rfl) rfl rfl rfl ?_
    first
      | refine LX.pure (Y.ldB 0 Dq.one71 rfl rfl rfl) rfl rfl rfl ?_
      | refine LX.pure (Y.ldB 1 Dq.one71 rfl rfl rfl) rfl rfl rfl ?_
      | refine LX.pure (Y.ldB 2 Dq.one71 rfl rfl rfl) rfl rfl rfl ?_
    refine LX.pure (Y.move rfl) rfl rfl rfl ?_
    refine LX.pure (Y.lookS 2 (zv := .pointer none) Dq.un71 Dq.un9 (by kernel_rfl) rfl rfl rfl (by simp [keysE_len]) (by rw [keysE_len]; exact hD.bl) hD.keys hkey (ptrs_at hi)) rfl rfl rfl ?_
    refine LX.pure (Y.assign rfl) rfl rfl rfl ?_
    refine LX.sub (l' := [(4, _), (5, _), (6, _), (9, _)]) ⟨rfl, rfl, rfl, rfl, trivial⟩ ?_
    refine LX.next ?_
    refine PX.thenN ?_
    refine CX.seq ?_
    refine CX.seq ?_
    refine CX.region ?_
    refine LX.pure (Y.move rfl) rfl rfl rfl ?_
    refine LX.pure (Y.eqP Dq.un89 rfl) rfl rfl rfl ?_
    refine LX.sub (l' := [(4, _), (5, _), (6, _), (9, _), (25, _)]) ⟨rfl, rfl, rfl, rfl, rfl, trivial⟩ ?_
    refine LX.next ?_
    refine PX.thenN ?_
    refine CX.cond rfl (fun hb2 => ?_) (fun hb2 => ?_)
    · try simp at hb2
      first | done | (exfalso; omega) | (exfalso; simp_all; done) | (exfalso; simp_all; omega)
    · try simp at hb2
      refine CX.skip ?_
      refine PX.thenN ?_
      refine CX.seq ?_
      refine CX.region ?_
      refine LX.pure (Y.move rfl) rfl rfl rfl ?_
      refine LX.pure (Y.nilCheck rfl) rfl rfl rfl ?_
      first
        | refine LX.pure (Y.fieldAddr0 Dq.fo91_2 rfl) rfl rfl rfl ?_
        | refine LX.pure (Y.fieldAddr Dq.fo91_2 rfl) rfl rfl rfl ?_
      refine LX.pure (Y.ldB (i + 3) Dq.one31 rfl (ent_at hi) rfl) rfl rfl rfl ?_
      refine LX.pure (Y.assign rfl) rfl rfl rfl ?_
      refine LX.pure (Y.assign rfl) rfl rfl rfl ?_
      refine LX.pure (Y.assign rfl) rfl rfl rfl ?_
      refine LX.sub (l' := [(4, _), (5, _), (6, _)]) ⟨rfl, rfl, rfl, trivial⟩ ?_
      refine LX.next ?_
      refine PX.thenN ?_
      refine CX.ret ?_
      refine PX.ret3 (by simp) Tryz.results15 rfl rfl rfl ?_
      exact fun w hw => ⟨(), rfl, hw⟩
theorem del_no {w0 : World} {base : Nat} {fr : List It} {aE : Nat → Addr} (hS : EnvS w0 base aE) {d bm ce ck : Nat} {ge : Option Nat} {es : List En} {bs : List Nat} (hD : Dk es bs ck) {k : Nat} (hk : k < 12) {kv : Value} (hK : ∀ w, WA w0 base (DI d ge ce bm false es bs ck fr) w → KW k kv w) (hn : k ∉ es.map (·.k)) : FnC Tryz.prog 13 #[.pointer (some ⟨d, 0, none⟩), kv] (WA w0 base (DI d ge ce bm false es bs ck fr)) (fun _ : Unit => .tuple #[.nilIface, .bool false, .nilIface]) (fun _ => WA w0 base (DI d ge ce bm false es bs ck fr)) := by
  have hno := hD.no hk hn
  refine FnC.of_body (fn := Tryz.f13) [(0, _), (1, _)] Tryz.func13 rfl Tryz.ntmps13 rfl ⟨rfl, rfl, trivial⟩ ?_
  refine CX.seq ?_
  refine CX.region ?_
  refine LX.pure (Y.assign rfl) rfl rfl rfl ?_
  refine LX.pure (Y.assign rfl) rfl rfl rfl ?_
  refine LX.pure (Y.assign rfl) rfl rfl rfl ?_
  refine LX.sub (l' := [(0, _), (1, _), (4, _), (5, _), (6, _)]) ⟨rfl, rfl, rfl, rfl, rfl, trivial⟩ ?_
  refine LX.next ?_
  refine PX.thenN ?_
  refine CX.seq ?_
  refine CX.region ?_
  refine LX.pure (Y.move rfl) rfl rfl rfl ?_
  refine LX.callQ (key_q (fun w hw => push hS hw) hk hK) Dq.en36 rfl rfl rfl rfl rfl ?_
  refine LX.pure (Y.move rfl) rfl rfl rfl ?_
  refine LX.pure (Y.extract rfl rfl) rfl rfl rfl ?_
  refine LX.pure (Y.extract rfl rfl) rfl rfl rfl ?_
  refine LX.pure (Y.assign rfl) rfl rfl rfl ?_
  refine LX.pure (Y.assign rfl) rfl rfl rfl ?_
  refine LX.sub (l' := [(0, _), (4, _), (5, _), (6, _), (7, _), (8, _)]) ⟨rfl, rfl, rfl, rfl, rfl, rfl, trivial⟩ ?_
  refine LX.next ?_
  refine PX.thenN ?_
  refine CX.seq ?_
  refine CX.seq ?_
  refine CX.region ?_
  refine LX.pure (Y.move rfl) rfl rfl rfl ?_
  first
    | refine LX.pure (Y.neNil Fo.un40 rfl rfl) rfl rfl rfl ?_
    | refine LX.pure (Y.neNilNil Fo.un40 rfl) rfl rfl rfl ?_
  refine LX.sub (l' := [(0, _), (4, _), (5, _), (6, _), (7, _), (8, _), (17, _)]) ⟨rfl, rfl, rfl, rfl, rfl, rfl, rfl, trivial⟩ ?_
  refine LX.next ?_
  refine PX.thenN ?_
  refine CX.cond rfl (fun hb1 => ?_) (fun hb1 => ?_)
  · try simp at hb1
    first | done | (exfalso; omega) | (exfalso; simp_all; done) | (exfalso; simp_all; omega)
  · try simp at hb1
    refine CX.skip ?_
    refine PX.thenN ?_
    refine CX.seq ?_
    refine CX.seq ?_
    refine CX.region ?_
    refine LX.pure (Y.move rfl) rfl rfl rfl ?_
    refine LX.call (loose_c) Dq.en37 rfl rfl rfl rfl rfl ?_
    intro _
    refine LX.pure (Y.not rfl) rfl rfl rfl ?_
    refine LX.sub (l' := [(0, _), (4, _), (5, _), (6, _), (7, _), (21, _)]) ⟨rfl, rfl, rfl, rfl, rfl, rfl, trivial⟩ ?_
    refine LX.next ?_
    refine PX.thenN ?_
    refine CX.cond rfl (fun hb2 => ?_) (fun hb2 => ?_)
    · try simp at hb2
      first | done | (exfalso; omega) | (exfalso; simp_all; done) | (exfalso; simp_all; omega)
    · try simp at hb2
      refine CX.skip ?_
      refine PX.thenN ?_
      refine CX.seq ?_
      refine CX.region ?_
      refine LX.pure (Y.move rfl) rfl rfl rfl ?_
      refine LX.pure (Y.nilCheck rfl) rfl rfl rfl ?_
      first
        | refine LX.pure (Y.fieldAddr0 Dq.fo76_2 rfl) rfl rfl rfl ?_
        | refine LX.pure (Y.fieldAddr Dq.fo76_2 rfl) rfl rfl rfl ?_
      first
        | refine LX.pure (Y.ldB 0 Dq.one71 rfl rfl rfl) rfl rfl rfl ?_
        | refine LX.pure (Y.ldB 1 Dq.one71 rfl rfl rfl) rfl rfl rfl ?_
        | refine LX.pure (Y.ldB 2 Dq.one71 rfl rfl rfl) rfl rfl rfl ?_
      refine LX.pure (Y.move rfl) rfl rfl rfl ?_
      refine LX.pure (Y.lookNo 2 (zv := .pointer none) Dq.un71 Dq.un9 (by kernel_rfl) rfl rfl rfl (by simp [keysE_len]) (by rw [keysE_len]; exact hD.bl) hno) rfl rfl rfl ?_
      refine LX.pure (Y.assign rfl) rfl rfl rfl ?_
      refine LX.sub (l' := [(0, _), (4, _), (5, _), (6, _), (7, _), (9, _)]) ⟨rfl, rfl, rfl, rfl, rfl, rfl, trivial⟩ ?_
      refine LX.next ?_
      refine PX.thenN ?_
      refine CX.seq ?_
      refine CX.seq ?_
      refine CX.region ?_
      refine LX.pure (Y.move rfl) rfl rfl rfl ?_
      refine LX.pure (Y.eqP Dq.un89 rfl) rfl rfl rfl ?_
      refine LX.sub (l' := [(0, _), (4, _), (5, _), (6, _), (7, _), (9, _), (30, _)]) ⟨rfl, rfl, rfl, rfl, rfl, rfl, rfl, trivial⟩ ?_
      refine LX.next ?_
      refine PX.thenN ?_
      refine CX.cond rfl (fun hb3 => ?_) (fun hb3 => ?_)
      · try simp at hb3
        refine CX.seq ?_
        refine CX.region ?_
        refine LX.pure (Y.assign rfl) rfl rfl rfl ?_
        refine LX.pure (Y.assign rfl) rfl rfl rfl ?_
        refine LX.pure (Y.assign rfl) rfl rfl rfl ?_
        refine LX.sub (l' := [(0, _), (4, _), (5, _), (6, _), (7, _), (9, _)]) ⟨rfl, rfl, rfl, rfl, rfl, rfl, trivial⟩ ?_
        refine LX.next ?_
        refine PX.thenN ?_
        refine CX.ret ?_
        refine PX.thenR ?_
        refine PX.ret3 (by simp) Tryz.results13 rfl rfl rfl ?_
        exact fun w hw => ⟨(), rfl, hw⟩
      · try simp at hb3
        first | done | (exfalso; omega) | (exfalso; simp_all; done) | (exfalso; simp_all; omega)
theorem len_c {w0 : World} {base : Nat} {fr : List It} {d n c : Nat} {g : Option Nat} {y u v : Value} : FnC Tryz.prog 18 #[.pointer (some ⟨d, 0, none⟩)] (WA w0 base (blk d [rv g n c, y, u, v] 76 :: fr)) (fun _ : Unit => .int .i64 (n : Int)) (fun _ => WA w0 base (blk d [rv g n c, y, u, v] 76 :: fr)) := by
  refine FnC.of_body (fn := Tryz.f18) [(0, _)] Tryz.func18 rfl Tryz.ntmps18 rfl ⟨rfl, trivial⟩ ?_
  refine CX.seq ?_
  refine CX.region ?_
  refine LX.pure (Y.assign rfl) rfl rfl rfl ?_
  refine LX.sub (l' := [(0, _), (2, _)]) ⟨rfl, rfl, trivial⟩ ?_
  refine LX.next ?_
  refine PX.thenN ?_
  refine CX.seq ?_
  refine CX.region ?_
  refine LX.pure (Y.move rfl) rfl rfl rfl ?_
  refine LX.pure (Y.nilCheck rfl) rfl rfl rfl ?_
  first
    | refine LX.pure (Y.fieldAddr0 Dq.fo76_1 rfl) rfl rfl rfl ?_
    | refine LX.pure (Y.fieldAddr Dq.fo76_1 rfl) rfl rfl rfl ?_
  first
    | refine LX.pure (Y.ldB 0 Dq.one74 rfl rfl rfl) rfl rfl rfl ?_
    | refine LX.pure (Y.ldB 1 Dq.one74 rfl rfl rfl) rfl rfl rfl ?_
    | refine LX.pure (Y.ldB 2 Dq.one74 rfl rfl rfl) rfl rfl rfl ?_
  refine LX.pure (Y.lenSl rfl Dq.un74 rfl) rfl rfl rfl ?_
  refine LX.pure (Y.assign rfl) rfl rfl rfl ?_
  refine LX.sub (l' := [(2, _)]) ⟨rfl, trivial⟩ ?_
  refine LX.next ?_
  refine PX.thenN ?_
  refine CX.ret ?_
  refine PX.ret1 (by simp) Tryz.results18 rfl ?_
  exact fun w hw => ⟨(), rfl, hw⟩
end Go.Proofs.YtifanilblkellaaGreatDoor
