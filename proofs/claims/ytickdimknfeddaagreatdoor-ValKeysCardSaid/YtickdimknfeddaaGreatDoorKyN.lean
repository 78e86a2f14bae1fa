/-
  Proved here: a Dict that is told a key.
-/
import Derived.Test.YtickdimknfeddaaGreatDoorKyJ
import Derived.Test.YtickdimknfeddaaGreatDoorKyU
set_option linter.unusedSimpArgs false
namespace Go.Proofs.YtickdimknfeddaaGreatDoor
open Go.SX Go.RowKit Go.Vo Go.Ky Go.Proofs.YtickdimknfeddaaGreatDoor.Env
namespace Kn_
theorem en125 : Enters Tryz.prog 125 := Enters.of Tryz.func125 (by kernel_rfl) (by kernel_rfl)
theorem en9 : Enters Tryz.prog 9 := Enters.of Tryz.func9 (by kernel_rfl) (by kernel_rfl)
theorem fo174_3 : FieldOff Tryz.prog 174 3 2 := fun b o w => by kernel_rfl
theorem fo174_4 : FieldOff Tryz.prog 174 4 3 := fun b o w => by kernel_rfl
theorem sz171 : SizeIs Tryz.prog 171 1 := fun w => by kernel_rfl
theorem el171 : Elem Tryz.prog 171 175 1 8 := Elem.of Kh.un171 (z := .pointer none) (by kernel_rfl) rfl
end Kn_
theorem newDict_c {w0 : World} {base : Nat} : FnC Tryz.prog 90 #[] (WA w0 base []) (fun q : Nat × Nat => .pointer (some ⟨q.1, 0, none⟩)) (fun q => WA w0 base (DIt q.1 q.2 DS.nil [])) := by
  refine FnC.of_body (fn := Tryz.f90) [] Tryz.func90 rfl Tryz.ntmps90 rfl trivial ?_
  refine CX.seq <| CX.region <| LX.pure (Y.assign rfl) rfl rfl rfl <| LX.sub (l' := [(0, _)]) ⟨rfl, trivial⟩ <| LX.next <| PX.thenN <| CX.seq <| CX.region <| LX.makeMap rfl rfl rfl rfl ?_
  intro bm
  refine LX.pure (Y.build (v := .agg #[.slice none 0 0, .map (some bm), .bool false, .int .i64 0]) rfl (fun _ => by kernel_rfl)) rfl rfl rfl <| LX.box rfl rfl rfl rfl rfl ?_
  intro bx3
  refine LX.pure (Y.assign rfl) rfl rfl rfl <| LX.sub (l' := [(0, _)]) ⟨rfl, trivial⟩ <| LX.next <| PX.thenN <| CX.ret <| PX.ret1 (by simp) Tryz.results90 rfl ?_
  exact fun w hw => ⟨(_, bm), rfl, (hw.nilRow 175 1).perm (List.Perm.swap _ _ _)⟩
theorem loose_c {w0 : World} {base : Nat} {fr : List It} {d : Nat} {x y : Value} {fz : Bool} : FnC Tryz.prog 125 #[.pointer (some ⟨d, 0, none⟩)] (WA w0 base (blk d [x, y, .bool fz, .int .i64 0] 174 :: fr)) (fun _ : Unit => .bool (!fz)) (fun _ => WA w0 base (blk d [x, y, .bool fz, .int .i64 0] 174 :: fr)) := by
  refine FnC.of_body (fn := Tryz.f125) [(0, _)] Tryz.func125 rfl Tryz.ntmps125 rfl ⟨rfl, trivial⟩ ?_
  refine CX.seq <| CX.region <| LX.pure (Y.assign rfl) rfl rfl rfl <| LX.sub (l' := [(0, _), (2, _)]) ⟨rfl, rfl, trivial⟩ <| LX.next <| PX.thenN <| CX.seq <| CX.region <| LX.pure (Y.move rfl) rfl rfl rfl <| LX.pure (Y.nilCheck rfl) rfl rfl rfl <| LX.pure (Y.fieldAddr0 Kn_.fo174_3 rfl) rfl rfl rfl <| LX.pure (Y.ldB 0 Ka.one4 rfl rfl rfl) rfl rfl rfl <| LX.pure (Y.not rfl) rfl rfl rfl <| LX.pure (Y.move rfl) rfl rfl rfl <| LX.sub (l' := [(0, _), (2, _), (8, _)]) ⟨rfl, rfl, rfl, trivial⟩ ?_
  apply LX.joinAnd 6 14 8 rfl
  · intro hb1
    refine LX.gT rfl rfl rfl hb1 (Y.move rfl) rfl rfl <| LX.gT rfl rfl rfl hb1 (Y.nilCheck rfl) rfl rfl <| LX.gT rfl rfl rfl hb1 (Y.fieldAddr0 Kn_.fo174_4 rfl) rfl rfl <| LX.gT rfl rfl rfl hb1 (Y.ldB 0 Kc.one3 rfl rfl rfl) rfl rfl <| LX.gT rfl rfl rfl hb1 (Y.eqN rfl rfl) rfl rfl <| LX.pure (Y.pickT rfl hb1 rfl) rfl rfl rfl ?_
    exact LX.left ⟨rfl, rfl, rfl, rfl, trivial⟩
  · intro hb1
    refine LX.gF rfl rfl rfl hb1 rfl rfl <| LX.gF rfl rfl rfl hb1 rfl rfl <| LX.gF rfl rfl rfl hb1 rfl rfl <| LX.gF rfl rfl rfl hb1 rfl rfl <| LX.gF rfl rfl rfl hb1 rfl rfl <| LX.pure (Y.pickF rfl hb1 rfl) rfl rfl rfl ?_
    exact LX.left ⟨rfl, rfl, rfl, rfl, trivial⟩
  refine LX.pure (Y.assign rfl) rfl rfl rfl <| LX.sub (l' := [(2, _)]) ⟨rfl, trivial⟩ <| LX.next <| PX.thenN <| CX.ret <| PX.ret1 (by simp) Tryz.results125 rfl ?_
  exact fun w hw => ⟨(), by cases fz <;> rfl, hw⟩
theorem get_c {w0 : World} {base : Nat} {aE : Nat → Addr} (hE : EnvK w0 base aE) {d bm : Nat} {s : DS} {r : List It} (hD : DOk s) {t : Tr} {v : Value} (hv : VL w0 base t v) : FnC Tryz.prog 91 #[.pointer (some ⟨d, 0, none⟩), v] (WA w0 base (DIt d bm s r)) (fun q : Option (TypeId × Value) × Bool × Value => .tuple #[q.2.2, .bool q.2.1, eV q.1]) (fun q w => (q.1 = none → q.2.1 = false → enc t ∉ s.ks) ∧ WA w0 base (DIt d bm s r) w) := by
  refine FnC.of_body (fn := Tryz.f91) [(0, _), (1, _)] Tryz.func91 rfl Tryz.ntmps91 rfl ⟨rfl, rfl, trivial⟩ ?_
  refine CX.seq <| CX.region <| LX.pure (Y.assign rfl) rfl rfl rfl <| LX.pure (Y.assign rfl) rfl rfl rfl <| LX.pure (Y.assign rfl) rfl rfl rfl <| LX.sub (l' := [(0, _), (1, _), (4, _), (5, _), (6, _)]) ⟨rfl, rfl, rfl, rfl, rfl, trivial⟩ <| LX.next <| PX.thenN <| CX.seq <| CX.region <| LX.pure (Y.move rfl) rfl rfl rfl <| LX.call (Key_c (fun w hw => hE.push hw) (fun w hw => hv.push hw)) Kn_.en9 rfl rfl rfl rfl rfl ?_
  rintro ⟨q1, s1⟩
  refine LX.have fun hq1 => ?_
  try dsimp only at hq1 ⊢
  refine LX.pure (Y.move rfl) rfl rfl rfl <| LX.pure (Y.extract rfl rfl) rfl rfl rfl <| LX.pure (Y.extract rfl rfl) rfl rfl rfl <| LX.pure (Y.assign rfl) rfl rfl rfl <| LX.pure (Y.assign rfl) rfl rfl rfl <| LX.sub (l' := [(0, _), (4, _), (5, _), (6, _), (7, _), (8, _)]) ⟨rfl, rfl, rfl, rfl, rfl, rfl, trivial⟩ <| LX.next <| PX.thenN <| CX.seq <| CX.seq <| CX.region <| LX.pure (Y.move rfl) rfl rfl rfl <| LX.pure (Y.neE Kd.un28 rfl) rfl rfl rfl <| LX.sub (l' := [(0, _), (4, _), (5, _), (6, _), (7, _), (8, _), (16, _)]) ⟨rfl, rfl, rfl, rfl, rfl, rfl, rfl, trivial⟩ <| LX.next <| PX.thenN ?_
  refine CX.cond rfl (fun hb1 => ?_) (fun hb1 => ?_)
  · try simp at hb1
    obtain ⟨e1, rfl⟩ := Option.isSome_iff_exists.1 hb1
    refine CX.seq <| CX.region <| LX.pure (Y.move rfl) rfl rfl rfl <| LX.pure (Y.assign rfl) rfl rfl rfl <| LX.pure (Y.assign rfl) rfl rfl rfl <| LX.pure (Y.assign rfl) rfl rfl rfl <| LX.sub (l' := [(0, _), (4, _), (5, _), (6, _), (7, _)]) ⟨rfl, rfl, rfl, rfl, rfl, trivial⟩ <| LX.next <| PX.thenN <| CX.ret <| PX.thenR <| PX.ret3 (by simp) Tryz.results91 rfl rfl rfl ?_
    exact fun w hw => ⟨(some e1, false, .nilIface), rfl, (fun h => by cases h), hw⟩
  try simp at hb1
  obtain rfl : q1 = none := by exact hb1
  have hkd := hq1 rfl
  refine CX.skip <| PX.thenN <| CX.seq <| CX.region <| LX.pure (Y.move rfl) rfl rfl rfl <| LX.pure (Y.nilCheck rfl) rfl rfl rfl <| LX.pure (Y.fieldAddr0 Kh.fo174_2 rfl) rfl rfl rfl <| LX.pure (Y.ldB 0 Kh.one172 rfl rfl rfl) rfl rfl rfl <| LX.pure (Y.move rfl) rfl rfl rfl <| LX.pure (Y.lookO Kh.un172 Ka.un9 (by kernel_rfl) rfl rfl (es := s.es) (ks := s.ks) (bs := s.bs) (fun w hw => (hw.get (i := 2) rfl).2) (by have := hD.kl; omega) (by have := hD.kl; have := hD.bl; omega) hD.nd) rfl rfl rfl ?_
  generalize hlk : lk s1 s.ks s.es = o2
  refine LX.pure (Y.assign rfl) rfl rfl rfl <| LX.sub (l' := [(4, _), (5, _), (6, _), (9, _)]) ⟨rfl, rfl, rfl, rfl, trivial⟩ <| LX.next <| PX.thenN <| CX.seq <| CX.seq <| CX.region <| LX.pure (Y.move rfl) rfl rfl rfl <| LX.pure (Y.eqP Kh.un175 rfl) rfl rfl rfl <| LX.sub (l' := [(4, _), (5, _), (6, _), (9, _), (25, _)]) ⟨rfl, rfl, rfl, rfl, rfl, trivial⟩ <| LX.next <| PX.thenN ?_
  refine CX.cond rfl (fun hb2 => ?_) (fun hb2 => ?_)
  · try simp at hb2
    obtain rfl : o2 = none := by
      cases o2 with
      | none => rfl
      | some e =>
        exfalso
        (simp at hb2; done)
    have hno : s1 ∉ s.ks := lk_none (by have := hD.kl; omega) hlk
    refine CX.seq <| CX.region <| LX.pure (Y.assign rfl) rfl rfl rfl <| LX.pure (Y.assign rfl) rfl rfl rfl <| LX.pure (Y.assign rfl) rfl rfl rfl <| LX.sub (l' := [(4, _), (5, _), (6, _), (9, _)]) ⟨rfl, rfl, rfl, rfl, trivial⟩ <| LX.next <| PX.thenN <| CX.ret <| PX.thenR <| PX.ret3 (by simp) Tryz.results91 rfl rfl rfl ?_
    exact fun w hw => ⟨(none, false, .nilIface), rfl, (fun _ _ => by rw [← hkd.e]; exact hno), hw⟩
  try simp at hb2
  obtain ⟨e2, rfl⟩ : ∃ e, o2 = some e := by
    cases o2 with
    | none =>
      exfalso
      (simp at hb2; done)
    | some e => exact ⟨e, rfl⟩
  obtain ⟨i2, hk2, hE2⟩ := lk_some hlk
  obtain ⟨j2, hj2⟩ := hD.at_ hk2 hE2 d bm r
  dsimp only [Option.map_some]
  refine CX.skip <| PX.thenN <| CX.seq <| CX.region <| LX.pure (Y.move rfl) rfl rfl rfl <| LX.pure (Y.nilCheck rfl) rfl rfl rfl <| LX.pure (Y.fieldAddr0 Kh.fo177_2 rfl) rfl rfl rfl <| LX.pure (Y.ldB j2 Kd.one26 rfl hj2 rfl) rfl rfl rfl <| LX.pure (Y.assign rfl) rfl rfl rfl <| LX.pure (Y.assign rfl) rfl rfl rfl <| LX.pure (Y.assign rfl) rfl rfl rfl <| LX.sub (l' := [(4, _), (5, _), (6, _)]) ⟨rfl, rfl, rfl, trivial⟩ <| LX.next <| PX.thenN <| CX.ret <| PX.ret3 (by simp) Tryz.results91 rfl rfl rfl ?_
  exact fun w hw => ⟨(none, true, e2.2.2), rfl, (fun _ h => by cases h), hw⟩
theorem set_c {w0 : World} {base : Nat} {aE : Nat → Addr} (hE : EnvK w0 base aE) {d bm : Nat} {s : DS} {r : List It} (hD : DOk s) {t : Tr} {v : Value} (hv : VL w0 base t v) (hn : enc t ∉ s.ks) {kt vt : TypeId} {kx vx : Value} (hvk : v = .iface kt kx) (h300 : s.es.length ≤ 300) : FnC Tryz.prog 92 #[.pointer (some ⟨d, 0, none⟩), v, .iface vt vx] (WA w0 base (DIt d bm s r)) (fun q : Option (TypeId × Value) × DS => eV q.1) (fun q w => (q.2 = s ∨ ∃ p g c bs ck, q.2 = s.add (enc t) (p, v, .iface vt vx) g c bs ck ∧ bs.length = s.es.length + 1 ∧ bs.Nodup ∧ ∀ b ∈ bs, b < ck) ∧ WA w0 base (DIt d bm q.2 r) w) := by
  subst hvk
  refine FnC.of_body (fn := Tryz.f92) [(0, _), (1, _), (2, _)] Tryz.func92 rfl Tryz.ntmps92 rfl ⟨rfl, rfl, rfl, trivial⟩ ?_
  refine CX.seq <| CX.region <| LX.pure (Y.assign rfl) rfl rfl rfl <| LX.sub (l' := [(0, _), (1, _), (2, _), (6, _)]) ⟨rfl, rfl, rfl, rfl, trivial⟩ <| LX.next <| PX.thenN <| CX.seq <| CX.region <| LX.pure (Y.move rfl) rfl rfl rfl <| LX.call (Key_c (fun w hw => hE.push hw) (fun w hw => hv.push hw)) Kn_.en9 rfl rfl rfl rfl rfl ?_
  rintro ⟨q1, s1⟩
  refine LX.have fun hq1 => ?_
  try dsimp only at hq1 ⊢
  refine LX.pure (Y.move rfl) rfl rfl rfl <| LX.pure (Y.extract rfl rfl) rfl rfl rfl <| LX.pure (Y.extract rfl rfl) rfl rfl rfl <| LX.pure (Y.assign rfl) rfl rfl rfl <| LX.pure (Y.assign rfl) rfl rfl rfl <| LX.sub (l' := [(0, _), (1, _), (2, _), (6, _), (7, _), (8, _)]) ⟨rfl, rfl, rfl, rfl, rfl, rfl, trivial⟩ <| LX.next <| PX.thenN <| CX.seq <| CX.seq <| CX.region <| LX.pure (Y.move rfl) rfl rfl rfl <| LX.pure (Y.neE Kd.un28 rfl) rfl rfl rfl <| LX.sub (l' := [(0, _), (1, _), (2, _), (6, _), (7, _), (8, _), (17, _)]) ⟨rfl, rfl, rfl, rfl, rfl, rfl, rfl, trivial⟩ <| LX.next <| PX.thenN ?_
  refine CX.cond rfl (fun hb1 => ?_) (fun hb1 => ?_)
  · try simp at hb1
    obtain ⟨e1, rfl⟩ := Option.isSome_iff_exists.1 hb1
    refine CX.seq <| CX.region <| LX.pure (Y.move rfl) rfl rfl rfl <| LX.pure (Y.assign rfl) rfl rfl rfl <| LX.sub (l' := [(0, _), (1, _), (2, _), (6, _), (7, _)]) ⟨rfl, rfl, rfl, rfl, rfl, trivial⟩ <| LX.next <| PX.thenN <| CX.ret <| PX.thenR <| PX.ret1 (by simp) Tryz.results92 rfl ?_
    exact fun w hw => ⟨(some e1, s), rfl, .inl rfl, hw⟩
  try simp at hb1
  obtain rfl : q1 = none := by exact hb1
  have hkd := hq1 rfl
  refine CX.skip <| PX.thenN <| CX.seq <| CX.seq <| CX.region <| LX.pure (Y.move rfl) rfl rfl rfl <| LX.call (loose_c) Kn_.en125 rfl rfl rfl rfl rfl ?_
  intro _
  refine LX.pure (Y.not rfl) rfl rfl rfl <| LX.sub (l' := [(0, _), (1, _), (2, _), (6, _), (7, _), (21, _)]) ⟨rfl, rfl, rfl, rfl, rfl, rfl, trivial⟩ <| LX.next <| PX.thenN ?_
  refine CX.cond rfl (fun hb2 => ?_) (fun hb2 => ?_)
  · try simp at hb2
    done
  try simp at hb2
  refine CX.skip <| PX.thenN <| CX.seq <| CX.seq <| CX.region <| LX.pure (Y.move rfl) rfl rfl rfl <| LX.pure (Y.nilCheck rfl) rfl rfl rfl <| LX.pure (Y.fieldAddr0 Kh.fo174_2 rfl) rfl rfl rfl <| LX.pure (Y.ldB 0 Kh.one172 rfl rfl rfl) rfl rfl rfl <| LX.pure (Y.move rfl) rfl rfl rfl <| LX.pure (Y.lookO Kh.un172 Ka.un9 (by kernel_rfl) rfl rfl (es := s.es) (ks := s.ks) (bs := s.bs) (fun w hw => (hw.get (i := 2) rfl).2) (by have := hD.kl; omega) (by have := hD.kl; have := hD.bl; omega) hD.nd) rfl rfl rfl ?_
  generalize hlk : lk s1 s.ks s.es = o2
  refine LX.pure (Y.assign rfl) rfl rfl rfl <| LX.sub (l' := [(0, _), (1, _), (2, _), (6, _), (7, _), (9, _)]) ⟨rfl, rfl, rfl, rfl, rfl, rfl, trivial⟩ <| LX.next <| PX.thenN <| CX.seq <| CX.region <| LX.pure (Y.move rfl) rfl rfl rfl <| LX.pure (Y.neP Kh.un175 rfl) rfl rfl rfl <| LX.sub (l' := [(0, _), (1, _), (2, _), (6, _), (7, _), (9, _), (30, _)]) ⟨rfl, rfl, rfl, rfl, rfl, rfl, rfl, trivial⟩ <| LX.next <| PX.thenN ?_
  refine CX.cond rfl (fun hb3 => ?_) (fun hb3 => ?_)
  · try simp at hb3
    exact absurd (hkd.e ▸ hn : s1 ∉ s.ks) (fun h => by
      obtain ⟨e2, rfl⟩ : ∃ e, o2 = some e := by
        cases o2 with
        | none => exact absurd hb3 (by simp)
        | some e => exact ⟨e, rfl⟩
      obtain ⟨i2, hk2, _⟩ := lk_some hlk
      exact h (List.mem_of_getElem? hk2))
  try simp at hb3
  obtain rfl : o2 = none := by
    cases o2 with
    | none => rfl
    | some e =>
      exfalso
      (simp at hb3; done)
  have hno : s1 ∉ s.ks := lk_none (by have := hD.kl; omega) hlk
  refine CX.skip <| PX.thenN <| CX.seq <| CX.region <| LX.pure (Y.move rfl) rfl rfl rfl <| LX.pure (Y.move rfl) rfl rfl rfl <| LX.pure (Y.move rfl) rfl rfl rfl <| LX.pure (Y.build (v := .agg #[str s1, .iface kt kx, .iface vt vx]) rfl (fun _ => by kernel_rfl)) rfl rfl rfl <| LX.box rfl rfl rfl rfl rfl ?_
  intro bx28
  refine LX.pure (Y.assign rfl) rfl rfl rfl <| LX.sub (l' := [(0, _), (6, _), (7, _), (10, _)]) ⟨rfl, rfl, rfl, rfl, trivial⟩ <| LX.next <| PX.thenN <| CX.seq <| CX.region <| LX.pure (Y.move rfl) rfl rfl rfl <| LX.pure (Y.nilCheck rfl) rfl rfl rfl <| LX.pure (Y.fieldAddr0 Kh.fo174_2 rfl) rfl rfl rfl <| LX.pure (Y.ldB 1 Kh.one172 rfl rfl rfl) rfl rfl rfl <| LX.pure (Y.move rfl) rfl rfl rfl <| LX.pure (Y.move rfl) rfl rfl rfl <| LX.mapPut 3 Kh.un172 Ka.un9 rfl rfl rfl rfl rfl (by simp only [List.length_map]; have := hD.kl; omega) (by have := hD.kl; have := hD.bl; omega) hD.bn rfl rfl ?_
  intro ks9 us9 bs9 ck9 hk9 hl1 hl2 hb9
  obtain ⟨_, rfl, rfl⟩ := hk9.resolve_right (fun h => hno h.1)
  refine LX.sub (l' := [(0, _), (6, _), (10, _)]) ⟨rfl, rfl, rfl, trivial⟩ <| LX.next <| PX.thenN <| CX.seq <| CX.region <| LX.pure (Y.move rfl) rfl rfl rfl <| LX.pure (Y.move rfl) rfl rfl rfl <| LX.pure (Y.nilCheck rfl) rfl rfl rfl <| LX.pure (Y.fieldAddr0 Kh.fo174_1 rfl) rfl rfl rfl <| LX.pure (Y.ldB 1 Kh.one171 rfl rfl rfl) rfl rfl rfl <| LX.pure (Y.move rfl) rfl rfl rfl <| LX.buildSlice (e := 175) (size := 1) rfl rfl (fun _ => by kernel_rfl) rfl (by decide) rfl rfl rfl ?_
  intro gt43
  refine LX.appendT 2 Kn_.el171 rfl rfl rfl rfl rfl rfl rfl (by omega) (by omega) rfl rfl rfl ?_
  intro ge2 ce2
  refine LX.pure (Y.nilCheck rfl) rfl rfl rfl <| LX.pure (Y.fieldAddr0 Kh.fo174_1 rfl) rfl rfl rfl <| LX.storeB 1 Kn_.sz171 rfl rfl rfl rfl rfl rfl rfl rfl <| LX.sub (l' := [(6, _)]) ⟨rfl, trivial⟩ <| LX.next <| PX.thenN <| CX.seq <| CX.region <| LX.pure (Y.assign rfl) rfl rfl rfl <| LX.sub (l' := [(6, _)]) ⟨rfl, trivial⟩ <| LX.next <| PX.thenN <| CX.ret <| PX.ret1 (by simp) Tryz.results92 rfl ?_
  exact fun w hw => ⟨(none, s.add (enc t) (bx28, .iface kt kx, .iface vt vx) ge2 ce2 bs9 ck9), rfl, .inr ⟨_, _, _, _, _, rfl, by rw [hl2]; simp [hD.kl], hb9⟩, by
    rw [hkd.e] at hw
    exact ky_add hw⟩
end Go.Proofs.YtickdimknfeddaaGreatDoor

namespace Go.Proofs.YtickdimknfeddaaGreatDoor
open Go.SX Go.RowKit Go.Vo Go.Ky Go.Proofs.YtickdimknfeddaaGreatDoor.Env
namespace Ko
theorem en90 : Enters Tryz.prog 90 := Enters.of Tryz.func90 (by kernel_rfl) (by kernel_rfl)
theorem en91 : Enters Tryz.prog 91 := Enters.of Tryz.func91 (by kernel_rfl) (by kernel_rfl)
theorem en92 : Enters Tryz.prog 92 := Enters.of Tryz.func92 (by kernel_rfl) (by kernel_rfl)
theorem ni124 : NoIface Tryz.prog 124 := fun w v => by kernel_rfl
end Ko
theorem pairs_c {w0 : World} {base : Nat} {aE : Nat → Addr} (hE : EnvK w0 base aE) {M : Rd} {O : Ro} (hM : ∀ a c, M a c → Lies w0 base a c) (hO : ∀ m o, O m o → LiesO w0 base m o) {ts : List Tr} {vs : List Value} {av : Option Addr} {c : Nat} (hs : SlAt 1 valA (Lies w0 base) av vs) (hl : vs.length = ts.length) (hv : ∀ (i : Nat) t v, ts[i]? = some t → vs[i]? = some v → VAt M O t v) (h3 : vs.length ≤ 300) (h2 : vs.length % 2 = 0) : FnC Tryz.prog 49 #[.slice av vs.length c] (WA w0 base []) (fun q : Value × Option (TypeId × Value) × List It => .tuple #[q.1, eV q.2.1]) (fun q w => Pm M O q.2.1 q.1 q.2.2 ∧ WA w0 base q.2.2 w) := by
  have hE2 := hE.s
  have hS := hE.s
  refine FnC.of_body (fn := Tryz.f49) [(0, _)] Tryz.func49 rfl Tryz.ntmps49 rfl ⟨rfl, trivial⟩ ?_
  refine CX.seq <| CX.region <| LX.pure (Y.assign rfl) rfl rfl rfl <| LX.pure (Y.assign rfl) rfl rfl rfl <| LX.sub (l' := [(0, _), (2, _), (3, _)]) ⟨rfl, rfl, rfl, trivial⟩ <| LX.next <| PX.thenN <| CX.seq <| CX.region <| LX.call (newDict_c) Ko.en90 rfl rfl rfl rfl rfl ?_
  rintro ⟨d, bm⟩
  refine LX.pure (Y.assign rfl) rfl rfl rfl <| LX.sub (l' := [(0, _), (2, _), (3, _), (4, _)]) ⟨rfl, rfl, rfl, rfl, trivial⟩ <| LX.next <| PX.thenN <| CX.seq <| CX.seq <| CX.region <| LX.pure (Y.assign rfl) rfl rfl rfl <| LX.sub (l' := [(0, _), (2, _), (3, _), (4, _), (5, _)]) ⟨rfl, rfl, rfl, rfl, rfl, trivial⟩ <| LX.next <| PX.thenN <| CX.block <| CX.loop (fun s : Nat × DS × List Tr => [(0, .slice av vs.length c), (4, .pointer (some ⟨d, 0, none⟩)), (5, .int .i64 (s.1 : Int))]) (fun (s : Nat × DS × List Tr) w => Pd M O vs.length s.1 s.2.1 s.2.2 ∧ WA w0 base (DIt d bm s.2.1 []) w) (fun s => vs.length - s.1) (0, DS.nil, []) ⟨rfl, rfl, rfl, trivial⟩ (fun w hw => ⟨Pd.start M O _, hw⟩) ?_
  rintro ⟨i, s, xs⟩
  refine CX.have fun hPd => ?_
  try dsimp only at hPd ⊢
  have hi0 := hPd.le
  have hi2_ := hPd.two
  refine CX.world (W' := fun w => (0 < s.es.length → s.g.isSome = true) ∧ WA w0 base (DIt d bm s []) w) (fun w hw => ⟨row_some hw (List.mem_cons_of_mem _ List.mem_cons_self), hw⟩) <| CX.have fun hgs => CX.seq <| CX.seq <| CX.region <| LX.pure (Y.move rfl) rfl rfl rfl <| LX.pure (Y.move rfl) rfl rfl rfl <| LX.pure (Y.lenSl rfl Kd.un96 rfl) rfl rfl rfl <| LX.pure (Y.ltN rfl rfl) rfl rfl rfl <| LX.sub (l' := [(0, _), (4, _), (5, _), (13, _)]) ⟨rfl, rfl, rfl, rfl, trivial⟩ <| LX.next <| PX.thenN ?_
  refine CX.cond rfl (fun hb1 => ?_) (fun hb1 => ?_)
  · try simp at hb1
    obtain ⟨t1, ht1⟩ : ∃ t, ts[i]? = some t := ⟨_, List.getElem?_eq_getElem (by omega)⟩
    obtain ⟨v1, hv1⟩ : ∃ v, vs[i]? = some v := ⟨_, List.getElem?_eq_getElem (by omega)⟩
    obtain ⟨a1, ha1, hL1⟩ := val_at hs hv1
    have hV1 := hv (i) t1 v1 ht1 hv1
    obtain ⟨kt1, kx1, hi1⟩ := hV1.iface
    obtain ⟨t2, ht2⟩ : ∃ t, ts[i + 1]? = some t := ⟨_, List.getElem?_eq_getElem (by omega)⟩
    obtain ⟨v2, hv2⟩ : ∃ v, vs[i + 1]? = some v := ⟨_, List.getElem?_eq_getElem (by omega)⟩
    obtain ⟨a2, ha2, hL2⟩ := val_at hs hv2
    have hV2 := hv (i + 1) t2 v2 ht2 hv2
    obtain ⟨kt2, kx2, hi2⟩ := hV2.iface
    refine CX.skip <| PX.thenN <| CX.seq <| CX.block <| CX.seq <| CX.region <| LX.pure (Y.move rfl) rfl rfl rfl <| LX.pure (Y.move rfl) rfl rfl rfl <| LX.pure (Y.move rfl) rfl rfl rfl <| LX.pure (Y.idxZ Kd.un96 Kd.sz26 rfl rfl ha1 (j := i) rfl (by omega)) rfl rfl rfl <| LX.pure (Y.ldO1 Kd.one26 rfl hL1) rfl rfl rfl <| LX.call (get_c hE hPd.ok (hV1.mono hM hO)) Ko.en91 rfl rfl rfl rfl rfl ?_
    rintro ⟨q1, is1, gv⟩
    refine LX.have fun hq1 => ?_
    try dsimp only at hq1 ⊢
    refine LX.pure (Y.move rfl) rfl rfl rfl <| LX.pure (Y.extract rfl rfl) rfl rfl rfl <| LX.pure (Y.extract rfl rfl) rfl rfl rfl <| LX.pure (Y.extract rfl rfl) rfl rfl rfl <| LX.pure (Y.assign rfl) rfl rfl rfl <| LX.pure (Y.assign rfl) rfl rfl rfl <| LX.pure (Y.assign rfl) rfl rfl rfl <| LX.sub (l' := [(0, _), (4, _), (5, _), (7, _), (8, _)]) ⟨rfl, rfl, rfl, rfl, rfl, trivial⟩ <| LX.next <| PX.thenN <| CX.seq <| CX.seq <| CX.region <| LX.pure (Y.move rfl) rfl rfl rfl <| LX.pure (Y.neE Kd.un28 rfl) rfl rfl rfl <| LX.sub (l' := [(0, _), (4, _), (5, _), (7, _), (8, _), (27, _)]) ⟨rfl, rfl, rfl, rfl, rfl, rfl, trivial⟩ <| LX.next <| PX.thenN ?_
    refine CX.cond rfl (fun hb2 => ?_) (fun hb2 => ?_)
    · try simp at hb2
      obtain ⟨e1, rfl⟩ := Option.isSome_iff_exists.1 hb2
      refine CX.seq <| CX.region <| LX.pure (Y.move rfl) rfl rfl rfl <| LX.pure (Y.assign rfl) rfl rfl rfl <| LX.pure (Y.assign rfl) rfl rfl rfl <| LX.sub (l' := [(0, _), (2, _), (3, _), (4, _), (5, _), (7, _)]) ⟨rfl, rfl, rfl, rfl, rfl, rfl, trivial⟩ <| LX.next <| PX.thenN <| CX.ret <| PX.thenR <| PX.blockR <| PX.thenR <| PX.thenR <| PX.blockR <| PX.thenR <| PX.ret2 (by simp) Tryz.results49 rfl rfl ?_
      exact fun w hw => ⟨(.nilIface, some e1, []), rfl, ⟨(fun h => by cases h), fun _ => rfl⟩, hw.drop (List.nil_sublist _)⟩
    try simp at hb2
    obtain rfl : q1 = none := by exact hb2
    refine CX.skip <| PX.thenN <| CX.seq <| CX.seq <| CX.region <| LX.pure (Y.move rfl) rfl rfl rfl <| LX.sub (l' := [(0, _), (4, _), (5, _), (29, _)]) ⟨rfl, rfl, rfl, rfl, trivial⟩ <| LX.next <| PX.thenN ?_
    refine CX.cond rfl (fun hb3 => ?_) (fun hb3 => ?_)
    · try simp at hb3
      refine CX.seq <| CX.regionQ rfl (by kernel_rfl) <| LX.pure (Y.ldO Kc.one28 rfl (hS.at_ 3 3 rfl) (hS.lt 3 (by decide))) rfl rfl rfl <| LX.pure (Y.assign rfl) rfl rfl rfl <| LX.pure (Y.assign rfl) rfl rfl rfl <| LX.sub (l' := [(0, _), (2, _), (3, _), (4, _), (5, _)]) ⟨rfl, rfl, rfl, rfl, rfl, trivial⟩ <| LX.nextQ <| PX.thenN <| CX.ret <| PX.thenR <| PX.blockR <| PX.thenR <| PX.thenR <| PX.blockR <| PX.thenR <| PX.ret2 (by simp) Tryz.results49 rfl rfl ?_
      exact fun w hw => ⟨(.nilIface, some (247, .pointer (some (aE 3))), []), rfl, ⟨(fun h => by cases h), fun _ => rfl⟩, hw.drop (List.nil_sublist _)⟩
    try simp at hb3
    have hno := hq1 rfl (by assumption)
    refine CX.skip <| PX.thenN <| CX.regionM [(0, .anywhere), (1, .anywhere), (2, .anywhere), (3, .held), (4, .held), (5, .anywhere), (6, .anywhere), (7, .anywhere), (8, .held), (9, .held), (10, .alone)] rfl (by kernel_rfl) <| MX.lift0 (i := 0) rfl (Y.move rfl) rfl rfl rfl <| MX.lift0 (i := 1) rfl (Y.move rfl) rfl rfl rfl <| MX.lift0 (i := 2) rfl (Y.move rfl) rfl rfl rfl <| MX.lift1 (i := 3) (pend' := []) rfl (fun w hw => by exact hw) (Y.idxZ Kd.un96 Kd.sz26 rfl rfl ha1 (j := i) rfl (by omega)) rfl rfl rfl (by kernel_rfl) <| MX.lift1 (i := 4) (pend' := []) rfl (fun w hw => by exact hw) (Y.ldO1 Kd.one26 rfl hL1) rfl rfl rfl (by kernel_rfl) <| MX.lift0 (i := 5) rfl (Y.move rfl) rfl rfl rfl <| MX.lift0 (i := 6) rfl (Y.move rfl) rfl rfl rfl <| MX.lift0 (i := 7) rfl (Y.addN rfl rfl (by (simp only []; omega))) rfl rfl rfl <| MX.lift1 (i := 8) (pend' := [4]) rfl (fun w hw => by exact hw) (Y.idxZ Kd.un96 Kd.sz26 rfl rfl ha2 (j := i + 1) rfl (by omega)) rfl rfl rfl (by kernel_rfl) <| MX.lift1 (i := 9) (pend' := [4]) rfl (fun w hw => by exact hw) (Y.ldO1 Kd.one26 rfl hL2) rfl rfl rfl (by kernel_rfl) <| MX.force (i := 10) rfl ?_
    subst hi2
    refine LX.call (set_c hE hPd.ok (hV1.mono hM hO) hno hi1 (by have := hPd.few; omega)) Ko.en92 rfl rfl rfl rfl rfl ?_
    rintro ⟨q2, s2⟩
    refine LX.have fun hs2 => ?_
    try dsimp only at hs2 ⊢
    refine LX.nextM [] (by kernel_rfl) (fun h => absurd rfl h) <| MX.sub (l' := [(0, _), (4, _), (5, _)]) ⟨rfl, rfl, rfl, trivial⟩ <| MX.done <| PX.blockN <| PX.thenN <| CX.region <| LX.pure (Y.move rfl) rfl rfl rfl <| LX.pure (Y.addN rfl rfl (by (simp only []; omega))) rfl rfl rfl <| LX.pure (Y.assign rfl) rfl rfl rfl <| LX.sub (l' := [(0, _), (4, _), (5, _)]) ⟨rfl, rfl, rfl, trivial⟩ <| LX.next ?_
    rcases hs2 with e9 | ⟨p9, g9, c9, bs9, ck9, rfl, hb9, hn9⟩
    · have e9 := e9.symm
      subst e9
      exact PX.again (μ := fun s => vs.length - s.1) (i := (i, s, xs)) (i + 2, s, xs) (by show vs.length - (i + 2) < vs.length - i; omega) ⟨rfl, rfl, rfl, trivial⟩ (fun w hw => ⟨hPd.same (by omega), hw⟩)
    · exact PX.again (μ := fun s => vs.length - s.1) (i := (i, s, xs)) (i + 2, s.add (enc t1) (p9, v1, _) g9 c9 bs9 ck9, xs ++ [t2]) (by show vs.length - (i + 2) < vs.length - i; omega) ⟨rfl, rfl, rfl, trivial⟩ (fun w hw => ⟨hPd.add (by omega) hno hb9 hn9 hV2, hw⟩)
  try simp at hb1
  obtain rfl : i = vs.length := by omega
  refine CX.exit <| PX.thenE <| PX.thenE <| PX.blockE <| PX.thenN <| CX.seq <| CX.region <| LX.pure (Y.move rfl) rfl rfl rfl <| LX.pure (Y.mkI Ko.ni124 rfl) rfl rfl rfl <| LX.pure (Y.assign rfl) rfl rfl rfl <| LX.pure (Y.assign rfl) rfl rfl rfl <| LX.sub (l' := [(2, _), (3, _)]) ⟨rfl, rfl, trivial⟩ <| LX.next <| PX.thenN <| CX.ret <| PX.ret2 (by simp) Tryz.results49 rfl rfl ?_
  exact fun w hw => ⟨(_, none, DIt d bm s []), rfl, ⟨fun _ => hPd.fin h3 hgs, fun h => absurd rfl h⟩, hw⟩
end Go.Proofs.YtickdimknfeddaaGreatDoor

namespace Go.Proofs.YtickdimknfeddaaGreatDoor
open Go.SX Go.RowKit Go.Vo Go.Ky Go.Proofs.YtickdimknfeddaaGreatDoor.Env Go.Tr
namespace Kq
theorem ag53 : AggT Tryz.prog 53 5 := AggT.of (by kernel_rfl) (by kernel_rfl)
theorem fa53_0 : FieldOffA Tryz.prog 53 0 0 := fun a w => by kernel_rfl
theorem fa53_4 : FieldOffA Tryz.prog 53 4 4 := fun a w => by kernel_rfl
theorem fo53_0 : FieldOff Tryz.prog 53 0 0 := fun b o w => by kernel_rfl
theorem fo53_4 : FieldOff Tryz.prog 53 4 4 := fun b o w => by kernel_rfl
theorem one51 : One Tryz.prog 51 := fun w => by kernel_rfl
theorem sz53 : SizeIs Tryz.prog 53 5 := fun w => by kernel_rfl
theorem un22 : Tryz.prog.underlying 22 = some (.slice 53) := by kernel_rfl
theorem un51 : Tryz.prog.underlying 51 = some (.slice 3) := by kernel_rfl
end Kq
theorem plain_0 {w0 : World} {base : Nat} {al : Option Addr} {cl : Nat} {l : List Nd} (hl : SlAt 5 ndA (Lies w0 base) al l) {x : Nd} {ak : Option Addr} {ck : Nat} (hk : SlAt 1 intA (Lies w0 base) ak x.kids) (hr : ∀ q ∈ x.kids, 0 ≤ q ∧ q < (l.length : Int)) (h16 : x.op = 16 → x.kids.length = 1) : FnC Tryz.prog 42 #[.slice al l.length cl, .agg [.int .i64 x.op, .int .i64 x.n, .int .i64 x.pos, str x.s, .slice ak x.kids.length ck].toArray] (WA w0 base []) (fun b : Bool => .bool b) (fun _ => WA w0 base []) := by
  refine FnC.of_body (fn := Tryz.f42) [(0, _), (1, _)] Tryz.func42 rfl Tryz.ntmps42 rfl ⟨rfl, rfl, trivial⟩ ?_
  refine CX.seq <| CX.region <| LX.box rfl rfl rfl rfl rfl ?_
  intro bx0
  refine LX.pure (Y.assign rfl) rfl rfl rfl <| LX.sub (l' := [(0, _), (3, _), (4, _)]) ⟨rfl, rfl, rfl, trivial⟩ <| LX.next <| PX.thenN <| CX.seq <| CX.seq <| CX.region <| LX.pure (Y.fieldAddr0 Kq.fo53_0 rfl) rfl rfl rfl <| LX.pure (Y.ldB 0 Kc.one3 rfl rfl rfl) rfl rfl rfl <| LX.sub (l' := [(0, _), (3, _), (4, _), (6, _)]) ⟨rfl, rfl, rfl, rfl, trivial⟩ <| LX.next <| PX.thenN <| CX.block <| CX.sub (l' := [(0, _), (3, _), (4, _), (6, _)]) ⟨rfl, rfl, rfl, rfl, trivial⟩ ?_
  apply CX.seqSw 7
  ·
    refine CX.seq <| CX.region <| LX.pure (Y.eqI rfl rfl) rfl rfl rfl <| LX.pure (Y.assign rfl) rfl rfl rfl <| LX.next <| PX.thenN ?_
    apply CX.swOr
    · rfl
    · exact ⟨rfl, rfl, rfl, rfl, rfl, trivial⟩
    intro hb1
    try simp at hb1
    refine CX.seq <| CX.region <| LX.pure (Y.eqI rfl rfl) rfl rfl rfl <| LX.pure (Y.assign rfl) rfl rfl rfl <| LX.next <| PX.thenN ?_
    apply CX.swOr
    · rfl
    · exact ⟨rfl, rfl, rfl, rfl, rfl, trivial⟩
    intro hb2
    try simp at hb2
    refine CX.seq <| CX.region <| LX.pure (Y.eqI rfl rfl) rfl rfl rfl <| LX.pure (Y.assign rfl) rfl rfl rfl <| LX.next <| PX.thenN ?_
    apply CX.swOr
    · rfl
    · exact ⟨rfl, rfl, rfl, rfl, rfl, trivial⟩
    intro hb3
    try simp at hb3
    refine CX.seq <| CX.region <| LX.pure (Y.eqI rfl rfl) rfl rfl rfl <| LX.pure (Y.assign rfl) rfl rfl rfl <| LX.next <| PX.thenN ?_
    apply CX.swOr
    · rfl
    · exact ⟨rfl, rfl, rfl, rfl, rfl, trivial⟩
    intro hb4
    try simp at hb4
    refine CX.seq <| CX.region <| LX.pure (Y.eqI rfl rfl) rfl rfl rfl <| LX.pure (Y.assign rfl) rfl rfl rfl <| LX.next <| PX.thenN ?_
    apply CX.swOr
    · rfl
    · exact ⟨rfl, rfl, rfl, rfl, rfl, trivial⟩
    intro hb5
    try simp at hb5
    refine CX.seq <| CX.region <| LX.pure (Y.eqI rfl rfl) rfl rfl rfl <| LX.pure (Y.assign rfl) rfl rfl rfl <| LX.next <| PX.thenN ?_
    apply CX.swOr
    · rfl
    · exact ⟨rfl, rfl, rfl, rfl, rfl, trivial⟩
    intro hb6
    try simp at hb6
    refine CX.seq <| CX.region <| LX.pure (Y.eqI rfl rfl) rfl rfl rfl <| LX.pure (Y.assign rfl) rfl rfl rfl <| LX.next <| PX.thenN ?_
    apply CX.swOr
    · rfl
    · exact ⟨rfl, rfl, rfl, rfl, rfl, trivial⟩
    intro hb7
    try simp at hb7
    refine CX.region <| LX.pure (Y.eqI rfl rfl) rfl rfl rfl <| LX.pure (Y.assign rfl) rfl rfl rfl <| LX.next ?_
    exact PX.sw ⟨rfl, rfl, rfl, rfl, rfl, trivial⟩
  refine CX.cond rfl (fun hb8 => ?_) (fun hb8 => ?_)
  · try simp at hb8
    refine CX.seq <| CX.region <| LX.pure (Y.assign rfl) rfl rfl rfl <| LX.sub (l' := [(4, _)]) ⟨rfl, trivial⟩ <| LX.next <| PX.thenN <| CX.ret <| PX.blockR <| PX.thenR <| PX.ret1 (by simp) Tryz.results42 rfl ?_
    exact fun w hw => ⟨_, rfl, hw.drop (List.nil_sublist _)⟩
  try simp at hb8
  refine CX.seq <| CX.region <| LX.pure (Y.eqI rfl rfl) rfl rfl rfl <| LX.pure (Y.assign rfl) rfl rfl rfl <| LX.sub (l' := [(0, _), (3, _), (4, _), (16, _)]) ⟨rfl, rfl, rfl, rfl, trivial⟩ <| LX.next <| PX.thenN ?_
  refine CX.cond rfl (fun hb9 => ?_) (fun hb9 => ?_)
  · try simp at hb9
    refine CX.seq <| CX.region <| LX.pure (Y.move rfl) rfl rfl rfl <| LX.pure (Y.fieldAddr0 Kq.fo53_4 rfl) rfl rfl rfl <| LX.pure (Y.ldB 0 Kq.one51 rfl rfl rfl) rfl rfl rfl ?_
    have hk1 := h16 (by assumption)
    obtain ⟨a0, hav0, hL0, _⟩ := hk.int_at (j := 0) (by omega)
    have hr0 := hr _ (getD_mem (j := 0) (by omega))
    obtain ⟨k, hkz⟩ : ∃ k : Nat, x.kids.getD 0 0 = (k : Int) := ⟨(x.kids.getD 0 0).toNat, by omega⟩
    obtain ⟨y, hy⟩ : ∃ y, l[k]? = some y := ⟨_, List.getElem?_eq_getElem (by omega)⟩
    obtain ⟨a, ak2, ck2, hav, hL, _, _⟩ := nd_of hl hy
    refine LX.pure (Y.idxZ Kq.un51 Kc.sz3 rfl rfl hav0 (j := 0) rfl (by omega)) rfl rfl rfl <| LX.pure (Y.ldO1 Kc.one3 rfl hL0) rfl rfl rfl <| LX.pure (Y.idxZ Kq.un22 Kq.sz53 rfl rfl hav (j := k) hkz (by omega)) rfl rfl rfl <| LX.pure (Y.fieldA Kq.fa53_0 rfl) rfl rfl rfl <| LX.pure (Y.ldFO (v := .int .i64 y.op) Kc.one3 rfl hL rfl) rfl rfl rfl <| LX.pure (Y.eqI rfl rfl) rfl rfl rfl <| LX.pure (Y.assign rfl) rfl rfl rfl <| LX.sub (l' := [(4, _)]) ⟨rfl, trivial⟩ <| LX.next <| PX.thenN <| CX.ret <| PX.blockR <| PX.thenR <| PX.ret1 (by simp) Tryz.results42 rfl ?_
    exact fun w hw => ⟨_, rfl, hw.drop (List.nil_sublist _)⟩
  try simp at hb9
  refine CX.skip <| PX.blockN <| PX.thenN <| CX.seq <| CX.region <| LX.pure (Y.assign rfl) rfl rfl rfl <| LX.sub (l' := [(4, _)]) ⟨rfl, trivial⟩ <| LX.next <| PX.thenN <| CX.ret <| PX.ret1 (by simp) Tryz.results42 rfl ?_
  exact fun w hw => ⟨_, rfl, hw.drop (List.nil_sublist _)⟩
theorem plain_c {W : World → Prop} [Stab W] {al : Option Addr} {cl : Nat} {l : List Nd} (hl : ∀ w, W w → SlAt 5 ndA (Lies w w.heap.size) al l) {x : Nd} {ak : Option Addr} {ck : Nat} (hk : ∀ w, W w → SlAt 1 intA (Lies w w.heap.size) ak x.kids) (hr : ∀ q ∈ x.kids, 0 ≤ q ∧ q < (l.length : Int)) (h16 : x.op = 16 → x.kids.length = 1) : FnC Tryz.prog 42 #[.slice al l.length cl, .agg [.int .i64 x.op, .int .i64 x.n, .int .i64 x.pos, str x.s, .slice ak x.kids.length ck].toArray] W (fun b : Bool => .bool b) (fun _ => W) :=
  FnC.re fun w hw => plain_0 (hl w hw) (hk w hw) hr h16
end Go.Proofs.YtickdimknfeddaaGreatDoor

namespace Go.Proofs.YtickdimknfeddaaGreatDoor
open Go.SX Go.RowKit Go.Vo Go.Ky Go.Proofs.YtickdimknfeddaaGreatDoor.Env Go.Tr
namespace Kr_
theorem en15 : Enters Tryz.prog 15 := Enters.of Tryz.func15 (by kernel_rfl) (by kernel_rfl)
theorem en17 : Enters Tryz.prog 17 := Enters.of Tryz.func17 (by kernel_rfl) (by kernel_rfl)
theorem en24 : Enters Tryz.prog 24 := Enters.of Tryz.func24 (by kernel_rfl) (by kernel_rfl)
theorem en42 : Enters Tryz.prog 42 := Enters.of Tryz.func42 (by kernel_rfl) (by kernel_rfl)
theorem en43 : Enters Tryz.prog 43 := Enters.of Tryz.func43 (by kernel_rfl) (by kernel_rfl)
theorem en44 : Enters Tryz.prog 44 := Enters.of Tryz.func44 (by kernel_rfl) (by kernel_rfl)
theorem en45 : Enters Tryz.prog 45 := Enters.of Tryz.func45 (by kernel_rfl) (by kernel_rfl)
theorem en46 : Enters Tryz.prog 46 := Enters.of Tryz.func46 (by kernel_rfl) (by kernel_rfl)
theorem en47 : Enters Tryz.prog 47 := Enters.of Tryz.func47 (by kernel_rfl) (by kernel_rfl)
theorem en48 : Enters Tryz.prog 48 := Enters.of Tryz.func48 (by kernel_rfl) (by kernel_rfl)
theorem en49 : Enters Tryz.prog 49 := Enters.of Tryz.func49 (by kernel_rfl) (by kernel_rfl)
theorem en50 : Enters Tryz.prog 50 := Enters.of Tryz.func50 (by kernel_rfl) (by kernel_rfl)
theorem fa53_3 : FieldOffA Tryz.prog 53 3 3 := fun a w => by kernel_rfl
theorem fo53_3 : FieldOff Tryz.prog 53 3 3 := fun b o w => by kernel_rfl
theorem ni104 : NoIface Tryz.prog 104 := fun w v => by kernel_rfl
theorem zv53 : ∀ w, (zeroValue 53).run Tryz.prog w = .ok (.agg #[.int .i64 0, .int .i64 0, .int .i64 0, .string ⟨#[]⟩, .slice none 0 0]) w := fun w => by kernel_rfl
end Kr_
theorem of_s {w0 : World} {base : Nat} {aE : Nat → Addr} (hE : EnvK w0 base aE) {al : Option Addr} {cl : Nat} {l : List Nd} (hG : Go.Ky.Good l) (hB : ∀ (k : Nat) x, l[k]? = some x → x.kids.length ≤ 300 ∧ x.s.length ≤ 300) (hl : SlAt 5 ndA (Lies w0 base) al l) {i : Nat} (hi : i < l.length) (ih : ∀ k, k < i → ∀ {w0 : World} {base : Nat} (_hE : EnvK w0 base aE) (_hl : SlAt 5 ndA (Lies w0 base) al l), FnC Tryz.prog 24 #[.slice al l.length cl, .int .i64 (k : Int)] (WA w0 base []) (fun q : Value × Option (TypeId × Value) × List It => .tuple #[q.1, eV q.2.1]) (fun q w => Pv q.2.1 q.1 q.2.2 ∧ WA w0 base q.2.2 w)) : FnC Tryz.prog 24 #[.slice al l.length cl, .int .i64 (i : Int)] (WA w0 base []) (fun q : Value × Option (TypeId × Value) × List It => .tuple #[q.1, eV q.2.1]) (fun q w => Pv q.2.1 q.1 q.2.2 ∧ WA w0 base q.2.2 w) := by
  have hS := hE.s
  obtain ⟨x, hx⟩ : ∃ x, l[i]? = some x := ⟨_, List.getElem?_eq_getElem hi⟩
  obtain ⟨a, ak, ck, hav, hL, hkc, hka⟩ := nd_of hl hx
  have hb300 := hB i x hx
  refine FnC.of_body (fn := Tryz.f24) [(0, _), (1, _)] Tryz.func24 rfl Tryz.ntmps24 rfl ⟨rfl, rfl, trivial⟩ ?_
  refine CX.seq <| CX.region <| LX.pure (Y.assign rfl) rfl rfl rfl <| LX.pure (Y.assign rfl) rfl rfl rfl <| LX.sub (l' := [(0, _), (1, _), (4, _), (5, _)]) ⟨rfl, rfl, rfl, rfl, trivial⟩ <| LX.next <| PX.thenN <| CX.seq <| CX.region <| LX.pure (Y.move rfl) rfl rfl rfl <| LX.pure (Y.move rfl) rfl rfl rfl <| LX.pure (Y.idxZ Kq.un22 Kq.sz53 rfl rfl hav (j := i) rfl hi) rfl rfl rfl <| LX.pure (Y.ldAO (cs := [.int .i64 x.op, .int .i64 x.n, .int .i64 x.pos, str x.s, .slice ak x.kids.length ck]) Kq.ag53 rfl hL rfl) rfl rfl rfl <| LX.alloc rfl Kr_.zv53 rfl rfl rfl ?_
  intro bx8
  refine LX.storeA 0 Kq.ag53 rfl rfl rfl rfl rfl rfl rfl rfl rfl <| LX.sub (l' := [(0, _), (4, _), (5, _), (6, _)]) ⟨rfl, rfl, rfl, rfl, trivial⟩ <| LX.next <| PX.thenN <| CX.seq <| CX.region <| LX.pure (Y.assign rfl) rfl rfl rfl <| LX.sub (l' := [(0, _), (4, _), (5, _), (6, _), (7, _)]) ⟨rfl, rfl, rfl, rfl, rfl, trivial⟩ <| LX.next <| PX.thenN <| CX.seq <| CX.seq <| CX.region <| LX.pure (Y.fieldAddr0 Kq.fo53_4 rfl) rfl rfl rfl <| LX.pure (Y.ldB 0 Kq.one51 rfl rfl rfl) rfl rfl rfl <| LX.pure (Y.lenSl rfl Kq.un51 rfl) rfl rfl rfl <| LX.pure (Y.move rfl) rfl rfl rfl <| LX.sub (l' := [(0, _), (4, _), (5, _), (6, _), (7, _), (21, _), (22, _), (23, _)]) ⟨rfl, rfl, rfl, rfl, rfl, rfl, rfl, rfl, trivial⟩ <| LX.next <| PX.thenN <| CX.block <| CX.loop (fun s : Nat × (Option Nat × Nat) × List Value × List Tr × List It => [(0, .slice al l.length cl), (6, .pointer (some ⟨bx8, 0, none⟩)), (7, rv s.2.1.1 s.2.2.1.length s.2.1.2), (21, .slice ak x.kids.length ck), (22, .int .i64 (x.kids.length : Int)), (23, .int .i64 (s.1 : Int))]) (fun (s : Nat × (Option Nat × Nat) × List Value × List Tr × List It) w => Ok x s.1 s.2.2.2.1 s.2.2.1 s.2.2.2.2 ∧ WA w0 base (.row s.2.1.1 s.2.1.2 s.2.2.1.length 26 1 s.2.2.1 :: blk bx8 [.int .i64 x.op, .int .i64 x.n, .int .i64 x.pos, str x.s, .slice ak x.kids.length ck] 53 :: s.2.2.2.2) w) (fun s => x.kids.length - s.1) (0, (none, 0), [], [], []) ⟨rfl, rfl, rfl, rfl, rfl, rfl, trivial⟩ (fun w hw => ⟨Ok.start x, hw.nilRow 26 1⟩) ?_
  rintro ⟨j, ⟨g, c⟩, vs, ts, ds⟩
  refine CX.have fun hok => ?_
  try dsimp only at hok ⊢
  have hj0 := hok.le
  have hvl := hok.len
  refine CX.seq <| CX.region <| LX.pure (Y.ltN rfl rfl) rfl rfl rfl <| LX.sub (l' := [(0, _), (6, _), (7, _), (21, _), (22, _), (23, _), (24, _)]) ⟨rfl, rfl, rfl, rfl, rfl, rfl, rfl, trivial⟩ <| LX.next <| PX.thenN <| CX.seq ?_
  refine CX.cond rfl (fun hb1 => ?_) (fun hb1 => ?_)
  · try simp at hb1
    have hj1 : j < x.kids.length := by omega
    obtain ⟨a1, hav1, hL1, _⟩ := hka.int_at (j := j) hj1
    have hr1 := hG.kids i x hx _ (getD_mem (j := j) hj1)
    obtain ⟨k, hkz⟩ : ∃ k : Nat, x.kids.getD j 0 = (k : Int) := ⟨(x.kids.getD j 0).toNat, by omega⟩
    refine CX.skip <| PX.thenN <| CX.seq <| CX.block <| CX.seq <| CX.region <| LX.pure (Y.idxZ Kq.un51 Kc.sz3 rfl rfl hav1 (j := j) rfl hj1) rfl rfl rfl <| LX.pure (show Y _ _ _ _ _ (.int .i64 (k : Int)) from by rw [← hkz]; exact Y.ldO1 Kc.one3 rfl hL1) rfl rfl rfl <| LX.pure (Y.assign rfl) rfl rfl rfl <| LX.sub (l' := [(0, _), (6, _), (7, _), (9, _), (21, _), (22, _), (23, _)]) ⟨rfl, rfl, rfl, rfl, rfl, rfl, rfl, trivial⟩ <| LX.next <| PX.thenN <| CX.seq <| CX.region <| LX.pure (Y.move rfl) rfl rfl rfl <| LX.pure (Y.move rfl) rfl rfl rfl <| LX.call (onto_c (R := fun q : Value × Option (TypeId × Value) × List It => Pv q.2.1 q.1 q.2.2) (new := fun q => q.2.2) (fun w hw => ih k (by omega) (hE.push hw) (hl.push hw))) Kr_.en24 rfl rfl rfl rfl rfl ?_
    rintro ⟨v4, q4, d4⟩
    refine LX.have fun hq4 => ?_
    try dsimp only at hq4 ⊢
    refine LX.world (W' := WA w0 base (.row g c vs.length 26 1 vs :: blk bx8 [.int .i64 x.op, .int .i64 x.n, .int .i64 x.pos, str x.s, .slice ak x.kids.length ck] 53 :: (d4 ++ ds))) (fun w hw => hw.perm (List.perm_append_comm_assoc [_, _] d4 ds)) <| LX.pure (Y.move rfl) rfl rfl rfl <| LX.pure (Y.extract rfl rfl) rfl rfl rfl <| LX.pure (Y.extract rfl rfl) rfl rfl rfl <| LX.pure (Y.assign rfl) rfl rfl rfl <| LX.pure (Y.assign rfl) rfl rfl rfl <| LX.sub (l' := [(0, _), (6, _), (7, _), (10, _), (11, _), (21, _), (22, _), (23, _)]) ⟨rfl, rfl, rfl, rfl, rfl, rfl, rfl, rfl, trivial⟩ <| LX.next <| PX.thenN <| CX.seq <| CX.seq <| CX.region <| LX.pure (Y.move rfl) rfl rfl rfl <| LX.pure (Y.neE Kd.un28 rfl) rfl rfl rfl <| LX.sub (l' := [(0, _), (6, _), (7, _), (10, _), (11, _), (21, _), (22, _), (23, _), (34, _)]) ⟨rfl, rfl, rfl, rfl, rfl, rfl, rfl, rfl, rfl, trivial⟩ <| LX.next <| PX.thenN ?_
    refine CX.cond rfl (fun hb2 => ?_) (fun hb2 => ?_)
    · try simp at hb2
      obtain ⟨e4, rfl⟩ := Option.isSome_iff_exists.1 hb2
      refine CX.seq <| CX.region <| LX.pure (Y.move rfl) rfl rfl rfl <| LX.pure (Y.assign rfl) rfl rfl rfl <| LX.pure (Y.assign rfl) rfl rfl rfl <| LX.sub (l' := [(0, _), (4, _), (5, _), (6, _), (7, _), (10, _), (21, _), (22, _), (23, _)]) ⟨rfl, rfl, rfl, rfl, rfl, rfl, rfl, rfl, rfl, trivial⟩ <| LX.next <| PX.thenN <| CX.ret <| PX.thenR <| PX.blockR <| PX.thenR <| PX.thenR <| PX.blockR <| PX.thenR <| PX.ret2 (by simp) Tryz.results24 rfl rfl ?_
      exact fun w hw => ⟨(.nilIface, some e4, []), rfl, Pv.bad, hw.drop (List.nil_sublist _)⟩
    try simp at hb2
    obtain rfl : q4 = none := by exact hb2
    obtain ⟨k4, u4, rfl⟩ := (hq4.ok rfl).elim fun _ h => h.iface
    refine CX.skip <| PX.thenN <| CX.region <| LX.pure (Y.move rfl) rfl rfl rfl <| LX.pure (Y.move rfl) rfl rfl rfl <| LX.buildSlice (e := 26) (size := 1) rfl rfl (fun _ => by kernel_rfl) rfl (by decide) rfl rfl rfl ?_
    intro gt32
    refine LX.appendT 0 Kl.el96 rfl rfl rfl rfl rfl rfl rfl (by omega) (by omega) rfl rfl rfl ?_
    intro g' cap'
    refine LX.pure (Y.assign rfl) rfl rfl rfl <| LX.sub (l' := [(0, _), (6, _), (7, _), (21, _), (22, _), (23, _)]) ⟨rfl, rfl, rfl, rfl, rfl, rfl, trivial⟩ <| LX.next <| PX.blockN <| PX.thenN <| CX.region <| LX.pure (Y.addN rfl rfl (by (simp only []; omega))) rfl rfl rfl <| LX.pure (Y.move rfl) rfl rfl rfl <| LX.sub (l' := [(0, _), (6, _), (7, _), (21, _), (22, _), (23, _)]) ⟨rfl, rfl, rfl, rfl, rfl, rfl, trivial⟩ <| LX.next ?_
    obtain ⟨t4, ht4⟩ := hq4.ok rfl
    exact PX.again (μ := fun s => x.kids.length - s.1) (i := (j, (g, c), vs, ts, ds)) (j + 1, (g', cap'), vs ++ [.iface k4 u4], ts ++ [t4], d4 ++ ds) (by show x.kids.length - (j + 1) < x.kids.length - j; omega) ⟨rfl, rfl, by dsimp only; rw [List.length_append]; rfl, rfl, rfl, rfl, trivial⟩ (fun w hw => ⟨hok.next hj1 ht4, by dsimp only; rw [List.length_append]; exact hw⟩)
  try simp at hb1
  obtain rfl : j = x.kids.length := by omega
  refine CX.exit <| PX.thenE <| PX.thenE <| PX.blockE <| PX.thenN <| CX.seq <| CX.seq <| CX.region <| LX.pure (Y.move rfl) rfl rfl rfl <| LX.pure (Y.ldAggB (vs := [.int .i64 x.op, .int .i64 x.n, .int .i64 x.pos, str x.s, .slice ak x.kids.length ck]) 1 Kq.ag53 rfl rfl rfl rfl) rfl rfl rfl <| LX.call (plain_c (fun w hw => hl.push hw) (fun w hw => hka.push hw) (fun q hq => by have := hG.kids i x hx q hq; omega) (hG.neg i x hx)) Kr_.en42 rfl rfl rfl rfl rfl ?_
  intro b5
  refine LX.pure (Y.not rfl) rfl rfl rfl <| LX.sub (l' := [(6, _), (7, _), (44, _)]) ⟨rfl, rfl, rfl, trivial⟩ <| LX.next <| PX.thenN ?_
  refine CX.cond rfl (fun hb3 => ?_) (fun hb3 => ?_)
  · try simp at hb3
    refine CX.seq <| CX.regionQ rfl (by kernel_rfl) <| LX.pure (Y.ldO Kc.one28 rfl (hS.at_ 12 0 rfl) (hS.lt 0 (by decide))) rfl rfl rfl <| LX.pure (Y.assign rfl) rfl rfl rfl <| LX.pure (Y.assign rfl) rfl rfl rfl <| LX.sub (l' := [(4, _), (5, _), (6, _), (7, _)]) ⟨rfl, rfl, rfl, rfl, trivial⟩ <| LX.nextQ <| PX.thenN <| CX.ret <| PX.thenR <| PX.ret2 (by simp) Tryz.results24 rfl rfl ?_
    exact fun w hw => ⟨(.nilIface, some (247, .pointer (some (aE 12))), []), rfl, Pv.bad, hw.drop (List.nil_sublist _)⟩
  try simp at hb3
  refine CX.skip <| PX.thenN <| CX.seq <| CX.seq <| CX.region <| LX.pure (Y.fieldAddr0 Kq.fo53_0 rfl) rfl rfl rfl <| LX.pure (Y.ldB 1 Kc.one3 rfl rfl rfl) rfl rfl rfl <| LX.sub (l' := [(6, _), (7, _), (47, _)]) ⟨rfl, rfl, rfl, trivial⟩ <| LX.next <| PX.thenN <| CX.block <| CX.sub (l' := [(6, _), (7, _), (47, _)]) ⟨rfl, rfl, rfl, trivial⟩ ?_
  apply CX.seqSw 48
  ·
    refine CX.seq <| CX.region <| LX.pure (Y.eqI rfl rfl) rfl rfl rfl <| LX.pure (Y.assign rfl) rfl rfl rfl <| LX.next <| PX.thenN ?_
    apply CX.swOr
    · rfl
    · exact ⟨rfl, rfl, rfl, rfl, trivial⟩
    intro hb4
    try simp at hb4
    refine CX.region <| LX.pure (Y.eqI rfl rfl) rfl rfl rfl <| LX.pure (Y.assign rfl) rfl rfl rfl <| LX.next ?_
    exact PX.sw ⟨rfl, rfl, rfl, rfl, trivial⟩
  refine CX.cond rfl (fun hb5 => ?_) (fun hb5 => ?_)
  · try simp at hb5
    refine CX.seq <| CX.region <| LX.pure (Y.fieldAddr0 Kq.fo53_0 rfl) rfl rfl rfl <| LX.pure (Y.ldB 1 Kc.one3 rfl rfl rfl) rfl rfl rfl <| LX.pure (Y.eqI rfl rfl) rfl rfl rfl <| LX.call (bool_c _) Kr_.en43 rfl rfl rfl rfl rfl ?_
    intro _
    refine LX.pure (Y.assign rfl) rfl rfl rfl <| LX.pure (Y.assign rfl) rfl rfl rfl <| LX.sub (l' := [(4, _), (5, _)]) ⟨rfl, rfl, trivial⟩ <| LX.next <| PX.thenN <| CX.ret <| PX.blockR <| PX.thenR <| PX.ret2 (by simp) Tryz.results24 rfl rfl ?_
    exact fun w hw => ⟨(_, none, []), rfl, Pv.good (.bool _), hw.drop (List.nil_sublist _)⟩
  try simp at hb5
  refine CX.seq <| CX.region <| LX.pure (Y.eqI rfl rfl) rfl rfl rfl <| LX.pure (Y.assign rfl) rfl rfl rfl <| LX.sub (l' := [(6, _), (7, _), (47, _), (55, _)]) ⟨rfl, rfl, rfl, rfl, trivial⟩ <| LX.next <| PX.thenN ?_
  refine CX.cond rfl (fun hb6 => ?_) (fun hb6 => ?_)
  · try simp at hb6
    refine CX.seq <| CX.region <| LX.pure (Y.fieldAddr0 Kr_.fo53_3 rfl) rfl rfl rfl <| LX.pure (Y.ldB 1 Kh.one9 rfl rfl rfl) rfl rfl rfl <| LX.call (onto_c (R := fun q : Value × Option (TypeId × Value) × List It × Int => NumM (InIts q.2.2.1) q.2.2.2 q.1) (new := fun q => q.2.2.1) (fun w hw => parse_c (hE.push hw).s (hB i x hx).2)) Kr_.en44 rfl rfl rfl rfl rfl ?_
    rintro ⟨u6, q6, d6, z6⟩
    refine LX.have fun hz6 => ?_
    obtain ⟨⟨av6, c6, e6, hh6⟩, h806⟩ := (show NumM (InIts d6) z6 u6 from hz6)
    try dsimp only at e6 hh6 h806 ⊢
    subst e6
    refine LX.pure (Y.move rfl) rfl rfl rfl <| LX.pure (Y.extract rfl rfl) rfl rfl rfl <| LX.pure (Y.extract rfl rfl) rfl rfl rfl <| LX.alloc rfl Kj.zv43 rfl rfl rfl ?_
    intro bx64
    refine LX.storeA 0 Kd.ag43 rfl rfl rfl rfl rfl rfl rfl rfl rfl <| LX.pure (Y.assign rfl) rfl rfl rfl <| LX.sub (l' := [(12, _)]) ⟨rfl, trivial⟩ <| LX.next <| PX.thenN <| CX.seq <| CX.region <| LX.pure (Y.ldAggB 0 Kd.ag43 rfl rfl rfl rfl) rfl rfl rfl <| LX.call (int_c) Kr_.en15 rfl rfl rfl rfl rfl ?_
    intro _
    refine LX.pure (Y.assign rfl) rfl rfl rfl <| LX.pure (Y.assign rfl) rfl rfl rfl <| LX.sub (l' := [(4, _), (5, _)]) ⟨rfl, rfl, trivial⟩ <| LX.next <| PX.thenN <| CX.ret <| PX.blockR <| PX.thenR <| PX.ret2 (by simp) Tryz.results24 rfl rfl ?_
    exact fun w hw => ⟨(_, none, d6), rfl, Pv.good (.int (z := z6) ⟨⟨av6, c6, rfl, hh6⟩, h806⟩), hw.drop (List.Sublist.cons _ (List.sublist_append_left d6 _))⟩
  try simp at hb6
  refine CX.seq <| CX.region <| LX.pure (Y.eqI rfl rfl) rfl rfl rfl <| LX.pure (Y.assign rfl) rfl rfl rfl <| LX.sub (l' := [(6, _), (7, _), (47, _), (65, _)]) ⟨rfl, rfl, rfl, rfl, trivial⟩ <| LX.next <| PX.thenN ?_
  refine CX.cond rfl (fun hb7 => ?_) (fun hb7 => ?_)
  · try simp at hb7
    refine CX.seq <| CX.region <| LX.pure (Y.fieldAddr0 Kr_.fo53_3 rfl) rfl rfl rfl <| LX.pure (Y.ldB 1 Kh.one9 rfl rfl rfl) rfl rfl rfl <| LX.call (str_c _) Kr_.en17 rfl rfl rfl rfl rfl ?_
    intro _
    refine LX.pure (Y.assign rfl) rfl rfl rfl <| LX.pure (Y.assign rfl) rfl rfl rfl <| LX.sub (l' := [(4, _), (5, _)]) ⟨rfl, rfl, trivial⟩ <| LX.next <| PX.thenN <| CX.ret <| PX.blockR <| PX.thenR <| PX.ret2 (by simp) Tryz.results24 rfl rfl ?_
    exact fun w hw => ⟨(_, none, []), rfl, Pv.good (.str (hB i x hx).2), hw.drop (List.nil_sublist _)⟩
  try simp at hb7
  refine CX.seq <| CX.region <| LX.pure (Y.eqI rfl rfl) rfl rfl rfl <| LX.pure (Y.assign rfl) rfl rfl rfl <| LX.sub (l' := [(7, _), (47, _), (70, _)]) ⟨rfl, rfl, rfl, trivial⟩ <| LX.next <| PX.thenN ?_
  refine CX.cond rfl (fun hb8 => ?_) (fun hb8 => ?_)
  · try simp at hb8
    refine CX.seq <| CX.region <| LX.pure (Y.move rfl) rfl rfl rfl ?_
    have hk16 := hG.neg i x hx (by assumption)
    obtain ⟨v0, hv0⟩ : ∃ v, vs[0]? = some v := ⟨_, List.getElem?_eq_getElem (by omega)⟩
    obtain ⟨t0, ht0⟩ : ∃ t, ts[0]? = some t := ⟨_, List.getElem?_eq_getElem (by have := hok.own.len; omega)⟩
    have hV0 := hok.own.at_ 0 t0 v0 ht0 hv0
    refine LX.pure (Y.idxR1 0 (i := 0) Kd.un96 Kd.sz26 rfl rfl rfl (by omega)) rfl rfl rfl <| LX.pure (Y.ldR 0 (v := v0) Kd.one26 rfl rfl hv0) rfl rfl rfl <| LX.call (AsI_c hV0) Kr_.en45 rfl rfl rfl rfl rfl ?_
    rintro ⟨u7, b7⟩
    refine LX.have fun ⟨z7, hz7⟩ => ?_
    obtain ⟨⟨av7, c7, e7, hh7⟩, h807⟩ := hz7
    try dsimp only at e7 hh7 h807 ⊢
    subst e7
    refine LX.pure (Y.move rfl) rfl rfl rfl <| LX.pure (Y.extract rfl rfl) rfl rfl rfl <| LX.pure (Y.extract rfl rfl) rfl rfl rfl <| LX.alloc rfl Kj.zv43 rfl rfl rfl ?_
    intro bx87
    refine LX.storeA 0 Kd.ag43 rfl rfl rfl rfl rfl rfl rfl rfl rfl <| LX.pure (Y.assign rfl) rfl rfl rfl <| LX.sub (l' := [(14, _)]) ⟨rfl, trivial⟩ <| LX.next <| PX.thenN <| CX.seq <| CX.region <| LX.pure (Y.ldAggB 0 Kd.ag43 rfl rfl rfl rfl) rfl rfl rfl <| LX.call (neg_c (M := InIts ds) (z := z7) ⟨⟨av7, c7, rfl, hh7⟩, h807⟩ (fun w hw => its_lies hw (fun it h => by simp [h]))) Kr_.en46 rfl rfl rfl rfl rfl ?_
    intro u8
    refine LX.have fun ⟨z8, hz8⟩ => ?_
    obtain ⟨⟨av8, c8, e8, hh8⟩, h808⟩ := hz8
    try dsimp only at e8 hh8 h808 ⊢
    subst e8
    refine LX.call (int_c) Kr_.en15 rfl rfl rfl rfl rfl ?_
    intro _
    refine LX.pure (Y.assign rfl) rfl rfl rfl <| LX.pure (Y.assign rfl) rfl rfl rfl <| LX.sub (l' := [(4, _), (5, _)]) ⟨rfl, rfl, trivial⟩ <| LX.next <| PX.thenN <| CX.ret <| PX.blockR <| PX.thenR <| PX.ret2 (by simp) Tryz.results24 rfl rfl ?_
    exact fun w hw => ⟨(_, none, ds), rfl, Pv.good (.int (z := z8) ⟨⟨av8, c8, rfl, hh8⟩, h808⟩), hw.drop (List.Sublist.cons _ (List.Sublist.cons _ (List.Sublist.cons _ (List.Sublist.refl _))))⟩
  try simp at hb8
  refine CX.seq <| CX.region <| LX.pure (Y.eqI rfl rfl) rfl rfl rfl <| LX.pure (Y.assign rfl) rfl rfl rfl <| LX.sub (l' := [(7, _), (47, _), (82, _)]) ⟨rfl, rfl, rfl, trivial⟩ <| LX.next <| PX.thenN ?_
  refine CX.cond rfl (fun hb9 => ?_) (fun hb9 => ?_)
  · try simp at hb9
    refine CX.seq <| CX.region <| LX.pure (Y.move rfl) rfl rfl rfl <| LX.call (onto_d (new := fun q : Nat × Option Nat × Nat => [blk q.1 [rv q.2.1 vs.length q.2.2, .bool false, .int .i64 0] 123, .row q.2.1 q.2.2 vs.length 26 1 vs]) (fun w hw => list_c (row_lies hw List.mem_cons_self rfl) hok.own.one (by omega))) Kr_.en47 rfl rfl rfl rfl rfl ?_
    rintro ⟨b9, g9, c9⟩
    refine LX.pure (Y.mkI Kr_.ni104 rfl) rfl rfl rfl <| LX.pure (Y.assign rfl) rfl rfl rfl <| LX.pure (Y.assign rfl) rfl rfl rfl <| LX.sub (l' := [(4, _), (5, _)]) ⟨rfl, rfl, trivial⟩ <| LX.next <| PX.thenN <| CX.ret <| PX.blockR <| PX.thenR <| PX.ret2 (by simp) Tryz.results24 rfl rfl ?_
    exact fun w hw => ⟨(_, none, _ :: _ :: ds), rfl, Pv.good (list_vi hok.own (by omega) (row_some hw (List.mem_cons_of_mem _ List.mem_cons_self))), hw.drop (List.Sublist.cons_cons _ (List.Sublist.cons_cons _ (List.Sublist.cons _ (List.Sublist.cons _ (List.Sublist.refl _)))))⟩
  try simp at hb9
  refine CX.seq <| CX.region <| LX.pure (Y.eqI rfl rfl) rfl rfl rfl <| LX.pure (Y.assign rfl) rfl rfl rfl <| LX.sub (l' := [(7, _), (47, _), (87, _)]) ⟨rfl, rfl, rfl, trivial⟩ <| LX.next <| PX.thenN ?_
  refine CX.cond rfl (fun hb10 => ?_) (fun hb10 => ?_)
  · try simp at hb10
    refine CX.seq <| CX.region <| LX.pure (Y.move rfl) rfl rfl rfl <| LX.call (onto_d (new := fun q : Nat × Option Nat × Nat => [blk q.1 [rv q.2.1 vs.length q.2.2] 117, .row q.2.1 q.2.2 vs.length 26 1 vs]) (fun w hw => tuple_c (row_lies hw List.mem_cons_self rfl) hok.own.one (by omega))) Kr_.en48 rfl rfl rfl rfl rfl ?_
    rintro ⟨b9, g9, c9⟩
    refine LX.pure (Y.assign rfl) rfl rfl rfl <| LX.pure (Y.assign rfl) rfl rfl rfl <| LX.sub (l' := [(4, _), (5, _)]) ⟨rfl, rfl, trivial⟩ <| LX.next <| PX.thenN <| CX.ret <| PX.blockR <| PX.thenR <| PX.ret2 (by simp) Tryz.results24 rfl rfl ?_
    exact fun w hw => ⟨(_, none, _ :: _ :: ds), rfl, Pv.good (tup_vi hok.own (by omega) (row_some hw (List.mem_cons_of_mem _ List.mem_cons_self))), hw.drop (List.Sublist.cons_cons _ (List.Sublist.cons_cons _ (List.Sublist.cons _ (List.Sublist.cons _ (List.Sublist.refl _)))))⟩
  try simp at hb10
  refine CX.seq <| CX.region <| LX.pure (Y.eqI rfl rfl) rfl rfl rfl <| LX.pure (Y.assign rfl) rfl rfl rfl <| LX.sub (l' := [(7, _), (91, _)]) ⟨rfl, rfl, trivial⟩ <| LX.next <| PX.thenN ?_
  refine CX.cond rfl (fun hb11 => ?_) (fun hb11 => ?_)
  · try simp at hb11
    refine CX.seq <| CX.region <| LX.pure (Y.move rfl) rfl rfl rfl ?_
    have hev : vs.length % 2 = 0 := by rw [hvl]; exact hG.two i x hx (by assumption)
    refine LX.call (onto_c (R := fun q : Value × Option (TypeId × Value) × List It => Pm (InIts ds) (InObj ds) q.2.1 q.1 q.2.2) (new := fun q => q.2.2) (fun w hw => pairs_c (hE.push hw) (its_lies hw (fun it h => by simp [h])) (obj_lies hw (fun it h => by simp [h])) (row_lies hw List.mem_cons_self rfl) hok.own.len hok.own.at_ (by omega) hev)) Kr_.en49 rfl rfl rfl rfl rfl ?_
    rintro ⟨v9, q9, d9⟩
    refine LX.have fun hq9 => ?_
    try dsimp only at hq9 ⊢
    refine LX.pure (Y.extract rfl rfl) rfl rfl rfl <| LX.pure (Y.extract rfl rfl) rfl rfl rfl <| LX.pure (Y.assign rfl) rfl rfl rfl <| LX.pure (Y.assign rfl) rfl rfl rfl <| LX.sub (l' := [(4, _), (5, _)]) ⟨rfl, rfl, trivial⟩ <| LX.next <| PX.thenN <| CX.ret <| PX.blockR <| PX.thenR <| PX.ret2 (by simp) Tryz.results24 rfl rfl ?_
    exact fun w hw => ⟨(v9, q9, d9 ++ ds), rfl, Pv.mix hq9, hw.drop (List.Sublist.append (List.Sublist.refl d9) (List.Sublist.cons _ (List.Sublist.cons _ (List.Sublist.refl _))))⟩
  try simp at hb11
  refine CX.skip <| PX.blockN <| PX.thenN <| CX.seq <| CX.region <| LX.call (none_c) Kr_.en50 rfl rfl rfl rfl rfl ?_
  intro _
  refine LX.pure (Y.assign rfl) rfl rfl rfl <| LX.pure (Y.assign rfl) rfl rfl rfl <| LX.sub (l' := [(4, _), (5, _)]) ⟨rfl, rfl, trivial⟩ <| LX.next <| PX.thenN <| CX.ret <| PX.ret2 (by simp) Tryz.results24 rfl rfl ?_
  exact fun w hw => ⟨(_, none, []), rfl, Pv.good (.none), hw.drop (List.nil_sublist _)⟩
end Go.Proofs.YtickdimknfeddaaGreatDoor
