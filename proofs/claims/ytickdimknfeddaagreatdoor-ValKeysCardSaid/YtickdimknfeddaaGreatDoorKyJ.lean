/-
  Proved here: a number of digits, and a minus cut off.
-/
import Derived.Test.YtickdimknfeddaaGreatDoorKyU
import Derived.Test.YtickdimknfeddaaGreatDoorKyF
set_option linter.unusedSimpArgs false
namespace Go.Proofs.YtickdimknfeddaaGreatDoor
open Go.SX Go.RowKit Go.Vo Go.Ky Go.Proofs.YtickdimknfeddaaGreatDoor.Env
namespace Kj
theorem en124 : Enters Tryz.prog 124 := Enters.of Tryz.func124 (by kernel_rfl) (by kernel_rfl)
theorem en143 : Enters Tryz.prog 143 := Enters.of Tryz.func143 (by kernel_rfl) (by kernel_rfl)
theorem zv43 : ∀ w, (zeroValue 43).run Tryz.prog w = .ok (.agg #[.bool false, .slice none 0 0]) w := fun w => by kernel_rfl
end Kj
theorem made_0 {w0 : World} {base : Nat} (ng : Bool) {av : Option Addr} {c : Nat} {l : List Nat} (h : SlAt 1 digA (Lies w0 base) av l) (hl : l.length ≤ 300) (hc : l.length ≤ c) : FnC Tryz.prog 30 #[.bool ng, .slice av l.length c] (WA w0 base []) (fun k : Nat => .agg #[.bool (ng && decide (0 < k)), .slice av k c]) (fun k w => (k ≤ l.length ∧ (0 < k → l.getD (k - 1) 0 ≠ 0)) ∧ WA w0 base [] w) := by
  refine FnC.of_body (fn := Tryz.f30) [(0, _), (1, _)] Tryz.func30 rfl Tryz.ntmps30 rfl ⟨rfl, rfl, trivial⟩ ?_
  refine CX.seq <| CX.region <| LX.alloc rfl Kj.zv43 rfl rfl rfl ?_
  intro bx0
  refine LX.sub (l' := [(0, _), (1, _), (4, _)]) ⟨rfl, rfl, rfl, trivial⟩ <| LX.next <| PX.thenN <| CX.seq <| CX.block <| CX.loop (fun k : Nat => [(0, .bool ng), (1, .slice av k c), (4, .pointer (some ⟨bx0, 0, none⟩))]) (fun (k : Nat) w => k ≤ l.length ∧ WA w0 base [blk bx0 (Value.agg #[.bool false, .slice none 0 0]).cells.toList 43] w) (fun k => k) l.length ⟨rfl, rfl, rfl, trivial⟩ (fun w hw => ⟨Nat.le_refl _, hw⟩) ?_
  intro k
  refine CX.have fun hk0 => ?_
  try dsimp only at hk0 ⊢
  refine CX.seq <| CX.seq <| CX.region <| LX.pure (Y.move rfl) rfl rfl rfl <| LX.pure (Y.lenSl rfl Ka.un41 rfl) rfl rfl rfl <| LX.pure (Y.gtN rfl rfl) rfl rfl rfl <| LX.pure (Y.move rfl) rfl rfl rfl <| LX.sub (l' := [(0, _), (1, _), (4, _), (8, _)]) ⟨rfl, rfl, rfl, rfl, trivial⟩ ?_
  apply LX.joinAnd 8 16 8 rfl
  · intro hb1
    have hb1p := hb1
    try simp at hb1p
    refine LX.gT rfl rfl rfl hb1 (Y.move rfl) rfl rfl <| LX.gT rfl rfl rfl hb1 (Y.move rfl) rfl rfl <| LX.gT rfl rfl rfl hb1 (Y.lenSl rfl Ka.un41 rfl) rfl rfl <| LX.gT rfl rfl rfl hb1 (Y.subN (a := k) (b := 1) rfl rfl (by omega) (by omega)) rfl rfl ?_
    obtain ⟨a1, ha1, hL1⟩ := dig_at h (i := k - 1) (by omega)
    refine LX.gT rfl rfl rfl hb1 (Y.idxZ Ka.un41 Ka.sz76 rfl rfl ha1 (j := k - 1) rfl (by omega)) rfl rfl <| LX.gT rfl rfl rfl hb1 (Y.ldO1 Ka.one76 rfl hL1) rfl rfl <| LX.gT rfl rfl rfl hb1 (Y.eqN rfl rfl) rfl rfl <| LX.pure (Y.pickT rfl hb1 rfl) rfl rfl rfl ?_
    exact LX.left ⟨rfl, rfl, rfl, rfl, rfl, trivial⟩
  · intro hb1
    refine LX.gF rfl rfl rfl hb1 rfl rfl <| LX.gF rfl rfl rfl hb1 rfl rfl <| LX.gF rfl rfl rfl hb1 rfl rfl <| LX.gF rfl rfl rfl hb1 rfl rfl <| LX.gF rfl rfl rfl hb1 rfl rfl <| LX.gF rfl rfl rfl hb1 rfl rfl <| LX.gF rfl rfl rfl hb1 rfl rfl <| LX.pure (Y.pickF rfl hb1 rfl) rfl rfl rfl ?_
    exact LX.left ⟨rfl, rfl, rfl, rfl, rfl, trivial⟩
  refine LX.sub (l' := [(0, _), (1, _), (4, _), (16, _)]) ⟨rfl, rfl, rfl, rfl, trivial⟩ <| LX.next <| PX.thenN ?_
  refine CX.cond rfl (fun hb2 => ?_) (fun hb2 => ?_)
  · try simp at hb2
    refine CX.skip <| PX.thenN <| CX.block <| CX.region <| LX.pure (Y.move rfl) rfl rfl rfl <| LX.pure (Y.move rfl) rfl rfl rfl <| LX.pure (Y.lenSl rfl Ka.un41 rfl) rfl rfl rfl ?_
    have hkp : 0 < k := by omega
    refine LX.pure (Y.subN (a := k) (b := 1) rfl rfl (by omega) (by omega)) rfl rfl rfl <| LX.pure (Y.cutHiT (b := k - 1) (m := k - 1) Ka.un41 Ka.sz76 rfl rfl (by omega) rfl) rfl rfl rfl <| LX.pure (Y.assign rfl) rfl rfl rfl <| LX.sub (l' := [(0, _), (1, _), (4, _)]) ⟨rfl, rfl, rfl, trivial⟩ <| LX.next <| PX.blockN ?_
    have hkp : 0 < k := by omega
    exact PX.again (μ := fun k => k) (i := k) (k - 1) (by show k - 1 < k; omega) ⟨rfl, rfl, rfl, trivial⟩ (fun w hw => ⟨by show k - 1 ≤ l.length; omega, hw⟩)
  try simp at hb2
  have htop : 0 < k → l.getD (k - 1) 0 ≠ 0 := fun hp => by (have := hb2 hp; simpa [List.getD_eq_getElem?_getD] using this)
  refine CX.exit <| PX.thenE <| PX.thenE <| PX.blockE <| PX.thenN <| CX.seq <| CX.region <| LX.pure (Y.move rfl) rfl rfl rfl <| LX.pure (Y.move rfl) rfl rfl rfl <| LX.sub (l' := [(1, _), (4, _), (23, _)]) ⟨rfl, rfl, rfl, trivial⟩ ?_
  apply LX.joinAnd 4 27 23 rfl
  · intro hb3
    refine LX.gT rfl rfl rfl hb3 (Y.move rfl) rfl rfl <| LX.gT rfl rfl rfl hb3 (Y.lenSl rfl Ka.un41 rfl) rfl rfl <| LX.gT rfl rfl rfl hb3 (Y.gtN rfl rfl) rfl rfl <| LX.pure (Y.pickT rfl hb3 rfl) rfl rfl rfl ?_
    exact LX.left ⟨rfl, rfl, rfl, rfl, trivial⟩
  · intro hb3
    refine LX.gF rfl rfl rfl hb3 rfl rfl <| LX.gF rfl rfl rfl hb3 rfl rfl <| LX.gF rfl rfl rfl hb3 rfl rfl <| LX.pure (Y.pickF rfl hb3 rfl) rfl rfl rfl ?_
    exact LX.left ⟨rfl, rfl, rfl, rfl, trivial⟩
  refine LX.pure (Y.move rfl) rfl rfl rfl <| LX.pure (Y.build (v := .agg #[.bool (ng && decide (0 < k)), .slice av k c]) rfl (fun _ => by kernel_rfl)) rfl rfl rfl <| LX.storeA 0 Kd.ag43 rfl rfl rfl rfl rfl rfl rfl rfl rfl <| LX.sub (l' := [(4, _)]) ⟨rfl, trivial⟩ <| LX.next <| PX.thenN <| CX.ret <| PX.retA (i := 0) (by simp) Tryz.results30 Kd.ag43 rfl rfl rfl ?_
  exact fun w hw => ⟨k, rfl, ⟨hk0, htop⟩, hw.drop (List.nil_sublist _)⟩
theorem made_c {W : World → Prop} [Stab W] (ng : Bool) {av : Option Addr} {c : Nat} {l : List Nat} (h : ∀ w, W w → SlAt 1 digA (Lies w w.heap.size) av l) (hl : l.length ≤ 300) (hc : l.length ≤ c) : FnC Tryz.prog 30 #[.bool ng, .slice av l.length c] W (fun k : Nat => .agg #[.bool (ng && decide (0 < k)), .slice av k c]) (fun k w => (k ≤ l.length ∧ (0 < k → l.getD (k - 1) 0 ≠ 0)) ∧ W w) :=
  FnC.reO fun w hw => made_0 ng (h w hw) hl hc
theorem has_c {W : World → Prop} [Stab W] (s : T) (hs : s.length ≤ 300) : FnC Tryz.prog 143 #[str s, str [45]] W (fun b : Bool => .bool b) (fun b w => (b = true → 1 ≤ s.length) ∧ W w) := by
  refine FnC.reO fun w hw => ?_
  refine FnC.of_body (fn := Tryz.f143) [(0, _), (1, _)] Tryz.func143 rfl Tryz.ntmps143 rfl ⟨rfl, rfl, trivial⟩ ?_
  refine CX.seq <| CX.region <| LX.pure (Y.assign rfl) rfl rfl rfl <| LX.sub (l' := [(0, _), (1, _), (4, _)]) ⟨rfl, rfl, rfl, trivial⟩ <| LX.next <| PX.thenN <| CX.seq <| CX.region <| LX.pure (Y.move rfl) rfl rfl rfl <| LX.pure (Y.lenStr rfl Ka.un9 rfl) rfl rfl rfl <| LX.pure (Y.move rfl) rfl rfl rfl <| LX.pure (Y.lenStr rfl Ka.un9 rfl) rfl rfl rfl <| LX.pure (Y.geN rfl rfl) rfl rfl rfl <| LX.pure (Y.move rfl) rfl rfl rfl <| LX.sub (l' := [(0, _), (1, _), (4, _), (10, _)]) ⟨rfl, rfl, rfl, rfl, trivial⟩ ?_
  apply LX.joinAnd 7 17 10 rfl
  · intro hb1
    have hb1p := hb1
    try simp at hb1p
    refine LX.gT rfl rfl rfl hb1 (Y.move rfl) rfl rfl <| LX.gT rfl rfl rfl hb1 (Y.move rfl) rfl rfl <| LX.gT rfl rfl rfl hb1 (Y.lenStr rfl Ka.un9 rfl) rfl rfl <| LX.gT rfl rfl rfl hb1 (Y.sliceHi rfl rfl Ka.un9 (by omega)) rfl rfl <| LX.gT rfl rfl rfl hb1 (Y.move rfl) rfl rfl <| LX.gT rfl rfl rfl hb1 (Y.eqS rfl rfl) rfl rfl <| LX.pure (Y.pickT rfl hb1 rfl) rfl rfl rfl ?_
    exact LX.left ⟨rfl, rfl, rfl, rfl, rfl, trivial⟩
  · intro hb1
    refine LX.gF rfl rfl rfl hb1 rfl rfl <| LX.gF rfl rfl rfl hb1 rfl rfl <| LX.gF rfl rfl rfl hb1 rfl rfl <| LX.gF rfl rfl rfl hb1 rfl rfl <| LX.gF rfl rfl rfl hb1 rfl rfl <| LX.gF rfl rfl rfl hb1 rfl rfl <| LX.pure (Y.pickF rfl hb1 rfl) rfl rfl rfl ?_
    exact LX.left ⟨rfl, rfl, rfl, rfl, rfl, trivial⟩
  refine LX.pure (Y.assign rfl) rfl rfl rfl <| LX.sub (l' := [(4, _)]) ⟨rfl, trivial⟩ <| LX.next <| PX.thenN <| CX.ret <| PX.ret1 (by simp) Tryz.results143 rfl ?_
  exact fun w hw => ⟨_, rfl, (fun h => by (simp_all; done)), hw⟩
theorem cutI_c {W : World → Prop} [Stab W] (s : T) (hs : s.length ≤ 300) : FnC Tryz.prog 124 #[str s, str [45]] W (fun q : T × Bool => .tuple #[str q.1, .bool q.2]) (fun q w => q.1.length ≤ s.length ∧ W w) := by
  refine FnC.reO fun w hw => ?_
  refine FnC.of_body (fn := Tryz.f124) [(0, _), (1, _)] Tryz.func124 rfl Tryz.ntmps124 rfl ⟨rfl, rfl, trivial⟩ ?_
  refine CX.seq <| CX.region <| LX.pure (Y.assign rfl) rfl rfl rfl <| LX.pure (Y.assign rfl) rfl rfl rfl <| LX.sub (l' := [(0, _), (1, _), (4, _), (5, _)]) ⟨rfl, rfl, rfl, rfl, trivial⟩ <| LX.next <| PX.thenN <| CX.seq <| CX.seq <| CX.region <| LX.pure (Y.move rfl) rfl rfl rfl <| LX.pure (Y.move rfl) rfl rfl rfl <| LX.call (has_c s hs) Kj.en143 rfl rfl rfl rfl rfl ?_
  intro b1
  refine LX.have fun hb9 => ?_
  try dsimp only at hb9 ⊢
  refine LX.pure (Y.not rfl) rfl rfl rfl <| LX.sub (l' := [(0, _), (1, _), (4, _), (5, _), (9, _)]) ⟨rfl, rfl, rfl, rfl, rfl, trivial⟩ <| LX.next <| PX.thenN ?_
  refine CX.cond rfl (fun hb1 => ?_) (fun hb1 => ?_)
  · try simp at hb1
    refine CX.seq <| CX.region <| LX.pure (Y.move rfl) rfl rfl rfl <| LX.pure (Y.assign rfl) rfl rfl rfl <| LX.pure (Y.assign rfl) rfl rfl rfl <| LX.sub (l' := [(0, _), (1, _), (4, _), (5, _)]) ⟨rfl, rfl, rfl, rfl, trivial⟩ <| LX.next <| PX.thenN <| CX.ret <| PX.thenR <| PX.ret2 (by simp) Tryz.results124 rfl rfl ?_
    exact fun w hw => ⟨(_, _), rfl, by exact Nat.le_refl _, hw⟩
  try simp at hb1
  have hs1 := hb9 (by assumption)
  refine CX.skip <| PX.thenN <| CX.seq <| CX.region <| LX.pure (Y.move rfl) rfl rfl rfl <| LX.pure (Y.move rfl) rfl rfl rfl <| LX.pure (Y.lenStr rfl Ka.un9 rfl) rfl rfl rfl <| LX.pure (Y.sliceLo rfl rfl Ka.un9 (by omega)) rfl rfl rfl <| LX.pure (Y.assign rfl) rfl rfl rfl <| LX.pure (Y.assign rfl) rfl rfl rfl <| LX.sub (l' := [(4, _), (5, _)]) ⟨rfl, rfl, trivial⟩ <| LX.next <| PX.thenN <| CX.ret <| PX.ret2 (by simp) Tryz.results124 rfl rfl ?_
  exact fun w hw => ⟨(_, _), rfl, by (simp; done), hw⟩
theorem cutP_c {W : World → Prop} [Stab W] (s : T) (hs : s.length ≤ 300) : FnC Tryz.prog 87 #[str s, str [45]] W (fun q : T × Bool => .tuple #[str q.1, .bool q.2]) (fun q w => q.1.length ≤ s.length ∧ W w) := by
  refine FnC.reO fun w hw => ?_
  refine FnC.of_body (fn := Tryz.f87) [(0, _), (1, _)] Tryz.func87 rfl Tryz.ntmps87 rfl ⟨rfl, rfl, trivial⟩ ?_
  refine CX.seq <| CX.region <| LX.pure (Y.assign rfl) rfl rfl rfl <| LX.pure (Y.assign rfl) rfl rfl rfl <| LX.sub (l' := [(0, _), (1, _), (4, _), (5, _)]) ⟨rfl, rfl, rfl, rfl, trivial⟩ <| LX.next <| PX.thenN <| CX.seq <| CX.region <| LX.pure (Y.move rfl) rfl rfl rfl <| LX.pure (Y.move rfl) rfl rfl rfl <| LX.call (cutI_c s hs) Kj.en124 rfl rfl rfl rfl rfl ?_
  rintro ⟨t1, b1⟩
  refine LX.have fun ht1 => ?_
  try dsimp only at ht1 ⊢
  refine LX.pure (Y.extract rfl rfl) rfl rfl rfl <| LX.pure (Y.extract rfl rfl) rfl rfl rfl <| LX.pure (Y.assign rfl) rfl rfl rfl <| LX.pure (Y.assign rfl) rfl rfl rfl <| LX.sub (l' := [(4, _), (5, _)]) ⟨rfl, rfl, trivial⟩ <| LX.next <| PX.thenN <| CX.ret <| PX.ret2 (by simp) Tryz.results87 rfl rfl ?_
  exact fun w hw => ⟨(_, _), rfl, ht1, hw⟩
end Go.Proofs.YtickdimknfeddaaGreatDoor

namespace Go.Proofs.YtickdimknfeddaaGreatDoor
open Go.SX Go.RowKit Go.Vo Go.Ky Go.Proofs.YtickdimknfeddaaGreatDoor.Env Go.Tr
namespace Kk
theorem en30 : Enters Tryz.prog 30 := Enters.of Tryz.func30 (by kernel_rfl) (by kernel_rfl)
theorem en87 : Enters Tryz.prog 87 := Enters.of Tryz.func87 (by kernel_rfl) (by kernel_rfl)
theorem el41 : Elem Tryz.prog 41 76 1 4 := Elem.of Ka.un41 (z := .int .u32 0) (by kernel_rfl) rfl
end Kk
theorem parse_c {w0 : World} {base : Nat} {aE : Nat → Addr} (hS : EnvS w0 base aE) {s : T} (hs : s.length ≤ 300) : FnC Tryz.prog 44 #[str s] (WA w0 base []) (fun q : Value × Option (TypeId × Value) × List It × Int => .tuple #[q.1, eV q.2.1]) (fun q w => NumM (InIts q.2.2.1) q.2.2.2 q.1 ∧ WA w0 base q.2.2.1 w) := by
  refine FnC.of_body (fn := Tryz.f44) [(0, _)] Tryz.func44 rfl Tryz.ntmps44 rfl ⟨rfl, trivial⟩ ?_
  refine CX.seq <| CX.region <| LX.alloc rfl Kj.zv43 rfl rfl rfl ?_
  intro bx0
  refine LX.pure (Y.assign rfl) rfl rfl rfl <| LX.sub (l' := [(0, _), (2, _), (3, _)]) ⟨rfl, rfl, rfl, trivial⟩ <| LX.next <| PX.thenN <| CX.seq <| CX.region <| LX.pure (Y.move rfl) rfl rfl rfl <| LX.call (cutP_c s hs) Kk.en87 rfl rfl rfl rfl rfl ?_
  rintro ⟨t, ng⟩
  refine LX.have fun htl => ?_
  try dsimp only at htl ⊢
  refine LX.pure (Y.move rfl) rfl rfl rfl <| LX.pure (Y.extract rfl rfl) rfl rfl rfl <| LX.pure (Y.extract rfl rfl) rfl rfl rfl <| LX.pure (Y.assign rfl) rfl rfl rfl <| LX.pure (Y.assign rfl) rfl rfl rfl <| LX.sub (l' := [(2, _), (3, _), (4, _), (5, _)]) ⟨rfl, rfl, rfl, rfl, trivial⟩ <| LX.next <| PX.thenN <| CX.seq <| CX.seq <| CX.region <| LX.pure (Y.move rfl) rfl rfl rfl <| LX.pure (Y.eqS rfl rfl) rfl rfl rfl <| LX.pure (Y.move rfl) rfl rfl rfl <| LX.sub (l' := [(2, _), (3, _), (4, _), (5, _), (18, _)]) ⟨rfl, rfl, rfl, rfl, rfl, trivial⟩ ?_
  apply LX.joinOr 12 30 18 (y := (decide (bt t 0 = 48) && (decide (t.length > 1) || ng))) rfl
  · intro hb1
    refine LX.gF rfl rfl rfl hb1 rfl rfl <| LX.gF rfl rfl rfl hb1 rfl rfl <| LX.gF rfl rfl rfl hb1 rfl rfl <| LX.gF rfl rfl rfl hb1 rfl rfl <| LX.gU rfl rfl rfl rfl rfl <| LX.gU rfl rfl rfl rfl rfl <| LX.gU rfl rfl rfl rfl rfl <| LX.gU rfl rfl rfl rfl rfl <| LX.gU rfl rfl rfl rfl rfl <| LX.gU rfl rfl rfl rfl rfl <| LX.gF rfl rfl rfl hb1 rfl rfl <| LX.pure (Y.pickT rfl hb1 rfl) rfl rfl rfl ?_
    exact LX.left ⟨rfl, rfl, rfl, rfl, rfl, rfl, trivial⟩
  · intro hb1
    have hb1p := hb1
    try simp at hb1p
    refine LX.gT rfl rfl rfl hb1 (Y.move rfl) rfl rfl <| LX.gT rfl rfl rfl hb1 (Y.index rfl rfl Ka.un9 (by exact List.length_pos_iff.2 (by assumption))) rfl rfl <| LX.gT rfl rfl rfl hb1 (Y.eqN rfl rfl) rfl rfl <| LX.gT rfl rfl rfl hb1 (Y.move rfl) rfl rfl <| LX.sub (l' := [(2, _), (3, _), (4, _), (5, _), (18, _), (22, _)]) ⟨rfl, rfl, rfl, rfl, rfl, rfl, trivial⟩ ?_
    apply LX.joinAnd 7 29 22 rfl
    · intro hb2
      refine LX.gT rfl rfl rfl hb2 (Y.move rfl) rfl rfl <| LX.gT rfl rfl rfl hb2 (Y.lenStr rfl Ka.un9 rfl) rfl rfl <| LX.gT rfl rfl rfl hb2 (Y.gtN rfl rfl) rfl rfl <| LX.gT rfl rfl rfl hb2 (Y.move rfl) rfl rfl <| LX.sub (l' := [(2, _), (3, _), (4, _), (5, _), (18, _), (22, _), (26, _)]) ⟨rfl, rfl, rfl, rfl, rfl, rfl, rfl, trivial⟩ ?_
      apply LX.joinOr 2 28 26 rfl
      · intro hb3
        refine LX.gF rfl rfl rfl hb3 rfl rfl <| LX.gT rfl rfl rfl hb2 (Y.pickT rfl hb3 rfl) rfl rfl ?_
        exact LX.left ⟨rfl, rfl, rfl, rfl, rfl, rfl, rfl, rfl, trivial⟩
      · intro hb3
        refine LX.gT rfl rfl rfl hb3 (Y.move rfl) rfl rfl <| LX.gT rfl rfl rfl hb2 (Y.pickF rfl hb3 rfl) rfl rfl ?_
        exact LX.left ⟨rfl, rfl, rfl, rfl, rfl, rfl, rfl, rfl, trivial⟩
      refine LX.gT rfl rfl rfl hb1 (Y.pickT rfl hb2 rfl) rfl rfl ?_
      exact LX.left ⟨rfl, rfl, rfl, rfl, rfl, rfl, rfl, trivial⟩
    · intro hb2
      refine LX.gF rfl rfl rfl hb2 rfl rfl <| LX.gF rfl rfl rfl hb2 rfl rfl <| LX.gF rfl rfl rfl hb2 rfl rfl <| LX.gF rfl rfl rfl hb2 rfl rfl <| LX.gU rfl rfl rfl rfl rfl <| LX.gF rfl rfl rfl hb2 rfl rfl <| LX.gT rfl rfl rfl hb1 (Y.pickF rfl hb2 rfl) rfl rfl ?_
      exact LX.left ⟨rfl, rfl, rfl, rfl, rfl, rfl, rfl, trivial⟩
    refine LX.pure (Y.pickF rfl hb1 rfl) rfl rfl rfl ?_
    exact LX.left ⟨rfl, rfl, rfl, rfl, rfl, rfl, trivial⟩
  refine LX.sub (l' := [(2, _), (3, _), (4, _), (5, _), (30, _)]) ⟨rfl, rfl, rfl, rfl, rfl, trivial⟩ <| LX.next <| PX.thenN ?_
  refine CX.cond rfl (fun hb4 => ?_) (fun hb4 => ?_)
  · try simp at hb4
    refine CX.seq <| CX.regionM [(0, .anywhere), (1, .held), (2, .alone), (3, .alone)] rfl (by kernel_rfl) <| MX.lift0 (i := 0) rfl (Y.build (v := .agg #[.bool false, .slice none 0 0]) rfl (fun _ => by kernel_rfl)) rfl rfl rfl <| MX.lift1 (i := 1) (pend' := []) rfl (fun w hw => by exact hw) (Y.ldO Kc.one28 rfl (hS.at_ 12 0 rfl) (hS.lt 0 (by decide))) rfl rfl rfl (by kernel_rfl) <| MX.force (i := 2) rfl <| LX.storeA 0 Kd.ag43 rfl rfl rfl rfl rfl rfl rfl rfl rfl <| LX.nextM [1] (by kernel_rfl) (fun _ => (fun w hw => by exact hw)) <| MX.force (i := 3) rfl <| LX.pure (Y.assign rfl) rfl rfl rfl <| LX.nextM [] (by kernel_rfl) (fun h => absurd rfl h) <| MX.sub (l' := [(2, _), (3, _), (4, _), (5, _)]) ⟨rfl, rfl, rfl, rfl, trivial⟩ <| MX.done <| PX.thenN <| CX.ret <| PX.thenR <| PX.retA2 (i := 0) (by simp) Tryz.results44 Kd.ag43 rfl rfl rfl rfl ?_
    exact fun w hw => ⟨(.agg #[.bool false, .slice none 0 0], some (247, .pointer (some (aE 12))), [], 0), rfl, num_zero, hw.drop (List.nil_sublist _)⟩
  try simp at hb4
  refine CX.skip <| PX.thenN <| CX.seq <| CX.seq <| CX.region <| LX.pure (Y.move rfl) rfl rfl rfl <| LX.pure (Y.lenStr rfl Ka.un9 rfl) rfl rfl rfl <| LX.pure (Y.move rfl) rfl rfl rfl <| LX.sub (l' := [(2, _), (3, _), (4, _), (5, _), (34, _), (35, _)]) ⟨rfl, rfl, rfl, rfl, rfl, rfl, trivial⟩ <| LX.next <| PX.thenN <| CX.block <| CX.loop (fun j : Nat => [(2, .pointer (some ⟨bx0, 0, none⟩)), (4, str t), (5, .bool ng), (34, .int .i64 (t.length : Int)), (35, .int .i64 (j : Int))]) (fun (j : Nat) w => (j ≤ t.length ∧ ∀ i, i < j → 48 ≤ bt t i ∧ bt t i ≤ 57) ∧ WA w0 base [blk bx0 (Value.agg #[.bool false, .slice none 0 0]).cells.toList 43] w) (fun j => t.length - j) 0 ⟨rfl, rfl, rfl, rfl, rfl, trivial⟩ (fun w hw => ⟨⟨Nat.zero_le _, fun i hi => absurd hi (Nat.not_lt_zero i)⟩, hw⟩) ?_
  intro j
  refine CX.have fun ⟨hj0, hdg⟩ => ?_
  try dsimp only at hj0 hdg ⊢
  refine CX.seq <| CX.region <| LX.pure (Y.ltN rfl rfl) rfl rfl rfl <| LX.sub (l' := [(2, _), (4, _), (5, _), (34, _), (35, _), (36, _)]) ⟨rfl, rfl, rfl, rfl, rfl, rfl, trivial⟩ <| LX.next <| PX.thenN <| CX.seq ?_
  refine CX.cond rfl (fun hb5 => ?_) (fun hb5 => ?_)
  · try simp at hb5
    refine CX.skip <| PX.thenN <| CX.seq <| CX.block <| CX.seq <| CX.region <| LX.pure (Y.move rfl) rfl rfl rfl <| LX.pure (Y.assign rfl) rfl rfl rfl <| LX.sub (l' := [(2, _), (4, _), (5, _), (6, _), (34, _), (35, _)]) ⟨rfl, rfl, rfl, rfl, rfl, rfl, trivial⟩ <| LX.next <| PX.thenN <| CX.seq <| CX.region <| LX.pure (Y.move rfl) rfl rfl rfl <| LX.pure (Y.move rfl) rfl rfl rfl <| LX.pure (Y.index rfl rfl Ka.un9 (by omega)) rfl rfl rfl <| LX.pure (Y.ltN rfl rfl) rfl rfl rfl <| LX.pure (Y.move rfl) rfl rfl rfl <| LX.sub (l' := [(2, _), (4, _), (5, _), (6, _), (34, _), (35, _), (42, _)]) ⟨rfl, rfl, rfl, rfl, rfl, rfl, rfl, trivial⟩ ?_
    apply LX.joinOr 5 47 42 rfl
    · intro hb6
      refine LX.gF rfl rfl rfl hb6 rfl rfl <| LX.gF rfl rfl rfl hb6 rfl rfl <| LX.gF rfl rfl rfl hb6 rfl rfl <| LX.gF rfl rfl rfl hb6 rfl rfl <| LX.pure (Y.pickT rfl hb6 rfl) rfl rfl rfl ?_
      exact LX.left ⟨rfl, rfl, rfl, rfl, rfl, rfl, rfl, rfl, trivial⟩
    · intro hb6
      have hb6p := hb6
      try simp at hb6p
      refine LX.gT rfl rfl rfl hb6 (Y.move rfl) rfl rfl <| LX.gT rfl rfl rfl hb6 (Y.move rfl) rfl rfl <| LX.gT rfl rfl rfl hb6 (Y.index rfl rfl Ka.un9 (by omega)) rfl rfl <| LX.gT rfl rfl rfl hb6 (Y.gtN rfl rfl) rfl rfl <| LX.pure (Y.pickF rfl hb6 rfl) rfl rfl rfl ?_
      exact LX.left ⟨rfl, rfl, rfl, rfl, rfl, rfl, rfl, rfl, trivial⟩
    refine LX.sub (l' := [(2, _), (4, _), (5, _), (34, _), (35, _), (47, _)]) ⟨rfl, rfl, rfl, rfl, rfl, rfl, trivial⟩ <| LX.next <| PX.thenN ?_
    refine CX.cond rfl (fun hb7 => ?_) (fun hb7 => ?_)
    · try simp at hb7
      refine CX.seq <| CX.regionM [(0, .anywhere), (1, .held), (2, .alone), (3, .alone)] rfl (by kernel_rfl) <| MX.lift0 (i := 0) rfl (Y.build (v := .agg #[.bool false, .slice none 0 0]) rfl (fun _ => by kernel_rfl)) rfl rfl rfl <| MX.lift1 (i := 1) (pend' := []) rfl (fun w hw => by exact hw) (Y.ldO Kc.one28 rfl (hS.at_ 12 0 rfl) (hS.lt 0 (by decide))) rfl rfl rfl (by kernel_rfl) <| MX.force (i := 2) rfl <| LX.storeA 0 Kd.ag43 rfl rfl rfl rfl rfl rfl rfl rfl rfl <| LX.nextM [1] (by kernel_rfl) (fun _ => (fun w hw => by exact hw)) <| MX.force (i := 3) rfl <| LX.pure (Y.assign rfl) rfl rfl rfl <| LX.nextM [] (by kernel_rfl) (fun h => absurd rfl h) <| MX.sub (l' := [(2, _), (3, _), (4, _), (5, _), (34, _), (35, _)]) ⟨rfl, rfl, rfl, rfl, rfl, rfl, trivial⟩ <| MX.done <| PX.thenN <| CX.ret <| PX.blockR <| PX.thenR <| PX.thenR <| PX.blockR <| PX.thenR <| PX.retA2 (i := 0) (by simp) Tryz.results44 Kd.ag43 rfl rfl rfl rfl ?_
      exact fun w hw => ⟨(.agg #[.bool false, .slice none 0 0], some (247, .pointer (some (aE 12))), [], 0), rfl, num_zero, hw.drop (List.nil_sublist _)⟩
    try simp at hb7
    refine CX.skip <| PX.blockN <| PX.thenN <| CX.region <| LX.pure (Y.addN rfl rfl (by (simp only []; omega))) rfl rfl rfl <| LX.pure (Y.move rfl) rfl rfl rfl <| LX.sub (l' := [(2, _), (4, _), (5, _), (34, _), (35, _)]) ⟨rfl, rfl, rfl, rfl, rfl, trivial⟩ <| LX.next ?_
    exact PX.again (μ := fun j => t.length - j) (i := j) (j + 1) (by show t.length - (j + 1) < t.length - j; omega) ⟨rfl, rfl, rfl, rfl, rfl, trivial⟩ (fun w hw => ⟨⟨by omega, fun i hi => by
      by_cases e : i = j
      · subst e; omega
      · exact hdg i (by omega)⟩, hw⟩)
  try simp at hb5
  have hall : ∀ i, i < t.length → 48 ≤ bt t i ∧ bt t i ≤ 57 := fun i hi => hdg i (by omega)
  refine CX.exit <| PX.thenE <| PX.thenE <| PX.blockE <| PX.thenN <| CX.seq <| CX.seq <| CX.region <| LX.pure (Y.move rfl) rfl rfl rfl <| LX.pure (Y.lenStr rfl Ka.un9 rfl) rfl rfl rfl <| LX.pure (Y.gtN rfl rfl) rfl rfl rfl <| LX.sub (l' := [(2, _), (4, _), (5, _), (53, _)]) ⟨rfl, rfl, rfl, rfl, trivial⟩ <| LX.next <| PX.thenN ?_
  refine CX.cond rfl (fun hb8 => ?_) (fun hb8 => ?_)
  · try simp at hb8
    refine CX.seq <| CX.regionM [(0, .anywhere), (1, .held), (2, .alone), (3, .alone)] rfl (by kernel_rfl) <| MX.lift0 (i := 0) rfl (Y.build (v := .agg #[.bool false, .slice none 0 0]) rfl (fun _ => by kernel_rfl)) rfl rfl rfl <| MX.lift1 (i := 1) (pend' := []) rfl (fun w hw => by exact hw) (Y.ldO Kc.one28 rfl (hS.at_ 7 2 rfl) (hS.lt 2 (by decide))) rfl rfl rfl (by kernel_rfl) <| MX.force (i := 2) rfl <| LX.storeA 0 Kd.ag43 rfl rfl rfl rfl rfl rfl rfl rfl rfl <| LX.nextM [1] (by kernel_rfl) (fun _ => (fun w hw => by exact hw)) <| MX.force (i := 3) rfl <| LX.pure (Y.assign rfl) rfl rfl rfl <| LX.nextM [] (by kernel_rfl) (fun h => absurd rfl h) <| MX.sub (l' := [(2, _), (3, _), (4, _), (5, _)]) ⟨rfl, rfl, rfl, rfl, trivial⟩ <| MX.done <| PX.thenN <| CX.ret <| PX.thenR <| PX.retA2 (i := 0) (by simp) Tryz.results44 Kd.ag43 rfl rfl rfl rfl ?_
    exact fun w hw => ⟨(.agg #[.bool false, .slice none 0 0], some (247, .pointer (some (aE 7))), [], 0), rfl, num_zero, hw.drop (List.nil_sublist _)⟩
  try simp at hb8
  refine CX.skip <| PX.thenN <| CX.seq <| CX.region <| LX.pure (Y.assign rfl) rfl rfl rfl <| LX.sub (l' := [(2, _), (4, _), (5, _), (7, _)]) ⟨rfl, rfl, rfl, rfl, trivial⟩ <| LX.next <| PX.thenN <| CX.seq <| CX.seq <| CX.region <| LX.pure (Y.move rfl) rfl rfl rfl <| LX.pure (Y.lenStr rfl Ka.un9 rfl) rfl rfl rfl <| LX.pure (Y.assign rfl) rfl rfl rfl <| LX.sub (l' := [(2, _), (4, _), (5, _), (7, _), (8, _)]) ⟨rfl, rfl, rfl, rfl, rfl, trivial⟩ <| LX.next <| PX.thenN <| CX.block <| CX.loop (fun s : Int × (Option Nat × Nat) × List Nat => [(2, .pointer (some ⟨bx0, 0, none⟩)), (4, str t), (5, .bool ng), (7, rv s.2.1.1 s.2.2.length s.2.1.2), (8, .int .i64 s.1)]) (fun (s : Int × (Option Nat × Nat) × List Nat) w => ((-9 < s.1 ∧ s.1 ≤ t.length) ∧ (9 * s.2.2.length : Int) = t.length - s.1 ∧ ∀ d ∈ s.2.2, d < Go.Vo.B) ∧ WA w0 base [.row s.2.1.1 s.2.1.2 s.2.2.length 76 1 (dv s.2.2), blk bx0 (Value.agg #[.bool false, .slice none 0 0]).cells.toList 43] w) (fun s => s.1.toNat) ((t.length : Int), (none, 0), []) ⟨rfl, rfl, rfl, rfl, rfl, trivial⟩ (fun w hw => ⟨⟨⟨by dsimp only; omega, Int.le_refl _⟩, by simp, (fun d h => by cases h)⟩, hw.nilRow 76 1⟩) ?_
  rintro ⟨e, ⟨g, c⟩, ds⟩
  refine CX.have fun ⟨he0, hel, hdB⟩ => ?_
  try dsimp only at he0 hel hdB ⊢
  refine CX.world (W' := fun w => (ds.length ≤ c ∧ (0 < ds.length → g.isSome = true)) ∧ WA w0 base [.row g c ds.length 76 1 (dv ds), blk bx0 (Value.agg #[.bool false, .slice none 0 0]).cells.toList 43] w) (fun w hw => ⟨⟨(row_len (hw.get (i := 0) rfl)).2, row_some hw List.mem_cons_self⟩, hw⟩) <| CX.have fun ⟨hcap, hgs⟩ => CX.seq <| CX.seq <| CX.region <| LX.pure (Y.move rfl) rfl rfl rfl <| LX.pure (Y.gtI rfl rfl) rfl rfl rfl <| LX.sub (l' := [(2, _), (4, _), (5, _), (7, _), (8, _), (59, _)]) ⟨rfl, rfl, rfl, rfl, rfl, rfl, trivial⟩ <| LX.next <| PX.thenN ?_
  refine CX.cond rfl (fun hb9 => ?_) (fun hb9 => ?_)
  · try simp at hb9
    refine CX.skip <| PX.thenN <| CX.seq <| CX.block <| CX.seq <| CX.region <| LX.pure (Y.assign rfl) rfl rfl rfl <| LX.sub (l' := [(2, _), (4, _), (5, _), (7, _), (8, _), (9, _)]) ⟨rfl, rfl, rfl, rfl, rfl, rfl, trivial⟩ <| LX.next <| PX.thenN <| CX.seq <| CX.seq <| CX.region <| LX.pure (Y.move rfl) rfl rfl rfl <| LX.pure (Y.sub rfl rfl (by omega)) rfl rfl rfl <| LX.pure (show Y _ _ _ _ _ (.int .i64 (((e - 9).toNat : Nat) : Int)) from by (rw [show (((e - 9).toNat : Nat) : Int) = if e - 9 > 0 then e - 9 else 0 by split <;> omega]; exact Y.max2 rfl rfl)) rfl rfl rfl <| LX.pure (Y.assign rfl) rfl rfl rfl <| LX.sub (l' := [(2, _), (4, _), (5, _), (7, _), (8, _), (9, _), (10, _)]) ⟨rfl, rfl, rfl, rfl, rfl, rfl, rfl, trivial⟩ <| LX.next <| PX.thenN <| CX.block <| CX.loop (fun s : Nat × Nat => [(2, .pointer (some ⟨bx0, 0, none⟩)), (4, str t), (5, .bool ng), (7, rv g ds.length c), (8, .int .i64 e), (9, .int .u32 (s.2 : Int)), (10, .int .i64 (s.1 : Int))]) (fun (s : Nat × Nat) w => ((e - 9).toNat ≤ s.1 ∧ (s.1 : Int) ≤ e ∧ s.2 < 10 ^ (s.1 - (e - 9).toNat)) ∧ WA w0 base [.row g c ds.length 76 1 (dv ds), blk bx0 (Value.agg #[.bool false, .slice none 0 0]).cells.toList 43] w) (fun s => e.toNat - s.1) ((e - 9).toNat, 0) ⟨rfl, rfl, rfl, rfl, rfl, rfl, rfl, trivial⟩ (fun w hw => ⟨⟨Nat.le_refl _, by dsimp only; omega, by dsimp only; rw [Nat.sub_self]; decide⟩, hw⟩) ?_
    rintro ⟨i, v⟩
    refine CX.have fun ⟨hi1, hi2, hv⟩ => ?_
    try dsimp only at hi1 hi2 hv ⊢
    refine CX.seq <| CX.seq <| CX.region <| LX.pure (Y.move rfl) rfl rfl rfl <| LX.pure (Y.move rfl) rfl rfl rfl <| LX.pure (Y.ltI rfl rfl) rfl rfl rfl <| LX.sub (l' := [(2, _), (4, _), (5, _), (7, _), (8, _), (9, _), (10, _), (67, _)]) ⟨rfl, rfl, rfl, rfl, rfl, rfl, rfl, rfl, trivial⟩ <| LX.next <| PX.thenN ?_
    refine CX.cond rfl (fun hb10 => ?_) (fun hb10 => ?_)
    · try simp at hb10
      have hdi := hall i (by omega)
      have hp8 : (10 : Nat) ^ (i - (e - 9).toNat) ≤ 10 ^ 8 := Nat.pow_le_pow_right (by decide) (by omega)
      have hv8 : v < 100000000 := Nat.lt_of_lt_of_le hv hp8
      refine CX.skip <| PX.thenN <| CX.seq <| CX.block <| CX.region <| LX.pure (Y.move rfl) rfl rfl rfl <| LX.pure (Y.mulK (a := v) (b := 10) rfl rfl (wrap_u32 (by omega))) rfl rfl rfl <| LX.pure (Y.move rfl) rfl rfl rfl <| LX.pure (Y.move rfl) rfl rfl rfl <| LX.pure (Y.index rfl rfl Ka.un9 (by omega)) rfl rfl rfl <| LX.pure (Y.subK (a := bt t i) (b := 48) rfl rfl (by omega) (wrap_u8 (by omega))) rfl rfl rfl <| LX.pure (Y.convN rfl Ka.un5 Ka.un76 (wrap_u32 (by omega))) rfl rfl rfl <| LX.pure (Y.addK (a := v * 10) (b := bt t i - 48) rfl rfl (wrap_u32 (by omega))) rfl rfl rfl <| LX.pure (Y.assign rfl) rfl rfl rfl <| LX.sub (l' := [(2, _), (4, _), (5, _), (7, _), (8, _), (9, _), (10, _)]) ⟨rfl, rfl, rfl, rfl, rfl, rfl, rfl, trivial⟩ <| LX.next <| PX.blockN <| PX.thenN <| CX.region <| LX.pure (Y.move rfl) rfl rfl rfl <| LX.pure (Y.addN rfl rfl (by (simp only []; omega))) rfl rfl rfl <| LX.pure (Y.assign rfl) rfl rfl rfl <| LX.sub (l' := [(2, _), (4, _), (5, _), (7, _), (8, _), (9, _), (10, _)]) ⟨rfl, rfl, rfl, rfl, rfl, rfl, rfl, trivial⟩ <| LX.next ?_
      exact PX.again (μ := fun s => e.toNat - s.1) (i := (i, v)) (i + 1, v * 10 + (bt t i - 48)) (by show e.toNat - (i + 1) < e.toNat - i; omega) ⟨rfl, rfl, rfl, rfl, rfl, rfl, rfl, trivial⟩ (fun w hw => ⟨⟨by show (e - 9).toNat ≤ i + 1; omega, by show ((i + 1 : Nat) : Int) ≤ e; omega, by dsimp only; rw [show i + 1 - (e - 9).toNat = (i - (e - 9).toNat) + 1 by omega, Nat.pow_succ]; omega⟩, hw⟩)
    try simp at hb10
    have hvB : v < Go.Vo.B := Nat.lt_of_lt_of_le hv (Nat.pow_le_pow_right (n := 10) (by decide) (j := 9) (by omega))
    refine CX.exit <| PX.thenE <| PX.thenE <| PX.blockE <| PX.thenN <| CX.region <| LX.pure (Y.move rfl) rfl rfl rfl <| LX.pure (Y.move rfl) rfl rfl rfl <| LX.buildSlice (e := 76) (size := 1) rfl rfl (fun _ => by kernel_rfl) rfl (by decide) rfl rfl rfl ?_
    intro gt89
    refine LX.appendT 0 Kk.el41 rfl rfl rfl rfl rfl rfl rfl (by omega) (by omega) rfl rfl rfl ?_
    intro g2 c2
    refine LX.pure (Y.assign rfl) rfl rfl rfl <| LX.sub (l' := [(2, _), (4, _), (5, _), (7, _), (8, _)]) ⟨rfl, rfl, rfl, rfl, rfl, trivial⟩ <| LX.next <| PX.blockN <| PX.thenN <| CX.region <| LX.pure (Y.move rfl) rfl rfl rfl <| LX.pure (Y.sub rfl rfl (by omega)) rfl rfl rfl <| LX.pure (Y.assign rfl) rfl rfl rfl <| LX.sub (l' := [(2, _), (4, _), (5, _), (7, _), (8, _)]) ⟨rfl, rfl, rfl, rfl, rfl, trivial⟩ <| LX.next ?_
    exact PX.again (μ := fun s => s.1.toNat) (i := (e, (g, c), ds)) (e - 9, (g2, c2), ds ++ [v]) (by show (e - 9).toNat < e.toNat; omega) ⟨rfl, rfl, rfl, by dsimp only; rw [List.length_append]; rfl, rfl, trivial⟩ (fun w hw => ⟨⟨⟨by dsimp only; omega, by show e - 9 ≤ t.length; omega⟩, by dsimp only; rw [List.length_append, List.length_singleton]; omega, fun d hd => by
      rcases List.mem_append.1 hd with h | h
      · exact hdB d h
      · rw [List.mem_singleton.1 h]; exact hvB⟩, by dsimp only; rw [List.length_append]; unfold dv at hw ⊢; rw [List.map_append]; exact hw⟩)
  try simp at hb9
  refine CX.exit <| PX.thenE <| PX.thenE <| PX.blockE <| PX.thenN <| CX.seq <| CX.region <| LX.pure (Y.move rfl) rfl rfl rfl <| LX.pure (Y.move rfl) rfl rfl rfl <| LX.call (made_c ng (l := ds) (fun w hw => Go.Tr.row_at hw (j := 0) rfl rfl (by decide) (fun i z h => map_A h)) (by omega) hcap) Kk.en30 rfl rfl rfl rfl rfl ?_
  intro k1
  refine LX.have fun ⟨hk1, hk2⟩ => ?_
  try dsimp only at hk1 hk2 ⊢
  refine LX.storeA 1 Kd.ag43 rfl rfl rfl rfl rfl rfl rfl rfl rfl <| LX.pure (Y.assign rfl) rfl rfl rfl <| LX.sub (l' := [(2, _), (3, _)]) ⟨rfl, rfl, trivial⟩ <| LX.next <| PX.thenN <| CX.ret <| PX.retA2 (i := 1) (by simp) Tryz.results44 Kd.ag43 rfl rfl rfl rfl ?_
  obtain ⟨z, hz⟩ := num_of (M := InIts [.row g c ds.length 76 1 (dv ds)]) (c := c) ng (row_digs List.mem_cons_self hgs) hdB (by omega) hk1 (by omega) hk2
  exact fun w hw => ⟨(_, none, [.row g c ds.length 76 1 (dv ds)], z), rfl, hz, hw.drop (List.Sublist.cons_cons _ (List.nil_sublist _))⟩
end Go.Proofs.YtickdimknfeddaaGreatDoor

namespace Go.Proofs.YtickdimknfeddaaGreatDoor
open Go.SX Go.RowKit Go.Vo Go.Ky Go.Proofs.YtickdimknfeddaaGreatDoor.Env
namespace Kl
theorem en88 : Enters Tryz.prog 88 := Enters.of Tryz.func88 (by kernel_rfl) (by kernel_rfl)
theorem en89 : Enters Tryz.prog 89 := Enters.of Tryz.func89 (by kernel_rfl) (by kernel_rfl)
theorem ni110 : NoIface Tryz.prog 110 := fun w v => by kernel_rfl
theorem ni111 : NoIface Tryz.prog 111 := fun w v => by kernel_rfl
theorem ni115 : NoIface Tryz.prog 115 := fun w v => by kernel_rfl
theorem ni74 : NoIface Tryz.prog 74 := fun w v => by kernel_rfl
theorem ni78 : NoIface Tryz.prog 78 := fun w v => by kernel_rfl
theorem el96 : Elem Tryz.prog 96 26 1 16 := Elem.of Kd.un96 (z := .nilIface) (by kernel_rfl) rfl
end Kl
theorem neg_0 {w0 : World} {base : Nat} (b : Bool) {av : Option Addr} {c : Nat} {l : List Nat} (h : SlAt 1 digA (Lies w0 base) av l) (hl : l.length ≤ 300) (hc : l.length ≤ c) : FnC Tryz.prog 46 #[.agg #[.bool b, .slice av l.length c]] (WA w0 base []) (fun k : Nat => .agg #[.bool (!b && decide (0 < k)), .slice av k c]) (fun k w => (k ≤ l.length ∧ (0 < k → l.getD (k - 1) 0 ≠ 0)) ∧ WA w0 base [] w) := by
  refine FnC.of_body (fn := Tryz.f46) [(0, _)] Tryz.func46 rfl Tryz.ntmps46 rfl ⟨rfl, trivial⟩ ?_
  refine CX.seq <| CX.region <| LX.box rfl rfl rfl rfl rfl ?_
  intro bx0
  refine LX.alloc rfl Kj.zv43 rfl rfl rfl ?_
  intro bx1
  refine LX.sub (l' := [(1, _), (2, _)]) ⟨rfl, rfl, trivial⟩ <| LX.next <| PX.thenN <| CX.seq <| CX.region <| LX.pure (Y.fieldAddr0 Ka.fo43_0 rfl) rfl rfl rfl <| LX.pure (Y.ldB 1 Ka.one4 rfl rfl rfl) rfl rfl rfl <| LX.pure (Y.not rfl) rfl rfl rfl <| LX.pure (Y.fieldAddr0 Ka.fo43_1 rfl) rfl rfl rfl <| LX.pure (Y.ldB 1 Ka.one41 rfl rfl rfl) rfl rfl rfl <| LX.call (made_c (!b) (fun w hw => h.push hw) hl hc) Kk.en30 rfl rfl rfl rfl rfl ?_
  intro k1
  refine LX.have fun hk1 => ?_
  try dsimp only at hk1 ⊢
  refine LX.storeA 0 Kd.ag43 rfl rfl rfl rfl rfl rfl rfl rfl rfl <| LX.sub (l' := [(2, _)]) ⟨rfl, trivial⟩ <| LX.next <| PX.thenN <| CX.ret <| PX.retA (i := 0) (by simp) Tryz.results46 Kd.ag43 rfl rfl rfl ?_
  exact fun w hw => ⟨k1, rfl, hk1, hw.drop (List.nil_sublist _)⟩
/-- a number turned  -/
theorem neg_c {W : World → Prop} [Stab W] {M : Rd} {z : Int} {u : Value} (hu : NumM M z u) (hM : ∀ w, W w → ∀ a c, M a c → Lies w w.heap.size a c) : FnC Tryz.prog 46 #[u] W (fun v : Value => v) (fun v w => (∃ z, NumM M z v) ∧ W w) := by
  obtain ⟨⟨av, c, rfl, h⟩, h80⟩ := hu
  exact fun w hw => (neg_0 (decide (z < 0)) (h.mono (hM w hw)) (by omega) (Nat.le_add_right _ c) w (WA.start w)).mono fun e w' ⟨k, he, ⟨h1, h2⟩, hn⟩ => ⟨_, he, num_of _ h (digs_lt _) h80 h1 (by omega) h2, Stab.st w w' hw hn.below⟩
theorem asI_yes {W : World → Prop} [Stab W] {b : Bool} {av : Option Addr} {n c : Nat} : FnC Tryz.prog 88 #[.iface 74 (.agg #[.bool b, .slice av n c])] W (fun _ : Unit => .tuple #[.agg #[.bool b, .slice av n c], .bool true]) (fun _ => W) := by
  refine FnC.re fun w hw => ?_
  refine FnC.of_body (fn := Tryz.f88) [(0, _)] Tryz.func88 rfl Tryz.ntmps88 rfl ⟨rfl, trivial⟩ ?_
  refine CX.seq <| CX.region <| LX.alloc rfl Kj.zv43 rfl rfl rfl ?_
  intro bx0
  refine LX.pure (Y.assign rfl) rfl rfl rfl <| LX.sub (l' := [(0, _), (2, _), (3, _)]) ⟨rfl, rfl, rfl, trivial⟩ <| LX.next <| PX.thenN <| CX.seq <| CX.region <| LX.pure (Y.move rfl) rfl rfl rfl <| LX.pure (Y.assertYes Kd.nif74 rfl) rfl rfl rfl <| LX.pure (Y.move rfl) rfl rfl rfl <| LX.pure (Y.extract rfl rfl) rfl rfl rfl <| LX.pure (Y.extract rfl rfl) rfl rfl rfl <| LX.alloc rfl Kd.zv74 rfl rfl rfl ?_
  intro bx7
  refine LX.storeA 0 Kd.ag74 rfl rfl rfl rfl rfl rfl rfl rfl rfl <| LX.pure (Y.assign rfl) rfl rfl rfl <| LX.sub (l' := [(2, _), (3, _), (4, _), (5, _)]) ⟨rfl, rfl, rfl, rfl, trivial⟩ <| LX.next <| PX.thenN <| CX.seq <| CX.region <| LX.pure (Y.fieldAddr0 Kd.fo74_1 rfl) rfl rfl rfl <| LX.pure (Y.ldAggB (vs := [.bool b, .slice av n c]) 0 Kd.ag43 rfl rfl rfl rfl) rfl rfl rfl <| LX.pure (Y.move rfl) rfl rfl rfl <| LX.storeA 1 Kd.ag43 rfl rfl rfl rfl rfl rfl rfl rfl rfl <| LX.pure (Y.assign rfl) rfl rfl rfl <| LX.sub (l' := [(2, _), (3, _)]) ⟨rfl, rfl, trivial⟩ <| LX.next <| PX.thenN <| CX.ret <| PX.retA2 (i := 1) (by simp) Tryz.results88 Kd.ag43 rfl rfl rfl rfl ?_
  exact fun w hw => ⟨(), rfl, hw.drop (List.nil_sublist _)⟩
theorem asI_no {W : World → Prop} [Stab W] {tt : TypeId} {v : Value} (hne : tt ≠ 74) : FnC Tryz.prog 88 #[.iface tt v] W (fun _ : Unit => .tuple #[.agg #[.bool false, .slice none 0 0], .bool false]) (fun _ => W) := by
  refine FnC.re fun w hw => ?_
  refine FnC.of_body (fn := Tryz.f88) [(0, _)] Tryz.func88 rfl Tryz.ntmps88 rfl ⟨rfl, trivial⟩ ?_
  refine CX.seq <| CX.region <| LX.alloc rfl Kj.zv43 rfl rfl rfl ?_
  intro bx0
  refine LX.pure (Y.assign rfl) rfl rfl rfl <| LX.sub (l' := [(0, _), (2, _), (3, _)]) ⟨rfl, rfl, rfl, trivial⟩ <| LX.next <| PX.thenN <| CX.seq <| CX.region <| LX.pure (Y.move rfl) rfl rfl rfl <| LX.pure (Y.assertNo Kd.nif74 rfl hne Kd.zv74) rfl rfl rfl <| LX.pure (Y.move rfl) rfl rfl rfl <| LX.pure (Y.extract rfl rfl) rfl rfl rfl <| LX.pure (Y.extract rfl rfl) rfl rfl rfl <| LX.alloc rfl Kd.zv74 rfl rfl rfl ?_
  intro bx7
  refine LX.storeA 0 Kd.ag74 rfl rfl rfl rfl rfl rfl rfl rfl rfl <| LX.pure (Y.assign rfl) rfl rfl rfl <| LX.sub (l' := [(2, _), (3, _), (4, _), (5, _)]) ⟨rfl, rfl, rfl, rfl, trivial⟩ <| LX.next <| PX.thenN <| CX.seq <| CX.region <| LX.pure (Y.fieldAddr0 Kd.fo74_1 rfl) rfl rfl rfl <| LX.pure (Y.ldAggB (vs := [.bool false, .slice none 0 0]) 0 Kd.ag43 rfl rfl rfl rfl) rfl rfl rfl <| LX.pure (Y.move rfl) rfl rfl rfl <| LX.storeA 1 Kd.ag43 rfl rfl rfl rfl rfl rfl rfl rfl rfl <| LX.pure (Y.assign rfl) rfl rfl rfl <| LX.sub (l' := [(2, _), (3, _)]) ⟨rfl, rfl, trivial⟩ <| LX.next <| PX.thenN <| CX.ret <| PX.retA2 (i := 1) (by simp) Tryz.results88 Kd.ag43 rfl rfl rfl rfl ?_
  exact fun w hw => ⟨(), rfl, hw.drop (List.nil_sublist _)⟩
theorem asI_c {W : World → Prop} [Stab W] {M : Rd} {O : Ro} {t : Tr} {v : Value} (h : VAt M O t v) : FnC Tryz.prog 88 #[v] W (fun q : Value × Bool => .tuple #[q.1, .bool q.2]) (fun q w => (∃ z, NumM M z q.1) ∧ W w) := by
  have no : ∀ {tt : TypeId} {u : Value}, tt ≠ 74 → v = .iface tt u → FnC Tryz.prog 88 #[v] W (fun q : Value × Bool => .tuple #[q.1, .bool q.2]) (fun q w => (∃ z, NumM M z q.1) ∧ W w) := fun hne e => by
    subst e
    exact fun w hw => (asI_no hne w hw).mono fun e w' ⟨_, he, hn⟩ => ⟨(_, false), he, ⟨0, num_zero⟩, hn⟩
  cases h with
  | int h =>
    obtain ⟨⟨av, c, rfl, h1⟩, h2⟩ := h
    exact fun w hw => (asI_yes w hw).mono fun e w' ⟨_, he, hn⟩ => ⟨(_, true), he, ⟨_, ⟨⟨av, c, rfl, h1⟩, h2⟩⟩, hn⟩
  | none => exact no (by decide) rfl
  | bool => exact no (by decide) rfl
  | str => exact no (by decide) rfl
  | tup => exact no (by decide) rfl
  | list => exact no (by decide) rfl
  | dict => exact no (by decide) rfl
theorem AsI_0 {w0 : World} {base : Nat} {M : Rd} {O : Ro} {t : Tr} {v : Value} (h : VAt M O t v) : FnC Tryz.prog 45 #[v] (WA w0 base []) (fun q : Value × Bool => .tuple #[q.1, .bool q.2]) (fun q w => (∃ z, NumM M z q.1) ∧ WA w0 base [] w) := by
  refine FnC.of_body (fn := Tryz.f45) [(0, _)] Tryz.func45 rfl Tryz.ntmps45 rfl ⟨rfl, trivial⟩ ?_
  refine CX.seq <| CX.region <| LX.alloc rfl Kj.zv43 rfl rfl rfl ?_
  intro bx0
  refine LX.pure (Y.assign rfl) rfl rfl rfl <| LX.sub (l' := [(0, _), (2, _), (3, _)]) ⟨rfl, rfl, rfl, trivial⟩ <| LX.next <| PX.thenN <| CX.seq <| CX.region <| LX.pure (Y.move rfl) rfl rfl rfl <| LX.call (asI_c h) Kl.en88 rfl rfl rfl rfl rfl ?_
  rintro ⟨u, b⟩
  refine LX.have fun ⟨z, hz⟩ => ?_
  obtain ⟨⟨av, c, e, hh⟩, h80⟩ := hz
  try dsimp only at e ⊢
  subst e
  refine LX.pure (Y.extract rfl rfl) rfl rfl rfl <| LX.pure (Y.extract rfl rfl) rfl rfl rfl <| LX.storeA 0 Kd.ag43 rfl rfl rfl rfl rfl rfl rfl rfl rfl <| LX.pure (Y.assign rfl) rfl rfl rfl <| LX.sub (l' := [(2, _), (3, _)]) ⟨rfl, rfl, trivial⟩ <| LX.next <| PX.thenN <| CX.ret <| PX.retA2 (i := 0) (by simp) Tryz.results45 Kd.ag43 rfl rfl rfl rfl ?_
  exact fun w hw => ⟨(_, b), rfl, ⟨z, ⟨⟨av, c, rfl, hh⟩, h80⟩⟩, hw.drop (List.nil_sublist _)⟩
theorem AsI_c {W : World → Prop} [Stab W] {M : Rd} {O : Ro} {t : Tr} {v : Value} (h : VAt M O t v) : FnC Tryz.prog 45 #[v] W (fun q : Value × Bool => .tuple #[q.1, .bool q.2]) (fun q w => (∃ z, NumM M z q.1) ∧ W w) := FnC.reO fun w hw => AsI_0 h
theorem int_c {W : World → Prop} [Stab W] {b : Bool} {av : Option Addr} {n c : Nat} : FnC Tryz.prog 15 #[.agg #[.bool b, .slice av n c]] W (fun _ : Unit => .iface 74 (.agg #[.bool b, .slice av n c])) (fun _ => W) := by
  refine FnC.re fun w hw => ?_
  refine FnC.of_body (fn := Tryz.f15) [(0, _)] Tryz.func15 rfl Tryz.ntmps15 rfl ⟨rfl, trivial⟩ ?_
  refine CX.seq <| CX.region <| LX.box rfl rfl rfl rfl rfl ?_
  intro bx0
  refine LX.pure (Y.assign rfl) rfl rfl rfl <| LX.sub (l' := [(1, _), (2, _)]) ⟨rfl, rfl, trivial⟩ <| LX.next <| PX.thenN <| CX.seq <| CX.region <| LX.pure (Y.ldAggB (vs := [.bool b, .slice av n c]) 0 Kd.ag43 rfl rfl rfl rfl) rfl rfl rfl <| LX.pure (Y.build (v := .agg #[.bool b, .slice av n c]) rfl (fun _ => by kernel_rfl)) rfl rfl rfl <| LX.pure (Y.mkI Kl.ni74 rfl) rfl rfl rfl <| LX.pure (Y.assign rfl) rfl rfl rfl <| LX.sub (l' := [(2, _)]) ⟨rfl, trivial⟩ <| LX.next <| PX.thenN <| CX.ret <| PX.ret1 (by simp) Tryz.results15 rfl ?_
  exact fun w hw => ⟨(), rfl, hw.drop (List.nil_sublist _)⟩
theorem str_c {W : World → Prop} [Stab W] (s : T) : FnC Tryz.prog 17 #[str s] W (fun _ : Unit => .iface 78 (str s)) (fun _ => W) := by
  refine FnC.re fun w hw => ?_
  refine FnC.of_body (fn := Tryz.f17) [(0, _)] Tryz.func17 rfl Tryz.ntmps17 rfl ⟨rfl, trivial⟩ ?_
  refine CX.seq <| CX.region <| LX.pure (Y.assign rfl) rfl rfl rfl <| LX.sub (l' := [(0, _), (2, _)]) ⟨rfl, rfl, trivial⟩ <| LX.next <| PX.thenN <| CX.seq <| CX.region <| LX.pure (Y.move rfl) rfl rfl rfl <| LX.pure (Y.mkI Kl.ni78 rfl) rfl rfl rfl <| LX.pure (Y.assign rfl) rfl rfl rfl <| LX.sub (l' := [(2, _)]) ⟨rfl, trivial⟩ <| LX.next <| PX.thenN <| CX.ret <| PX.ret1 (by simp) Tryz.results17 rfl ?_
  exact fun w hw => ⟨(), rfl, hw⟩
theorem bool_c {W : World → Prop} [Stab W] (b : Bool) : FnC Tryz.prog 43 #[.bool b] W (fun _ : Unit => .iface 111 (.bool b)) (fun _ => W) := by
  refine FnC.re fun w hw => ?_
  refine FnC.of_body (fn := Tryz.f43) [(0, _)] Tryz.func43 rfl Tryz.ntmps43 rfl ⟨rfl, trivial⟩ ?_
  refine CX.seq <| CX.region <| LX.pure (Y.assign rfl) rfl rfl rfl <| LX.sub (l' := [(0, _), (2, _)]) ⟨rfl, rfl, trivial⟩ <| LX.next <| PX.thenN <| CX.seq <| CX.region <| LX.pure (Y.move rfl) rfl rfl rfl <| LX.pure (Y.mkI Kl.ni111 rfl) rfl rfl rfl <| LX.pure (Y.assign rfl) rfl rfl rfl <| LX.sub (l' := [(2, _)]) ⟨rfl, trivial⟩ <| LX.next <| PX.thenN <| CX.ret <| PX.ret1 (by simp) Tryz.results43 rfl ?_
  exact fun w hw => ⟨(), rfl, hw⟩
theorem none_c {W : World → Prop} [Stab W] : FnC Tryz.prog 50 #[] W (fun _ : Unit => .iface 110 (.agg #[])) (fun _ => W) := by
  refine FnC.re fun w hw => ?_
  refine FnC.of_body (fn := Tryz.f50) [] Tryz.func50 rfl Tryz.ntmps50 rfl trivial ?_
  refine CX.seq <| CX.region <| LX.pure (Y.assign rfl) rfl rfl rfl <| LX.sub (l' := [(0, _)]) ⟨rfl, trivial⟩ <| LX.next <| PX.thenN <| CX.seq <| CX.region <| LX.pure (Y.build (v := .agg #[]) rfl (fun _ => by kernel_rfl)) rfl rfl rfl <| LX.pure (Y.mkI Kl.ni110 rfl) rfl rfl rfl <| LX.pure (Y.assign rfl) rfl rfl rfl <| LX.sub (l' := [(0, _)]) ⟨rfl, trivial⟩ <| LX.next <| PX.thenN <| CX.ret <| PX.ret1 (by simp) Tryz.results50 rfl ?_
  exact fun w hw => ⟨(), rfl, hw⟩
theorem cloneN {w0 : World} {base : Nat} {c : Nat} : FnC Tryz.prog 89 #[.slice none 0 c] (WA w0 base []) (fun _ : Unit => .slice none 0 0) (fun _ => WA w0 base []) := by
  refine FnC.of_body (fn := Tryz.f89) [(0, _)] Tryz.func89 rfl Tryz.ntmps89 rfl ⟨rfl, trivial⟩ ?_
  refine CX.seq <| CX.region <| LX.pure (Y.assign rfl) rfl rfl rfl <| LX.sub (l' := [(0, _), (2, _)]) ⟨rfl, rfl, trivial⟩ <| LX.next <| PX.thenN <| CX.seq <| CX.seq <| CX.region <| LX.pure (Y.move rfl) rfl rfl rfl <| LX.pure (Y.eqSlNil Kd.un96 rfl) rfl rfl rfl <| LX.sub (l' := [(0, _), (2, _), (4, _)]) ⟨rfl, rfl, rfl, trivial⟩ <| LX.next <| PX.thenN ?_
  refine CX.cond rfl (fun hb1 => ?_) (fun hb1 => ?_)
  · try simp at hb1
    refine CX.seq <| CX.region <| LX.pure (Y.assign rfl) rfl rfl rfl <| LX.sub (l' := [(0, _), (2, _)]) ⟨rfl, rfl, trivial⟩ <| LX.next <| PX.thenN <| CX.ret <| PX.thenR <| PX.ret1 (by simp) Tryz.results89 rfl ?_
    exact fun w hw => ⟨(), rfl, hw⟩
  try simp at hb1
  done
theorem cloneS {w0 : World} {base : Nat} {vs : List Value} {a : Addr} {c : Nat} (hs : SlAt 1 valA (Lies w0 base) (some a) vs) (h1 : vs.all (·.oneCell') = true) (h3 : vs.length ≤ 300) : FnC Tryz.prog 89 #[.slice (some a) vs.length c] (WA w0 base []) (fun q : Option Nat × Nat => rv q.1 vs.length q.2) (fun q => WA w0 base [.row q.1 q.2 vs.length 26 1 vs]) := by
  refine FnC.of_body (fn := Tryz.f89) [(0, _)] Tryz.func89 rfl Tryz.ntmps89 rfl ⟨rfl, trivial⟩ ?_
  refine CX.seq <| CX.region <| LX.pure (Y.assign rfl) rfl rfl rfl <| LX.sub (l' := [(0, _), (2, _)]) ⟨rfl, rfl, trivial⟩ <| LX.next <| PX.thenN <| CX.seq <| CX.seq <| CX.region <| LX.pure (Y.move rfl) rfl rfl rfl <| LX.pure (Y.eqSlNil Kd.un96 rfl) rfl rfl rfl <| LX.sub (l' := [(0, _), (2, _), (4, _)]) ⟨rfl, rfl, rfl, trivial⟩ <| LX.next <| PX.thenN ?_
  refine CX.cond rfl (fun hb1 => ?_) (fun hb1 => ?_)
  · try simp at hb1
    done
  try simp at hb1
  refine CX.skip <| PX.thenN <| CX.seq <| CX.region <| LX.buildSlice (e := 26) (size := 1) rfl rfl (fun _ => by kernel_rfl) rfl (by decide) rfl rfl rfl ?_
  intro gt3
  refine LX.pure (Y.move rfl) rfl rfl rfl ?_
  refine LX.append0 0 (k := 0) (a := a) (news := vs) Kl.el96 rfl rfl rfl rfl rfl (by simp) (fun w hW q u hu => by
    obtain ⟨a2, e1, e2⟩ := val_at hs hu
    cases e1
    have := ((e2.push hW).at_ 0 u rfl).2
    rwa [add_zero2, Nat.mul_one] at this) h1 (by omega) (by omega) rfl rfl rfl ?_
  intro g' cap'
  rw [Nat.zero_add]
  refine LX.pure (Y.assign rfl) rfl rfl rfl <| LX.sub (l' := [(2, _)]) ⟨rfl, trivial⟩ <| LX.next <| PX.thenN <| CX.ret <| PX.ret1 (by simp) Tryz.results89 rfl ?_
  exact fun w hw => ⟨(g', cap'), rfl, hw⟩
theorem clone_c {w0 : World} {base : Nat} {vs : List Value} {av : Option Addr} {c : Nat} (hs : SlAt 1 valA (Lies w0 base) av vs) (h1 : vs.all (·.oneCell') = true) (h3 : vs.length ≤ 300) : FnC Tryz.prog 89 #[.slice av vs.length c] (WA w0 base []) (fun q : Option Nat × Nat => rv q.1 vs.length q.2) (fun q => WA w0 base [.row q.1 q.2 vs.length 26 1 vs]) := by
  cases av with
  | some a => exact cloneS hs h1 h3
  | none =>
    obtain rfl : vs = [] := by
      cases vs with
      | nil => rfl
      | cons x vs => obtain ⟨a, h, _⟩ := val_at hs (i := 0) (v := x) rfl; cases h
    exact fun w hw => (cloneN w hw).mono fun e w' ⟨_, he, h⟩ => ⟨(none, 0), he, h.nilRow 26 1⟩
theorem list_c {w0 : World} {base : Nat} {vs : List Value} {av : Option Addr} {c : Nat} (hs : SlAt 1 valA (Lies w0 base) av vs) (h1 : vs.all (·.oneCell') = true) (h3 : vs.length ≤ 300) : FnC Tryz.prog 47 #[.slice av vs.length c] (WA w0 base []) (fun q : Nat × Option Nat × Nat => .pointer (some ⟨q.1, 0, none⟩)) (fun q => WA w0 base [blk q.1 [rv q.2.1 vs.length q.2.2, .bool false, .int .i64 0] 123, .row q.2.1 q.2.2 vs.length 26 1 vs]) := by
  refine FnC.of_body (fn := Tryz.f47) [(0, _)] Tryz.func47 rfl Tryz.ntmps47 rfl ⟨rfl, trivial⟩ ?_
  refine CX.seq <| CX.region <| LX.pure (Y.assign rfl) rfl rfl rfl <| LX.sub (l' := [(0, _), (2, _)]) ⟨rfl, rfl, trivial⟩ <| LX.next <| PX.thenN <| CX.seq <| CX.region <| LX.pure (Y.move rfl) rfl rfl rfl <| LX.call (clone_c hs h1 h3) Kl.en89 rfl rfl rfl rfl rfl ?_
  rintro ⟨g2, c2⟩
  refine LX.pure (Y.build (v := .agg #[rv g2 vs.length c2, .bool false, .int .i64 0]) rfl (fun _ => by kernel_rfl)) rfl rfl rfl <| LX.box rfl rfl rfl rfl rfl ?_
  intro bx4
  refine LX.pure (Y.assign rfl) rfl rfl rfl <| LX.sub (l' := [(2, _)]) ⟨rfl, trivial⟩ <| LX.next <| PX.thenN <| CX.ret <| PX.ret1 (by simp) Tryz.results47 rfl ?_
  exact fun w hw => ⟨(_, g2, c2), rfl, hw⟩
theorem tuple_c {w0 : World} {base : Nat} {vs : List Value} {av : Option Addr} {c : Nat} (hs : SlAt 1 valA (Lies w0 base) av vs) (h1 : vs.all (·.oneCell') = true) (h3 : vs.length ≤ 300) : FnC Tryz.prog 48 #[.slice av vs.length c] (WA w0 base []) (fun q : Nat × Option Nat × Nat => .iface 115 (.pointer (some ⟨q.1, 0, none⟩))) (fun q => WA w0 base [blk q.1 [rv q.2.1 vs.length q.2.2] 117, .row q.2.1 q.2.2 vs.length 26 1 vs]) := by
  refine FnC.of_body (fn := Tryz.f48) [(0, _)] Tryz.func48 rfl Tryz.ntmps48 rfl ⟨rfl, trivial⟩ ?_
  refine CX.seq <| CX.region <| LX.pure (Y.assign rfl) rfl rfl rfl <| LX.sub (l' := [(0, _), (2, _)]) ⟨rfl, rfl, trivial⟩ <| LX.next <| PX.thenN <| CX.seq <| CX.region <| LX.pure (Y.move rfl) rfl rfl rfl <| LX.call (clone_c hs h1 h3) Kl.en89 rfl rfl rfl rfl rfl ?_
  rintro ⟨g2, c2⟩
  refine LX.pure (Y.build (v := .agg #[rv g2 vs.length c2]) rfl (fun _ => by kernel_rfl)) rfl rfl rfl <| LX.box rfl rfl rfl rfl rfl ?_
  intro bx4
  refine LX.pure (Y.mkI Kl.ni115 rfl) rfl rfl rfl <| LX.pure (Y.assign rfl) rfl rfl rfl <| LX.sub (l' := [(2, _)]) ⟨rfl, trivial⟩ <| LX.next <| PX.thenN <| CX.ret <| PX.ret1 (by simp) Tryz.results48 rfl ?_
  exact fun w hw => ⟨(_, g2, c2), rfl, hw⟩
end Go.Proofs.YtickdimknfeddaaGreatDoor
