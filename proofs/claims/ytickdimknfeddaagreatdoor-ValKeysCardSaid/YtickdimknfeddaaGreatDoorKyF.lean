/-
  Proved here: sorts of values; how deep, and how many pairs.
-/
import Derived.Test.YtickdimknfeddaaGreatDoorKyU
import Derived.Test.YtickdimknfeddaaGreatDoorKyE
set_option linter.unusedSimpArgs false
namespace Go.Proofs.YtickdimknfeddaaGreatDoor
open Go.SX Go.RowKit Go.Vo Go.Ky Go.Proofs.YtickdimknfeddaaGreatDoor.Env
namespace Kf
theorem fo63_0 : FieldOff Tryz.prog 63 0 0 := fun b o w => by kernel_rfl
end Kf
theorem shal_c {w0 : World} {base : Nat} {its : List It} {aE : Nat → Addr} (hS : EnvS w0 base aE) (n dd : Nat) : FnC Tryz.prog 98 #[.int .i64 (n : Int), .int .i64 (dd : Int)] (WA w0 base its) (fun q : Option (TypeId × Value) => eV q) (fun q w => ((q = none → ¬(n = 0 ∧ 60 ≤ dd)) ∧ (q ≠ none → 60 ≤ dd)) ∧ WA w0 base its w) := by
  refine FnC.of_body (fn := Tryz.f98) [(0, _), (1, _)] Tryz.func98 rfl Tryz.ntmps98 rfl ⟨rfl, rfl, trivial⟩ ?_
  refine CX.seq <| CX.region <| LX.pure (Y.assign rfl) rfl rfl rfl <| LX.sub (l' := [(0, _), (1, _), (4, _)]) ⟨rfl, rfl, rfl, trivial⟩ <| LX.next <| PX.thenN <| CX.seq <| CX.seq <| CX.region <| LX.pure (Y.move rfl) rfl rfl rfl <| LX.pure (Y.eqN rfl rfl) rfl rfl rfl <| LX.pure (Y.move rfl) rfl rfl rfl <| LX.sub (l' := [(1, _), (4, _), (7, _)]) ⟨rfl, rfl, rfl, trivial⟩ ?_
  apply LX.joinAnd 3 10 7 rfl
  · intro hb1
    refine LX.gT rfl rfl rfl hb1 (Y.move rfl) rfl rfl <| LX.gT rfl rfl rfl hb1 (Y.geN rfl rfl) rfl rfl <| LX.pure (Y.pickT rfl hb1 rfl) rfl rfl rfl ?_
    exact LX.left ⟨rfl, rfl, rfl, rfl, trivial⟩
  · intro hb1
    refine LX.gF rfl rfl rfl hb1 rfl rfl <| LX.gF rfl rfl rfl hb1 rfl rfl <| LX.pure (Y.pickF rfl hb1 rfl) rfl rfl rfl ?_
    exact LX.left ⟨rfl, rfl, rfl, rfl, trivial⟩
  refine LX.sub (l' := [(4, _), (10, _)]) ⟨rfl, rfl, trivial⟩ <| LX.next <| PX.thenN ?_
  refine CX.cond rfl (fun hb2 => ?_) (fun hb2 => ?_)
  · try simp at hb2
    refine CX.seq <| CX.region <| LX.pure (Y.ldO Kc.one28 rfl (hS.at_ 7 2 rfl) (hS.lt 2 (by decide))) rfl rfl rfl <| LX.pure (Y.assign rfl) rfl rfl rfl <| LX.sub (l' := [(4, _)]) ⟨rfl, trivial⟩ <| LX.next <| PX.thenN <| CX.ret <| PX.thenR <| PX.ret1 (by simp) Tryz.results98 rfl ?_
    exact fun w hw => ⟨some (247, .pointer (some (aE 7))), rfl, ⟨(fun h => by cases h), fun _ => by omega⟩, hw⟩
  try simp at hb2
  refine CX.skip <| PX.thenN <| CX.seq <| CX.region <| LX.pure (Y.assign rfl) rfl rfl rfl <| LX.sub (l' := [(4, _)]) ⟨rfl, trivial⟩ <| LX.next <| PX.thenN <| CX.ret <| PX.ret1 (by simp) Tryz.results98 rfl ?_
  exact fun w hw => ⟨none, rfl, ⟨(fun _ => by omega), fun h => absurd rfl h⟩, hw⟩
theorem look_c {w0 : World} {base : Nat} {aE : Nat → Addr} (hS : EnvS w0 base aE) {kp : Nat} {L : Int} (hL : 0 ≤ L ∧ L ≤ 4096) {dd : Nat} : FnC Tryz.prog 54 #[.pointer (some ⟨kp, 0, none⟩), .int .i64 (dd : Int)] (WA w0 base [blk kp [.int .i64 (L)] 63]) (fun q : Option (TypeId × Value) => eV q) (fun q w => ((q = none → 1 ≤ L ∧ dd ≤ 60) ∧ (q ≠ none → ¬(1 ≤ L ∧ dd ≤ 60))) ∧ WA w0 base [blk kp [.int .i64 (L - 1)] 63] w) := by
  refine FnC.of_body (fn := Tryz.f54) [(0, _), (1, _)] Tryz.func54 rfl Tryz.ntmps54 rfl ⟨rfl, rfl, trivial⟩ ?_
  refine CX.seq <| CX.region <| LX.pure (Y.assign rfl) rfl rfl rfl <| LX.sub (l' := [(0, _), (1, _), (4, _)]) ⟨rfl, rfl, rfl, trivial⟩ <| LX.next <| PX.thenN <| CX.seq <| CX.seq <| CX.region <| LX.pure (Y.move rfl) rfl rfl rfl <| LX.pure (Y.nilCheck rfl) rfl rfl rfl <| LX.pure (Y.fieldAddr0 Kf.fo63_0 rfl) rfl rfl rfl <| LX.pure (Y.ldB 0 Kc.one3 rfl rfl rfl) rfl rfl rfl <| LX.pure (Y.sub rfl rfl (by omega)) rfl rfl rfl <| LX.pure (Y.nilCheck rfl) rfl rfl rfl <| LX.pure (Y.fieldAddr0 Kf.fo63_0 rfl) rfl rfl rfl <| LX.storeB 0 Kc.sz3 rfl rfl rfl rfl rfl rfl rfl rfl <| LX.sub (l' := [(0, _), (1, _), (4, _)]) ⟨rfl, rfl, rfl, trivial⟩ <| LX.next <| PX.thenN <| CX.seq <| CX.region <| LX.pure (Y.move rfl) rfl rfl rfl <| LX.pure (Y.nilCheck rfl) rfl rfl rfl <| LX.pure (Y.fieldAddr0 Kf.fo63_0 rfl) rfl rfl rfl <| LX.pure (Y.ldB 0 Kc.one3 rfl rfl rfl) rfl rfl rfl <| LX.pure (Y.ltI rfl rfl) rfl rfl rfl <| LX.pure (Y.move rfl) rfl rfl rfl <| LX.sub (l' := [(1, _), (4, _), (17, _)]) ⟨rfl, rfl, rfl, trivial⟩ ?_
  apply LX.joinOr 3 20 17 rfl
  · intro hb1
    refine LX.gF rfl rfl rfl hb1 rfl rfl <| LX.gF rfl rfl rfl hb1 rfl rfl <| LX.pure (Y.pickT rfl hb1 rfl) rfl rfl rfl ?_
    exact LX.left ⟨rfl, rfl, rfl, rfl, trivial⟩
  · intro hb1
    refine LX.gT rfl rfl rfl hb1 (Y.move rfl) rfl rfl <| LX.gT rfl rfl rfl hb1 (Y.gtN rfl rfl) rfl rfl <| LX.pure (Y.pickF rfl hb1 rfl) rfl rfl rfl ?_
    exact LX.left ⟨rfl, rfl, rfl, rfl, trivial⟩
  refine LX.sub (l' := [(4, _), (20, _)]) ⟨rfl, rfl, trivial⟩ <| LX.next <| PX.thenN ?_
  refine CX.cond rfl (fun hb2 => ?_) (fun hb2 => ?_)
  · try simp at hb2
    refine CX.seq <| CX.region <| LX.pure (Y.ldO Kc.one28 rfl (hS.at_ 7 2 rfl) (hS.lt 2 (by decide))) rfl rfl rfl <| LX.pure (Y.assign rfl) rfl rfl rfl <| LX.sub (l' := [(4, _)]) ⟨rfl, trivial⟩ <| LX.next <| PX.thenN <| CX.ret <| PX.thenR <| PX.ret1 (by simp) Tryz.results54 rfl ?_
    exact fun w hw => ⟨some (247, .pointer (some (aE 7))), rfl, ⟨(fun h => by cases h), fun _ => by omega⟩, hw⟩
  try simp at hb2
  refine CX.skip <| PX.thenN <| CX.seq <| CX.region <| LX.pure (Y.assign rfl) rfl rfl rfl <| LX.sub (l' := [(4, _)]) ⟨rfl, trivial⟩ <| LX.next <| PX.thenN <| CX.ret <| PX.ret1 (by simp) Tryz.results54 rfl ?_
  exact fun w hw => ⟨none, rfl, ⟨(fun _ => by omega), fun h => absurd rfl h⟩, hw⟩
theorem kindN {W : World → Prop} [Stab W] : FnC Tryz.prog 223 #[.agg #[]] W (fun _ : Unit => .int .i64 1) (fun _ => W) := by
  refine FnC.re fun w hw => ?_
  refine FnC.of_body (fn := Tryz.f223) [(0, _)] Tryz.func223 rfl Tryz.ntmps223 rfl ⟨rfl, trivial⟩ ?_
  refine CX.seq <| CX.region <| LX.box rfl rfl rfl rfl rfl ?_
  intro bx0
  refine LX.pure (Y.assign rfl) rfl rfl rfl <| LX.sub (l' := [(2, _)]) ⟨rfl, trivial⟩ <| LX.next <| PX.thenN <| CX.seq <| CX.region <| LX.pure (Y.assign rfl) rfl rfl rfl <| LX.sub (l' := [(2, _)]) ⟨rfl, trivial⟩ <| LX.next <| PX.thenN <| CX.ret <| PX.ret1 (by simp) Tryz.results223 rfl ?_
  exact fun w hw => ⟨(), rfl, hw.drop (List.sublist_cons_self _ _)⟩
theorem kindB {W : World → Prop} [Stab W] {v : Value} : FnC Tryz.prog 224 #[v] W (fun _ : Unit => .int .i64 2) (fun _ => W) := by
  refine FnC.re fun w hw => ?_
  refine FnC.of_body (fn := Tryz.f224) [(0, _)] Tryz.func224 rfl Tryz.ntmps224 rfl ⟨rfl, trivial⟩ ?_
  refine CX.seq <| CX.region <| LX.pure (Y.assign rfl) rfl rfl rfl <| LX.sub (l' := [(2, _)]) ⟨rfl, trivial⟩ <| LX.next <| PX.thenN <| CX.seq <| CX.region <| LX.pure (Y.assign rfl) rfl rfl rfl <| LX.sub (l' := [(2, _)]) ⟨rfl, trivial⟩ <| LX.next <| PX.thenN <| CX.ret <| PX.ret1 (by simp) Tryz.results224 rfl ?_
  exact fun w hw => ⟨(), rfl, hw⟩
theorem kindI {W : World → Prop} [Stab W] {b : Bool} {av : Option Addr} {n c : Nat} : FnC Tryz.prog 218 #[.agg #[.bool b, .slice av n c]] W (fun _ : Unit => .int .i64 3) (fun _ => W) := by
  refine FnC.re fun w hw => ?_
  refine FnC.of_body (fn := Tryz.f218) [(0, _)] Tryz.func218 rfl Tryz.ntmps218 rfl ⟨rfl, trivial⟩ ?_
  refine CX.seq <| CX.region <| LX.box rfl rfl rfl rfl rfl ?_
  intro bx0
  refine LX.pure (Y.assign rfl) rfl rfl rfl <| LX.sub (l' := [(2, _)]) ⟨rfl, trivial⟩ <| LX.next <| PX.thenN <| CX.seq <| CX.region <| LX.pure (Y.assign rfl) rfl rfl rfl <| LX.sub (l' := [(2, _)]) ⟨rfl, trivial⟩ <| LX.next <| PX.thenN <| CX.ret <| PX.ret1 (by simp) Tryz.results218 rfl ?_
  exact fun w hw => ⟨(), rfl, hw.drop (List.sublist_cons_self _ _)⟩
theorem kindT {W : World → Prop} [Stab W] {v : Value} : FnC Tryz.prog 219 #[v] W (fun _ : Unit => .int .i64 4) (fun _ => W) := by
  refine FnC.re fun w hw => ?_
  refine FnC.of_body (fn := Tryz.f219) [(0, _)] Tryz.func219 rfl Tryz.ntmps219 rfl ⟨rfl, trivial⟩ ?_
  refine CX.seq <| CX.region <| LX.pure (Y.assign rfl) rfl rfl rfl <| LX.sub (l' := [(2, _)]) ⟨rfl, trivial⟩ <| LX.next <| PX.thenN <| CX.seq <| CX.region <| LX.pure (Y.assign rfl) rfl rfl rfl <| LX.sub (l' := [(2, _)]) ⟨rfl, trivial⟩ <| LX.next <| PX.thenN <| CX.ret <| PX.ret1 (by simp) Tryz.results219 rfl ?_
  exact fun w hw => ⟨(), rfl, hw⟩
theorem kindL {W : World → Prop} [Stab W] {v : Value} : FnC Tryz.prog 222 #[v] W (fun _ : Unit => .int .i64 5) (fun _ => W) := by
  refine FnC.re fun w hw => ?_
  refine FnC.of_body (fn := Tryz.f222) [(0, _)] Tryz.func222 rfl Tryz.ntmps222 rfl ⟨rfl, trivial⟩ ?_
  refine CX.seq <| CX.region <| LX.pure (Y.assign rfl) rfl rfl rfl <| LX.sub (l' := [(2, _)]) ⟨rfl, trivial⟩ <| LX.next <| PX.thenN <| CX.seq <| CX.region <| LX.pure (Y.assign rfl) rfl rfl rfl <| LX.sub (l' := [(2, _)]) ⟨rfl, trivial⟩ <| LX.next <| PX.thenN <| CX.ret <| PX.ret1 (by simp) Tryz.results222 rfl ?_
  exact fun w hw => ⟨(), rfl, hw⟩
theorem kindU {W : World → Prop} [Stab W] {v : Value} : FnC Tryz.prog 226 #[v] W (fun _ : Unit => .int .i64 6) (fun _ => W) := by
  refine FnC.re fun w hw => ?_
  refine FnC.of_body (fn := Tryz.f226) [(0, _)] Tryz.func226 rfl Tryz.ntmps226 rfl ⟨rfl, trivial⟩ ?_
  refine CX.seq <| CX.region <| LX.pure (Y.assign rfl) rfl rfl rfl <| LX.sub (l' := [(2, _)]) ⟨rfl, trivial⟩ <| LX.next <| PX.thenN <| CX.seq <| CX.region <| LX.pure (Y.assign rfl) rfl rfl rfl <| LX.sub (l' := [(2, _)]) ⟨rfl, trivial⟩ <| LX.next <| PX.thenN <| CX.ret <| PX.ret1 (by simp) Tryz.results226 rfl ?_
  exact fun w hw => ⟨(), rfl, hw⟩
theorem kindD {W : World → Prop} [Stab W] {v : Value} : FnC Tryz.prog 227 #[v] W (fun _ : Unit => .int .i64 7) (fun _ => W) := by
  refine FnC.re fun w hw => ?_
  refine FnC.of_body (fn := Tryz.f227) [(0, _)] Tryz.func227 rfl Tryz.ntmps227 rfl ⟨rfl, trivial⟩ ?_
  refine CX.seq <| CX.region <| LX.pure (Y.assign rfl) rfl rfl rfl <| LX.sub (l' := [(2, _)]) ⟨rfl, trivial⟩ <| LX.next <| PX.thenN <| CX.seq <| CX.region <| LX.pure (Y.assign rfl) rfl rfl rfl <| LX.sub (l' := [(2, _)]) ⟨rfl, trivial⟩ <| LX.next <| PX.thenN <| CX.ret <| PX.ret1 (by simp) Tryz.results227 rfl ?_
  exact fun w hw => ⟨(), rfl, hw⟩
/-- a value that tells its sort -/
structure Kof (k : Int) (v : Value) : Prop where
  ex : ∃ tt z g, v = .iface tt z ∧ (∀ w, (invoke (.fn (.method "Kind") #[]) #[.iface tt z]).run Tryz.prog w = .ok (.enter g #[z]) w) ∧ ∀ {W : World → Prop} [Stab W], FnC Tryz.prog g #[z] W (fun _ : Unit => .int .i64 k) (fun _ => W)
end Go.Proofs.YtickdimknfeddaaGreatDoor

namespace Go.Proofs.YtickdimknfeddaaGreatDoor
open Go.SX Go.RowKit Go.Vo Go.Ky Go.Proofs.YtickdimknfeddaaGreatDoor.Env
namespace Kg
theorem en54 : Enters Tryz.prog 54 := Enters.of Tryz.func54 (by kernel_rfl) (by kernel_rfl)
theorem en55 : Enters Tryz.prog 55 := Enters.of Tryz.func55 (by kernel_rfl) (by kernel_rfl)
theorem en56 : Enters Tryz.prog 56 := Enters.of Tryz.func56 (by kernel_rfl) (by kernel_rfl)
theorem en57 : Enters Tryz.prog 57 := Enters.of Tryz.func57 (by kernel_rfl) (by kernel_rfl)
theorem fo123_1 : FieldOff Tryz.prog 123 1 0 := fun b o w => by kernel_rfl
theorem un104 : Tryz.prog.underlying 104 = some (.pointer 123) := by kernel_rfl
theorem un124 : Tryz.prog.underlying 124 = some (.pointer 174) := by kernel_rfl
theorem zv104 : ∀ w, (zeroValue 104).run Tryz.prog w = .ok (.pointer none) w := fun w => by kernel_rfl
theorem zv124 : ∀ w, (zeroValue 124).run Tryz.prog w = .ok (.pointer none) w := fun w => by kernel_rfl
theorem nif104 : NotIface Tryz.prog 104 := NotIface.of un104 (fun ms h => by cases h)
theorem nif124 : NotIface Tryz.prog 124 := NotIface.of un124 (fun ms h => by cases h)
end Kg
theorem eq_ne {w0 : World} {base : Nat} {aE : Nat → Addr} (hS : EnvS w0 base aE) {kp : Nat} {L : Int} (hL : 0 ≤ L ∧ L ≤ 4096) {dd : Nat} {t u : Tr} {v1 v2 : Value} {k1 k2 : Int} (h1 : Kof k1 v1) (h2 : Kof k2 v2) (hk : k1 ≠ k2) (hne : t ≠ u) : FnC Tryz.prog 26 #[.pointer (some ⟨kp, 0, none⟩), v1, v2, .int .i64 ((dd : Nat) : Int)] (WA w0 base [blk kp [.int .i64 (L)] 63]) (fun q : Option (TypeId × Value) × Bool × Int => .tuple #[.bool q.2.1, eV q.1]) (fun q w => Er t u dd L q.1 q.2.1 q.2.2 ∧ WA w0 base [blk kp [.int .i64 (q.2.2)] 63] w) := by
  obtain ⟨tt1, z1, g1, rfl, hi1, hc1⟩ := h1
  obtain ⟨tt2, z2, g2, rfl, hi2, hc2⟩ := h2
  refine FnC.of_body (fn := Tryz.f26) [(0, _), (1, _), (2, _), (3, _)] Tryz.func26 rfl Tryz.ntmps26 rfl ⟨rfl, rfl, rfl, rfl, trivial⟩ ?_
  refine CX.seq <| CX.region <| LX.pure (Y.assign rfl) rfl rfl rfl <| LX.pure (Y.assign rfl) rfl rfl rfl <| LX.sub (l' := [(0, _), (1, _), (2, _), (3, _), (8, _), (9, _)]) ⟨rfl, rfl, rfl, rfl, rfl, rfl, trivial⟩ <| LX.next <| PX.thenN <| CX.seq <| CX.seq <| CX.region <| LX.pure (Y.move rfl) rfl rfl rfl <| LX.pure (Y.move rfl) rfl rfl rfl <| LX.call (look_c hS hL) Kg.en54 rfl rfl rfl rfl rfl ?_
  rintro q1
  refine LX.have fun ⟨hq1, hq2⟩ => ?_
  try dsimp only at hq1 hq2 ⊢
  refine LX.pure (Y.assign rfl) rfl rfl rfl <| LX.sub (l' := [(0, _), (1, _), (2, _), (3, _), (8, _), (9, _), (10, _)]) ⟨rfl, rfl, rfl, rfl, rfl, rfl, rfl, trivial⟩ <| LX.next <| PX.thenN <| CX.seq <| CX.region <| LX.pure (Y.move rfl) rfl rfl rfl <| LX.pure (Y.neE Kd.un28 rfl) rfl rfl rfl <| LX.sub (l' := [(0, _), (1, _), (2, _), (3, _), (8, _), (9, _), (10, _), (25, _)]) ⟨rfl, rfl, rfl, rfl, rfl, rfl, rfl, rfl, trivial⟩ <| LX.next <| PX.thenN ?_
  refine CX.cond rfl (fun hb1 => ?_) (fun hb1 => ?_)
  · try simp at hb1
    obtain ⟨e1, rfl⟩ := Option.isSome_iff_exists.1 hb1
    refine CX.seq <| CX.region <| LX.pure (Y.move rfl) rfl rfl rfl <| LX.pure (Y.assign rfl) rfl rfl rfl <| LX.pure (Y.assign rfl) rfl rfl rfl <| LX.sub (l' := [(0, _), (1, _), (2, _), (3, _), (8, _), (9, _)]) ⟨rfl, rfl, rfl, rfl, rfl, rfl, trivial⟩ <| LX.next <| PX.thenN <| CX.ret <| PX.thenR <| PX.ret2 (by simp) Tryz.results26 rfl rfl ?_
    exact fun w hw => ⟨(some e1, false, L - 1), rfl, Er.bad (hq2 (by simp)) hL.1, hw⟩
  try simp at hb1
  obtain rfl : q1 = none := by exact hb1
  obtain ⟨hL1, hd60⟩ := hq1 rfl
  refine CX.skip <| PX.thenN <| CX.seq <| CX.seq <| CX.region <| LX.pure (Y.move rfl) rfl rfl rfl <| LX.invC hc1 rfl hi1 rfl rfl rfl rfl ?_
  intro _
  refine LX.pure (Y.move rfl) rfl rfl rfl <| LX.invC hc2 rfl hi2 rfl rfl rfl rfl ?_
  intro _
  refine LX.pure (Y.neI rfl rfl) rfl rfl rfl <| LX.sub (l' := [(0, _), (1, _), (2, _), (3, _), (8, _), (9, _), (31, _)]) ⟨rfl, rfl, rfl, rfl, rfl, rfl, rfl, trivial⟩ <| LX.next <| PX.thenN ?_
  refine CX.cond rfl (fun hb2 => ?_) (fun hb2 => ?_)
  · try simp at hb2
    refine CX.seq <| CX.region <| LX.pure (Y.assign rfl) rfl rfl rfl <| LX.pure (Y.assign rfl) rfl rfl rfl <| LX.sub (l' := [(0, _), (1, _), (2, _), (3, _), (8, _), (9, _)]) ⟨rfl, rfl, rfl, rfl, rfl, rfl, trivial⟩ <| LX.next <| PX.thenN <| CX.ret <| PX.thenR <| PX.ret2 (by simp) Tryz.results26 rfl rfl ?_
    exact fun w hw => ⟨(none, false, L - 1), rfl, Er.ne hne hL1, hw⟩
  try simp at hb2
  (exfalso; omega)
theorem eq_none {w0 : World} {base : Nat} {aE : Nat → Addr} (hS : EnvS w0 base aE) {kp : Nat} {L : Int} (hL : 0 ≤ L ∧ L ≤ 4096) {dd : Nat} : FnC Tryz.prog 26 #[.pointer (some ⟨kp, 0, none⟩), .iface 110 (.agg #[]), .iface 110 (.agg #[]), .int .i64 ((dd : Nat) : Int)] (WA w0 base [blk kp [.int .i64 (L)] 63]) (fun q : Option (TypeId × Value) × Bool × Int => .tuple #[.bool q.2.1, eV q.1]) (fun q w => Er .none .none dd L q.1 q.2.1 q.2.2 ∧ WA w0 base [blk kp [.int .i64 (q.2.2)] 63] w) := by
  refine FnC.of_body (fn := Tryz.f26) [(0, _), (1, _), (2, _), (3, _)] Tryz.func26 rfl Tryz.ntmps26 rfl ⟨rfl, rfl, rfl, rfl, trivial⟩ ?_
  refine CX.seq <| CX.region <| LX.pure (Y.assign rfl) rfl rfl rfl <| LX.pure (Y.assign rfl) rfl rfl rfl <| LX.sub (l' := [(0, _), (1, _), (2, _), (3, _), (8, _), (9, _)]) ⟨rfl, rfl, rfl, rfl, rfl, rfl, trivial⟩ <| LX.next <| PX.thenN <| CX.seq <| CX.seq <| CX.region <| LX.pure (Y.move rfl) rfl rfl rfl <| LX.pure (Y.move rfl) rfl rfl rfl <| LX.call (look_c hS hL) Kg.en54 rfl rfl rfl rfl rfl ?_
  rintro q1
  refine LX.have fun ⟨hq1, hq2⟩ => ?_
  try dsimp only at hq1 hq2 ⊢
  refine LX.pure (Y.assign rfl) rfl rfl rfl <| LX.sub (l' := [(0, _), (1, _), (2, _), (3, _), (8, _), (9, _), (10, _)]) ⟨rfl, rfl, rfl, rfl, rfl, rfl, rfl, trivial⟩ <| LX.next <| PX.thenN <| CX.seq <| CX.region <| LX.pure (Y.move rfl) rfl rfl rfl <| LX.pure (Y.neE Kd.un28 rfl) rfl rfl rfl <| LX.sub (l' := [(0, _), (1, _), (2, _), (3, _), (8, _), (9, _), (10, _), (25, _)]) ⟨rfl, rfl, rfl, rfl, rfl, rfl, rfl, rfl, trivial⟩ <| LX.next <| PX.thenN ?_
  refine CX.cond rfl (fun hb1 => ?_) (fun hb1 => ?_)
  · try simp at hb1
    obtain ⟨e1, rfl⟩ := Option.isSome_iff_exists.1 hb1
    refine CX.seq <| CX.region <| LX.pure (Y.move rfl) rfl rfl rfl <| LX.pure (Y.assign rfl) rfl rfl rfl <| LX.pure (Y.assign rfl) rfl rfl rfl <| LX.sub (l' := [(0, _), (1, _), (2, _), (3, _), (8, _), (9, _)]) ⟨rfl, rfl, rfl, rfl, rfl, rfl, trivial⟩ <| LX.next <| PX.thenN <| CX.ret <| PX.thenR <| PX.ret2 (by simp) Tryz.results26 rfl rfl ?_
    exact fun w hw => ⟨(some e1, false, L - 1), rfl, Er.bad (hq2 (by simp)) hL.1, hw⟩
  try simp at hb1
  obtain rfl : q1 = none := by exact hb1
  obtain ⟨hL1, hd60⟩ := hq1 rfl
  refine CX.skip <| PX.thenN <| CX.seq <| CX.seq <| CX.region <| LX.pure (Y.move rfl) rfl rfl rfl <| LX.invC (kindN) rfl (fun _ => by kernel_rfl) rfl rfl rfl rfl ?_
  intro _
  refine LX.pure (Y.move rfl) rfl rfl rfl <| LX.invC (kindN) rfl (fun _ => by kernel_rfl) rfl rfl rfl rfl ?_
  intro _
  refine LX.pure (Y.neN rfl rfl) rfl rfl rfl <| LX.sub (l' := [(0, _), (1, _), (2, _), (3, _), (8, _), (9, _), (31, _)]) ⟨rfl, rfl, rfl, rfl, rfl, rfl, rfl, trivial⟩ <| LX.next <| PX.thenN ?_
  refine CX.cond rfl (fun hb2 => ?_) (fun hb2 => ?_)
  · try simp at hb2
    done
  try simp at hb2
  refine CX.skip <| PX.thenN <| CX.seq <| CX.seq <| CX.region <| LX.pure (Y.move rfl) rfl rfl rfl <| LX.sub (l' := [(0, _), (1, _), (2, _), (3, _), (8, _), (9, _), (32, _)]) ⟨rfl, rfl, rfl, rfl, rfl, rfl, rfl, trivial⟩ <| LX.next <| PX.thenN <| CX.block <| CX.seq <| CX.region <| LX.pure (Y.assertYes Kc.nif110 rfl) rfl rfl rfl <| LX.pure (Y.extract rfl rfl) rfl rfl rfl <| LX.pure (Y.extract rfl rfl) rfl rfl rfl <| LX.sub (l' := [(0, _), (1, _), (2, _), (3, _), (8, _), (9, _), (32, _), (34, _), (35, _)]) ⟨rfl, rfl, rfl, rfl, rfl, rfl, rfl, rfl, rfl, trivial⟩ <| LX.next <| PX.thenN ?_
  refine CX.cond rfl (fun hb3 => ?_) (fun hb3 => ?_)
  · try simp at hb3
    refine CX.seq <| CX.region <| LX.alloc rfl Kc.zv110 rfl rfl rfl ?_
    intro bx20
    refine LX.storeA 0 Kc.ag110 rfl rfl rfl rfl rfl rfl rfl rfl rfl <| LX.sub (l' := [(1, _), (2, _), (8, _), (9, _)]) ⟨rfl, rfl, rfl, rfl, trivial⟩ <| LX.next <| PX.thenN <| CX.seq <| CX.region <| LX.pure (Y.assign rfl) rfl rfl rfl <| LX.pure (Y.assign rfl) rfl rfl rfl <| LX.sub (l' := [(1, _), (2, _), (8, _), (9, _)]) ⟨rfl, rfl, rfl, rfl, trivial⟩ <| LX.next <| PX.thenN <| CX.ret <| PX.blockR <| PX.thenR <| PX.ret2 (by simp) Tryz.results26 rfl rfl ?_
    exact fun w hw => ⟨(none, true, L - 1), rfl, Er.leaf hL1 rfl (by simp), hw.drop (List.sublist_cons_self _ _)⟩
  try simp at hb3
  done
theorem eq_bool {w0 : World} {base : Nat} {aE : Nat → Addr} (hS : EnvS w0 base aE) {kp : Nat} {L : Int} (hL : 0 ≤ L ∧ L ≤ 4096) {dd : Nat} (a b : Bool) : FnC Tryz.prog 26 #[.pointer (some ⟨kp, 0, none⟩), .iface 111 (.bool a), .iface 111 (.bool b), .int .i64 ((dd : Nat) : Int)] (WA w0 base [blk kp [.int .i64 (L)] 63]) (fun q : Option (TypeId × Value) × Bool × Int => .tuple #[.bool q.2.1, eV q.1]) (fun q w => Er (.bool a) (.bool b) dd L q.1 q.2.1 q.2.2 ∧ WA w0 base [blk kp [.int .i64 (q.2.2)] 63] w) := by
  refine FnC.of_body (fn := Tryz.f26) [(0, _), (1, _), (2, _), (3, _)] Tryz.func26 rfl Tryz.ntmps26 rfl ⟨rfl, rfl, rfl, rfl, trivial⟩ ?_
  refine CX.seq <| CX.region <| LX.pure (Y.assign rfl) rfl rfl rfl <| LX.pure (Y.assign rfl) rfl rfl rfl <| LX.sub (l' := [(0, _), (1, _), (2, _), (3, _), (8, _), (9, _)]) ⟨rfl, rfl, rfl, rfl, rfl, rfl, trivial⟩ <| LX.next <| PX.thenN <| CX.seq <| CX.seq <| CX.region <| LX.pure (Y.move rfl) rfl rfl rfl <| LX.pure (Y.move rfl) rfl rfl rfl <| LX.call (look_c hS hL) Kg.en54 rfl rfl rfl rfl rfl ?_
  rintro q1
  refine LX.have fun ⟨hq1, hq2⟩ => ?_
  try dsimp only at hq1 hq2 ⊢
  refine LX.pure (Y.assign rfl) rfl rfl rfl <| LX.sub (l' := [(0, _), (1, _), (2, _), (3, _), (8, _), (9, _), (10, _)]) ⟨rfl, rfl, rfl, rfl, rfl, rfl, rfl, trivial⟩ <| LX.next <| PX.thenN <| CX.seq <| CX.region <| LX.pure (Y.move rfl) rfl rfl rfl <| LX.pure (Y.neE Kd.un28 rfl) rfl rfl rfl <| LX.sub (l' := [(0, _), (1, _), (2, _), (3, _), (8, _), (9, _), (10, _), (25, _)]) ⟨rfl, rfl, rfl, rfl, rfl, rfl, rfl, rfl, trivial⟩ <| LX.next <| PX.thenN ?_
  refine CX.cond rfl (fun hb1 => ?_) (fun hb1 => ?_)
  · try simp at hb1
    obtain ⟨e1, rfl⟩ := Option.isSome_iff_exists.1 hb1
    refine CX.seq <| CX.region <| LX.pure (Y.move rfl) rfl rfl rfl <| LX.pure (Y.assign rfl) rfl rfl rfl <| LX.pure (Y.assign rfl) rfl rfl rfl <| LX.sub (l' := [(0, _), (1, _), (2, _), (3, _), (8, _), (9, _)]) ⟨rfl, rfl, rfl, rfl, rfl, rfl, trivial⟩ <| LX.next <| PX.thenN <| CX.ret <| PX.thenR <| PX.ret2 (by simp) Tryz.results26 rfl rfl ?_
    exact fun w hw => ⟨(some e1, false, L - 1), rfl, Er.bad (hq2 (by simp)) hL.1, hw⟩
  try simp at hb1
  obtain rfl : q1 = none := by exact hb1
  obtain ⟨hL1, hd60⟩ := hq1 rfl
  refine CX.skip <| PX.thenN <| CX.seq <| CX.seq <| CX.region <| LX.pure (Y.move rfl) rfl rfl rfl <| LX.invC (kindB) rfl (fun _ => by kernel_rfl) rfl rfl rfl rfl ?_
  intro _
  refine LX.pure (Y.move rfl) rfl rfl rfl <| LX.invC (kindB) rfl (fun _ => by kernel_rfl) rfl rfl rfl rfl ?_
  intro _
  refine LX.pure (Y.neN rfl rfl) rfl rfl rfl <| LX.sub (l' := [(0, _), (1, _), (2, _), (3, _), (8, _), (9, _), (31, _)]) ⟨rfl, rfl, rfl, rfl, rfl, rfl, rfl, trivial⟩ <| LX.next <| PX.thenN ?_
  refine CX.cond rfl (fun hb2 => ?_) (fun hb2 => ?_)
  · try simp at hb2
    done
  try simp at hb2
  refine CX.skip <| PX.thenN <| CX.seq <| CX.seq <| CX.region <| LX.pure (Y.move rfl) rfl rfl rfl <| LX.sub (l' := [(0, _), (1, _), (2, _), (3, _), (8, _), (9, _), (32, _)]) ⟨rfl, rfl, rfl, rfl, rfl, rfl, rfl, trivial⟩ <| LX.next <| PX.thenN <| CX.block <| CX.seq <| CX.region <| LX.pure (Y.assertNo Kc.nif110 rfl (by decide) Kc.zv110) rfl rfl rfl <| LX.pure (Y.extract rfl rfl) rfl rfl rfl <| LX.pure (Y.extract rfl rfl) rfl rfl rfl <| LX.sub (l' := [(0, _), (1, _), (2, _), (3, _), (8, _), (9, _), (32, _), (34, _), (35, _)]) ⟨rfl, rfl, rfl, rfl, rfl, rfl, rfl, rfl, rfl, trivial⟩ <| LX.next <| PX.thenN ?_
  refine CX.cond rfl (fun hb3 => ?_) (fun hb3 => ?_)
  · try simp at hb3
    done
  try simp at hb3
  refine CX.seq <| CX.region <| LX.pure (Y.assertYes Kc.nif111 rfl) rfl rfl rfl <| LX.pure (Y.extract rfl rfl) rfl rfl rfl <| LX.pure (Y.extract rfl rfl) rfl rfl rfl <| LX.sub (l' := [(0, _), (1, _), (2, _), (3, _), (8, _), (9, _), (32, _), (37, _), (38, _)]) ⟨rfl, rfl, rfl, rfl, rfl, rfl, rfl, rfl, rfl, trivial⟩ <| LX.next <| PX.thenN ?_
  refine CX.cond rfl (fun hb4 => ?_) (fun hb4 => ?_)
  · try simp at hb4
    refine CX.seq <| CX.region <| LX.pure (Y.assign rfl) rfl rfl rfl <| LX.sub (l' := [(1, _), (2, _), (8, _), (9, _), (12, _)]) ⟨rfl, rfl, rfl, rfl, rfl, trivial⟩ <| LX.next <| PX.thenN <| CX.seq <| CX.region <| LX.pure (Y.move rfl) rfl rfl rfl <| LX.pure (Y.move rfl) rfl rfl rfl <| LX.pure (Y.assert1 Kc.nif111 rfl) rfl rfl rfl <| LX.pure (Y.eqB rfl rfl Kc.un111) rfl rfl rfl <| LX.pure (Y.assign rfl) rfl rfl rfl <| LX.pure (Y.assign rfl) rfl rfl rfl <| LX.sub (l' := [(1, _), (2, _), (8, _), (9, _)]) ⟨rfl, rfl, rfl, rfl, trivial⟩ <| LX.next <| PX.thenN <| CX.ret <| PX.blockR <| PX.thenR <| PX.ret2 (by simp) Tryz.results26 rfl rfl ?_
    exact fun w hw => ⟨(none, decide (a = b), L - 1), rfl, Er.leaf hL1 rfl (by cases a <;> cases b <;> simp), hw⟩
  try simp at hb4
  done
theorem eq_str {w0 : World} {base : Nat} {aE : Nat → Addr} (hS : EnvS w0 base aE) {kp : Nat} {L : Int} (hL : 0 ≤ L ∧ L ≤ 4096) {dd : Nat} (a b : T) : FnC Tryz.prog 26 #[.pointer (some ⟨kp, 0, none⟩), .iface 78 (str a), .iface 78 (str b), .int .i64 ((dd : Nat) : Int)] (WA w0 base [blk kp [.int .i64 (L)] 63]) (fun q : Option (TypeId × Value) × Bool × Int => .tuple #[.bool q.2.1, eV q.1]) (fun q w => Er (.str a) (.str b) dd L q.1 q.2.1 q.2.2 ∧ WA w0 base [blk kp [.int .i64 (q.2.2)] 63] w) := by
  refine FnC.of_body (fn := Tryz.f26) [(0, _), (1, _), (2, _), (3, _)] Tryz.func26 rfl Tryz.ntmps26 rfl ⟨rfl, rfl, rfl, rfl, trivial⟩ ?_
  refine CX.seq <| CX.region <| LX.pure (Y.assign rfl) rfl rfl rfl <| LX.pure (Y.assign rfl) rfl rfl rfl <| LX.sub (l' := [(0, _), (1, _), (2, _), (3, _), (8, _), (9, _)]) ⟨rfl, rfl, rfl, rfl, rfl, rfl, trivial⟩ <| LX.next <| PX.thenN <| CX.seq <| CX.seq <| CX.region <| LX.pure (Y.move rfl) rfl rfl rfl <| LX.pure (Y.move rfl) rfl rfl rfl <| LX.call (look_c hS hL) Kg.en54 rfl rfl rfl rfl rfl ?_
  rintro q1
  refine LX.have fun ⟨hq1, hq2⟩ => ?_
  try dsimp only at hq1 hq2 ⊢
  refine LX.pure (Y.assign rfl) rfl rfl rfl <| LX.sub (l' := [(0, _), (1, _), (2, _), (3, _), (8, _), (9, _), (10, _)]) ⟨rfl, rfl, rfl, rfl, rfl, rfl, rfl, trivial⟩ <| LX.next <| PX.thenN <| CX.seq <| CX.region <| LX.pure (Y.move rfl) rfl rfl rfl <| LX.pure (Y.neE Kd.un28 rfl) rfl rfl rfl <| LX.sub (l' := [(0, _), (1, _), (2, _), (3, _), (8, _), (9, _), (10, _), (25, _)]) ⟨rfl, rfl, rfl, rfl, rfl, rfl, rfl, rfl, trivial⟩ <| LX.next <| PX.thenN ?_
  refine CX.cond rfl (fun hb1 => ?_) (fun hb1 => ?_)
  · try simp at hb1
    obtain ⟨e1, rfl⟩ := Option.isSome_iff_exists.1 hb1
    refine CX.seq <| CX.region <| LX.pure (Y.move rfl) rfl rfl rfl <| LX.pure (Y.assign rfl) rfl rfl rfl <| LX.pure (Y.assign rfl) rfl rfl rfl <| LX.sub (l' := [(0, _), (1, _), (2, _), (3, _), (8, _), (9, _)]) ⟨rfl, rfl, rfl, rfl, rfl, rfl, trivial⟩ <| LX.next <| PX.thenN <| CX.ret <| PX.thenR <| PX.ret2 (by simp) Tryz.results26 rfl rfl ?_
    exact fun w hw => ⟨(some e1, false, L - 1), rfl, Er.bad (hq2 (by simp)) hL.1, hw⟩
  try simp at hb1
  obtain rfl : q1 = none := by exact hb1
  obtain ⟨hL1, hd60⟩ := hq1 rfl
  refine CX.skip <| PX.thenN <| CX.seq <| CX.seq <| CX.region <| LX.pure (Y.move rfl) rfl rfl rfl <| LX.invC (kindT) rfl (fun _ => by kernel_rfl) rfl rfl rfl rfl ?_
  intro _
  refine LX.pure (Y.move rfl) rfl rfl rfl <| LX.invC (kindT) rfl (fun _ => by kernel_rfl) rfl rfl rfl rfl ?_
  intro _
  refine LX.pure (Y.neN rfl rfl) rfl rfl rfl <| LX.sub (l' := [(0, _), (1, _), (2, _), (3, _), (8, _), (9, _), (31, _)]) ⟨rfl, rfl, rfl, rfl, rfl, rfl, rfl, trivial⟩ <| LX.next <| PX.thenN ?_
  refine CX.cond rfl (fun hb2 => ?_) (fun hb2 => ?_)
  · try simp at hb2
    done
  try simp at hb2
  refine CX.skip <| PX.thenN <| CX.seq <| CX.seq <| CX.region <| LX.pure (Y.move rfl) rfl rfl rfl <| LX.sub (l' := [(0, _), (1, _), (2, _), (3, _), (8, _), (9, _), (32, _)]) ⟨rfl, rfl, rfl, rfl, rfl, rfl, rfl, trivial⟩ <| LX.next <| PX.thenN <| CX.block <| CX.seq <| CX.region <| LX.pure (Y.assertNo Kc.nif110 rfl (by decide) Kc.zv110) rfl rfl rfl <| LX.pure (Y.extract rfl rfl) rfl rfl rfl <| LX.pure (Y.extract rfl rfl) rfl rfl rfl <| LX.sub (l' := [(0, _), (1, _), (2, _), (3, _), (8, _), (9, _), (32, _), (34, _), (35, _)]) ⟨rfl, rfl, rfl, rfl, rfl, rfl, rfl, rfl, rfl, trivial⟩ <| LX.next <| PX.thenN ?_
  refine CX.cond rfl (fun hb3 => ?_) (fun hb3 => ?_)
  · try simp at hb3
    done
  try simp at hb3
  refine CX.seq <| CX.region <| LX.pure (Y.assertNo Kc.nif111 rfl (by decide) Kc.zv111) rfl rfl rfl <| LX.pure (Y.extract rfl rfl) rfl rfl rfl <| LX.pure (Y.extract rfl rfl) rfl rfl rfl <| LX.sub (l' := [(0, _), (1, _), (2, _), (3, _), (8, _), (9, _), (32, _), (37, _), (38, _)]) ⟨rfl, rfl, rfl, rfl, rfl, rfl, rfl, rfl, rfl, trivial⟩ <| LX.next <| PX.thenN ?_
  refine CX.cond rfl (fun hb4 => ?_) (fun hb4 => ?_)
  · try simp at hb4
    done
  try simp at hb4
  refine CX.seq <| CX.region <| LX.pure (Y.assertNo Kd.nif74 rfl (by decide) Kd.zv74) rfl rfl rfl <| LX.pure (Y.extract rfl rfl) rfl rfl rfl <| LX.pure (Y.extract rfl rfl) rfl rfl rfl <| LX.sub (l' := [(0, _), (1, _), (2, _), (3, _), (8, _), (9, _), (32, _), (44, _), (45, _)]) ⟨rfl, rfl, rfl, rfl, rfl, rfl, rfl, rfl, rfl, trivial⟩ <| LX.next <| PX.thenN ?_
  refine CX.cond rfl (fun hb5 => ?_) (fun hb5 => ?_)
  · try simp at hb5
    done
  try simp at hb5
  refine CX.seq <| CX.region <| LX.pure (Y.assertYes Kd.nif78 rfl) rfl rfl rfl <| LX.pure (Y.extract rfl rfl) rfl rfl rfl <| LX.pure (Y.extract rfl rfl) rfl rfl rfl <| LX.sub (l' := [(0, _), (1, _), (2, _), (3, _), (8, _), (9, _), (32, _), (54, _), (55, _)]) ⟨rfl, rfl, rfl, rfl, rfl, rfl, rfl, rfl, rfl, trivial⟩ <| LX.next <| PX.thenN ?_
  refine CX.cond rfl (fun hb6 => ?_) (fun hb6 => ?_)
  · try simp at hb6
    refine CX.seq <| CX.region <| LX.pure (Y.assign rfl) rfl rfl rfl <| LX.sub (l' := [(1, _), (2, _), (8, _), (9, _), (14, _)]) ⟨rfl, rfl, rfl, rfl, rfl, trivial⟩ <| LX.next <| PX.thenN <| CX.seq <| CX.region <| LX.pure (Y.move rfl) rfl rfl rfl <| LX.pure (Y.move rfl) rfl rfl rfl <| LX.pure (Y.assert1 Kd.nif78 rfl) rfl rfl rfl <| LX.pure (Y.eqS rfl rfl) rfl rfl rfl <| LX.pure (Y.assign rfl) rfl rfl rfl <| LX.pure (Y.assign rfl) rfl rfl rfl <| LX.sub (l' := [(1, _), (2, _), (8, _), (9, _)]) ⟨rfl, rfl, rfl, rfl, trivial⟩ <| LX.next <| PX.thenN <| CX.ret <| PX.blockR <| PX.thenR <| PX.ret2 (by simp) Tryz.results26 rfl rfl ?_
    exact fun w hw => ⟨(none, decide (a = b), L - 1), rfl, Er.leaf hL1 rfl (by simp), hw⟩
  try simp at hb6
  done
theorem eq_int {w0 : World} {base : Nat} {aE : Nat → Addr} (hS : EnvS w0 base aE) {kp : Nat} {L : Int} (hL : 0 ≤ L ∧ L ≤ 4096) {dd : Nat} {x y : Int} {u v : Value} (hx : NumM (Lies w0 base) x u) (hy : NumM (Lies w0 base) y v) : FnC Tryz.prog 26 #[.pointer (some ⟨kp, 0, none⟩), .iface 74 u, .iface 74 v, .int .i64 ((dd : Nat) : Int)] (WA w0 base [blk kp [.int .i64 (L)] 63]) (fun q : Option (TypeId × Value) × Bool × Int => .tuple #[.bool q.2.1, eV q.1]) (fun q w => Er (.int x) (.int y) dd L q.1 q.2.1 q.2.2 ∧ WA w0 base [blk kp [.int .i64 (q.2.2)] 63] w) := by
  obtain ⟨⟨av1, c1, e1, _⟩, _⟩ := id hx
  subst e1
  obtain ⟨⟨av2, c2, e2, _⟩, _⟩ := id hy
  subst e2
  refine FnC.of_body (fn := Tryz.f26) [(0, _), (1, _), (2, _), (3, _)] Tryz.func26 rfl Tryz.ntmps26 rfl ⟨rfl, rfl, rfl, rfl, trivial⟩ ?_
  refine CX.seq <| CX.region <| LX.pure (Y.assign rfl) rfl rfl rfl <| LX.pure (Y.assign rfl) rfl rfl rfl <| LX.sub (l' := [(0, _), (1, _), (2, _), (3, _), (8, _), (9, _)]) ⟨rfl, rfl, rfl, rfl, rfl, rfl, trivial⟩ <| LX.next <| PX.thenN <| CX.seq <| CX.seq <| CX.region <| LX.pure (Y.move rfl) rfl rfl rfl <| LX.pure (Y.move rfl) rfl rfl rfl <| LX.call (look_c hS hL) Kg.en54 rfl rfl rfl rfl rfl ?_
  rintro q1
  refine LX.have fun ⟨hq1, hq2⟩ => ?_
  try dsimp only at hq1 hq2 ⊢
  refine LX.pure (Y.assign rfl) rfl rfl rfl <| LX.sub (l' := [(0, _), (1, _), (2, _), (3, _), (8, _), (9, _), (10, _)]) ⟨rfl, rfl, rfl, rfl, rfl, rfl, rfl, trivial⟩ <| LX.next <| PX.thenN <| CX.seq <| CX.region <| LX.pure (Y.move rfl) rfl rfl rfl <| LX.pure (Y.neE Kd.un28 rfl) rfl rfl rfl <| LX.sub (l' := [(0, _), (1, _), (2, _), (3, _), (8, _), (9, _), (10, _), (25, _)]) ⟨rfl, rfl, rfl, rfl, rfl, rfl, rfl, rfl, trivial⟩ <| LX.next <| PX.thenN ?_
  refine CX.cond rfl (fun hb1 => ?_) (fun hb1 => ?_)
  · try simp at hb1
    obtain ⟨e1, rfl⟩ := Option.isSome_iff_exists.1 hb1
    refine CX.seq <| CX.region <| LX.pure (Y.move rfl) rfl rfl rfl <| LX.pure (Y.assign rfl) rfl rfl rfl <| LX.pure (Y.assign rfl) rfl rfl rfl <| LX.sub (l' := [(0, _), (1, _), (2, _), (3, _), (8, _), (9, _)]) ⟨rfl, rfl, rfl, rfl, rfl, rfl, trivial⟩ <| LX.next <| PX.thenN <| CX.ret <| PX.thenR <| PX.ret2 (by simp) Tryz.results26 rfl rfl ?_
    exact fun w hw => ⟨(some e1, false, L - 1), rfl, Er.bad (hq2 (by simp)) hL.1, hw⟩
  try simp at hb1
  obtain rfl : q1 = none := by exact hb1
  obtain ⟨hL1, hd60⟩ := hq1 rfl
  refine CX.skip <| PX.thenN <| CX.seq <| CX.seq <| CX.region <| LX.pure (Y.move rfl) rfl rfl rfl <| LX.invC (kindI) rfl (fun _ => by kernel_rfl) rfl rfl rfl rfl ?_
  intro _
  refine LX.pure (Y.move rfl) rfl rfl rfl <| LX.invC (kindI) rfl (fun _ => by kernel_rfl) rfl rfl rfl rfl ?_
  intro _
  refine LX.pure (Y.neN rfl rfl) rfl rfl rfl <| LX.sub (l' := [(0, _), (1, _), (2, _), (3, _), (8, _), (9, _), (31, _)]) ⟨rfl, rfl, rfl, rfl, rfl, rfl, rfl, trivial⟩ <| LX.next <| PX.thenN ?_
  refine CX.cond rfl (fun hb2 => ?_) (fun hb2 => ?_)
  · try simp at hb2
    done
  try simp at hb2
  refine CX.skip <| PX.thenN <| CX.seq <| CX.seq <| CX.region <| LX.pure (Y.move rfl) rfl rfl rfl <| LX.sub (l' := [(0, _), (1, _), (2, _), (3, _), (8, _), (9, _), (32, _)]) ⟨rfl, rfl, rfl, rfl, rfl, rfl, rfl, trivial⟩ <| LX.next <| PX.thenN <| CX.block <| CX.seq <| CX.region <| LX.pure (Y.assertNo Kc.nif110 rfl (by decide) Kc.zv110) rfl rfl rfl <| LX.pure (Y.extract rfl rfl) rfl rfl rfl <| LX.pure (Y.extract rfl rfl) rfl rfl rfl <| LX.sub (l' := [(0, _), (1, _), (2, _), (3, _), (8, _), (9, _), (32, _), (34, _), (35, _)]) ⟨rfl, rfl, rfl, rfl, rfl, rfl, rfl, rfl, rfl, trivial⟩ <| LX.next <| PX.thenN ?_
  refine CX.cond rfl (fun hb3 => ?_) (fun hb3 => ?_)
  · try simp at hb3
    done
  try simp at hb3
  refine CX.seq <| CX.region <| LX.pure (Y.assertNo Kc.nif111 rfl (by decide) Kc.zv111) rfl rfl rfl <| LX.pure (Y.extract rfl rfl) rfl rfl rfl <| LX.pure (Y.extract rfl rfl) rfl rfl rfl <| LX.sub (l' := [(0, _), (1, _), (2, _), (3, _), (8, _), (9, _), (32, _), (37, _), (38, _)]) ⟨rfl, rfl, rfl, rfl, rfl, rfl, rfl, rfl, rfl, trivial⟩ <| LX.next <| PX.thenN ?_
  refine CX.cond rfl (fun hb4 => ?_) (fun hb4 => ?_)
  · try simp at hb4
    done
  try simp at hb4
  refine CX.seq <| CX.region <| LX.pure (Y.assertYes Kd.nif74 rfl) rfl rfl rfl <| LX.pure (Y.extract rfl rfl) rfl rfl rfl <| LX.pure (Y.extract rfl rfl) rfl rfl rfl <| LX.sub (l' := [(0, _), (1, _), (2, _), (3, _), (8, _), (9, _), (32, _), (44, _), (45, _)]) ⟨rfl, rfl, rfl, rfl, rfl, rfl, rfl, rfl, rfl, trivial⟩ <| LX.next <| PX.thenN ?_
  refine CX.cond rfl (fun hb5 => ?_) (fun hb5 => ?_)
  · try simp at hb5
    refine CX.seq <| CX.region <| LX.alloc rfl Kd.zv74 rfl rfl rfl ?_
    intro bx26
    refine LX.storeA 0 Kd.ag74 rfl rfl rfl rfl rfl rfl rfl rfl rfl <| LX.sub (l' := [(1, _), (2, _), (8, _), (9, _), (13, _)]) ⟨rfl, rfl, rfl, rfl, rfl, trivial⟩ <| LX.next <| PX.thenN <| CX.seq <| CX.regionM [(0, .anywhere), (1, .held), (2, .anywhere), (3, .anywhere), (4, .anywhere), (5, .alone), (6, .anywhere), (7, .anywhere), (8, .anywhere)] rfl (by kernel_rfl) <| MX.lift0 (i := 0) rfl (Y.fieldAddr0 Kd.fo74_1 rfl) rfl rfl rfl <| MX.lift1 (i := 1) (pend' := []) rfl (fun w hw => by exact hw) (Y.ldAggB (vs := [.bool (decide (x < 0)), .slice av1 (digs x.natAbs).length ((digs x.natAbs).length + c1)]) 0 Kd.ag43 rfl rfl rfl rfl) rfl rfl rfl (by kernel_rfl) <| MX.lift0 (i := 2) rfl (Y.move rfl) rfl rfl rfl <| MX.lift0 (i := 3) rfl (Y.assert1 Kd.nif74 rfl) rfl rfl rfl <| MX.lift0 (i := 4) rfl (Y.field (v := .agg #[.bool (decide (y < 0)), .slice av2 (digs y.natAbs).length ((digs y.natAbs).length + c2)]) rfl (fun _ => by kernel_rfl)) rfl rfl rfl <| MX.force (i := 5) rfl <| LX.call (Cmp_c hx hy) Kg.en55 rfl rfl rfl rfl rfl ?_
    intro _
    refine LX.nextM [] (by kernel_rfl) (fun h => absurd rfl h) <| MX.lift0 (i := 6) rfl (Y.eqI rfl rfl) rfl rfl rfl <| MX.lift0 (i := 7) rfl (Y.assign rfl) rfl rfl rfl <| MX.lift0 (i := 8) rfl (Y.assign rfl) rfl rfl rfl <| MX.sub (l' := [(1, _), (2, _), (8, _), (9, _)]) ⟨rfl, rfl, rfl, rfl, trivial⟩ <| MX.done <| PX.thenN <| CX.ret <| PX.blockR <| PX.thenR <| PX.ret2 (by simp) Tryz.results26 rfl rfl ?_
    exact fun w hw => ⟨(none, decide (cmp3 x y = 0), L - 1), rfl, Er.leaf hL1 rfl (by rw [decide_eq_true_eq, cmp3_zero]; exact ⟨fun h => by rw [h], fun h => by injection h⟩), hw.drop (List.sublist_cons_self _ _)⟩
  try simp at hb5
  done
theorem eq_tup {w0 : World} {base : Nat} {aE : Nat → Addr} (hS : EnvS w0 base aE) {kp : Nat} {L : Int} (hL : 0 ≤ L ∧ L ≤ 4096) {dd : Nat} {xs ys : List Tr} {b1 b2 c1 c2 : Nat} {av1 av2 : Option Addr} (hm1 : Lies w0 base ⟨b1, 0, none⟩ [.slice av1 xs.length c1]) (hm2 : Lies w0 base ⟨b2, 0, none⟩ [.slice av2 ys.length c2]) (hal : dd ≤ 60 → ∀ {L : Int} (_hL : 0 ≤ L ∧ L ≤ 4096), FnC Tryz.prog 56 #[.pointer (some ⟨kp, 0, none⟩), .slice av1 xs.length c1, .slice av2 ys.length c2, .int .i64 ((dd : Nat) : Int)] (WA w0 base [blk kp [.int .i64 (L)] 63]) (fun q : Option (TypeId × Value) × Bool × Int => .tuple #[.bool q.2.1, eV q.1]) (fun q w => Ea xs ys dd L q.1 q.2.1 q.2.2 ∧ WA w0 base [blk kp [.int .i64 (q.2.2)] 63] w)) : FnC Tryz.prog 26 #[.pointer (some ⟨kp, 0, none⟩), .iface 115 (.pointer (some ⟨b1, 0, none⟩)), .iface 115 (.pointer (some ⟨b2, 0, none⟩)), .int .i64 ((dd : Nat) : Int)] (WA w0 base [blk kp [.int .i64 (L)] 63]) (fun q : Option (TypeId × Value) × Bool × Int => .tuple #[.bool q.2.1, eV q.1]) (fun q w => Er (.tup xs) (.tup ys) dd L q.1 q.2.1 q.2.2 ∧ WA w0 base [blk kp [.int .i64 (q.2.2)] 63] w) := by
  refine FnC.of_body (fn := Tryz.f26) [(0, _), (1, _), (2, _), (3, _)] Tryz.func26 rfl Tryz.ntmps26 rfl ⟨rfl, rfl, rfl, rfl, trivial⟩ ?_
  refine CX.seq <| CX.region <| LX.pure (Y.assign rfl) rfl rfl rfl <| LX.pure (Y.assign rfl) rfl rfl rfl <| LX.sub (l' := [(0, _), (1, _), (2, _), (3, _), (8, _), (9, _)]) ⟨rfl, rfl, rfl, rfl, rfl, rfl, trivial⟩ <| LX.next <| PX.thenN <| CX.seq <| CX.seq <| CX.region <| LX.pure (Y.move rfl) rfl rfl rfl <| LX.pure (Y.move rfl) rfl rfl rfl <| LX.call (look_c hS hL) Kg.en54 rfl rfl rfl rfl rfl ?_
  rintro q1
  refine LX.have fun ⟨hq1, hq2⟩ => ?_
  try dsimp only at hq1 hq2 ⊢
  refine LX.pure (Y.assign rfl) rfl rfl rfl <| LX.sub (l' := [(0, _), (1, _), (2, _), (3, _), (8, _), (9, _), (10, _)]) ⟨rfl, rfl, rfl, rfl, rfl, rfl, rfl, trivial⟩ <| LX.next <| PX.thenN <| CX.seq <| CX.region <| LX.pure (Y.move rfl) rfl rfl rfl <| LX.pure (Y.neE Kd.un28 rfl) rfl rfl rfl <| LX.sub (l' := [(0, _), (1, _), (2, _), (3, _), (8, _), (9, _), (10, _), (25, _)]) ⟨rfl, rfl, rfl, rfl, rfl, rfl, rfl, rfl, trivial⟩ <| LX.next <| PX.thenN ?_
  refine CX.cond rfl (fun hb1 => ?_) (fun hb1 => ?_)
  · try simp at hb1
    obtain ⟨e1, rfl⟩ := Option.isSome_iff_exists.1 hb1
    refine CX.seq <| CX.region <| LX.pure (Y.move rfl) rfl rfl rfl <| LX.pure (Y.assign rfl) rfl rfl rfl <| LX.pure (Y.assign rfl) rfl rfl rfl <| LX.sub (l' := [(0, _), (1, _), (2, _), (3, _), (8, _), (9, _)]) ⟨rfl, rfl, rfl, rfl, rfl, rfl, trivial⟩ <| LX.next <| PX.thenN <| CX.ret <| PX.thenR <| PX.ret2 (by simp) Tryz.results26 rfl rfl ?_
    exact fun w hw => ⟨(some e1, false, L - 1), rfl, Er.bad (hq2 (by simp)) hL.1, hw⟩
  try simp at hb1
  obtain rfl : q1 = none := by exact hb1
  obtain ⟨hL1, hd60⟩ := hq1 rfl
  refine CX.skip <| PX.thenN <| CX.seq <| CX.seq <| CX.region <| LX.pure (Y.move rfl) rfl rfl rfl <| LX.invC (kindU) rfl (fun _ => by kernel_rfl) rfl rfl rfl rfl ?_
  intro _
  refine LX.pure (Y.move rfl) rfl rfl rfl <| LX.invC (kindU) rfl (fun _ => by kernel_rfl) rfl rfl rfl rfl ?_
  intro _
  refine LX.pure (Y.neN rfl rfl) rfl rfl rfl <| LX.sub (l' := [(0, _), (1, _), (2, _), (3, _), (8, _), (9, _), (31, _)]) ⟨rfl, rfl, rfl, rfl, rfl, rfl, rfl, trivial⟩ <| LX.next <| PX.thenN ?_
  refine CX.cond rfl (fun hb2 => ?_) (fun hb2 => ?_)
  · try simp at hb2
    done
  try simp at hb2
  refine CX.skip <| PX.thenN <| CX.seq <| CX.seq <| CX.region <| LX.pure (Y.move rfl) rfl rfl rfl <| LX.sub (l' := [(0, _), (1, _), (2, _), (3, _), (8, _), (9, _), (32, _)]) ⟨rfl, rfl, rfl, rfl, rfl, rfl, rfl, trivial⟩ <| LX.next <| PX.thenN <| CX.block <| CX.seq <| CX.region <| LX.pure (Y.assertNo Kc.nif110 rfl (by decide) Kc.zv110) rfl rfl rfl <| LX.pure (Y.extract rfl rfl) rfl rfl rfl <| LX.pure (Y.extract rfl rfl) rfl rfl rfl <| LX.sub (l' := [(0, _), (1, _), (2, _), (3, _), (8, _), (9, _), (32, _), (34, _), (35, _)]) ⟨rfl, rfl, rfl, rfl, rfl, rfl, rfl, rfl, rfl, trivial⟩ <| LX.next <| PX.thenN ?_
  refine CX.cond rfl (fun hb3 => ?_) (fun hb3 => ?_)
  · try simp at hb3
    done
  try simp at hb3
  refine CX.seq <| CX.region <| LX.pure (Y.assertNo Kc.nif111 rfl (by decide) Kc.zv111) rfl rfl rfl <| LX.pure (Y.extract rfl rfl) rfl rfl rfl <| LX.pure (Y.extract rfl rfl) rfl rfl rfl <| LX.sub (l' := [(0, _), (1, _), (2, _), (3, _), (8, _), (9, _), (32, _), (37, _), (38, _)]) ⟨rfl, rfl, rfl, rfl, rfl, rfl, rfl, rfl, rfl, trivial⟩ <| LX.next <| PX.thenN ?_
  refine CX.cond rfl (fun hb4 => ?_) (fun hb4 => ?_)
  · try simp at hb4
    done
  try simp at hb4
  refine CX.seq <| CX.region <| LX.pure (Y.assertNo Kd.nif74 rfl (by decide) Kd.zv74) rfl rfl rfl <| LX.pure (Y.extract rfl rfl) rfl rfl rfl <| LX.pure (Y.extract rfl rfl) rfl rfl rfl <| LX.sub (l' := [(0, _), (1, _), (2, _), (3, _), (8, _), (9, _), (32, _), (44, _), (45, _)]) ⟨rfl, rfl, rfl, rfl, rfl, rfl, rfl, rfl, rfl, trivial⟩ <| LX.next <| PX.thenN ?_
  refine CX.cond rfl (fun hb5 => ?_) (fun hb5 => ?_)
  · try simp at hb5
    done
  try simp at hb5
  refine CX.seq <| CX.region <| LX.pure (Y.assertNo Kd.nif78 rfl (by decide) Kd.zv78) rfl rfl rfl <| LX.pure (Y.extract rfl rfl) rfl rfl rfl <| LX.pure (Y.extract rfl rfl) rfl rfl rfl <| LX.sub (l' := [(0, _), (1, _), (2, _), (3, _), (8, _), (9, _), (32, _), (54, _), (55, _)]) ⟨rfl, rfl, rfl, rfl, rfl, rfl, rfl, rfl, rfl, trivial⟩ <| LX.next <| PX.thenN ?_
  refine CX.cond rfl (fun hb6 => ?_) (fun hb6 => ?_)
  · try simp at hb6
    done
  try simp at hb6
  refine CX.seq <| CX.region <| LX.pure (Y.assertNo Kg.nif104 rfl (by decide) Kg.zv104) rfl rfl rfl <| LX.pure (Y.extract rfl rfl) rfl rfl rfl <| LX.pure (Y.extract rfl rfl) rfl rfl rfl <| LX.sub (l' := [(0, _), (1, _), (2, _), (3, _), (8, _), (9, _), (32, _), (61, _), (62, _)]) ⟨rfl, rfl, rfl, rfl, rfl, rfl, rfl, rfl, rfl, trivial⟩ <| LX.next <| PX.thenN ?_
  refine CX.cond rfl (fun hb7 => ?_) (fun hb7 => ?_)
  · try simp at hb7
    done
  try simp at hb7
  refine CX.seq <| CX.region <| LX.pure (Y.assertYes Kd.nif115 rfl) rfl rfl rfl <| LX.pure (Y.extract rfl rfl) rfl rfl rfl <| LX.pure (Y.extract rfl rfl) rfl rfl rfl <| LX.sub (l' := [(0, _), (1, _), (2, _), (3, _), (8, _), (9, _), (32, _), (78, _), (79, _)]) ⟨rfl, rfl, rfl, rfl, rfl, rfl, rfl, rfl, rfl, trivial⟩ <| LX.next <| PX.thenN ?_
  refine CX.cond rfl (fun hb8 => ?_) (fun hb8 => ?_)
  · try simp at hb8
    refine CX.seq <| CX.region <| LX.pure (Y.assign rfl) rfl rfl rfl <| LX.sub (l' := [(0, _), (1, _), (2, _), (3, _), (8, _), (9, _), (16, _)]) ⟨rfl, rfl, rfl, rfl, rfl, rfl, rfl, trivial⟩ <| LX.next <| PX.thenN <| CX.seq <| CX.regionM [(0, .anywhere), (1, .anywhere), (2, .anywhere), (3, .anywhere), (4, .held), (5, .anywhere), (6, .anywhere), (7, .anywhere), (8, .anywhere), (9, .held), (10, .anywhere), (11, .alone), (12, .anywhere), (13, .anywhere), (14, .anywhere), (15, .anywhere)] rfl (by kernel_rfl) <| MX.lift0 (i := 0) rfl (Y.move rfl) rfl rfl rfl <| MX.lift0 (i := 1) rfl (Y.move rfl) rfl rfl rfl <| MX.lift0 (i := 2) rfl (Y.nilCheck rfl) rfl rfl rfl <| MX.lift0 (i := 3) rfl (Y.fieldAddr0 Kd.fo117_1 rfl) rfl rfl rfl <| MX.lift1 (i := 4) (pend' := []) rfl (fun w hw => by exact hw) (Y.ldB0 Kd.one96 rfl hm1 rfl) rfl rfl rfl (by kernel_rfl) <| MX.lift0 (i := 5) rfl (Y.move rfl) rfl rfl rfl <| MX.lift0 (i := 6) rfl (Y.assert1 Kd.nif115 rfl) rfl rfl rfl <| MX.lift0 (i := 7) rfl (Y.nilCheck rfl) rfl rfl rfl <| MX.lift0 (i := 8) rfl (Y.fieldAddr0 Kd.fo117_1 rfl) rfl rfl rfl <| MX.lift1 (i := 9) (pend' := [4]) rfl (fun w hw => by exact hw) (Y.ldB0 Kd.one96 rfl hm2 rfl) rfl rfl rfl (by kernel_rfl) <| MX.lift0 (i := 10) rfl (Y.move rfl) rfl rfl rfl <| MX.force (i := 11) rfl <| LX.call (hal hd60 (L := L - 1) (by omega)) Kg.en56 rfl rfl rfl rfl rfl ?_
    rintro ⟨q2, is2, L2⟩
    refine LX.have fun hq3 => ?_
    try dsimp only at hq3 ⊢
    refine LX.nextM [] (by kernel_rfl) (fun h => absurd rfl h) <| MX.lift0 (i := 12) rfl (Y.extract rfl rfl) rfl rfl rfl <| MX.lift0 (i := 13) rfl (Y.extract rfl rfl) rfl rfl rfl <| MX.lift0 (i := 14) rfl (Y.assign rfl) rfl rfl rfl <| MX.lift0 (i := 15) rfl (Y.assign rfl) rfl rfl rfl <| MX.sub (l' := [(1, _), (2, _), (8, _), (9, _)]) ⟨rfl, rfl, rfl, rfl, trivial⟩ <| MX.done <| PX.thenN <| CX.ret <| PX.blockR <| PX.thenR <| PX.ret2 (by simp) Tryz.results26 rfl rfl ?_
    exact fun w hw => ⟨(q2, is2, L2), rfl, hq3.up hL1 hd60, hw⟩
  try simp at hb8
  done
theorem eq_list {w0 : World} {base : Nat} {aE : Nat → Addr} (hS : EnvS w0 base aE) {kp : Nat} {L : Int} (hL : 0 ≤ L ∧ L ≤ 4096) {dd : Nat} {xs ys : List Tr} {b1 b2 c1 c2 : Nat} {av1 av2 : Option Addr} {r1 r2 : List Value} (hm1 : Lies w0 base ⟨b1, 0, none⟩ (.slice av1 xs.length c1 :: r1)) (hm2 : Lies w0 base ⟨b2, 0, none⟩ (.slice av2 ys.length c2 :: r2)) (hal : dd ≤ 60 → ∀ {L : Int} (_hL : 0 ≤ L ∧ L ≤ 4096), FnC Tryz.prog 56 #[.pointer (some ⟨kp, 0, none⟩), .slice av1 xs.length c1, .slice av2 ys.length c2, .int .i64 ((dd : Nat) : Int)] (WA w0 base [blk kp [.int .i64 (L)] 63]) (fun q : Option (TypeId × Value) × Bool × Int => .tuple #[.bool q.2.1, eV q.1]) (fun q w => Ea xs ys dd L q.1 q.2.1 q.2.2 ∧ WA w0 base [blk kp [.int .i64 (q.2.2)] 63] w)) : FnC Tryz.prog 26 #[.pointer (some ⟨kp, 0, none⟩), .iface 104 (.pointer (some ⟨b1, 0, none⟩)), .iface 104 (.pointer (some ⟨b2, 0, none⟩)), .int .i64 ((dd : Nat) : Int)] (WA w0 base [blk kp [.int .i64 (L)] 63]) (fun q : Option (TypeId × Value) × Bool × Int => .tuple #[.bool q.2.1, eV q.1]) (fun q w => Er (.list xs) (.list ys) dd L q.1 q.2.1 q.2.2 ∧ WA w0 base [blk kp [.int .i64 (q.2.2)] 63] w) := by
  refine FnC.of_body (fn := Tryz.f26) [(0, _), (1, _), (2, _), (3, _)] Tryz.func26 rfl Tryz.ntmps26 rfl ⟨rfl, rfl, rfl, rfl, trivial⟩ ?_
  refine CX.seq <| CX.region <| LX.pure (Y.assign rfl) rfl rfl rfl <| LX.pure (Y.assign rfl) rfl rfl rfl <| LX.sub (l' := [(0, _), (1, _), (2, _), (3, _), (8, _), (9, _)]) ⟨rfl, rfl, rfl, rfl, rfl, rfl, trivial⟩ <| LX.next <| PX.thenN <| CX.seq <| CX.seq <| CX.region <| LX.pure (Y.move rfl) rfl rfl rfl <| LX.pure (Y.move rfl) rfl rfl rfl <| LX.call (look_c hS hL) Kg.en54 rfl rfl rfl rfl rfl ?_
  rintro q1
  refine LX.have fun ⟨hq1, hq2⟩ => ?_
  try dsimp only at hq1 hq2 ⊢
  refine LX.pure (Y.assign rfl) rfl rfl rfl <| LX.sub (l' := [(0, _), (1, _), (2, _), (3, _), (8, _), (9, _), (10, _)]) ⟨rfl, rfl, rfl, rfl, rfl, rfl, rfl, trivial⟩ <| LX.next <| PX.thenN <| CX.seq <| CX.region <| LX.pure (Y.move rfl) rfl rfl rfl <| LX.pure (Y.neE Kd.un28 rfl) rfl rfl rfl <| LX.sub (l' := [(0, _), (1, _), (2, _), (3, _), (8, _), (9, _), (10, _), (25, _)]) ⟨rfl, rfl, rfl, rfl, rfl, rfl, rfl, rfl, trivial⟩ <| LX.next <| PX.thenN ?_
  refine CX.cond rfl (fun hb1 => ?_) (fun hb1 => ?_)
  · try simp at hb1
    obtain ⟨e1, rfl⟩ := Option.isSome_iff_exists.1 hb1
    refine CX.seq <| CX.region <| LX.pure (Y.move rfl) rfl rfl rfl <| LX.pure (Y.assign rfl) rfl rfl rfl <| LX.pure (Y.assign rfl) rfl rfl rfl <| LX.sub (l' := [(0, _), (1, _), (2, _), (3, _), (8, _), (9, _)]) ⟨rfl, rfl, rfl, rfl, rfl, rfl, trivial⟩ <| LX.next <| PX.thenN <| CX.ret <| PX.thenR <| PX.ret2 (by simp) Tryz.results26 rfl rfl ?_
    exact fun w hw => ⟨(some e1, false, L - 1), rfl, Er.bad (hq2 (by simp)) hL.1, hw⟩
  try simp at hb1
  obtain rfl : q1 = none := by exact hb1
  obtain ⟨hL1, hd60⟩ := hq1 rfl
  refine CX.skip <| PX.thenN <| CX.seq <| CX.seq <| CX.region <| LX.pure (Y.move rfl) rfl rfl rfl <| LX.invC (kindL) rfl (fun _ => by kernel_rfl) rfl rfl rfl rfl ?_
  intro _
  refine LX.pure (Y.move rfl) rfl rfl rfl <| LX.invC (kindL) rfl (fun _ => by kernel_rfl) rfl rfl rfl rfl ?_
  intro _
  refine LX.pure (Y.neN rfl rfl) rfl rfl rfl <| LX.sub (l' := [(0, _), (1, _), (2, _), (3, _), (8, _), (9, _), (31, _)]) ⟨rfl, rfl, rfl, rfl, rfl, rfl, rfl, trivial⟩ <| LX.next <| PX.thenN ?_
  refine CX.cond rfl (fun hb2 => ?_) (fun hb2 => ?_)
  · try simp at hb2
    done
  try simp at hb2
  refine CX.skip <| PX.thenN <| CX.seq <| CX.seq <| CX.region <| LX.pure (Y.move rfl) rfl rfl rfl <| LX.sub (l' := [(0, _), (1, _), (2, _), (3, _), (8, _), (9, _), (32, _)]) ⟨rfl, rfl, rfl, rfl, rfl, rfl, rfl, trivial⟩ <| LX.next <| PX.thenN <| CX.block <| CX.seq <| CX.region <| LX.pure (Y.assertNo Kc.nif110 rfl (by decide) Kc.zv110) rfl rfl rfl <| LX.pure (Y.extract rfl rfl) rfl rfl rfl <| LX.pure (Y.extract rfl rfl) rfl rfl rfl <| LX.sub (l' := [(0, _), (1, _), (2, _), (3, _), (8, _), (9, _), (32, _), (34, _), (35, _)]) ⟨rfl, rfl, rfl, rfl, rfl, rfl, rfl, rfl, rfl, trivial⟩ <| LX.next <| PX.thenN ?_
  refine CX.cond rfl (fun hb3 => ?_) (fun hb3 => ?_)
  · try simp at hb3
    done
  try simp at hb3
  refine CX.seq <| CX.region <| LX.pure (Y.assertNo Kc.nif111 rfl (by decide) Kc.zv111) rfl rfl rfl <| LX.pure (Y.extract rfl rfl) rfl rfl rfl <| LX.pure (Y.extract rfl rfl) rfl rfl rfl <| LX.sub (l' := [(0, _), (1, _), (2, _), (3, _), (8, _), (9, _), (32, _), (37, _), (38, _)]) ⟨rfl, rfl, rfl, rfl, rfl, rfl, rfl, rfl, rfl, trivial⟩ <| LX.next <| PX.thenN ?_
  refine CX.cond rfl (fun hb4 => ?_) (fun hb4 => ?_)
  · try simp at hb4
    done
  try simp at hb4
  refine CX.seq <| CX.region <| LX.pure (Y.assertNo Kd.nif74 rfl (by decide) Kd.zv74) rfl rfl rfl <| LX.pure (Y.extract rfl rfl) rfl rfl rfl <| LX.pure (Y.extract rfl rfl) rfl rfl rfl <| LX.sub (l' := [(0, _), (1, _), (2, _), (3, _), (8, _), (9, _), (32, _), (44, _), (45, _)]) ⟨rfl, rfl, rfl, rfl, rfl, rfl, rfl, rfl, rfl, trivial⟩ <| LX.next <| PX.thenN ?_
  refine CX.cond rfl (fun hb5 => ?_) (fun hb5 => ?_)
  · try simp at hb5
    done
  try simp at hb5
  refine CX.seq <| CX.region <| LX.pure (Y.assertNo Kd.nif78 rfl (by decide) Kd.zv78) rfl rfl rfl <| LX.pure (Y.extract rfl rfl) rfl rfl rfl <| LX.pure (Y.extract rfl rfl) rfl rfl rfl <| LX.sub (l' := [(0, _), (1, _), (2, _), (3, _), (8, _), (9, _), (32, _), (54, _), (55, _)]) ⟨rfl, rfl, rfl, rfl, rfl, rfl, rfl, rfl, rfl, trivial⟩ <| LX.next <| PX.thenN ?_
  refine CX.cond rfl (fun hb6 => ?_) (fun hb6 => ?_)
  · try simp at hb6
    done
  try simp at hb6
  refine CX.seq <| CX.region <| LX.pure (Y.assertYes Kg.nif104 rfl) rfl rfl rfl <| LX.pure (Y.extract rfl rfl) rfl rfl rfl <| LX.pure (Y.extract rfl rfl) rfl rfl rfl <| LX.sub (l' := [(0, _), (1, _), (2, _), (3, _), (8, _), (9, _), (32, _), (61, _), (62, _)]) ⟨rfl, rfl, rfl, rfl, rfl, rfl, rfl, rfl, rfl, trivial⟩ <| LX.next <| PX.thenN ?_
  refine CX.cond rfl (fun hb7 => ?_) (fun hb7 => ?_)
  · try simp at hb7
    refine CX.seq <| CX.region <| LX.pure (Y.assign rfl) rfl rfl rfl <| LX.sub (l' := [(0, _), (1, _), (2, _), (3, _), (8, _), (9, _), (15, _)]) ⟨rfl, rfl, rfl, rfl, rfl, rfl, rfl, trivial⟩ <| LX.next <| PX.thenN <| CX.seq <| CX.regionM [(0, .anywhere), (1, .anywhere), (2, .anywhere), (3, .anywhere), (4, .held), (5, .anywhere), (6, .anywhere), (7, .anywhere), (8, .anywhere), (9, .held), (10, .anywhere), (11, .alone), (12, .anywhere), (13, .anywhere), (14, .anywhere), (15, .anywhere)] rfl (by kernel_rfl) <| MX.lift0 (i := 0) rfl (Y.move rfl) rfl rfl rfl <| MX.lift0 (i := 1) rfl (Y.move rfl) rfl rfl rfl <| MX.lift0 (i := 2) rfl (Y.nilCheck rfl) rfl rfl rfl <| MX.lift0 (i := 3) rfl (Y.fieldAddr0 Kg.fo123_1 rfl) rfl rfl rfl <| MX.lift1 (i := 4) (pend' := []) rfl (fun w hw => by exact hw) (Y.ldB0 Kd.one96 rfl hm1 rfl) rfl rfl rfl (by kernel_rfl) <| MX.lift0 (i := 5) rfl (Y.move rfl) rfl rfl rfl <| MX.lift0 (i := 6) rfl (Y.assert1 Kg.nif104 rfl) rfl rfl rfl <| MX.lift0 (i := 7) rfl (Y.nilCheck rfl) rfl rfl rfl <| MX.lift0 (i := 8) rfl (Y.fieldAddr0 Kg.fo123_1 rfl) rfl rfl rfl <| MX.lift1 (i := 9) (pend' := [4]) rfl (fun w hw => by exact hw) (Y.ldB0 Kd.one96 rfl hm2 rfl) rfl rfl rfl (by kernel_rfl) <| MX.lift0 (i := 10) rfl (Y.move rfl) rfl rfl rfl <| MX.force (i := 11) rfl <| LX.call (hal hd60 (L := L - 1) (by omega)) Kg.en56 rfl rfl rfl rfl rfl ?_
    rintro ⟨q2, is2, L2⟩
    refine LX.have fun hq3 => ?_
    try dsimp only at hq3 ⊢
    refine LX.nextM [] (by kernel_rfl) (fun h => absurd rfl h) <| MX.lift0 (i := 12) rfl (Y.extract rfl rfl) rfl rfl rfl <| MX.lift0 (i := 13) rfl (Y.extract rfl rfl) rfl rfl rfl <| MX.lift0 (i := 14) rfl (Y.assign rfl) rfl rfl rfl <| MX.lift0 (i := 15) rfl (Y.assign rfl) rfl rfl rfl <| MX.sub (l' := [(1, _), (2, _), (8, _), (9, _)]) ⟨rfl, rfl, rfl, rfl, trivial⟩ <| MX.done <| PX.thenN <| CX.ret <| PX.blockR <| PX.thenR <| PX.ret2 (by simp) Tryz.results26 rfl rfl ?_
    exact fun w hw => ⟨(q2, is2, L2), rfl, Er.unh hq3.w rfl hL1, hw⟩
  try simp at hb7
  done
theorem eq_dict {w0 : World} {base : Nat} {aE : Nat → Addr} (hS : EnvS w0 base aE) {kp : Nat} {L : Int} (hL : 0 ≤ L ∧ L ≤ 4096) {dd : Nat} {t u : Tr} (ht : hsh t = false) {b1 b2 : Nat} (hdi : dd ≤ 60 → ∀ {L : Int} (_hL : 0 ≤ L ∧ L ≤ 4096), FnC Tryz.prog 57 #[.pointer (some ⟨kp, 0, none⟩), .pointer (some ⟨b1, 0, none⟩), .pointer (some ⟨b2, 0, none⟩), .int .i64 ((dd : Nat) : Int)] (WA w0 base [blk kp [.int .i64 (L)] 63]) (fun q : Option (TypeId × Value) × Bool × Int => .tuple #[.bool q.2.1, eV q.1]) (fun q w => Ew L q.1 q.2.2 ∧ WA w0 base [blk kp [.int .i64 (q.2.2)] 63] w)) : FnC Tryz.prog 26 #[.pointer (some ⟨kp, 0, none⟩), .iface 124 (.pointer (some ⟨b1, 0, none⟩)), .iface 124 (.pointer (some ⟨b2, 0, none⟩)), .int .i64 ((dd : Nat) : Int)] (WA w0 base [blk kp [.int .i64 (L)] 63]) (fun q : Option (TypeId × Value) × Bool × Int => .tuple #[.bool q.2.1, eV q.1]) (fun q w => Er t u dd L q.1 q.2.1 q.2.2 ∧ WA w0 base [blk kp [.int .i64 (q.2.2)] 63] w) := by
  refine FnC.of_body (fn := Tryz.f26) [(0, _), (1, _), (2, _), (3, _)] Tryz.func26 rfl Tryz.ntmps26 rfl ⟨rfl, rfl, rfl, rfl, trivial⟩ ?_
  refine CX.seq <| CX.region <| LX.pure (Y.assign rfl) rfl rfl rfl <| LX.pure (Y.assign rfl) rfl rfl rfl <| LX.sub (l' := [(0, _), (1, _), (2, _), (3, _), (8, _), (9, _)]) ⟨rfl, rfl, rfl, rfl, rfl, rfl, trivial⟩ <| LX.next <| PX.thenN <| CX.seq <| CX.seq <| CX.region <| LX.pure (Y.move rfl) rfl rfl rfl <| LX.pure (Y.move rfl) rfl rfl rfl <| LX.call (look_c hS hL) Kg.en54 rfl rfl rfl rfl rfl ?_
  rintro q1
  refine LX.have fun ⟨hq1, hq2⟩ => ?_
  try dsimp only at hq1 hq2 ⊢
  refine LX.pure (Y.assign rfl) rfl rfl rfl <| LX.sub (l' := [(0, _), (1, _), (2, _), (3, _), (8, _), (9, _), (10, _)]) ⟨rfl, rfl, rfl, rfl, rfl, rfl, rfl, trivial⟩ <| LX.next <| PX.thenN <| CX.seq <| CX.region <| LX.pure (Y.move rfl) rfl rfl rfl <| LX.pure (Y.neE Kd.un28 rfl) rfl rfl rfl <| LX.sub (l' := [(0, _), (1, _), (2, _), (3, _), (8, _), (9, _), (10, _), (25, _)]) ⟨rfl, rfl, rfl, rfl, rfl, rfl, rfl, rfl, trivial⟩ <| LX.next <| PX.thenN ?_
  refine CX.cond rfl (fun hb1 => ?_) (fun hb1 => ?_)
  · try simp at hb1
    obtain ⟨e1, rfl⟩ := Option.isSome_iff_exists.1 hb1
    refine CX.seq <| CX.region <| LX.pure (Y.move rfl) rfl rfl rfl <| LX.pure (Y.assign rfl) rfl rfl rfl <| LX.pure (Y.assign rfl) rfl rfl rfl <| LX.sub (l' := [(0, _), (1, _), (2, _), (3, _), (8, _), (9, _)]) ⟨rfl, rfl, rfl, rfl, rfl, rfl, trivial⟩ <| LX.next <| PX.thenN <| CX.ret <| PX.thenR <| PX.ret2 (by simp) Tryz.results26 rfl rfl ?_
    exact fun w hw => ⟨(some e1, false, L - 1), rfl, Er.bad (hq2 (by simp)) hL.1, hw⟩
  try simp at hb1
  obtain rfl : q1 = none := by exact hb1
  obtain ⟨hL1, hd60⟩ := hq1 rfl
  refine CX.skip <| PX.thenN <| CX.seq <| CX.seq <| CX.region <| LX.pure (Y.move rfl) rfl rfl rfl <| LX.invC (kindD) rfl (fun _ => by kernel_rfl) rfl rfl rfl rfl ?_
  intro _
  refine LX.pure (Y.move rfl) rfl rfl rfl <| LX.invC (kindD) rfl (fun _ => by kernel_rfl) rfl rfl rfl rfl ?_
  intro _
  refine LX.pure (Y.neN rfl rfl) rfl rfl rfl <| LX.sub (l' := [(0, _), (1, _), (2, _), (3, _), (8, _), (9, _), (31, _)]) ⟨rfl, rfl, rfl, rfl, rfl, rfl, rfl, trivial⟩ <| LX.next <| PX.thenN ?_
  refine CX.cond rfl (fun hb2 => ?_) (fun hb2 => ?_)
  · try simp at hb2
    done
  try simp at hb2
  refine CX.skip <| PX.thenN <| CX.seq <| CX.seq <| CX.region <| LX.pure (Y.move rfl) rfl rfl rfl <| LX.sub (l' := [(0, _), (1, _), (2, _), (3, _), (8, _), (9, _), (32, _)]) ⟨rfl, rfl, rfl, rfl, rfl, rfl, rfl, trivial⟩ <| LX.next <| PX.thenN <| CX.block <| CX.seq <| CX.region <| LX.pure (Y.assertNo Kc.nif110 rfl (by decide) Kc.zv110) rfl rfl rfl <| LX.pure (Y.extract rfl rfl) rfl rfl rfl <| LX.pure (Y.extract rfl rfl) rfl rfl rfl <| LX.sub (l' := [(0, _), (1, _), (2, _), (3, _), (8, _), (9, _), (32, _), (34, _), (35, _)]) ⟨rfl, rfl, rfl, rfl, rfl, rfl, rfl, rfl, rfl, trivial⟩ <| LX.next <| PX.thenN ?_
  refine CX.cond rfl (fun hb3 => ?_) (fun hb3 => ?_)
  · try simp at hb3
    done
  try simp at hb3
  refine CX.seq <| CX.region <| LX.pure (Y.assertNo Kc.nif111 rfl (by decide) Kc.zv111) rfl rfl rfl <| LX.pure (Y.extract rfl rfl) rfl rfl rfl <| LX.pure (Y.extract rfl rfl) rfl rfl rfl <| LX.sub (l' := [(0, _), (1, _), (2, _), (3, _), (8, _), (9, _), (32, _), (37, _), (38, _)]) ⟨rfl, rfl, rfl, rfl, rfl, rfl, rfl, rfl, rfl, trivial⟩ <| LX.next <| PX.thenN ?_
  refine CX.cond rfl (fun hb4 => ?_) (fun hb4 => ?_)
  · try simp at hb4
    done
  try simp at hb4
  refine CX.seq <| CX.region <| LX.pure (Y.assertNo Kd.nif74 rfl (by decide) Kd.zv74) rfl rfl rfl <| LX.pure (Y.extract rfl rfl) rfl rfl rfl <| LX.pure (Y.extract rfl rfl) rfl rfl rfl <| LX.sub (l' := [(0, _), (1, _), (2, _), (3, _), (8, _), (9, _), (32, _), (44, _), (45, _)]) ⟨rfl, rfl, rfl, rfl, rfl, rfl, rfl, rfl, rfl, trivial⟩ <| LX.next <| PX.thenN ?_
  refine CX.cond rfl (fun hb5 => ?_) (fun hb5 => ?_)
  · try simp at hb5
    done
  try simp at hb5
  refine CX.seq <| CX.region <| LX.pure (Y.assertNo Kd.nif78 rfl (by decide) Kd.zv78) rfl rfl rfl <| LX.pure (Y.extract rfl rfl) rfl rfl rfl <| LX.pure (Y.extract rfl rfl) rfl rfl rfl <| LX.sub (l' := [(0, _), (1, _), (2, _), (3, _), (8, _), (9, _), (32, _), (54, _), (55, _)]) ⟨rfl, rfl, rfl, rfl, rfl, rfl, rfl, rfl, rfl, trivial⟩ <| LX.next <| PX.thenN ?_
  refine CX.cond rfl (fun hb6 => ?_) (fun hb6 => ?_)
  · try simp at hb6
    done
  try simp at hb6
  refine CX.seq <| CX.region <| LX.pure (Y.assertNo Kg.nif104 rfl (by decide) Kg.zv104) rfl rfl rfl <| LX.pure (Y.extract rfl rfl) rfl rfl rfl <| LX.pure (Y.extract rfl rfl) rfl rfl rfl <| LX.sub (l' := [(0, _), (1, _), (2, _), (3, _), (8, _), (9, _), (32, _), (61, _), (62, _)]) ⟨rfl, rfl, rfl, rfl, rfl, rfl, rfl, rfl, rfl, trivial⟩ <| LX.next <| PX.thenN ?_
  refine CX.cond rfl (fun hb7 => ?_) (fun hb7 => ?_)
  · try simp at hb7
    done
  try simp at hb7
  refine CX.seq <| CX.region <| LX.pure (Y.assertNo Kd.nif115 rfl (by decide) Kd.zv115) rfl rfl rfl <| LX.pure (Y.extract rfl rfl) rfl rfl rfl <| LX.pure (Y.extract rfl rfl) rfl rfl rfl <| LX.sub (l' := [(0, _), (1, _), (2, _), (3, _), (8, _), (9, _), (32, _), (78, _), (79, _)]) ⟨rfl, rfl, rfl, rfl, rfl, rfl, rfl, rfl, rfl, trivial⟩ <| LX.next <| PX.thenN ?_
  refine CX.cond rfl (fun hb8 => ?_) (fun hb8 => ?_)
  · try simp at hb8
    done
  try simp at hb8
  refine CX.seq <| CX.region <| LX.pure (Y.assertYes Kg.nif124 rfl) rfl rfl rfl <| LX.pure (Y.extract rfl rfl) rfl rfl rfl <| LX.pure (Y.extract rfl rfl) rfl rfl rfl <| LX.sub (l' := [(0, _), (1, _), (2, _), (3, _), (8, _), (9, _), (32, _), (95, _), (96, _)]) ⟨rfl, rfl, rfl, rfl, rfl, rfl, rfl, rfl, rfl, trivial⟩ <| LX.next <| PX.thenN ?_
  refine CX.cond rfl (fun hb9 => ?_) (fun hb9 => ?_)
  · try simp at hb9
    refine CX.seq <| CX.region <| LX.pure (Y.assign rfl) rfl rfl rfl <| LX.sub (l' := [(0, _), (1, _), (2, _), (3, _), (8, _), (9, _), (17, _)]) ⟨rfl, rfl, rfl, rfl, rfl, rfl, rfl, trivial⟩ <| LX.next <| PX.thenN <| CX.seq <| CX.region <| LX.pure (Y.move rfl) rfl rfl rfl <| LX.pure (Y.move rfl) rfl rfl rfl <| LX.pure (Y.move rfl) rfl rfl rfl <| LX.pure (Y.assert1 Kg.nif124 rfl) rfl rfl rfl <| LX.pure (Y.move rfl) rfl rfl rfl <| LX.call (hdi hd60 (L := L - 1) (by omega)) Kg.en57 rfl rfl rfl rfl rfl ?_
    rintro ⟨q2, is2, L2⟩
    refine LX.have fun hq3 => ?_
    try dsimp only at hq3 ⊢
    refine LX.pure (Y.extract rfl rfl) rfl rfl rfl <| LX.pure (Y.extract rfl rfl) rfl rfl rfl <| LX.pure (Y.assign rfl) rfl rfl rfl <| LX.pure (Y.assign rfl) rfl rfl rfl <| LX.sub (l' := [(1, _), (2, _), (8, _), (9, _)]) ⟨rfl, rfl, rfl, rfl, trivial⟩ <| LX.next <| PX.thenN <| CX.ret <| PX.blockR <| PX.thenR <| PX.ret2 (by simp) Tryz.results26 rfl rfl ?_
    exact fun w hw => ⟨(q2, is2, L2), rfl, Er.unh hq3 ht hL1, hw⟩
  try simp at hb9
  done
end Go.Proofs.YtickdimknfeddaaGreatDoor

namespace Go.Proofs.YtickdimknfeddaaGreatDoor
open Go.SX Go.RowKit Go.Vo Go.Ky Go.Proofs.YtickdimknfeddaaGreatDoor.Env
namespace Kh
theorem en26 : Enters Tryz.prog 26 := Enters.of Tryz.func26 (by kernel_rfl) (by kernel_rfl)
theorem en98 : Enters Tryz.prog 98 := Enters.of Tryz.func98 (by kernel_rfl) (by kernel_rfl)
theorem fo174_1 : FieldOff Tryz.prog 174 1 0 := fun b o w => by kernel_rfl
theorem fo174_2 : FieldOff Tryz.prog 174 2 1 := fun b o w => by kernel_rfl
theorem fo177_0 : FieldOff Tryz.prog 177 0 0 := fun b o w => by kernel_rfl
theorem fo177_2 : FieldOff Tryz.prog 177 2 2 := fun b o w => by kernel_rfl
theorem one171 : One Tryz.prog 171 := fun w => by kernel_rfl
theorem one172 : One Tryz.prog 172 := fun w => by kernel_rfl
theorem one175 : One Tryz.prog 175 := fun w => by kernel_rfl
theorem one9 : One Tryz.prog 9 := fun w => by kernel_rfl
theorem sz175 : SizeIs Tryz.prog 175 1 := fun w => by kernel_rfl
theorem un171 : Tryz.prog.underlying 171 = some (.slice 175) := by kernel_rfl
theorem un172 : Tryz.prog.underlying 172 = some (.map 9 175) := by kernel_rfl
theorem un175 : Tryz.prog.underlying 175 = some (.pointer 177) := by kernel_rfl
end Kh
theorem every_c {w0 : World} {base : Nat} {aE : Nat → Addr} (hS : EnvS w0 base aE) {kp : Nat} {L : Int} (hL : 0 ≤ L ∧ L ≤ 4096) {dd : Nat} (hd : dd ≤ 60) {xs ys : List Tr} {vs1 vs2 : List Value} {av1 av2 : Option Addr} (c1 c2 : Nat) (hs1 : SlAt 1 valA (Lies w0 base) av1 vs1) (hl1 : vs1.length = xs.length) (hv1_ : ∀ (i : Nat) x v, xs[i]? = some x → vs1[i]? = some v → VL w0 base x v) (hs2 : SlAt 1 valA (Lies w0 base) av2 vs2) (hl2 : vs2.length = ys.length) (hv2_ : ∀ (i : Nat) x v, ys[i]? = some x → vs2[i]? = some v → VL w0 base x v) (h300 : xs.length ≤ 300) (ih : ∀ {L : Int} (_hL : 0 ≤ L ∧ L ≤ 4096) {t u : Tr} {v1 v2 : Value} (_h1 : VL w0 base t v1) (_h2 : VL w0 base u v2), FnC Tryz.prog 26 #[.pointer (some ⟨kp, 0, none⟩), v1, v2, .int .i64 ((dd + 1 : Nat) : Int)] (WA w0 base [blk kp [.int .i64 (L)] 63]) (fun q : Option (TypeId × Value) × Bool × Int => .tuple #[.bool q.2.1, eV q.1]) (fun q w => Er t u (dd + 1) L q.1 q.2.1 q.2.2 ∧ WA w0 base [blk kp [.int .i64 (q.2.2)] 63] w)) : FnC Tryz.prog 56 #[.pointer (some ⟨kp, 0, none⟩), .slice av1 xs.length c1, .slice av2 ys.length c2, .int .i64 ((dd : Nat) : Int)] (WA w0 base [blk kp [.int .i64 (L)] 63]) (fun q : Option (TypeId × Value) × Bool × Int => .tuple #[.bool q.2.1, eV q.1]) (fun q w => Ea xs ys dd L q.1 q.2.1 q.2.2 ∧ WA w0 base [blk kp [.int .i64 (q.2.2)] 63] w) := by
  refine FnC.of_body (fn := Tryz.f56) [(0, _), (1, _), (2, _), (3, _)] Tryz.func56 rfl Tryz.ntmps56 rfl ⟨rfl, rfl, rfl, rfl, trivial⟩ ?_
  refine CX.seq <| CX.region <| LX.pure (Y.assign rfl) rfl rfl rfl <| LX.pure (Y.assign rfl) rfl rfl rfl <| LX.sub (l' := [(0, _), (1, _), (2, _), (3, _), (8, _), (9, _)]) ⟨rfl, rfl, rfl, rfl, rfl, rfl, trivial⟩ <| LX.next <| PX.thenN <| CX.seq <| CX.seq <| CX.region <| LX.pure (Y.move rfl) rfl rfl rfl <| LX.pure (Y.lenSl rfl Kd.un96 rfl) rfl rfl rfl <| LX.pure (Y.move rfl) rfl rfl rfl <| LX.pure (Y.lenSl rfl Kd.un96 rfl) rfl rfl rfl <| LX.pure (Y.neN rfl rfl) rfl rfl rfl <| LX.sub (l' := [(0, _), (1, _), (2, _), (3, _), (8, _), (9, _), (18, _)]) ⟨rfl, rfl, rfl, rfl, rfl, rfl, rfl, trivial⟩ <| LX.next <| PX.thenN ?_
  refine CX.cond rfl (fun hb1 => ?_) (fun hb1 => ?_)
  · try simp at hb1
    refine CX.seq <| CX.region <| LX.pure (Y.assign rfl) rfl rfl rfl <| LX.pure (Y.assign rfl) rfl rfl rfl <| LX.sub (l' := [(0, _), (1, _), (2, _), (3, _), (8, _), (9, _)]) ⟨rfl, rfl, rfl, rfl, rfl, rfl, trivial⟩ <| LX.next <| PX.thenN <| CX.ret <| PX.thenR <| PX.ret2 (by simp) Tryz.results56 rfl rfl ?_
    exact fun w hw => ⟨(none, false, L), rfl, Ea.len (by omega) hL.1, hw⟩
  try simp at hb1
  have hll : xs.length = ys.length := by omega
  refine CX.skip <| PX.thenN <| CX.seq <| CX.seq <| CX.region <| LX.pure (Y.move rfl) rfl rfl rfl <| LX.pure (Y.lenSl rfl Kd.un96 rfl) rfl rfl rfl <| LX.pure (Y.move rfl) rfl rfl rfl <| LX.sub (l' := [(0, _), (1, _), (2, _), (3, _), (8, _), (9, _), (20, _), (21, _)]) ⟨rfl, rfl, rfl, rfl, rfl, rfl, rfl, rfl, trivial⟩ <| LX.next <| PX.thenN <| CX.block <| CX.loop (fun s : Nat × Int => [(0, .pointer (some ⟨kp, 0, none⟩)), (1, .slice av1 xs.length c1), (2, .slice av2 ys.length c2), (3, .int .i64 ((dd : Nat) : Int)), (20, .int .i64 (xs.length : Int)), (21, .int .i64 (s.1 : Int))]) (fun (s : Nat × Int) w => Ei xs ys dd L s.1 s.2 ∧ WA w0 base [blk kp [.int .i64 (s.2)] 63] w) (fun s => xs.length - s.1) (0, L) ⟨rfl, rfl, rfl, rfl, rfl, rfl, trivial⟩ (fun w hw => ⟨Ei.start hL.1, hw⟩) ?_
  rintro ⟨i, L2⟩
  refine CX.have fun hk0 => ?_
  try dsimp only at hk0 ⊢
  have hi0 := hk0.le
  refine CX.seq <| CX.region <| LX.pure (Y.ltN rfl rfl) rfl rfl rfl <| LX.sub (l' := [(0, _), (1, _), (2, _), (3, _), (20, _), (21, _), (22, _)]) ⟨rfl, rfl, rfl, rfl, rfl, rfl, rfl, trivial⟩ <| LX.next <| PX.thenN <| CX.seq ?_
  refine CX.cond rfl (fun hb2 => ?_) (fun hb2 => ?_)
  · try simp at hb2
    have hi1 : i < xs.length := by omega
    obtain ⟨x, hx⟩ : ∃ x, xs[i]? = some x := ⟨_, List.getElem?_eq_getElem hi1⟩
    obtain ⟨y, hy⟩ : ∃ y, ys[i]? = some y := ⟨_, List.getElem?_eq_getElem (by omega)⟩
    obtain ⟨v1, hv1⟩ : ∃ y, vs1[i]? = some y := ⟨_, List.getElem?_eq_getElem (by omega)⟩
    obtain ⟨v2, hv2⟩ : ∃ y, vs2[i]? = some y := ⟨_, List.getElem?_eq_getElem (by omega)⟩
    obtain ⟨a1, ha1, hL1⟩ := val_at hs1 hv1
    obtain ⟨a2, ha2, hL2⟩ := val_at hs2 hv2
    refine CX.skip <| PX.thenN <| CX.seq <| CX.block <| CX.seq <| CX.region <| LX.pure (Y.move rfl) rfl rfl rfl <| LX.pure (Y.assign rfl) rfl rfl rfl <| LX.sub (l' := [(0, _), (1, _), (2, _), (3, _), (10, _), (20, _), (21, _)]) ⟨rfl, rfl, rfl, rfl, rfl, rfl, rfl, trivial⟩ <| LX.next <| PX.thenN <| CX.seq <| CX.regionM [(0, .anywhere), (1, .anywhere), (2, .anywhere), (3, .held), (4, .held), (5, .anywhere), (6, .anywhere), (7, .held), (8, .held), (9, .anywhere), (10, .anywhere), (11, .alone), (12, .anywhere), (13, .anywhere), (15, .anywhere), (14, .anywhere), (16, .anywhere)] rfl (by kernel_rfl) <| MX.lift0 (i := 0) rfl (Y.move rfl) rfl rfl rfl <| MX.lift0 (i := 1) rfl (Y.move rfl) rfl rfl rfl <| MX.lift0 (i := 2) rfl (Y.move rfl) rfl rfl rfl <| MX.lift1 (i := 3) (pend' := []) rfl (fun w hw => by exact hw) (Y.idxZ Kd.un96 Kd.sz26 rfl rfl ha1 (j := i) rfl (by omega)) rfl rfl rfl (by kernel_rfl) <| MX.lift1 (i := 4) (pend' := []) rfl (fun w hw => by exact hw) (Y.ldO1 Kd.one26 rfl hL1) rfl rfl rfl (by kernel_rfl) <| MX.lift0 (i := 5) rfl (Y.move rfl) rfl rfl rfl <| MX.lift0 (i := 6) rfl (Y.move rfl) rfl rfl rfl <| MX.lift1 (i := 7) (pend' := [4]) rfl (fun w hw => by exact hw) (Y.idxZ Kd.un96 Kd.sz26 rfl rfl ha2 (j := i) rfl (by omega)) rfl rfl rfl (by kernel_rfl) <| MX.lift1 (i := 8) (pend' := [4]) rfl (fun w hw => by exact hw) (Y.ldO1 Kd.one26 rfl hL2) rfl rfl rfl (by kernel_rfl) <| MX.lift0 (i := 9) rfl (Y.move rfl) rfl rfl rfl <| MX.lift0 (i := 10) rfl (Y.addN rfl rfl (by (simp only []; omega))) rfl rfl rfl <| MX.force (i := 11) rfl <| LX.call (ih (L := L2) ⟨hk0.l0, by have := hk0.l; omega⟩ (hv1_ i x v1 hx hv1) (hv2_ i y v2 hy hv2)) Kh.en26 rfl rfl rfl rfl rfl ?_
    rintro ⟨q4, is4, L4⟩
    refine LX.have fun hk4 => ?_
    try dsimp only at hk4 ⊢
    refine LX.nextM [] (by kernel_rfl) (fun h => absurd rfl h) <| MX.lift0 (i := 12) rfl (Y.move rfl) rfl rfl rfl <| MX.lift0 (i := 13) rfl (Y.extract rfl rfl) rfl rfl rfl <| MX.lift0 (i := 15) rfl (Y.assign rfl) rfl rfl rfl <| MX.lift0 (i := 14) rfl (Y.extract rfl rfl) rfl rfl rfl <| MX.lift0 (i := 16) rfl (Y.assign rfl) rfl rfl rfl <| MX.sub (l' := [(0, _), (1, _), (2, _), (3, _), (11, _), (12, _), (20, _), (21, _)]) ⟨rfl, rfl, rfl, rfl, rfl, rfl, rfl, rfl, trivial⟩ <| MX.done <| PX.thenN <| CX.seq <| CX.region <| LX.pure (Y.move rfl) rfl rfl rfl <| LX.pure (Y.not rfl) rfl rfl rfl <| LX.pure (Y.move rfl) rfl rfl rfl <| LX.sub (l' := [(0, _), (1, _), (2, _), (3, _), (12, _), (20, _), (21, _), (41, _)]) ⟨rfl, rfl, rfl, rfl, rfl, rfl, rfl, rfl, trivial⟩ ?_
    apply LX.joinOr 3 44 41 rfl
    · intro hb3
      refine LX.gF rfl rfl rfl hb3 rfl rfl <| LX.gF rfl rfl rfl hb3 rfl rfl <| LX.pure (Y.pickT rfl hb3 rfl) rfl rfl rfl ?_
      exact LX.left ⟨rfl, rfl, rfl, rfl, rfl, rfl, rfl, rfl, rfl, trivial⟩
    · intro hb3
      refine LX.gT rfl rfl rfl hb3 (Y.move rfl) rfl rfl <| LX.gT rfl rfl rfl hb3 (Y.neE Kd.un28 rfl) rfl rfl <| LX.pure (Y.pickF rfl hb3 rfl) rfl rfl rfl ?_
      exact LX.left ⟨rfl, rfl, rfl, rfl, rfl, rfl, rfl, rfl, rfl, trivial⟩
    refine LX.sub (l' := [(0, _), (1, _), (2, _), (3, _), (12, _), (20, _), (21, _), (44, _)]) ⟨rfl, rfl, rfl, rfl, rfl, rfl, rfl, rfl, trivial⟩ <| LX.next <| PX.thenN ?_
    refine CX.cond rfl (fun hb4 => ?_) (fun hb4 => ?_)
    · try simp at hb4
      refine CX.seq <| CX.region <| LX.pure (Y.move rfl) rfl rfl rfl <| LX.pure (Y.assign rfl) rfl rfl rfl <| LX.pure (Y.assign rfl) rfl rfl rfl <| LX.sub (l' := [(0, _), (1, _), (2, _), (3, _), (8, _), (9, _), (20, _), (21, _)]) ⟨rfl, rfl, rfl, rfl, rfl, rfl, rfl, rfl, trivial⟩ <| LX.next <| PX.thenN <| CX.ret <| PX.blockR <| PX.thenR <| PX.thenR <| PX.blockR <| PX.thenR <| PX.ret2 (by simp) Tryz.results56 rfl rfl ?_
      exact fun w hw => ⟨(q4, false, L4), rfl, hk0.stop hx hy hk4 (fun h1 h2 => by dsimp only at h2; subst h1; subst h2; simp at hb4), hw⟩
    try simp at hb4
    obtain ⟨rfl, rfl⟩ : is4 = true ∧ q4 = none := by cases is4 <;> cases q4 <;> simp_all
    refine CX.skip <| PX.blockN <| PX.thenN <| CX.region <| LX.pure (Y.addN rfl rfl (by (simp only []; omega))) rfl rfl rfl <| LX.pure (Y.move rfl) rfl rfl rfl <| LX.sub (l' := [(0, _), (1, _), (2, _), (3, _), (20, _), (21, _)]) ⟨rfl, rfl, rfl, rfl, rfl, rfl, trivial⟩ <| LX.next ?_
    exact PX.again (μ := fun s => xs.length - s.1) (i := (i, L2)) (i + 1, L4) (by show xs.length - (i + 1) < xs.length - i; omega) ⟨rfl, rfl, rfl, rfl, rfl, rfl, trivial⟩ (fun w hw => ⟨hk0.next hx hy hk4, hw⟩)
  try simp at hb2
  obtain rfl : i = xs.length := by omega
  refine CX.exit <| PX.thenE <| PX.thenE <| PX.blockE <| PX.thenN <| CX.seq <| CX.seq <| CX.region <| LX.pure (Y.move rfl) rfl rfl rfl <| LX.pure (Y.lenSl rfl Kd.un96 rfl) rfl rfl rfl <| LX.pure (Y.move rfl) rfl rfl rfl <| LX.call (shal_c hS xs.length dd) Kh.en98 rfl rfl rfl rfl rfl ?_
  rintro q5
  refine LX.have fun ⟨hq5, hq6⟩ => ?_
  try dsimp only at hq5 hq6 ⊢
  refine LX.pure (Y.assign rfl) rfl rfl rfl <| LX.sub (l' := [(13, _)]) ⟨rfl, trivial⟩ <| LX.next <| PX.thenN <| CX.seq <| CX.region <| LX.pure (Y.move rfl) rfl rfl rfl <| LX.pure (Y.neE Kd.un28 rfl) rfl rfl rfl <| LX.sub (l' := [(13, _), (52, _)]) ⟨rfl, rfl, trivial⟩ <| LX.next <| PX.thenN ?_
  refine CX.cond rfl (fun hb5 => ?_) (fun hb5 => ?_)
  · try simp at hb5
    obtain ⟨e5, rfl⟩ := Option.isSome_iff_exists.1 hb5
    refine CX.seq <| CX.region <| LX.pure (Y.move rfl) rfl rfl rfl <| LX.pure (Y.assign rfl) rfl rfl rfl <| LX.pure (Y.assign rfl) rfl rfl rfl <| LX.sub (l' := [(8, _), (9, _)]) ⟨rfl, rfl, trivial⟩ <| LX.next <| PX.thenN <| CX.ret <| PX.thenR <| PX.ret2 (by simp) Tryz.results56 rfl rfl ?_
    exact fun w hw => ⟨(some e5, false, L2), rfl, hk0.low (hq6 (by simp)), hw⟩
  try simp at hb5
  obtain rfl : q5 = none := by exact hb5
  refine CX.skip <| PX.thenN <| CX.seq <| CX.region <| LX.pure (Y.assign rfl) rfl rfl rfl <| LX.pure (Y.assign rfl) rfl rfl rfl <| LX.sub (l' := [(8, _), (9, _)]) ⟨rfl, rfl, trivial⟩ <| LX.next <| PX.thenN <| CX.ret <| PX.ret2 (by simp) Tryz.results56 rfl rfl ?_
  exact fun w hw => ⟨(none, true, L2), rfl, hk0.fin hll, hw⟩
theorem dicts_c {w0 : World} {base : Nat} {aE : Nat → Addr} (hS : EnvS w0 base aE) {kp : Nat} {L : Int} (hL : 0 ≤ L ∧ L ≤ 4096) {dd : Nat} (hd : dd ≤ 60) {ks1 : List T} {xs1 : List Tr} {es1 : List (Nat × Value × Value)} {b1 c1 m1 ck1 : Nat} {bs1 : List Nat} {av1 : Option Addr} {r1 : List Value} (hm1 : Lies w0 base ⟨b1, 0, none⟩ (.slice av1 xs1.length c1 :: .map (some m1) :: r1)) (ho1 : LiesO w0 base m1 (.map (Go.EX.mkEs (ks1.map str) (es1.map ptrV) bs1).toArray ck1)) (hs1 : SlAt 1 valA (Lies w0 base) av1 (es1.map ptrV)) (hl1 : es1.length = xs1.length) (hkl1 : ks1.length = xs1.length) (hbl1 : bs1.length = xs1.length) (hn1 : ks1.Nodup) (h31 : xs1.length ≤ 300) (he1 : ∀ (i : Nat) k e, ks1[i]? = some k → es1[i]? = some e → Lies w0 base ⟨e.1, 0, none⟩ [str k, e.2.1, e.2.2]) (hv1 : ∀ (i : Nat) x e, xs1[i]? = some x → es1[i]? = some e → VL w0 base x e.2.2) {ks2 : List T} {xs2 : List Tr} {es2 : List (Nat × Value × Value)} {b2 c2 m2 ck2 : Nat} {bs2 : List Nat} {av2 : Option Addr} {r2 : List Value} (hm2 : Lies w0 base ⟨b2, 0, none⟩ (.slice av2 xs2.length c2 :: .map (some m2) :: r2)) (ho2 : LiesO w0 base m2 (.map (Go.EX.mkEs (ks2.map str) (es2.map ptrV) bs2).toArray ck2)) (hs2 : SlAt 1 valA (Lies w0 base) av2 (es2.map ptrV)) (hl2 : es2.length = xs2.length) (hkl2 : ks2.length = xs2.length) (hbl2 : bs2.length = xs2.length) (hn2 : ks2.Nodup) (h32 : xs2.length ≤ 300) (he2 : ∀ (i : Nat) k e, ks2[i]? = some k → es2[i]? = some e → Lies w0 base ⟨e.1, 0, none⟩ [str k, e.2.1, e.2.2]) (hv2 : ∀ (i : Nat) x e, xs2[i]? = some x → es2[i]? = some e → VL w0 base x e.2.2) (ih : ∀ {L : Int} (_hL : 0 ≤ L ∧ L ≤ 4096) {t u : Tr} {v1 v2 : Value} (_h1 : VL w0 base t v1) (_h2 : VL w0 base u v2), FnC Tryz.prog 26 #[.pointer (some ⟨kp, 0, none⟩), v1, v2, .int .i64 ((dd + 1 : Nat) : Int)] (WA w0 base [blk kp [.int .i64 (L)] 63]) (fun q : Option (TypeId × Value) × Bool × Int => .tuple #[.bool q.2.1, eV q.1]) (fun q w => Er t u (dd + 1) L q.1 q.2.1 q.2.2 ∧ WA w0 base [blk kp [.int .i64 (q.2.2)] 63] w)) : FnC Tryz.prog 57 #[.pointer (some ⟨kp, 0, none⟩), .pointer (some ⟨b1, 0, none⟩), .pointer (some ⟨b2, 0, none⟩), .int .i64 ((dd : Nat) : Int)] (WA w0 base [blk kp [.int .i64 (L)] 63]) (fun q : Option (TypeId × Value) × Bool × Int => .tuple #[.bool q.2.1, eV q.1]) (fun q w => Ew L q.1 q.2.2 ∧ WA w0 base [blk kp [.int .i64 (q.2.2)] 63] w) := by
  refine FnC.of_body (fn := Tryz.f57) [(0, _), (1, _), (2, _), (3, _)] Tryz.func57 rfl Tryz.ntmps57 rfl ⟨rfl, rfl, rfl, rfl, trivial⟩ ?_
  refine CX.seq <| CX.region <| LX.pure (Y.assign rfl) rfl rfl rfl <| LX.pure (Y.assign rfl) rfl rfl rfl <| LX.sub (l' := [(0, _), (1, _), (2, _), (3, _), (8, _), (9, _)]) ⟨rfl, rfl, rfl, rfl, rfl, rfl, trivial⟩ <| LX.next <| PX.thenN <| CX.seq <| CX.seq <| CX.regionQ rfl (by kernel_rfl) <| LX.pure (Y.move rfl) rfl rfl rfl <| LX.pure (Y.nilCheck rfl) rfl rfl rfl <| LX.pure (Y.fieldAddr0 Kh.fo174_1 rfl) rfl rfl rfl <| LX.pure (Y.ldB0 Kh.one171 rfl hm1 rfl) rfl rfl rfl <| LX.pure (Y.lenSl rfl Kh.un171 rfl) rfl rfl rfl <| LX.pure (Y.move rfl) rfl rfl rfl <| LX.pure (Y.nilCheck rfl) rfl rfl rfl <| LX.pure (Y.fieldAddr0 Kh.fo174_1 rfl) rfl rfl rfl <| LX.pure (Y.ldB0 Kh.one171 rfl hm2 rfl) rfl rfl rfl <| LX.pure (Y.lenSl rfl Kh.un171 rfl) rfl rfl rfl <| LX.pure (Y.neN rfl rfl) rfl rfl rfl <| LX.sub (l' := [(0, _), (1, _), (2, _), (3, _), (8, _), (9, _), (26, _)]) ⟨rfl, rfl, rfl, rfl, rfl, rfl, rfl, trivial⟩ <| LX.nextQ <| PX.thenN ?_
  refine CX.cond rfl (fun hb1 => ?_) (fun hb1 => ?_)
  · try simp at hb1
    refine CX.seq <| CX.region <| LX.pure (Y.assign rfl) rfl rfl rfl <| LX.pure (Y.assign rfl) rfl rfl rfl <| LX.sub (l' := [(0, _), (1, _), (2, _), (3, _), (8, _), (9, _)]) ⟨rfl, rfl, rfl, rfl, rfl, rfl, trivial⟩ <| LX.next <| PX.thenN <| CX.ret <| PX.thenR <| PX.ret2 (by simp) Tryz.results57 rfl rfl ?_
    exact fun w hw => ⟨(none, false, L), rfl, Ew.start hL.1, hw⟩
  try simp at hb1
  refine CX.skip <| PX.thenN <| CX.seq <| CX.seq <| CX.region <| LX.pure (Y.move rfl) rfl rfl rfl <| LX.call (shal_c hS 0 dd) Kh.en98 rfl rfl rfl rfl rfl ?_
  rintro q5
  refine LX.have fun ⟨hq5, hq6⟩ => ?_
  try dsimp only at hq5 hq6 ⊢
  refine LX.pure (Y.assign rfl) rfl rfl rfl <| LX.sub (l' := [(0, _), (1, _), (2, _), (3, _), (8, _), (9, _), (10, _)]) ⟨rfl, rfl, rfl, rfl, rfl, rfl, rfl, trivial⟩ <| LX.next <| PX.thenN <| CX.seq <| CX.region <| LX.pure (Y.move rfl) rfl rfl rfl <| LX.pure (Y.neE Kd.un28 rfl) rfl rfl rfl <| LX.sub (l' := [(0, _), (1, _), (2, _), (3, _), (8, _), (9, _), (10, _), (30, _)]) ⟨rfl, rfl, rfl, rfl, rfl, rfl, rfl, rfl, trivial⟩ <| LX.next <| PX.thenN ?_
  refine CX.cond rfl (fun hb2 => ?_) (fun hb2 => ?_)
  · try simp at hb2
    obtain ⟨e5, rfl⟩ := Option.isSome_iff_exists.1 hb2
    refine CX.seq <| CX.region <| LX.pure (Y.move rfl) rfl rfl rfl <| LX.pure (Y.assign rfl) rfl rfl rfl <| LX.pure (Y.assign rfl) rfl rfl rfl <| LX.sub (l' := [(0, _), (1, _), (2, _), (3, _), (8, _), (9, _)]) ⟨rfl, rfl, rfl, rfl, rfl, rfl, trivial⟩ <| LX.next <| PX.thenN <| CX.ret <| PX.thenR <| PX.ret2 (by simp) Tryz.results57 rfl rfl ?_
    exact fun w hw => ⟨(some e5, false, L), rfl, ⟨by dsimp only; omega, by dsimp only; omega, (fun h => by cases h)⟩, hw⟩
  try simp at hb2
  obtain rfl : q5 = none := by exact hb2
  refine CX.skip <| PX.thenN <| CX.seq <| CX.seq <| CX.region <| LX.pure (Y.move rfl) rfl rfl rfl <| LX.pure (Y.nilCheck rfl) rfl rfl rfl <| LX.pure (Y.fieldAddr0 Kh.fo174_1 rfl) rfl rfl rfl <| LX.pure (Y.ldB0 Kh.one171 rfl hm1 rfl) rfl rfl rfl <| LX.pure (Y.lenSl rfl Kh.un171 rfl) rfl rfl rfl <| LX.pure (Y.move rfl) rfl rfl rfl <| LX.sub (l' := [(0, _), (2, _), (3, _), (8, _), (9, _), (35, _), (36, _), (37, _)]) ⟨rfl, rfl, rfl, rfl, rfl, rfl, rfl, rfl, trivial⟩ <| LX.next <| PX.thenN <| CX.block <| CX.loop (fun s : Nat × Int => [(0, .pointer (some ⟨kp, 0, none⟩)), (2, .pointer (some ⟨b2, 0, none⟩)), (3, .int .i64 ((dd : Nat) : Int)), (35, .slice av1 xs1.length c1), (36, .int .i64 (xs1.length : Int)), (37, .int .i64 (s.1 : Int))]) (fun (s : Nat × Int) w => (s.1 ≤ xs1.length ∧ 0 ≤ s.2 ∧ s.2 ≤ L) ∧ WA w0 base [blk kp [.int .i64 (s.2)] 63] w) (fun s => xs1.length - s.1) (0, L) ⟨rfl, rfl, rfl, rfl, rfl, rfl, trivial⟩ (fun w hw => ⟨⟨Nat.zero_le _, hL.1, Int.le_refl _⟩, hw⟩) ?_
  rintro ⟨i, L2⟩
  refine CX.have fun ⟨hi0, hl0, hlL⟩ => ?_
  try dsimp only at hi0 hl0 hlL ⊢
  refine CX.seq <| CX.region <| LX.pure (Y.ltN rfl rfl) rfl rfl rfl <| LX.sub (l' := [(0, _), (2, _), (3, _), (35, _), (36, _), (37, _), (38, _)]) ⟨rfl, rfl, rfl, rfl, rfl, rfl, rfl, trivial⟩ <| LX.next <| PX.thenN <| CX.seq ?_
  refine CX.cond rfl (fun hb3 => ?_) (fun hb3 => ?_)
  · try simp at hb3
    have hi1 : i < xs1.length := by omega
    obtain ⟨x, hx⟩ : ∃ x, xs1[i]? = some x := ⟨_, List.getElem?_eq_getElem hi1⟩
    obtain ⟨e1, hE1⟩ : ∃ y, es1[i]? = some y := ⟨_, List.getElem?_eq_getElem (by omega)⟩
    obtain ⟨k1, hk1⟩ : ∃ y, ks1[i]? = some y := ⟨_, List.getElem?_eq_getElem (by omega)⟩
    obtain ⟨a1, ha1, hL1⟩ := val_at hs1 (v := ptrV e1) (by rw [List.getElem?_map, hE1]; rfl)
    have hc1 := he1 i k1 e1 hk1 hE1
    refine CX.skip <| PX.thenN <| CX.seq <| CX.block <| CX.seq <| CX.region <| LX.pure (Y.idxZ Kh.un171 Kh.sz175 rfl rfl ha1 (j := i) rfl (by omega)) rfl rfl rfl <| LX.pure (Y.ldO1 Kh.one175 rfl hL1) rfl rfl rfl <| LX.pure (Y.assign rfl) rfl rfl rfl <| LX.sub (l' := [(0, _), (2, _), (3, _), (12, _), (35, _), (36, _), (37, _)]) ⟨rfl, rfl, rfl, rfl, rfl, rfl, rfl, trivial⟩ <| LX.next <| PX.thenN <| CX.seq <| CX.regionQ rfl (by kernel_rfl) <| LX.pure (Y.move rfl) rfl rfl rfl <| LX.pure (Y.nilCheck rfl) rfl rfl rfl <| LX.pure (Y.fieldAddr0 Kh.fo174_2 rfl) rfl rfl rfl <| LX.pure (Y.ldB0 Kh.one172 rfl hm2 rfl) rfl rfl rfl <| LX.pure (Y.move rfl) rfl rfl rfl <| LX.pure (Y.nilCheck rfl) rfl rfl rfl <| LX.pure (Y.fieldAddr0 Kh.fo177_0 rfl) rfl rfl rfl <| LX.pure (Y.ldB0 Kh.one9 rfl hc1 rfl) rfl rfl rfl <| LX.pure (Y.lookO Kh.un172 Ka.un9 (by kernel_rfl) rfl rfl (es := es2) (ks := ks2) (bs := bs2) (fun w hw => (ho2.push hw).2) (by omega) (by omega) hn2) rfl rfl rfl ?_
    generalize hlk : lk k1 ks2 es2 = o2
    refine LX.pure (Y.assign rfl) rfl rfl rfl <| LX.sub (l' := [(0, _), (2, _), (3, _), (12, _), (13, _), (35, _), (36, _), (37, _)]) ⟨rfl, rfl, rfl, rfl, rfl, rfl, rfl, rfl, trivial⟩ <| LX.nextQ <| PX.thenN <| CX.seq <| CX.seq <| CX.region <| LX.pure (Y.move rfl) rfl rfl rfl <| LX.pure (Y.eqP Kh.un175 rfl) rfl rfl rfl <| LX.sub (l' := [(0, _), (2, _), (3, _), (12, _), (13, _), (35, _), (36, _), (37, _), (51, _)]) ⟨rfl, rfl, rfl, rfl, rfl, rfl, rfl, rfl, rfl, trivial⟩ <| LX.next <| PX.thenN ?_
    refine CX.cond rfl (fun hb4 => ?_) (fun hb4 => ?_)
    · try simp at hb4
      refine CX.seq <| CX.region <| LX.pure (Y.assign rfl) rfl rfl rfl <| LX.pure (Y.assign rfl) rfl rfl rfl <| LX.sub (l' := [(0, _), (2, _), (3, _), (8, _), (9, _), (12, _), (13, _), (35, _), (36, _), (37, _)]) ⟨rfl, rfl, rfl, rfl, rfl, rfl, rfl, rfl, rfl, rfl, trivial⟩ <| LX.next <| PX.thenN <| CX.ret <| PX.thenR <| PX.blockR <| PX.thenR <| PX.thenR <| PX.blockR <| PX.thenR <| PX.ret2 (by simp) Tryz.results57 rfl rfl ?_
      exact fun w hw => ⟨(none, false, L2), rfl, ⟨by dsimp only; omega, hlL, fun _ => hl0⟩, hw⟩
    try simp at hb4
    obtain ⟨e2, rfl⟩ : ∃ e, o2 = some e := by
      cases o2 with
      | none =>
        exfalso
        (simp at hb4; done)
      | some e => exact ⟨e, rfl⟩
    obtain ⟨i2, hk2, hE2⟩ := lk_some hlk
    obtain ⟨x2, hx2⟩ : ∃ y, xs2[i2]? = some y := ⟨_, List.getElem?_eq_getElem (by have := (List.getElem?_eq_some_iff.1 hk2).1; omega)⟩
    have hc2 := he2 i2 k1 e2 hk2 hE2
    dsimp only [Option.map_some]
    refine CX.skip <| PX.thenN <| CX.seq <| CX.regionM [(0, .anywhere), (1, .anywhere), (2, .anywhere), (3, .anywhere), (4, .held), (5, .anywhere), (6, .anywhere), (7, .anywhere), (8, .held), (9, .anywhere), (10, .anywhere), (11, .alone), (12, .anywhere), (13, .anywhere), (15, .anywhere), (14, .anywhere), (16, .anywhere)] rfl (by kernel_rfl) <| MX.lift0 (i := 0) rfl (Y.move rfl) rfl rfl rfl <| MX.lift0 (i := 1) rfl (Y.move rfl) rfl rfl rfl <| MX.lift0 (i := 2) rfl (Y.nilCheck rfl) rfl rfl rfl <| MX.lift0 (i := 3) rfl (Y.fieldAddr0 Kh.fo177_2 rfl) rfl rfl rfl <| MX.lift1 (i := 4) (pend' := []) rfl (fun w hw => by exact hw) (Y.ldB0 Kd.one26 rfl hc1 rfl) rfl rfl rfl (by kernel_rfl) <| MX.lift0 (i := 5) rfl (Y.move rfl) rfl rfl rfl <| MX.lift0 (i := 6) rfl (Y.nilCheck rfl) rfl rfl rfl <| MX.lift0 (i := 7) rfl (Y.fieldAddr0 Kh.fo177_2 rfl) rfl rfl rfl <| MX.lift1 (i := 8) (pend' := [4]) rfl (fun w hw => by exact hw) (Y.ldB0 Kd.one26 rfl hc2 rfl) rfl rfl rfl (by kernel_rfl) <| MX.lift0 (i := 9) rfl (Y.move rfl) rfl rfl rfl <| MX.lift0 (i := 10) rfl (Y.addN rfl rfl (by (simp only []; omega))) rfl rfl rfl <| MX.force (i := 11) rfl <| LX.call (ih (L := L2) (by omega) (hv1 i x e1 hx hE1) (hv2 i2 x2 e2 hx2 hE2)) Kh.en26 rfl rfl rfl rfl rfl ?_
    rintro ⟨q4, is4, L4⟩
    refine LX.have fun hk4 => ?_
    try dsimp only at hk4 ⊢
    refine LX.nextM [] (by kernel_rfl) (fun h => absurd rfl h) <| MX.lift0 (i := 12) rfl (Y.move rfl) rfl rfl rfl <| MX.lift0 (i := 13) rfl (Y.extract rfl rfl) rfl rfl rfl <| MX.lift0 (i := 15) rfl (Y.assign rfl) rfl rfl rfl <| MX.lift0 (i := 14) rfl (Y.extract rfl rfl) rfl rfl rfl <| MX.lift0 (i := 16) rfl (Y.assign rfl) rfl rfl rfl <| MX.sub (l' := [(0, _), (2, _), (3, _), (14, _), (15, _), (35, _), (36, _), (37, _)]) ⟨rfl, rfl, rfl, rfl, rfl, rfl, rfl, rfl, trivial⟩ <| MX.done <| PX.thenN <| CX.seq <| CX.region <| LX.pure (Y.move rfl) rfl rfl rfl <| LX.pure (Y.not rfl) rfl rfl rfl <| LX.pure (Y.move rfl) rfl rfl rfl <| LX.sub (l' := [(0, _), (2, _), (3, _), (15, _), (35, _), (36, _), (37, _), (69, _)]) ⟨rfl, rfl, rfl, rfl, rfl, rfl, rfl, rfl, trivial⟩ ?_
    apply LX.joinOr 3 72 69 rfl
    · intro hb5
      refine LX.gF rfl rfl rfl hb5 rfl rfl <| LX.gF rfl rfl rfl hb5 rfl rfl <| LX.pure (Y.pickT rfl hb5 rfl) rfl rfl rfl ?_
      exact LX.left ⟨rfl, rfl, rfl, rfl, rfl, rfl, rfl, rfl, rfl, trivial⟩
    · intro hb5
      refine LX.gT rfl rfl rfl hb5 (Y.move rfl) rfl rfl <| LX.gT rfl rfl rfl hb5 (Y.neE Kd.un28 rfl) rfl rfl <| LX.pure (Y.pickF rfl hb5 rfl) rfl rfl rfl ?_
      exact LX.left ⟨rfl, rfl, rfl, rfl, rfl, rfl, rfl, rfl, rfl, trivial⟩
    refine LX.sub (l' := [(0, _), (2, _), (3, _), (15, _), (35, _), (36, _), (37, _), (72, _)]) ⟨rfl, rfl, rfl, rfl, rfl, rfl, rfl, rfl, trivial⟩ <| LX.next <| PX.thenN ?_
    refine CX.cond rfl (fun hb6 => ?_) (fun hb6 => ?_)
    · try simp at hb6
      refine CX.seq <| CX.region <| LX.pure (Y.move rfl) rfl rfl rfl <| LX.pure (Y.assign rfl) rfl rfl rfl <| LX.pure (Y.assign rfl) rfl rfl rfl <| LX.sub (l' := [(0, _), (2, _), (3, _), (8, _), (9, _), (35, _), (36, _), (37, _)]) ⟨rfl, rfl, rfl, rfl, rfl, rfl, rfl, rfl, trivial⟩ <| LX.next <| PX.thenN <| CX.ret <| PX.blockR <| PX.thenR <| PX.thenR <| PX.blockR <| PX.thenR <| PX.ret2 (by simp) Tryz.results57 rfl rfl ?_
      exact fun w hw => ⟨(q4, false, L4), rfl, ⟨hk4.w.lo, Int.le_trans hk4.w.hi hlL, hk4.w.ok⟩, hw⟩
    try simp at hb6
    obtain ⟨rfl, rfl⟩ : is4 = true ∧ q4 = none := by cases is4 <;> cases q4 <;> simp_all
    refine CX.skip <| PX.blockN <| PX.thenN <| CX.region <| LX.pure (Y.addN rfl rfl (by (simp only []; omega))) rfl rfl rfl <| LX.pure (Y.move rfl) rfl rfl rfl <| LX.sub (l' := [(0, _), (2, _), (3, _), (35, _), (36, _), (37, _)]) ⟨rfl, rfl, rfl, rfl, rfl, rfl, trivial⟩ <| LX.next ?_
    exact PX.again (μ := fun s => xs1.length - s.1) (i := (i, L2)) (i + 1, L4) (by show xs1.length - (i + 1) < xs1.length - i; omega) ⟨rfl, rfl, rfl, rfl, rfl, rfl, trivial⟩ (fun w hw => ⟨⟨by show i + 1 ≤ xs1.length; omega, hk4.w.ok rfl, Int.le_trans hk4.w.hi hlL⟩, hw⟩)
  try simp at hb3
  obtain rfl : i = xs1.length := by omega
  refine CX.exit <| PX.thenE <| PX.thenE <| PX.blockE <| PX.thenN <| CX.seq <| CX.region <| LX.pure (Y.assign rfl) rfl rfl rfl <| LX.pure (Y.assign rfl) rfl rfl rfl <| LX.sub (l' := [(8, _), (9, _)]) ⟨rfl, rfl, trivial⟩ <| LX.next <| PX.thenN <| CX.ret <| PX.ret2 (by simp) Tryz.results57 rfl rfl ?_
  exact fun w hw => ⟨(none, true, L2), rfl, ⟨by dsimp only; omega, hlL, fun _ => hl0⟩, hw⟩
end Go.Proofs.YtickdimknfeddaaGreatDoor

namespace Go.Proofs.YtickdimknfeddaaGreatDoor
open Go.SX Go.RowKit Go.Vo Go.Ky Go.Proofs.YtickdimknfeddaaGreatDoor.Env
namespace Ki

end Ki
def kn : Tr → Int
  | .none => 1 | .bool _ => 2 | .int _ => 3 | .str _ => 4 | .list _ => 5 | .tup _ => 6 | .dict _ _ => 7
theorem kof {M : Rd} {O : Ro} {t : Tr} {v : Value} (h : VAt M O t v) : Kof (kn t) v := by
  cases h with
  | none => exact ⟨⟨_, _, 223, rfl, fun _ => by kernel_rfl, kindN⟩⟩
  | bool b => exact ⟨⟨_, _, 224, rfl, fun _ => by kernel_rfl, kindB⟩⟩
  | int h => obtain ⟨⟨av, c, rfl, _⟩, _⟩ := h; exact ⟨⟨_, _, 218, rfl, fun _ => by kernel_rfl, kindI⟩⟩
  | str => exact ⟨⟨_, _, 219, rfl, fun _ => by kernel_rfl, kindT⟩⟩
  | tup => exact ⟨⟨_, _, 226, rfl, fun _ => by kernel_rfl, kindU⟩⟩
  | list => exact ⟨⟨_, _, 222, rfl, fun _ => by kernel_rfl, kindL⟩⟩
  | dict => exact ⟨⟨_, _, 227, rfl, fun _ => by kernel_rfl, kindD⟩⟩
theorem equal_s {w0 : World} {base : Nat} {aE : Nat → Addr} (hS : EnvS w0 base aE) {kp : Nat} {L : Int} (hL : 0 ≤ L ∧ L ≤ 4096) {dd : Nat} (ih : dd ≤ 60 → ∀ {L : Int} (_hL : 0 ≤ L ∧ L ≤ 4096) {t u : Tr} {v1 v2 : Value} (_h1 : VL w0 base t v1) (_h2 : VL w0 base u v2), FnC Tryz.prog 26 #[.pointer (some ⟨kp, 0, none⟩), v1, v2, .int .i64 ((dd + 1 : Nat) : Int)] (WA w0 base [blk kp [.int .i64 (L)] 63]) (fun q : Option (TypeId × Value) × Bool × Int => .tuple #[.bool q.2.1, eV q.1]) (fun q w => Er t u (dd + 1) L q.1 q.2.1 q.2.2 ∧ WA w0 base [blk kp [.int .i64 (q.2.2)] 63] w)) {t u : Tr} {v1 v2 : Value} (h1 : VL w0 base t v1) (h2 : VL w0 base u v2) : FnC Tryz.prog 26 #[.pointer (some ⟨kp, 0, none⟩), v1, v2, .int .i64 ((dd : Nat) : Int)] (WA w0 base [blk kp [.int .i64 (L)] 63]) (fun q : Option (TypeId × Value) × Bool × Int => .tuple #[.bool q.2.1, eV q.1]) (fun q w => Er t u dd L q.1 q.2.1 q.2.2 ∧ WA w0 base [blk kp [.int .i64 (q.2.2)] 63] w) := by
  by_cases hk : kn t = kn u
  · cases h1 with
    | none  =>
      cases h2 with
      | none  => exact eq_none hS hL
      | _ => exact absurd hk (by simp [kn])
    | bool a1 =>
      cases h2 with
      | bool b1 => exact eq_bool hS hL _ _
      | _ => exact absurd hk (by simp [kn])
    | int a1 =>
      cases h2 with
      | int b1 => exact eq_int hS hL a1 b1
      | _ => exact absurd hk (by simp [kn])
    | str a1 =>
      cases h2 with
      | str b1 => exact eq_str hS hL _ _
      | _ => exact absurd hk (by simp [kn])
    | tup a1 a2 a3 a4 a5 =>
      cases h2 with
      | tup b1 b2 b3 b4 b5 => exact eq_tup hS hL a1 b1 (fun hd _ hL2 => every_c hS hL2 hd _ _ a2 a3 a5 b2 b3 b5 a4 (ih hd))
      | _ => exact absurd hk (by simp [kn])
    | list a1 a2 a3 a4 a5 =>
      cases h2 with
      | list b1 b2 b3 b4 b5 => exact eq_list hS hL a1 b1 (fun hd _ hL2 => every_c hS hL2 hd _ _ a2 a3 a5 b2 b3 b5 a4 (ih hd))
      | _ => exact absurd hk (by simp [kn])
    | dict a1 a2 a3 a4 a5 a6 a7 a8 a9 a10 =>
      cases h2 with
      | dict b1 b2 b3 b4 b5 b6 b7 b8 b9 b10 => exact eq_dict hS hL rfl (fun hd _ hL2 => dicts_c hS hL2 hd a1 a2 a3 a4 a5 a6 a7 a8 a9 a10 b1 b2 b3 b4 b5 b6 b7 b8 b9 b10 (ih hd))
      | _ => exact absurd hk (by simp [kn])
  · exact eq_ne hS hL (kof h1) (kof h2) hk (fun e => hk (by rw [e]))
theorem equal_c {w0 : World} {base : Nat} {aE : Nat → Addr} (hS : EnvS w0 base aE) {kp : Nat} : ∀ (n dd : Nat), dd + n = 61 → ∀ {L : Int} (_hL : 0 ≤ L ∧ L ≤ 4096) {t u : Tr} {v1 v2 : Value} (_h1 : VL w0 base t v1) (_h2 : VL w0 base u v2), FnC Tryz.prog 26 #[.pointer (some ⟨kp, 0, none⟩), v1, v2, .int .i64 ((dd : Nat) : Int)] (WA w0 base [blk kp [.int .i64 (L)] 63]) (fun q : Option (TypeId × Value) × Bool × Int => .tuple #[.bool q.2.1, eV q.1]) (fun q w => Er t u dd L q.1 q.2.1 q.2.2 ∧ WA w0 base [blk kp [.int .i64 (q.2.2)] 63] w)
  | 0, dd, hd, _, hL, _, _, _, _, h1, h2 => equal_s hS hL (fun h => absurd h (by omega)) h1 h2
  | n + 1, dd, hd, _, hL, _, _, _, _, h1, h2 => equal_s hS hL (fun _ => equal_c hS n (dd + 1) (by omega)) h1 h2
theorem Equal_0 {w0 : World} {base : Nat} {aE : Nat → Addr} (hS : EnvS w0 base aE) {t u : Tr} {v1 v2 : Value} (h1 : VL w0 base t v1) (h2 : VL w0 base u v2) : FnC Tryz.prog 10 #[v1, v2] (WA w0 base []) (fun q : Option (TypeId × Value) × Bool => .tuple #[.bool q.2, eV q.1]) (fun q w => ((q.1 = none → hsh t = true → hsh u = true → (q.2 = true ↔ t = u)) ∧ (t = u → hsh t = true → sz t ≤ 4096 → dp t ≤ 60 → q.1 = none ∧ q.2 = true)) ∧ WA w0 base [] w) := by
  refine FnC.of_body (fn := Tryz.f10) [(0, _), (1, _)] Tryz.func10 rfl Tryz.ntmps10 rfl ⟨rfl, rfl, trivial⟩ ?_
  refine CX.seq <| CX.region <| LX.pure (Y.assign rfl) rfl rfl rfl <| LX.pure (Y.assign rfl) rfl rfl rfl <| LX.sub (l' := [(0, _), (1, _), (4, _), (5, _)]) ⟨rfl, rfl, rfl, rfl, trivial⟩ <| LX.next <| PX.thenN <| CX.seq <| CX.region <| LX.pure (Y.build (v := .agg #[.int .i64 4096]) rfl (fun _ => by kernel_rfl)) rfl rfl rfl <| LX.box rfl rfl rfl rfl rfl ?_
  intro bx3
  refine LX.pure (Y.assign rfl) rfl rfl rfl <| LX.sub (l' := [(0, _), (1, _), (4, _), (5, _), (6, _)]) ⟨rfl, rfl, rfl, rfl, rfl, trivial⟩ <| LX.next <| PX.thenN <| CX.seq <| CX.region <| LX.pure (Y.move rfl) rfl rfl rfl <| LX.pure (Y.move rfl) rfl rfl rfl <| LX.pure (Y.move rfl) rfl rfl rfl <| LX.call (equal_c hS 61 0 rfl (L := 4096) (by omega) h1 h2) Kh.en26 rfl rfl rfl rfl rfl ?_
  rintro ⟨q4, is4, L4⟩
  refine LX.have fun hk4 => ?_
  try dsimp only at hk4 ⊢
  refine LX.pure (Y.extract rfl rfl) rfl rfl rfl <| LX.pure (Y.extract rfl rfl) rfl rfl rfl <| LX.pure (Y.assign rfl) rfl rfl rfl <| LX.pure (Y.assign rfl) rfl rfl rfl <| LX.sub (l' := [(4, _), (5, _)]) ⟨rfl, rfl, trivial⟩ <| LX.next <| PX.thenN <| CX.ret <| PX.ret2 (by simp) Tryz.results10 rfl rfl ?_
  exact fun w hw => ⟨(q4, is4), rfl, ⟨hk4.eq, fun e hh hs hd => by obtain ⟨q1, q2, _⟩ := hk4.same e hh (by omega) (by omega); exact ⟨q1, q2⟩⟩, hw.drop (List.nil_sublist _)⟩
theorem Equal_c {W : World → Prop} [Stab W] {aE : Nat → Addr} (hE : ∀ w, W w → EnvK w w.heap.size aE) {t u : Tr} {v1 v2 : Value} (h1 : ∀ w, W w → VL w w.heap.size t v1) (h2 : ∀ w, W w → VL w w.heap.size u v2) : FnC Tryz.prog 10 #[v1, v2] W (fun q : Option (TypeId × Value) × Bool => .tuple #[.bool q.2, eV q.1]) (fun q w => ((q.1 = none → hsh t = true → hsh u = true → (q.2 = true ↔ t = u)) ∧ (t = u → hsh t = true → sz t ≤ 4096 → dp t ≤ 60 → q.1 = none ∧ q.2 = true)) ∧ W w) :=
  FnC.reO fun w hw => Equal_0 (hE w hw).s (h1 w hw) (h2 w hw)
end Go.Proofs.YtickdimknfeddaaGreatDoor
