/-
  Proved here: keys of None and of truth values.
-/
import Derived.Test.YtickdimknfeddaaGreatDoorKyU
import Derived.Test.YtickdimknfeddaaGreatDoorKyA
import Derived.Test.YtickdimknfeddaaGreatDoorKyB
import Derived.Test.YtickdimknfeddaaGreatDoorEnvQ
set_option linter.unusedSimpArgs false
namespace Go.Proofs.YtickdimknfeddaaGreatDoor
open Go.SX Go.RowKit Go.Vo Go.Ky Go.Proofs.YtickdimknfeddaaGreatDoor.Env
namespace Kc
theorem ag110 : AggT Tryz.prog 110 0 := AggT.of (by kernel_rfl) (by kernel_rfl)
theorem en51 : Enters Tryz.prog 51 := Enters.of Tryz.func51 (by kernel_rfl) (by kernel_rfl)
theorem en93 : Enters Tryz.prog 93 := Enters.of Tryz.func93 (by kernel_rfl) (by kernel_rfl)
theorem fo59_0 : FieldOff Tryz.prog 59 0 0 := fun b o w => by kernel_rfl
theorem fo59_1 : FieldOff Tryz.prog 59 1 1 := fun b o w => by kernel_rfl
theorem one28 : One Tryz.prog 28 := fun w => by kernel_rfl
theorem one3 : One Tryz.prog 3 := fun w => by kernel_rfl
theorem one57 : One Tryz.prog 57 := fun w => by kernel_rfl
theorem sz3 : SizeIs Tryz.prog 3 1 := fun w => by kernel_rfl
theorem sz57 : SizeIs Tryz.prog 57 1 := fun w => by kernel_rfl
theorem un110 : Tryz.prog.underlying 110 = some (.struct #[⟨"Mark", 72, 0, true, "", "", 0⟩]) := by kernel_rfl
theorem un111 : Tryz.prog.underlying 111 = some .bool := by kernel_rfl
theorem zv110 : ∀ w, (zeroValue 110).run Tryz.prog w = .ok (.agg #[]) w := fun w => by kernel_rfl
theorem zv111 : ∀ w, (zeroValue 111).run Tryz.prog w = .ok (.bool false) w := fun w => by kernel_rfl
theorem nif110 : NotIface Tryz.prog 110 := NotIface.of un110 (fun ms h => by cases h)
theorem nif111 : NotIface Tryz.prog 111 := NotIface.of un111 (fun ms h => by cases h)
end Kc
theorem inf8_ : (Tryz.prog.info? 5).map (fun i => (i.zero, i.size, i.bytes)) = some (some (.int .u8 0), 1, 1) := by kernel_rfl
theorem inf8 : ∃ inf, Tryz.prog.info? 5 = some inf ∧ inf.zero = some (.int .u8 0) ∧ inf.size = 1 ∧ inf.bytes = 1 := by
  have h := inf8_
  cases hi : Tryz.prog.info? 5 with
  | none => rw [hi] at h; cases h
  | some i =>
    rw [hi] at h
    simp only [Option.map_some, Option.some.injEq, Prod.mk.injEq] at h
    exact ⟨i, rfl, h.1, h.2.1, h.2.2⟩
theorem apB_true {w0 : World} {base : Nat} {fr : List It} {g : Option Nat} {c : Nat} {bs : T} (hb : bs.length ≤ 100000000) : FnC Tryz.prog 93 #[rv g bs.length c, .bool true] (WA w0 base (.row g c (bs).length 5 1 ((bs).map b8) :: fr)) (fun q : Option Nat × Nat => rv q.1 (bs ++ tf true).length q.2) (fun q => WA w0 base (.row q.1 q.2 (bs ++ tf true).length 5 1 ((bs ++ tf true).map b8) :: fr)) := by
  obtain ⟨i8, hinf, hz8, hs8, hb8⟩ := inf8
  refine FnC.of_body (fn := Tryz.f93) [(0, _), (1, _)] Tryz.func93 rfl Tryz.ntmps93 rfl ⟨rfl, rfl, trivial⟩ ?_
  refine CX.seq <| CX.region <| LX.pure (Y.assign rfl) rfl rfl rfl <| LX.sub (l' := [(0, _), (1, _), (4, _)]) ⟨rfl, rfl, rfl, trivial⟩ <| LX.next <| PX.thenN <| CX.seq <| CX.seq <| CX.region <| LX.pure (Y.move rfl) rfl rfl rfl <| LX.sub (l' := [(0, _), (4, _), (5, _)]) ⟨rfl, rfl, rfl, trivial⟩ <| LX.next <| PX.thenN ?_
  refine CX.cond rfl (fun hb1 => ?_) (fun hb1 => ?_)
  · try simp at hb1
    refine CX.seq <| CX.region <| LX.pure (Y.move rfl) rfl rfl rfl <| LX.appendS 0 Ka.un57 Ka.un9 hinf hz8 hs8 hb8 rfl rfl rfl rfl rfl (by simp only [List.length_cons, List.length_nil]; omega) rfl rfl rfl ?_
    intro g2 c2
    rw [show List.length (α := UInt8) (bs) + List.length (α := UInt8) (([116, 114, 117, 101] : T)) = List.length (α := UInt8) (bs ++ ([116, 114, 117, 101] : T)) from List.length_append.symm]
    refine LX.world (W' := WA w0 base (.row g2 c2 (bs ++ ([116, 114, 117, 101] : T)).length 5 1 ((bs ++ ([116, 114, 117, 101] : T)).map b8) :: fr)) (fun w hw => by rw [List.map_append]; exact hw) <| LX.pure (Y.assign rfl) rfl rfl rfl <| LX.sub (l' := [(0, _), (4, _)]) ⟨rfl, rfl, trivial⟩ <| LX.next <| PX.thenN <| CX.ret <| PX.thenR <| PX.ret1 (by simp) Tryz.results93 rfl ?_
    exact fun w hw => ⟨(g2, c2), rfl, hw⟩
  try simp at hb1
  done
theorem apB_false {w0 : World} {base : Nat} {fr : List It} {g : Option Nat} {c : Nat} {bs : T} (hb : bs.length ≤ 100000000) : FnC Tryz.prog 93 #[rv g bs.length c, .bool false] (WA w0 base (.row g c (bs).length 5 1 ((bs).map b8) :: fr)) (fun q : Option Nat × Nat => rv q.1 (bs ++ tf false).length q.2) (fun q => WA w0 base (.row q.1 q.2 (bs ++ tf false).length 5 1 ((bs ++ tf false).map b8) :: fr)) := by
  obtain ⟨i8, hinf, hz8, hs8, hb8⟩ := inf8
  refine FnC.of_body (fn := Tryz.f93) [(0, _), (1, _)] Tryz.func93 rfl Tryz.ntmps93 rfl ⟨rfl, rfl, trivial⟩ ?_
  refine CX.seq <| CX.region <| LX.pure (Y.assign rfl) rfl rfl rfl <| LX.sub (l' := [(0, _), (1, _), (4, _)]) ⟨rfl, rfl, rfl, trivial⟩ <| LX.next <| PX.thenN <| CX.seq <| CX.seq <| CX.region <| LX.pure (Y.move rfl) rfl rfl rfl <| LX.sub (l' := [(0, _), (4, _), (5, _)]) ⟨rfl, rfl, rfl, trivial⟩ <| LX.next <| PX.thenN ?_
  refine CX.cond rfl (fun hb1 => ?_) (fun hb1 => ?_)
  · try simp at hb1
    done
  try simp at hb1
  refine CX.skip <| PX.thenN <| CX.seq <| CX.region <| LX.pure (Y.move rfl) rfl rfl rfl <| LX.appendS 0 Ka.un57 Ka.un9 hinf hz8 hs8 hb8 rfl rfl rfl rfl rfl (by simp only [List.length_cons, List.length_nil]; omega) rfl rfl rfl ?_
  intro g2 c2
  rw [show List.length (α := UInt8) (bs) + List.length (α := UInt8) (([102, 97, 108, 115, 101] : T)) = List.length (α := UInt8) (bs ++ ([102, 97, 108, 115, 101] : T)) from List.length_append.symm]
  refine LX.world (W' := WA w0 base (.row g2 c2 (bs ++ ([102, 97, 108, 115, 101] : T)).length 5 1 ((bs ++ ([102, 97, 108, 115, 101] : T)).map b8) :: fr)) (fun w hw => by rw [List.map_append]; exact hw) <| LX.pure (Y.assign rfl) rfl rfl rfl <| LX.sub (l' := [(4, _)]) ⟨rfl, trivial⟩ <| LX.next <| PX.thenN <| CX.ret <| PX.ret1 (by simp) Tryz.results93 rfl ?_
  exact fun w hw => ⟨(g2, c2), rfl, hw⟩
theorem apB_c {w0 : World} {base : Nat} {fr : List It} {g : Option Nat} {c : Nat} {bs : T} (b : Bool) (hb : bs.length ≤ 100000000) : FnC Tryz.prog 51 #[rv g bs.length c, .bool b] (WA w0 base (.row g c (bs).length 5 1 ((bs).map b8) :: fr)) (fun q : Option Nat × Nat => rv q.1 (bs ++ tf b).length q.2) (fun q => WA w0 base (.row q.1 q.2 (bs ++ tf b).length 5 1 ((bs ++ tf b).map b8) :: fr)) := by
  have hap : FnC Tryz.prog 93 #[rv g bs.length c, .bool b] (WA w0 base (.row g c (bs).length 5 1 ((bs).map b8) :: fr)) (fun q : Option Nat × Nat => rv q.1 (bs ++ tf b).length q.2) (fun q => WA w0 base (.row q.1 q.2 (bs ++ tf b).length 5 1 ((bs ++ tf b).map b8) :: fr)) := by
    cases b with
    | true => exact apB_true hb
    | false => exact apB_false hb
  refine FnC.of_body (fn := Tryz.f51) [(0, _), (1, _)] Tryz.func51 rfl Tryz.ntmps51 rfl ⟨rfl, rfl, trivial⟩ ?_
  refine CX.seq <| CX.region <| LX.pure (Y.assign rfl) rfl rfl rfl <| LX.sub (l' := [(0, _), (1, _), (4, _)]) ⟨rfl, rfl, rfl, trivial⟩ <| LX.next <| PX.thenN <| CX.seq <| CX.region <| LX.pure (Y.move rfl) rfl rfl rfl <| LX.pure (Y.move rfl) rfl rfl rfl <| LX.call (hap) Kc.en93 rfl rfl rfl rfl rfl ?_
  rintro ⟨g2, c2⟩
  refine LX.pure (Y.assign rfl) rfl rfl rfl <| LX.sub (l' := [(4, _)]) ⟨rfl, trivial⟩ <| LX.next <| PX.thenN <| CX.ret <| PX.ret1 (by simp) Tryz.results51 rfl ?_
  exact fun w hw => ⟨(g2, c2), rfl, hw⟩
theorem key_none {w0 : World} {base : Nat} {aE : Nat → Addr} (hS : EnvS w0 base aE) {kp : Nat} {g : Option Nat} {c : Nat} {bs : T} {L : Int} (sl : Nat) (hL : 0 ≤ L ∧ L ≤ 4096) (hb : (bs.length : Int) + sl ≤ 1000 * (4096 - L)) {dd : Nat} (hd : dd ≤ 60) : FnC Tryz.prog 25 #[.pointer (some ⟨kp, 0, none⟩), .iface 110 (.agg #[]), .int .i64 ((dd : Nat) : Int)] (WA w0 base (blk kp [rv g (bs).length c, .int .i64 (L)] 59 :: .row g c (bs).length 5 1 ((bs).map b8) :: [])) (fun q : Option (TypeId × Value) × (Option Nat × Nat) × T × Int => eV q.1) (fun q w => (q.1 = none → Kn sl .none dd bs L q.2.2.1 q.2.2.2) ∧ WA w0 base (blk kp [rv q.2.1.1 (q.2.2.1).length q.2.1.2, .int .i64 (q.2.2.2)] 59 :: .row q.2.1.1 q.2.1.2 (q.2.2.1).length 5 1 ((q.2.2.1).map b8) :: []) w) := by
  refine FnC.of_body (fn := Tryz.f25) [(0, _), (1, _), (2, _)] Tryz.func25 rfl Tryz.ntmps25 rfl ⟨rfl, rfl, rfl, trivial⟩ ?_
  refine CX.seq <| CX.region <| LX.pure (Y.assign rfl) rfl rfl rfl <| LX.sub (l' := [(0, _), (1, _), (2, _), (6, _)]) ⟨rfl, rfl, rfl, rfl, trivial⟩ <| LX.next <| PX.thenN <| CX.seq <| CX.seq <| CX.region <| LX.pure (Y.move rfl) rfl rfl rfl <| LX.pure (Y.nilCheck rfl) rfl rfl rfl <| LX.pure (Y.fieldAddr0 Kc.fo59_1 rfl) rfl rfl rfl <| LX.pure (Y.ldB 0 Kc.one3 rfl rfl rfl) rfl rfl rfl <| LX.pure (Y.sub rfl rfl (by omega)) rfl rfl rfl <| LX.pure (Y.nilCheck rfl) rfl rfl rfl <| LX.pure (Y.fieldAddr0 Kc.fo59_1 rfl) rfl rfl rfl <| LX.storeB 0 Kc.sz3 rfl rfl rfl rfl rfl rfl rfl rfl <| LX.sub (l' := [(0, _), (1, _), (2, _), (6, _)]) ⟨rfl, rfl, rfl, rfl, trivial⟩ <| LX.next <| PX.thenN <| CX.seq <| CX.region <| LX.pure (Y.move rfl) rfl rfl rfl <| LX.pure (Y.nilCheck rfl) rfl rfl rfl <| LX.pure (Y.fieldAddr0 Kc.fo59_1 rfl) rfl rfl rfl <| LX.pure (Y.ldB 0 Kc.one3 rfl rfl rfl) rfl rfl rfl <| LX.pure (Y.ltI rfl rfl) rfl rfl rfl <| LX.sub (l' := [(0, _), (1, _), (2, _), (6, _), (27, _)]) ⟨rfl, rfl, rfl, rfl, rfl, trivial⟩ <| LX.next <| PX.thenN ?_
  refine CX.cond rfl (fun hb1 => ?_) (fun hb1 => ?_)
  · try simp at hb1
    refine CX.seq <| CX.region <| LX.pure (Y.ldO Kc.one28 rfl (hS.at_ 7 2 rfl) (hS.lt 2 (by decide))) rfl rfl rfl <| LX.pure (Y.assign rfl) rfl rfl rfl <| LX.sub (l' := [(0, _), (1, _), (2, _), (6, _)]) ⟨rfl, rfl, rfl, rfl, trivial⟩ <| LX.next <| PX.thenN <| CX.ret <| PX.thenR <| PX.ret1 (by simp) Tryz.results25 rfl ?_
    exact fun w hw => ⟨(some (247, .pointer (some (aE 7))), (g, c), bs, L - 1), rfl, (fun h => by cases h), hw⟩
  try simp at hb1
  refine CX.skip <| PX.thenN <| CX.seq <| CX.seq <| CX.region <| LX.pure (Y.move rfl) rfl rfl rfl <| LX.sub (l' := [(0, _), (2, _), (6, _), (29, _)]) ⟨rfl, rfl, rfl, rfl, trivial⟩ <| LX.next <| PX.thenN <| CX.block <| CX.seq <| CX.region <| LX.pure (Y.assertYes Kc.nif110 rfl) rfl rfl rfl <| LX.pure (Y.extract rfl rfl) rfl rfl rfl <| LX.pure (Y.extract rfl rfl) rfl rfl rfl <| LX.sub (l' := [(0, _), (2, _), (6, _), (29, _), (32, _), (33, _)]) ⟨rfl, rfl, rfl, rfl, rfl, rfl, trivial⟩ <| LX.next <| PX.thenN ?_
  refine CX.cond rfl (fun hb2 => ?_) (fun hb2 => ?_)
  · try simp at hb2
    refine CX.seq <| CX.region <| LX.alloc rfl Kc.zv110 rfl rfl rfl ?_
    intro bx0
    refine LX.storeA 0 Kc.ag110 rfl rfl rfl rfl rfl rfl rfl rfl rfl <| LX.sub (l' := [(0, _), (6, _)]) ⟨rfl, rfl, trivial⟩ <| LX.next <| PX.thenN <| CX.region <| LX.pure (Y.move rfl) rfl rfl rfl <| LX.pure (Y.move rfl) rfl rfl rfl <| LX.pure (Y.nilCheck rfl) rfl rfl rfl <| LX.pure (Y.fieldAddr0 Kc.fo59_0 rfl) rfl rfl rfl <| LX.pure (Y.ldB 1 Kc.one57 rfl rfl rfl) rfl rfl rfl <| LX.buildSlice (e := 5) (size := 1) rfl rfl (fun _ => by kernel_rfl) rfl (by decide) rfl rfl rfl ?_
    intro gt27
    refine LX.appendT 2 Ka.el57 rfl rfl rfl rfl rfl rfl rfl (by omega) (by omega) rfl rfl rfl ?_
    intro g1 c1
    rw [show List.length (α := UInt8) (bs) + 1 = List.length (α := UInt8) (bs ++ [78]) from by simp only [List.length_append, List.length_cons, List.length_nil] <;> omega]
    refine LX.world (W' := WA w0 base (blk bx0 [] 110 :: blk kp [rv g (bs).length c, .int .i64 (L - 1)] 59 :: .row g1 c1 (bs ++ [78]).length 5 1 ((bs ++ [78]).map b8) :: [])) (fun w hw => by rw [List.map_append]; exact hw) <| LX.pure (Y.nilCheck rfl) rfl rfl rfl <| LX.pure (Y.fieldAddr0 Kc.fo59_0 rfl) rfl rfl rfl <| LX.storeB 1 Kc.sz57 rfl rfl rfl rfl rfl rfl rfl rfl <| LX.sub (l' := [(0, _), (6, _)]) ⟨rfl, rfl, trivial⟩ <| LX.next <| PX.blockN <| PX.thenN <| CX.seq <| CX.region <| LX.pure (Y.move rfl) rfl rfl rfl <| LX.pure (Y.move rfl) rfl rfl rfl <| LX.pure (Y.nilCheck rfl) rfl rfl rfl <| LX.pure (Y.fieldAddr0 Kc.fo59_0 rfl) rfl rfl rfl <| LX.pure (Y.ldB 1 Kc.one57 rfl rfl rfl) rfl rfl rfl <| LX.buildSlice (e := 5) (size := 1) rfl rfl (fun _ => by kernel_rfl) rfl (by decide) rfl rfl rfl ?_
    intro gt37
    refine LX.appendT 2 Ka.el57 rfl rfl rfl rfl rfl rfl rfl (by (simp only [List.length_append, List.length_cons, List.length_nil]; omega)) (by (simp only [List.length_append, List.length_cons, List.length_nil]; omega)) rfl rfl rfl ?_
    intro g2 c2
    rw [show List.length (α := UInt8) (bs ++ [78]) + 1 = List.length (α := UInt8) (bs ++ [78] ++ [59]) from by simp only [List.length_append, List.length_cons, List.length_nil] <;> omega]
    refine LX.world (W' := WA w0 base (blk bx0 [] 110 :: blk kp [rv g1 (bs ++ [78]).length c1, .int .i64 (L - 1)] 59 :: .row g2 c2 (bs ++ [78] ++ [59]).length 5 1 ((bs ++ [78] ++ [59]).map b8) :: [])) (fun w hw => by rw [List.map_append]; exact hw) <| LX.pure (Y.nilCheck rfl) rfl rfl rfl <| LX.pure (Y.fieldAddr0 Kc.fo59_0 rfl) rfl rfl rfl <| LX.storeB 1 Kc.sz57 rfl rfl rfl rfl rfl rfl rfl rfl <| LX.sub (l' := [(6, _)]) ⟨rfl, trivial⟩ <| LX.next <| PX.thenN <| CX.seq <| CX.region <| LX.pure (Y.assign rfl) rfl rfl rfl <| LX.sub (l' := [(6, _)]) ⟨rfl, trivial⟩ <| LX.next <| PX.thenN <| CX.ret <| PX.ret1 (by simp) Tryz.results25 rfl ?_
    exact fun w hw => ⟨(none, (g2, c2), bs ++ [78] ++ [59], L - 1), rfl, (fun _ => by dsimp only; exact ⟨rfl, by simp [enc, tf], by simp [sz], by omega, by simp only [dp]; omega, by simp only [List.length_append, List.length_cons, List.length_nil]; omega⟩), hw.drop (List.Sublist.cons _ (List.Sublist.refl _))⟩
  try simp at hb2
  done
theorem key_bool {w0 : World} {base : Nat} {aE : Nat → Addr} (hS : EnvS w0 base aE) {kp : Nat} {g : Option Nat} {c : Nat} {bs : T} {L : Int} (sl : Nat) (hL : 0 ≤ L ∧ L ≤ 4096) (hb : (bs.length : Int) + sl ≤ 1000 * (4096 - L)) {dd : Nat} (hd : dd ≤ 60) (b : Bool) : FnC Tryz.prog 25 #[.pointer (some ⟨kp, 0, none⟩), .iface 111 (.bool b), .int .i64 ((dd : Nat) : Int)] (WA w0 base (blk kp [rv g (bs).length c, .int .i64 (L)] 59 :: .row g c (bs).length 5 1 ((bs).map b8) :: [])) (fun q : Option (TypeId × Value) × (Option Nat × Nat) × T × Int => eV q.1) (fun q w => (q.1 = none → Kn sl (.bool b) dd bs L q.2.2.1 q.2.2.2) ∧ WA w0 base (blk kp [rv q.2.1.1 (q.2.2.1).length q.2.1.2, .int .i64 (q.2.2.2)] 59 :: .row q.2.1.1 q.2.1.2 (q.2.2.1).length 5 1 ((q.2.2.1).map b8) :: []) w) := by
  have ht5 := tf_len b
  refine FnC.of_body (fn := Tryz.f25) [(0, _), (1, _), (2, _)] Tryz.func25 rfl Tryz.ntmps25 rfl ⟨rfl, rfl, rfl, trivial⟩ ?_
  refine CX.seq <| CX.region <| LX.pure (Y.assign rfl) rfl rfl rfl <| LX.sub (l' := [(0, _), (1, _), (2, _), (6, _)]) ⟨rfl, rfl, rfl, rfl, trivial⟩ <| LX.next <| PX.thenN <| CX.seq <| CX.seq <| CX.region <| LX.pure (Y.move rfl) rfl rfl rfl <| LX.pure (Y.nilCheck rfl) rfl rfl rfl <| LX.pure (Y.fieldAddr0 Kc.fo59_1 rfl) rfl rfl rfl <| LX.pure (Y.ldB 0 Kc.one3 rfl rfl rfl) rfl rfl rfl <| LX.pure (Y.sub rfl rfl (by omega)) rfl rfl rfl <| LX.pure (Y.nilCheck rfl) rfl rfl rfl <| LX.pure (Y.fieldAddr0 Kc.fo59_1 rfl) rfl rfl rfl <| LX.storeB 0 Kc.sz3 rfl rfl rfl rfl rfl rfl rfl rfl <| LX.sub (l' := [(0, _), (1, _), (2, _), (6, _)]) ⟨rfl, rfl, rfl, rfl, trivial⟩ <| LX.next <| PX.thenN <| CX.seq <| CX.region <| LX.pure (Y.move rfl) rfl rfl rfl <| LX.pure (Y.nilCheck rfl) rfl rfl rfl <| LX.pure (Y.fieldAddr0 Kc.fo59_1 rfl) rfl rfl rfl <| LX.pure (Y.ldB 0 Kc.one3 rfl rfl rfl) rfl rfl rfl <| LX.pure (Y.ltI rfl rfl) rfl rfl rfl <| LX.sub (l' := [(0, _), (1, _), (2, _), (6, _), (27, _)]) ⟨rfl, rfl, rfl, rfl, rfl, trivial⟩ <| LX.next <| PX.thenN ?_
  refine CX.cond rfl (fun hb1 => ?_) (fun hb1 => ?_)
  · try simp at hb1
    refine CX.seq <| CX.region <| LX.pure (Y.ldO Kc.one28 rfl (hS.at_ 7 2 rfl) (hS.lt 2 (by decide))) rfl rfl rfl <| LX.pure (Y.assign rfl) rfl rfl rfl <| LX.sub (l' := [(0, _), (1, _), (2, _), (6, _)]) ⟨rfl, rfl, rfl, rfl, trivial⟩ <| LX.next <| PX.thenN <| CX.ret <| PX.thenR <| PX.ret1 (by simp) Tryz.results25 rfl ?_
    exact fun w hw => ⟨(some (247, .pointer (some (aE 7))), (g, c), bs, L - 1), rfl, (fun h => by cases h), hw⟩
  try simp at hb1
  refine CX.skip <| PX.thenN <| CX.seq <| CX.seq <| CX.region <| LX.pure (Y.move rfl) rfl rfl rfl <| LX.sub (l' := [(0, _), (2, _), (6, _), (29, _)]) ⟨rfl, rfl, rfl, rfl, trivial⟩ <| LX.next <| PX.thenN <| CX.block <| CX.seq <| CX.region <| LX.pure (Y.assertNo Kc.nif110 rfl (by decide) Kc.zv110) rfl rfl rfl <| LX.pure (Y.extract rfl rfl) rfl rfl rfl <| LX.pure (Y.extract rfl rfl) rfl rfl rfl <| LX.sub (l' := [(0, _), (2, _), (6, _), (29, _), (32, _), (33, _)]) ⟨rfl, rfl, rfl, rfl, rfl, rfl, trivial⟩ <| LX.next <| PX.thenN ?_
  refine CX.cond rfl (fun hb2 => ?_) (fun hb2 => ?_)
  · try simp at hb2
    done
  try simp at hb2
  refine CX.seq <| CX.region <| LX.pure (Y.assertYes Kc.nif111 rfl) rfl rfl rfl <| LX.pure (Y.extract rfl rfl) rfl rfl rfl <| LX.pure (Y.extract rfl rfl) rfl rfl rfl <| LX.sub (l' := [(0, _), (2, _), (6, _), (29, _), (44, _), (45, _)]) ⟨rfl, rfl, rfl, rfl, rfl, rfl, trivial⟩ <| LX.next <| PX.thenN ?_
  refine CX.cond rfl (fun hb3 => ?_) (fun hb3 => ?_)
  · try simp at hb3
    refine CX.seq <| CX.region <| LX.pure (Y.assign rfl) rfl rfl rfl <| LX.sub (l' := [(0, _), (6, _), (8, _)]) ⟨rfl, rfl, rfl, trivial⟩ <| LX.next <| PX.thenN <| CX.seq <| CX.region <| LX.pure (Y.move rfl) rfl rfl rfl <| LX.pure (Y.move rfl) rfl rfl rfl <| LX.pure (Y.nilCheck rfl) rfl rfl rfl <| LX.pure (Y.fieldAddr0 Kc.fo59_0 rfl) rfl rfl rfl <| LX.pure (Y.ldB 0 Kc.one57 rfl rfl rfl) rfl rfl rfl <| LX.buildSlice (e := 5) (size := 1) rfl rfl (fun _ => by kernel_rfl) rfl (by decide) rfl rfl rfl ?_
    intro gt29
    refine LX.appendT 1 Ka.el57 rfl rfl rfl rfl rfl rfl rfl (by omega) (by omega) rfl rfl rfl ?_
    intro g1 c1
    rw [show List.length (α := UInt8) (bs) + 1 = List.length (α := UInt8) (bs ++ [66]) from by simp only [List.length_append, List.length_cons, List.length_nil] <;> omega]
    refine LX.world (W' := WA w0 base (blk kp [rv g (bs).length c, .int .i64 (L - 1)] 59 :: .row g1 c1 (bs ++ [66]).length 5 1 ((bs ++ [66]).map b8) :: [])) (fun w hw => by rw [List.map_append]; exact hw) <| LX.pure (Y.nilCheck rfl) rfl rfl rfl <| LX.pure (Y.fieldAddr0 Kc.fo59_0 rfl) rfl rfl rfl <| LX.storeB 0 Kc.sz57 rfl rfl rfl rfl rfl rfl rfl rfl <| LX.sub (l' := [(0, _), (6, _), (8, _)]) ⟨rfl, rfl, rfl, trivial⟩ <| LX.next <| PX.thenN <| CX.region <| LX.pure (Y.move rfl) rfl rfl rfl <| LX.pure (Y.move rfl) rfl rfl rfl <| LX.pure (Y.nilCheck rfl) rfl rfl rfl <| LX.pure (Y.fieldAddr0 Kc.fo59_0 rfl) rfl rfl rfl <| LX.pure (Y.ldB 0 Kc.one57 rfl rfl rfl) rfl rfl rfl <| LX.pure (Y.move rfl) rfl rfl rfl <| LX.world (W' := WA w0 base (.row g1 c1 (bs ++ [66]).length 5 1 ((bs ++ [66]).map b8) :: [blk kp [rv g1 (bs ++ [66]).length c1, .int .i64 (L - 1)] 59])) (fun w hw => hw.perm (List.Perm.swap _ _ _)) <| LX.call (apB_c b (bs := bs ++ [66]) (by simp only [List.length_append, List.length_cons, List.length_nil]; omega)) Kc.en51 rfl rfl rfl rfl rfl ?_
    rintro ⟨g2, c2⟩
    refine LX.world (W' := WA w0 base (blk kp [rv g1 (bs ++ [66]).length c1, .int .i64 (L - 1)] 59 :: .row g2 c2 (bs ++ [66] ++ tf b).length 5 1 ((bs ++ [66] ++ tf b).map b8) :: [])) (fun w hw => hw.perm (List.Perm.swap _ _ _)) <| LX.pure (Y.nilCheck rfl) rfl rfl rfl <| LX.pure (Y.fieldAddr0 Kc.fo59_0 rfl) rfl rfl rfl <| LX.storeB 0 Kc.sz57 rfl rfl rfl rfl rfl rfl rfl rfl <| LX.sub (l' := [(0, _), (6, _)]) ⟨rfl, rfl, trivial⟩ <| LX.next <| PX.blockN <| PX.thenN <| CX.seq <| CX.region <| LX.pure (Y.move rfl) rfl rfl rfl <| LX.pure (Y.move rfl) rfl rfl rfl <| LX.pure (Y.nilCheck rfl) rfl rfl rfl <| LX.pure (Y.fieldAddr0 Kc.fo59_0 rfl) rfl rfl rfl <| LX.pure (Y.ldB 0 Kc.one57 rfl rfl rfl) rfl rfl rfl <| LX.buildSlice (e := 5) (size := 1) rfl rfl (fun _ => by kernel_rfl) rfl (by decide) rfl rfl rfl ?_
    intro gt49
    refine LX.appendT 1 Ka.el57 rfl rfl rfl rfl rfl rfl rfl (by (simp only [List.length_append, List.length_cons, List.length_nil]; omega)) (by (simp only [List.length_append, List.length_cons, List.length_nil]; omega)) rfl rfl rfl ?_
    intro g3 c3
    rw [show List.length (α := UInt8) (bs ++ [66] ++ tf b) + 1 = List.length (α := UInt8) (bs ++ [66] ++ tf b ++ [59]) from by simp only [List.length_append, List.length_cons, List.length_nil] <;> omega]
    refine LX.world (W' := WA w0 base (blk kp [rv g2 (bs ++ [66] ++ tf b).length c2, .int .i64 (L - 1)] 59 :: .row g3 c3 (bs ++ [66] ++ tf b ++ [59]).length 5 1 ((bs ++ [66] ++ tf b ++ [59]).map b8) :: [])) (fun w hw => by rw [List.map_append]; exact hw) <| LX.pure (Y.nilCheck rfl) rfl rfl rfl <| LX.pure (Y.fieldAddr0 Kc.fo59_0 rfl) rfl rfl rfl <| LX.storeB 0 Kc.sz57 rfl rfl rfl rfl rfl rfl rfl rfl <| LX.sub (l' := [(6, _)]) ⟨rfl, trivial⟩ <| LX.next <| PX.thenN <| CX.seq <| CX.region <| LX.pure (Y.assign rfl) rfl rfl rfl <| LX.sub (l' := [(6, _)]) ⟨rfl, trivial⟩ <| LX.next <| PX.thenN <| CX.ret <| PX.ret1 (by simp) Tryz.results25 rfl ?_
    exact fun w hw => ⟨(none, (g3, c3), bs ++ [66] ++ tf b ++ [59], L - 1), rfl, (fun _ => by dsimp only; exact ⟨rfl, by simp [enc, tf], by simp [sz], by omega, by simp only [dp]; omega, by simp only [List.length_append, List.length_cons, List.length_nil]; omega⟩), hw⟩
  try simp at hb3
  done
end Go.Proofs.YtickdimknfeddaaGreatDoor

namespace Go.Proofs.YtickdimknfeddaaGreatDoor
open Go.SX Go.RowKit Go.Vo Go.Ky Go.Proofs.YtickdimknfeddaaGreatDoor.Env
namespace Kd
theorem ag43 : AggT Tryz.prog 43 2 := AggT.of (by kernel_rfl) (by kernel_rfl)
theorem ag74 : AggT Tryz.prog 74 2 := AggT.of (by kernel_rfl) (by kernel_rfl)
theorem en25 : Enters Tryz.prog 25 := Enters.of Tryz.func25 (by kernel_rfl) (by kernel_rfl)
theorem en52 : Enters Tryz.prog 52 := Enters.of Tryz.func52 (by kernel_rfl) (by kernel_rfl)
theorem en53 : Enters Tryz.prog 53 := Enters.of Tryz.func53 (by kernel_rfl) (by kernel_rfl)
theorem fo117_1 : FieldOff Tryz.prog 117 1 0 := fun b o w => by kernel_rfl
theorem fo74_1 : FieldOff Tryz.prog 74 1 0 := fun b o w => by kernel_rfl
theorem one26 : One Tryz.prog 26 := fun w => by kernel_rfl
theorem one96 : One Tryz.prog 96 := fun w => by kernel_rfl
theorem sz26 : SizeIs Tryz.prog 26 1 := fun w => by kernel_rfl
theorem un115 : Tryz.prog.underlying 115 = some (.pointer 117) := by kernel_rfl
theorem un28 : Tryz.prog.underlying 28 = some (.interface #[("Error", 113)]) := by kernel_rfl
theorem un74 : Tryz.prog.underlying 74 = some (.struct #[⟨"Mark", 72, 0, true, "", "", 0⟩, ⟨"n", 43, 0, false, "", "smithy/val", 0⟩]) := by kernel_rfl
theorem un78 : Tryz.prog.underlying 78 = some .string := by kernel_rfl
theorem un96 : Tryz.prog.underlying 96 = some (.slice 26) := by kernel_rfl
theorem zv115 : ∀ w, (zeroValue 115).run Tryz.prog w = .ok (.pointer none) w := fun w => by kernel_rfl
theorem zv74 : ∀ w, (zeroValue 74).run Tryz.prog w = .ok (.agg #[.bool false, .slice none 0 0]) w := fun w => by kernel_rfl
theorem zv78 : ∀ w, (zeroValue 78).run Tryz.prog w = .ok (.string ⟨#[]⟩) w := fun w => by kernel_rfl
theorem nif115 : NotIface Tryz.prog 115 := NotIface.of un115 (fun ms h => by cases h)
theorem nif74 : NotIface Tryz.prog 74 := NotIface.of un74 (fun ms h => by cases h)
theorem nif78 : NotIface Tryz.prog 78 := NotIface.of un78 (fun ms h => by cases h)
end Kd
theorem key_int {w0 : World} {base : Nat} {aE : Nat → Addr} (hS : EnvS w0 base aE) {kp : Nat} {g : Option Nat} {c : Nat} {bs : T} {L : Int} (sl : Nat) (hL : 0 ≤ L ∧ L ≤ 4096) (hb : (bs.length : Int) + sl ≤ 1000 * (4096 - L)) {dd : Nat} (hd : dd ≤ 60) {z : Int} {u : Value} (hu : NumM (Lies w0 base) z u) : FnC Tryz.prog 25 #[.pointer (some ⟨kp, 0, none⟩), .iface 74 u, .int .i64 ((dd : Nat) : Int)] (WA w0 base (blk kp [rv g (bs).length c, .int .i64 (L)] 59 :: .row g c (bs).length 5 1 ((bs).map b8) :: [])) (fun q : Option (TypeId × Value) × (Option Nat × Nat) × T × Int => eV q.1) (fun q w => (q.1 = none → Kn sl (.int z) dd bs L q.2.2.1 q.2.2.2) ∧ WA w0 base (blk kp [rv q.2.1.1 (q.2.2.1).length q.2.1.2, .int .i64 (q.2.2.2)] 59 :: .row q.2.1.1 q.2.1.2 (q.2.2.1).length 5 1 ((q.2.2.1).map b8) :: []) w) := by
  obtain ⟨⟨av, cz, e1, h1⟩, h80⟩ := id hu
  subst e1
  have hzl := itoa_len h80
  obtain ⟨i8, hinf, hz8, hs8, hb8⟩ := inf8
  refine FnC.of_body (fn := Tryz.f25) [(0, _), (1, _), (2, _)] Tryz.func25 rfl Tryz.ntmps25 rfl ⟨rfl, rfl, rfl, trivial⟩ ?_
  refine CX.seq <| CX.region <| LX.pure (Y.assign rfl) rfl rfl rfl <| LX.sub (l' := [(0, _), (1, _), (2, _), (6, _)]) ⟨rfl, rfl, rfl, rfl, trivial⟩ <| LX.next <| PX.thenN <| CX.seq <| CX.seq <| CX.region <| LX.pure (Y.move rfl) rfl rfl rfl <| LX.pure (Y.nilCheck rfl) rfl rfl rfl <| LX.pure (Y.fieldAddr0 Kc.fo59_1 rfl) rfl rfl rfl <| LX.pure (Y.ldB 0 Kc.one3 rfl rfl rfl) rfl rfl rfl <| LX.pure (Y.sub rfl rfl (by omega)) rfl rfl rfl <| LX.pure (Y.nilCheck rfl) rfl rfl rfl <| LX.pure (Y.fieldAddr0 Kc.fo59_1 rfl) rfl rfl rfl <| LX.storeB 0 Kc.sz3 rfl rfl rfl rfl rfl rfl rfl rfl <| LX.sub (l' := [(0, _), (1, _), (2, _), (6, _)]) ⟨rfl, rfl, rfl, rfl, trivial⟩ <| LX.next <| PX.thenN <| CX.seq <| CX.region <| LX.pure (Y.move rfl) rfl rfl rfl <| LX.pure (Y.nilCheck rfl) rfl rfl rfl <| LX.pure (Y.fieldAddr0 Kc.fo59_1 rfl) rfl rfl rfl <| LX.pure (Y.ldB 0 Kc.one3 rfl rfl rfl) rfl rfl rfl <| LX.pure (Y.ltI rfl rfl) rfl rfl rfl <| LX.sub (l' := [(0, _), (1, _), (2, _), (6, _), (27, _)]) ⟨rfl, rfl, rfl, rfl, rfl, trivial⟩ <| LX.next <| PX.thenN ?_
  refine CX.cond rfl (fun hb1 => ?_) (fun hb1 => ?_)
  · try simp at hb1
    refine CX.seq <| CX.region <| LX.pure (Y.ldO Kc.one28 rfl (hS.at_ 7 2 rfl) (hS.lt 2 (by decide))) rfl rfl rfl <| LX.pure (Y.assign rfl) rfl rfl rfl <| LX.sub (l' := [(0, _), (1, _), (2, _), (6, _)]) ⟨rfl, rfl, rfl, rfl, trivial⟩ <| LX.next <| PX.thenN <| CX.ret <| PX.thenR <| PX.ret1 (by simp) Tryz.results25 rfl ?_
    exact fun w hw => ⟨(some (247, .pointer (some (aE 7))), (g, c), bs, L - 1), rfl, (fun h => by cases h), hw⟩
  try simp at hb1
  refine CX.skip <| PX.thenN <| CX.seq <| CX.seq <| CX.region <| LX.pure (Y.move rfl) rfl rfl rfl <| LX.sub (l' := [(0, _), (2, _), (6, _), (29, _)]) ⟨rfl, rfl, rfl, rfl, trivial⟩ <| LX.next <| PX.thenN <| CX.block <| CX.seq <| CX.region <| LX.pure (Y.assertNo Kc.nif110 rfl (by decide) Kc.zv110) rfl rfl rfl <| LX.pure (Y.extract rfl rfl) rfl rfl rfl <| LX.pure (Y.extract rfl rfl) rfl rfl rfl <| LX.sub (l' := [(0, _), (2, _), (6, _), (29, _), (32, _), (33, _)]) ⟨rfl, rfl, rfl, rfl, rfl, rfl, trivial⟩ <| LX.next <| PX.thenN ?_
  refine CX.cond rfl (fun hb2 => ?_) (fun hb2 => ?_)
  · try simp at hb2
    done
  try simp at hb2
  refine CX.seq <| CX.region <| LX.pure (Y.assertNo Kc.nif111 rfl (by decide) Kc.zv111) rfl rfl rfl <| LX.pure (Y.extract rfl rfl) rfl rfl rfl <| LX.pure (Y.extract rfl rfl) rfl rfl rfl <| LX.sub (l' := [(0, _), (2, _), (6, _), (29, _), (44, _), (45, _)]) ⟨rfl, rfl, rfl, rfl, rfl, rfl, trivial⟩ <| LX.next <| PX.thenN ?_
  refine CX.cond rfl (fun hb3 => ?_) (fun hb3 => ?_)
  · try simp at hb3
    done
  try simp at hb3
  refine CX.seq <| CX.region <| LX.pure (Y.assertYes Kd.nif74 rfl) rfl rfl rfl <| LX.pure (Y.extract rfl rfl) rfl rfl rfl <| LX.pure (Y.extract rfl rfl) rfl rfl rfl <| LX.sub (l' := [(0, _), (2, _), (6, _), (29, _), (65, _), (66, _)]) ⟨rfl, rfl, rfl, rfl, rfl, rfl, trivial⟩ <| LX.next <| PX.thenN ?_
  refine CX.cond rfl (fun hb4 => ?_) (fun hb4 => ?_)
  · try simp at hb4
    refine CX.seq <| CX.region <| LX.alloc rfl Kd.zv74 rfl rfl rfl ?_
    intro bx0
    refine LX.storeA 0 Kd.ag74 rfl rfl rfl rfl rfl rfl rfl rfl rfl <| LX.sub (l' := [(0, _), (6, _), (9, _)]) ⟨rfl, rfl, rfl, trivial⟩ <| LX.next <| PX.thenN <| CX.seq <| CX.region <| LX.pure (Y.move rfl) rfl rfl rfl <| LX.pure (Y.move rfl) rfl rfl rfl <| LX.pure (Y.nilCheck rfl) rfl rfl rfl <| LX.pure (Y.fieldAddr0 Kc.fo59_0 rfl) rfl rfl rfl <| LX.pure (Y.ldB 1 Kc.one57 rfl rfl rfl) rfl rfl rfl <| LX.buildSlice (e := 5) (size := 1) rfl rfl (fun _ => by kernel_rfl) rfl (by decide) rfl rfl rfl ?_
    intro gt33
    refine LX.appendT 2 Ka.el57 rfl rfl rfl rfl rfl rfl rfl (by omega) (by omega) rfl rfl rfl ?_
    intro g1 c1
    rw [show List.length (α := UInt8) (bs) + 1 = List.length (α := UInt8) (bs ++ [73]) from by simp only [List.length_append, List.length_cons, List.length_nil] <;> omega]
    refine LX.world (W' := WA w0 base (blk bx0 [.bool (decide (z < 0)), .slice av (digs z.natAbs).length ((digs z.natAbs).length + cz)] 74 :: blk kp [rv g (bs).length c, .int .i64 (L - 1)] 59 :: .row g1 c1 (bs ++ [73]).length 5 1 ((bs ++ [73]).map b8) :: [])) (fun w hw => by rw [List.map_append]; exact hw) <| LX.pure (Y.nilCheck rfl) rfl rfl rfl <| LX.pure (Y.fieldAddr0 Kc.fo59_0 rfl) rfl rfl rfl <| LX.storeB 1 Kc.sz57 rfl rfl rfl rfl rfl rfl rfl rfl <| LX.sub (l' := [(0, _), (6, _), (9, _)]) ⟨rfl, rfl, rfl, trivial⟩ <| LX.next <| PX.thenN <| CX.regionM [(0, .anywhere), (1, .anywhere), (2, .anywhere), (3, .anywhere), (4, .held), (5, .anywhere), (6, .held), (7, .alone), (8, .alone), (9, .anywhere), (10, .anywhere), (11, .alone)] rfl (by kernel_rfl) <| MX.lift0 (i := 0) rfl (Y.move rfl) rfl rfl rfl <| MX.lift0 (i := 1) rfl (Y.move rfl) rfl rfl rfl <| MX.lift0 (i := 2) rfl (Y.nilCheck rfl) rfl rfl rfl <| MX.lift0 (i := 3) rfl (Y.fieldAddr0 Kc.fo59_0 rfl) rfl rfl rfl <| MX.lift1 (i := 4) (pend' := []) rfl (fun w hw => by exact hw) (Y.ldB 1 Kc.one57 rfl rfl rfl) rfl rfl rfl (by kernel_rfl) <| MX.lift0 (i := 5) rfl (Y.fieldAddr0 Kd.fo74_1 rfl) rfl rfl rfl <| MX.lift1 (i := 6) (pend' := [4]) rfl (fun w hw => by exact hw) (Y.ldAggB (vs := [.bool (decide (z < 0)), .slice av (digs z.natAbs).length ((digs z.natAbs).length + cz)]) 0 Kd.ag43 rfl rfl rfl rfl) rfl rfl rfl (by kernel_rfl) <| MX.force (i := 7) rfl <| LX.call (text_c hu) Kd.en52 rfl rfl rfl rfl rfl ?_
    intro _
    refine LX.nextM [4] (by kernel_rfl) (fun _ => (fun w hw => by exact hw)) <| MX.force (i := 8) rfl <| LX.appendS 2 Ka.un57 Ka.un9 hinf hz8 hs8 hb8 rfl rfl rfl rfl rfl (by simp only [List.length_append, List.length_cons, List.length_nil]; omega) rfl rfl rfl ?_
    intro g2 c2
    rw [show List.length (α := UInt8) (bs ++ [73]) + List.length (α := UInt8) (Go.Lib.itoa z) = List.length (α := UInt8) (bs ++ [73] ++ Go.Lib.itoa z) from List.length_append.symm]
    refine LX.world (W' := WA w0 base (blk bx0 [.bool (decide (z < 0)), .slice av (digs z.natAbs).length ((digs z.natAbs).length + cz)] 74 :: blk kp [rv g1 (bs ++ [73]).length c1, .int .i64 (L - 1)] 59 :: .row g2 c2 (bs ++ [73] ++ Go.Lib.itoa z).length 5 1 ((bs ++ [73] ++ Go.Lib.itoa z).map b8) :: [])) (fun w hw => by rw [List.map_append]; exact hw) <| LX.nextM [] (by kernel_rfl) (fun h => absurd rfl h) <| MX.lift0 (i := 9) rfl (Y.nilCheck rfl) rfl rfl rfl <| MX.lift0 (i := 10) rfl (Y.fieldAddr0 Kc.fo59_0 rfl) rfl rfl rfl <| MX.force (i := 11) rfl <| LX.storeB 1 Kc.sz57 rfl rfl rfl rfl rfl rfl rfl rfl <| LX.nextM [] (by kernel_rfl) (fun h => absurd rfl h) <| MX.sub (l' := [(0, _), (6, _)]) ⟨rfl, rfl, trivial⟩ <| MX.done <| PX.blockN <| PX.thenN <| CX.seq <| CX.region <| LX.pure (Y.move rfl) rfl rfl rfl <| LX.pure (Y.move rfl) rfl rfl rfl <| LX.pure (Y.nilCheck rfl) rfl rfl rfl <| LX.pure (Y.fieldAddr0 Kc.fo59_0 rfl) rfl rfl rfl <| LX.pure (Y.ldB 1 Kc.one57 rfl rfl rfl) rfl rfl rfl <| LX.buildSlice (e := 5) (size := 1) rfl rfl (fun _ => by kernel_rfl) rfl (by decide) rfl rfl rfl ?_
    intro gt55
    refine LX.appendT 2 Ka.el57 rfl rfl rfl rfl rfl rfl rfl (by (simp only [List.length_append, List.length_cons, List.length_nil]; omega)) (by (simp only [List.length_append, List.length_cons, List.length_nil]; omega)) rfl rfl rfl ?_
    intro g3 c3
    rw [show List.length (α := UInt8) (bs ++ [73] ++ Go.Lib.itoa z) + 1 = List.length (α := UInt8) (bs ++ [73] ++ Go.Lib.itoa z ++ [59]) from by simp only [List.length_append, List.length_cons, List.length_nil] <;> omega]
    refine LX.world (W' := WA w0 base (blk bx0 [.bool (decide (z < 0)), .slice av (digs z.natAbs).length ((digs z.natAbs).length + cz)] 74 :: blk kp [rv g2 (bs ++ [73] ++ Go.Lib.itoa z).length c2, .int .i64 (L - 1)] 59 :: .row g3 c3 (bs ++ [73] ++ Go.Lib.itoa z ++ [59]).length 5 1 ((bs ++ [73] ++ Go.Lib.itoa z ++ [59]).map b8) :: [])) (fun w hw => by rw [List.map_append]; exact hw) <| LX.pure (Y.nilCheck rfl) rfl rfl rfl <| LX.pure (Y.fieldAddr0 Kc.fo59_0 rfl) rfl rfl rfl <| LX.storeB 1 Kc.sz57 rfl rfl rfl rfl rfl rfl rfl rfl <| LX.sub (l' := [(6, _)]) ⟨rfl, trivial⟩ <| LX.next <| PX.thenN <| CX.seq <| CX.region <| LX.pure (Y.assign rfl) rfl rfl rfl <| LX.sub (l' := [(6, _)]) ⟨rfl, trivial⟩ <| LX.next <| PX.thenN <| CX.ret <| PX.ret1 (by simp) Tryz.results25 rfl ?_
    exact fun w hw => ⟨(none, (g3, c3), bs ++ [73] ++ Go.Lib.itoa z ++ [59], L - 1), rfl, (fun _ => by dsimp only; exact ⟨rfl, by simp [enc, tf], by simp [sz], by omega, by simp only [dp]; omega, by simp only [List.length_append, List.length_cons, List.length_nil]; omega⟩), hw.drop (List.Sublist.cons _ (List.Sublist.refl _))⟩
  try simp at hb4
  done
theorem key_str {w0 : World} {base : Nat} {aE : Nat → Addr} (hS : EnvS w0 base aE) {kp : Nat} {g : Option Nat} {c : Nat} {bs : T} {L : Int} (sl : Nat) (hL : 0 ≤ L ∧ L ≤ 4096) (hb : (bs.length : Int) + sl ≤ 1000 * (4096 - L)) {dd : Nat} (hd : dd ≤ 60) (hT : Go.Lib.TabBelow Tryz.prog base w0 "internal/strconv.uint64pow10" .u64 Go.Lib.pow10Tab) {s : T} (hs : s.length ≤ 300) : FnC Tryz.prog 25 #[.pointer (some ⟨kp, 0, none⟩), .iface 78 (str s), .int .i64 ((dd : Nat) : Int)] (WA w0 base (blk kp [rv g (bs).length c, .int .i64 (L)] 59 :: .row g c (bs).length 5 1 ((bs).map b8) :: [])) (fun q : Option (TypeId × Value) × (Option Nat × Nat) × T × Int => eV q.1) (fun q w => (q.1 = none → Kn sl (.str s) dd bs L q.2.2.1 q.2.2.2) ∧ WA w0 base (blk kp [rv q.2.1.1 (q.2.2.1).length q.2.1.2, .int .i64 (q.2.2.2)] 59 :: .row q.2.1.1 q.2.1.2 (q.2.2.1).length 5 1 ((q.2.2.1).map b8) :: []) w) := by
  have hzl := Go.Lib.itoa_length_le (s.length : Int) (by omega) (by omega)
  obtain ⟨i8, hinf, hz8, hs8, hb8⟩ := inf8
  refine FnC.of_body (fn := Tryz.f25) [(0, _), (1, _), (2, _)] Tryz.func25 rfl Tryz.ntmps25 rfl ⟨rfl, rfl, rfl, trivial⟩ ?_
  refine CX.seq <| CX.region <| LX.pure (Y.assign rfl) rfl rfl rfl <| LX.sub (l' := [(0, _), (1, _), (2, _), (6, _)]) ⟨rfl, rfl, rfl, rfl, trivial⟩ <| LX.next <| PX.thenN <| CX.seq <| CX.seq <| CX.region <| LX.pure (Y.move rfl) rfl rfl rfl <| LX.pure (Y.nilCheck rfl) rfl rfl rfl <| LX.pure (Y.fieldAddr0 Kc.fo59_1 rfl) rfl rfl rfl <| LX.pure (Y.ldB 0 Kc.one3 rfl rfl rfl) rfl rfl rfl <| LX.pure (Y.sub rfl rfl (by omega)) rfl rfl rfl <| LX.pure (Y.nilCheck rfl) rfl rfl rfl <| LX.pure (Y.fieldAddr0 Kc.fo59_1 rfl) rfl rfl rfl <| LX.storeB 0 Kc.sz3 rfl rfl rfl rfl rfl rfl rfl rfl <| LX.sub (l' := [(0, _), (1, _), (2, _), (6, _)]) ⟨rfl, rfl, rfl, rfl, trivial⟩ <| LX.next <| PX.thenN <| CX.seq <| CX.region <| LX.pure (Y.move rfl) rfl rfl rfl <| LX.pure (Y.nilCheck rfl) rfl rfl rfl <| LX.pure (Y.fieldAddr0 Kc.fo59_1 rfl) rfl rfl rfl <| LX.pure (Y.ldB 0 Kc.one3 rfl rfl rfl) rfl rfl rfl <| LX.pure (Y.ltI rfl rfl) rfl rfl rfl <| LX.sub (l' := [(0, _), (1, _), (2, _), (6, _), (27, _)]) ⟨rfl, rfl, rfl, rfl, rfl, trivial⟩ <| LX.next <| PX.thenN ?_
  refine CX.cond rfl (fun hb1 => ?_) (fun hb1 => ?_)
  · try simp at hb1
    refine CX.seq <| CX.region <| LX.pure (Y.ldO Kc.one28 rfl (hS.at_ 7 2 rfl) (hS.lt 2 (by decide))) rfl rfl rfl <| LX.pure (Y.assign rfl) rfl rfl rfl <| LX.sub (l' := [(0, _), (1, _), (2, _), (6, _)]) ⟨rfl, rfl, rfl, rfl, trivial⟩ <| LX.next <| PX.thenN <| CX.ret <| PX.thenR <| PX.ret1 (by simp) Tryz.results25 rfl ?_
    exact fun w hw => ⟨(some (247, .pointer (some (aE 7))), (g, c), bs, L - 1), rfl, (fun h => by cases h), hw⟩
  try simp at hb1
  refine CX.skip <| PX.thenN <| CX.seq <| CX.seq <| CX.region <| LX.pure (Y.move rfl) rfl rfl rfl <| LX.sub (l' := [(0, _), (2, _), (6, _), (29, _)]) ⟨rfl, rfl, rfl, rfl, trivial⟩ <| LX.next <| PX.thenN <| CX.block <| CX.seq <| CX.region <| LX.pure (Y.assertNo Kc.nif110 rfl (by decide) Kc.zv110) rfl rfl rfl <| LX.pure (Y.extract rfl rfl) rfl rfl rfl <| LX.pure (Y.extract rfl rfl) rfl rfl rfl <| LX.sub (l' := [(0, _), (2, _), (6, _), (29, _), (32, _), (33, _)]) ⟨rfl, rfl, rfl, rfl, rfl, rfl, trivial⟩ <| LX.next <| PX.thenN ?_
  refine CX.cond rfl (fun hb2 => ?_) (fun hb2 => ?_)
  · try simp at hb2
    done
  try simp at hb2
  refine CX.seq <| CX.region <| LX.pure (Y.assertNo Kc.nif111 rfl (by decide) Kc.zv111) rfl rfl rfl <| LX.pure (Y.extract rfl rfl) rfl rfl rfl <| LX.pure (Y.extract rfl rfl) rfl rfl rfl <| LX.sub (l' := [(0, _), (2, _), (6, _), (29, _), (44, _), (45, _)]) ⟨rfl, rfl, rfl, rfl, rfl, rfl, trivial⟩ <| LX.next <| PX.thenN ?_
  refine CX.cond rfl (fun hb3 => ?_) (fun hb3 => ?_)
  · try simp at hb3
    done
  try simp at hb3
  refine CX.seq <| CX.region <| LX.pure (Y.assertNo Kd.nif74 rfl (by decide) Kd.zv74) rfl rfl rfl <| LX.pure (Y.extract rfl rfl) rfl rfl rfl <| LX.pure (Y.extract rfl rfl) rfl rfl rfl <| LX.sub (l' := [(0, _), (2, _), (6, _), (29, _), (65, _), (66, _)]) ⟨rfl, rfl, rfl, rfl, rfl, rfl, trivial⟩ <| LX.next <| PX.thenN ?_
  refine CX.cond rfl (fun hb4 => ?_) (fun hb4 => ?_)
  · try simp at hb4
    done
  try simp at hb4
  refine CX.seq <| CX.region <| LX.pure (Y.assertYes Kd.nif78 rfl) rfl rfl rfl <| LX.pure (Y.extract rfl rfl) rfl rfl rfl <| LX.pure (Y.extract rfl rfl) rfl rfl rfl <| LX.sub (l' := [(0, _), (2, _), (6, _), (29, _), (88, _), (89, _)]) ⟨rfl, rfl, rfl, rfl, rfl, rfl, trivial⟩ <| LX.next <| PX.thenN ?_
  refine CX.cond rfl (fun hb5 => ?_) (fun hb5 => ?_)
  · try simp at hb5
    refine CX.seq <| CX.region <| LX.pure (Y.assign rfl) rfl rfl rfl <| LX.sub (l' := [(0, _), (6, _), (10, _)]) ⟨rfl, rfl, rfl, trivial⟩ <| LX.next <| PX.thenN <| CX.seq <| CX.region <| LX.pure (Y.move rfl) rfl rfl rfl <| LX.pure (Y.move rfl) rfl rfl rfl <| LX.pure (Y.nilCheck rfl) rfl rfl rfl <| LX.pure (Y.fieldAddr0 Kc.fo59_0 rfl) rfl rfl rfl <| LX.pure (Y.ldB 0 Kc.one57 rfl rfl rfl) rfl rfl rfl <| LX.buildSlice (e := 5) (size := 1) rfl rfl (fun _ => by kernel_rfl) rfl (by decide) rfl rfl rfl ?_
    intro gt35
    refine LX.appendT 1 Ka.el57 rfl rfl rfl rfl rfl rfl rfl (by omega) (by omega) rfl rfl rfl ?_
    intro g1 c1
    rw [show List.length (α := UInt8) (bs) + 1 = List.length (α := UInt8) (bs ++ [83]) from by simp only [List.length_append, List.length_cons, List.length_nil] <;> omega]
    refine LX.world (W' := WA w0 base (blk kp [rv g (bs).length c, .int .i64 (L - 1)] 59 :: .row g1 c1 (bs ++ [83]).length 5 1 ((bs ++ [83]).map b8) :: [])) (fun w hw => by rw [List.map_append]; exact hw) <| LX.pure (Y.nilCheck rfl) rfl rfl rfl <| LX.pure (Y.fieldAddr0 Kc.fo59_0 rfl) rfl rfl rfl <| LX.storeB 0 Kc.sz57 rfl rfl rfl rfl rfl rfl rfl rfl <| LX.sub (l' := [(0, _), (6, _), (10, _)]) ⟨rfl, rfl, rfl, trivial⟩ <| LX.next <| PX.thenN <| CX.seq <| CX.region <| LX.pure (Y.move rfl) rfl rfl rfl <| LX.pure (Y.move rfl) rfl rfl rfl <| LX.pure (Y.nilCheck rfl) rfl rfl rfl <| LX.pure (Y.fieldAddr0 Kc.fo59_0 rfl) rfl rfl rfl <| LX.pure (Y.ldB 0 Kc.one57 rfl rfl rfl) rfl rfl rfl <| LX.pure (Y.move rfl) rfl rfl rfl <| LX.pure (Y.lenStr rfl Kd.un78 rfl) rfl rfl rfl <| LX.call (appInt_c (bs := bs ++ [83]) hT hs (by simp only [List.length_append, List.length_cons, List.length_nil]; omega)) Kd.en53 rfl rfl rfl rfl rfl ?_
    rintro ⟨g2, c2⟩
    refine LX.pure (Y.nilCheck rfl) rfl rfl rfl <| LX.pure (Y.fieldAddr0 Kc.fo59_0 rfl) rfl rfl rfl <| LX.storeB 0 Kc.sz57 rfl rfl rfl rfl rfl rfl rfl rfl <| LX.sub (l' := [(0, _), (6, _), (10, _)]) ⟨rfl, rfl, rfl, trivial⟩ <| LX.next <| PX.thenN <| CX.seq <| CX.region <| LX.pure (Y.move rfl) rfl rfl rfl <| LX.pure (Y.move rfl) rfl rfl rfl <| LX.pure (Y.nilCheck rfl) rfl rfl rfl <| LX.pure (Y.fieldAddr0 Kc.fo59_0 rfl) rfl rfl rfl <| LX.pure (Y.ldB 0 Kc.one57 rfl rfl rfl) rfl rfl rfl <| LX.buildSlice (e := 5) (size := 1) rfl rfl (fun _ => by kernel_rfl) rfl (by decide) rfl rfl rfl ?_
    intro gt56
    refine LX.appendT 1 Ka.el57 rfl rfl rfl rfl rfl rfl rfl (by (simp only [List.length_append, List.length_cons, List.length_nil]; omega)) (by (simp only [List.length_append, List.length_cons, List.length_nil]; omega)) rfl rfl rfl ?_
    intro g3 c3
    rw [show List.length (α := UInt8) (bs ++ [83] ++ Go.Lib.itoa (s.length : Int)) + 1 = List.length (α := UInt8) (bs ++ [83] ++ Go.Lib.itoa (s.length : Int) ++ [58]) from by simp only [List.length_append, List.length_cons, List.length_nil] <;> omega]
    refine LX.world (W' := WA w0 base (blk kp [rv g2 (bs ++ [83] ++ Go.Lib.itoa (s.length : Int)).length c2, .int .i64 (L - 1)] 59 :: .row g3 c3 (bs ++ [83] ++ Go.Lib.itoa (s.length : Int) ++ [58]).length 5 1 ((bs ++ [83] ++ Go.Lib.itoa (s.length : Int) ++ [58]).map b8) :: [])) (fun w hw => by rw [List.map_append]; exact hw) <| LX.pure (Y.nilCheck rfl) rfl rfl rfl <| LX.pure (Y.fieldAddr0 Kc.fo59_0 rfl) rfl rfl rfl <| LX.storeB 0 Kc.sz57 rfl rfl rfl rfl rfl rfl rfl rfl <| LX.sub (l' := [(0, _), (6, _), (10, _)]) ⟨rfl, rfl, rfl, trivial⟩ <| LX.next <| PX.thenN <| CX.region <| LX.pure (Y.move rfl) rfl rfl rfl <| LX.pure (Y.move rfl) rfl rfl rfl <| LX.pure (Y.nilCheck rfl) rfl rfl rfl <| LX.pure (Y.fieldAddr0 Kc.fo59_0 rfl) rfl rfl rfl <| LX.pure (Y.ldB 0 Kc.one57 rfl rfl rfl) rfl rfl rfl <| LX.pure (Y.move rfl) rfl rfl rfl <| LX.appendS 1 Ka.un57 Kd.un78 hinf hz8 hs8 hb8 rfl rfl rfl rfl rfl (by simp only [List.length_append, List.length_cons, List.length_nil]; omega) rfl rfl rfl ?_
    intro g4 c4
    rw [show List.length (α := UInt8) (bs ++ [83] ++ Go.Lib.itoa (s.length : Int) ++ [58]) + List.length (α := UInt8) (s) = List.length (α := UInt8) (bs ++ [83] ++ Go.Lib.itoa (s.length : Int) ++ [58] ++ s) from List.length_append.symm]
    refine LX.world (W' := WA w0 base (blk kp [rv g3 (bs ++ [83] ++ Go.Lib.itoa (s.length : Int) ++ [58]).length c3, .int .i64 (L - 1)] 59 :: .row g4 c4 (bs ++ [83] ++ Go.Lib.itoa (s.length : Int) ++ [58] ++ s).length 5 1 ((bs ++ [83] ++ Go.Lib.itoa (s.length : Int) ++ [58] ++ s).map b8) :: [])) (fun w hw => by rw [List.map_append]; exact hw) <| LX.pure (Y.nilCheck rfl) rfl rfl rfl <| LX.pure (Y.fieldAddr0 Kc.fo59_0 rfl) rfl rfl rfl <| LX.storeB 0 Kc.sz57 rfl rfl rfl rfl rfl rfl rfl rfl <| LX.sub (l' := [(0, _), (6, _)]) ⟨rfl, rfl, trivial⟩ <| LX.next <| PX.blockN <| PX.thenN <| CX.seq <| CX.region <| LX.pure (Y.move rfl) rfl rfl rfl <| LX.pure (Y.move rfl) rfl rfl rfl <| LX.pure (Y.nilCheck rfl) rfl rfl rfl <| LX.pure (Y.fieldAddr0 Kc.fo59_0 rfl) rfl rfl rfl <| LX.pure (Y.ldB 0 Kc.one57 rfl rfl rfl) rfl rfl rfl <| LX.buildSlice (e := 5) (size := 1) rfl rfl (fun _ => by kernel_rfl) rfl (by decide) rfl rfl rfl ?_
    intro gt76
    refine LX.appendT 1 Ka.el57 rfl rfl rfl rfl rfl rfl rfl (by (simp only [List.length_append, List.length_cons, List.length_nil]; omega)) (by (simp only [List.length_append, List.length_cons, List.length_nil]; omega)) rfl rfl rfl ?_
    intro g5 c5
    rw [show List.length (α := UInt8) (bs ++ [83] ++ Go.Lib.itoa (s.length : Int) ++ [58] ++ s) + 1 = List.length (α := UInt8) (bs ++ [83] ++ Go.Lib.itoa (s.length : Int) ++ [58] ++ s ++ [59]) from by simp only [List.length_append, List.length_cons, List.length_nil] <;> omega]
    refine LX.world (W' := WA w0 base (blk kp [rv g4 (bs ++ [83] ++ Go.Lib.itoa (s.length : Int) ++ [58] ++ s).length c4, .int .i64 (L - 1)] 59 :: .row g5 c5 (bs ++ [83] ++ Go.Lib.itoa (s.length : Int) ++ [58] ++ s ++ [59]).length 5 1 ((bs ++ [83] ++ Go.Lib.itoa (s.length : Int) ++ [58] ++ s ++ [59]).map b8) :: [])) (fun w hw => by rw [List.map_append]; exact hw) <| LX.pure (Y.nilCheck rfl) rfl rfl rfl <| LX.pure (Y.fieldAddr0 Kc.fo59_0 rfl) rfl rfl rfl <| LX.storeB 0 Kc.sz57 rfl rfl rfl rfl rfl rfl rfl rfl <| LX.sub (l' := [(6, _)]) ⟨rfl, trivial⟩ <| LX.next <| PX.thenN <| CX.seq <| CX.region <| LX.pure (Y.assign rfl) rfl rfl rfl <| LX.sub (l' := [(6, _)]) ⟨rfl, trivial⟩ <| LX.next <| PX.thenN <| CX.ret <| PX.ret1 (by simp) Tryz.results25 rfl ?_
    exact fun w hw => ⟨(none, (g5, c5), bs ++ [83] ++ Go.Lib.itoa (s.length : Int) ++ [58] ++ s ++ [59], L - 1), rfl, (fun _ => by dsimp only; exact ⟨rfl, by simp [enc, tf], by simp [sz], by omega, by simp only [dp]; omega, by simp only [List.length_append, List.length_cons, List.length_nil]; omega⟩), hw⟩
  try simp at hb5
  done
theorem key_list {w0 : World} {base : Nat} {aE : Nat → Addr} (hS : EnvS w0 base aE) {kp : Nat} {g : Option Nat} {c : Nat} {bs : T} {L : Int} (sl : Nat) (hL : 0 ≤ L ∧ L ≤ 4096) (hb : (bs.length : Int) + sl ≤ 1000 * (4096 - L)) {dd : Nat} (hd : dd ≤ 60) (t : Tr) (pv : Value) : FnC Tryz.prog 25 #[.pointer (some ⟨kp, 0, none⟩), .iface 104 pv, .int .i64 ((dd : Nat) : Int)] (WA w0 base (blk kp [rv g (bs).length c, .int .i64 (L)] 59 :: .row g c (bs).length 5 1 ((bs).map b8) :: [])) (fun q : Option (TypeId × Value) × (Option Nat × Nat) × T × Int => eV q.1) (fun q w => (q.1 = none → Kn sl t dd bs L q.2.2.1 q.2.2.2) ∧ WA w0 base (blk kp [rv q.2.1.1 (q.2.2.1).length q.2.1.2, .int .i64 (q.2.2.2)] 59 :: .row q.2.1.1 q.2.1.2 (q.2.2.1).length 5 1 ((q.2.2.1).map b8) :: []) w) := by
  refine FnC.of_body (fn := Tryz.f25) [(0, _), (1, _), (2, _)] Tryz.func25 rfl Tryz.ntmps25 rfl ⟨rfl, rfl, rfl, trivial⟩ ?_
  refine CX.seq <| CX.region <| LX.pure (Y.assign rfl) rfl rfl rfl <| LX.sub (l' := [(0, _), (1, _), (2, _), (6, _)]) ⟨rfl, rfl, rfl, rfl, trivial⟩ <| LX.next <| PX.thenN <| CX.seq <| CX.seq <| CX.region <| LX.pure (Y.move rfl) rfl rfl rfl <| LX.pure (Y.nilCheck rfl) rfl rfl rfl <| LX.pure (Y.fieldAddr0 Kc.fo59_1 rfl) rfl rfl rfl <| LX.pure (Y.ldB 0 Kc.one3 rfl rfl rfl) rfl rfl rfl <| LX.pure (Y.sub rfl rfl (by omega)) rfl rfl rfl <| LX.pure (Y.nilCheck rfl) rfl rfl rfl <| LX.pure (Y.fieldAddr0 Kc.fo59_1 rfl) rfl rfl rfl <| LX.storeB 0 Kc.sz3 rfl rfl rfl rfl rfl rfl rfl rfl <| LX.sub (l' := [(0, _), (1, _), (2, _), (6, _)]) ⟨rfl, rfl, rfl, rfl, trivial⟩ <| LX.next <| PX.thenN <| CX.seq <| CX.region <| LX.pure (Y.move rfl) rfl rfl rfl <| LX.pure (Y.nilCheck rfl) rfl rfl rfl <| LX.pure (Y.fieldAddr0 Kc.fo59_1 rfl) rfl rfl rfl <| LX.pure (Y.ldB 0 Kc.one3 rfl rfl rfl) rfl rfl rfl <| LX.pure (Y.ltI rfl rfl) rfl rfl rfl <| LX.sub (l' := [(0, _), (1, _), (2, _), (6, _), (27, _)]) ⟨rfl, rfl, rfl, rfl, rfl, trivial⟩ <| LX.next <| PX.thenN ?_
  refine CX.cond rfl (fun hb1 => ?_) (fun hb1 => ?_)
  · try simp at hb1
    refine CX.seq <| CX.region <| LX.pure (Y.ldO Kc.one28 rfl (hS.at_ 7 2 rfl) (hS.lt 2 (by decide))) rfl rfl rfl <| LX.pure (Y.assign rfl) rfl rfl rfl <| LX.sub (l' := [(0, _), (1, _), (2, _), (6, _)]) ⟨rfl, rfl, rfl, rfl, trivial⟩ <| LX.next <| PX.thenN <| CX.ret <| PX.thenR <| PX.ret1 (by simp) Tryz.results25 rfl ?_
    exact fun w hw => ⟨(some (247, .pointer (some (aE 7))), (g, c), bs, L - 1), rfl, (fun h => by cases h), hw⟩
  try simp at hb1
  refine CX.skip <| PX.thenN <| CX.seq <| CX.seq <| CX.region <| LX.pure (Y.move rfl) rfl rfl rfl <| LX.sub (l' := [(0, _), (2, _), (6, _), (29, _)]) ⟨rfl, rfl, rfl, rfl, trivial⟩ <| LX.next <| PX.thenN <| CX.block <| CX.seq <| CX.region <| LX.pure (Y.assertNo Kc.nif110 rfl (by decide) Kc.zv110) rfl rfl rfl <| LX.pure (Y.extract rfl rfl) rfl rfl rfl <| LX.pure (Y.extract rfl rfl) rfl rfl rfl <| LX.sub (l' := [(0, _), (2, _), (6, _), (29, _), (32, _), (33, _)]) ⟨rfl, rfl, rfl, rfl, rfl, rfl, trivial⟩ <| LX.next <| PX.thenN ?_
  refine CX.cond rfl (fun hb2 => ?_) (fun hb2 => ?_)
  · try simp at hb2
    done
  try simp at hb2
  refine CX.seq <| CX.region <| LX.pure (Y.assertNo Kc.nif111 rfl (by decide) Kc.zv111) rfl rfl rfl <| LX.pure (Y.extract rfl rfl) rfl rfl rfl <| LX.pure (Y.extract rfl rfl) rfl rfl rfl <| LX.sub (l' := [(0, _), (2, _), (6, _), (29, _), (44, _), (45, _)]) ⟨rfl, rfl, rfl, rfl, rfl, rfl, trivial⟩ <| LX.next <| PX.thenN ?_
  refine CX.cond rfl (fun hb3 => ?_) (fun hb3 => ?_)
  · try simp at hb3
    done
  try simp at hb3
  refine CX.seq <| CX.region <| LX.pure (Y.assertNo Kd.nif74 rfl (by decide) Kd.zv74) rfl rfl rfl <| LX.pure (Y.extract rfl rfl) rfl rfl rfl <| LX.pure (Y.extract rfl rfl) rfl rfl rfl <| LX.sub (l' := [(0, _), (2, _), (6, _), (29, _), (65, _), (66, _)]) ⟨rfl, rfl, rfl, rfl, rfl, rfl, trivial⟩ <| LX.next <| PX.thenN ?_
  refine CX.cond rfl (fun hb4 => ?_) (fun hb4 => ?_)
  · try simp at hb4
    done
  try simp at hb4
  refine CX.seq <| CX.region <| LX.pure (Y.assertNo Kd.nif78 rfl (by decide) Kd.zv78) rfl rfl rfl <| LX.pure (Y.extract rfl rfl) rfl rfl rfl <| LX.pure (Y.extract rfl rfl) rfl rfl rfl <| LX.sub (l' := [(0, _), (2, _), (6, _), (29, _), (88, _), (89, _)]) ⟨rfl, rfl, rfl, rfl, rfl, rfl, trivial⟩ <| LX.next <| PX.thenN ?_
  refine CX.cond rfl (fun hb5 => ?_) (fun hb5 => ?_)
  · try simp at hb5
    done
  try simp at hb5
  refine CX.seq <| CX.region <| LX.pure (Y.assertNo Kd.nif115 rfl (by decide) Kd.zv115) rfl rfl rfl <| LX.pure (Y.extract rfl rfl) rfl rfl rfl <| LX.pure (Y.extract rfl rfl) rfl rfl rfl <| LX.sub (l' := [(0, _), (2, _), (6, _), (29, _), (128, _), (129, _)]) ⟨rfl, rfl, rfl, rfl, rfl, rfl, trivial⟩ <| LX.next <| PX.thenN ?_
  refine CX.cond rfl (fun hb6 => ?_) (fun hb6 => ?_)
  · try simp at hb6
    done
  try simp at hb6
  refine CX.seq <| CX.region <| LX.pure (Y.assign rfl) rfl rfl rfl <| LX.sub (l' := [(0, _), (6, _)]) ⟨rfl, rfl, trivial⟩ <| LX.next <| PX.thenN <| CX.seq <| CX.region <| LX.pure (Y.ldO Kc.one28 rfl (hS.at_ 3 3 rfl) (hS.lt 3 (by decide))) rfl rfl rfl <| LX.pure (Y.assign rfl) rfl rfl rfl <| LX.sub (l' := [(0, _), (6, _)]) ⟨rfl, rfl, trivial⟩ <| LX.next <| PX.thenN <| CX.ret <| PX.blockR <| PX.thenR <| PX.ret1 (by simp) Tryz.results25 rfl ?_
  exact fun w hw => ⟨(some (247, .pointer (some (aE 3))), (g, c), bs, L - 1), rfl, (fun h => by cases h), hw⟩
theorem key_dict {w0 : World} {base : Nat} {aE : Nat → Addr} (hS : EnvS w0 base aE) {kp : Nat} {g : Option Nat} {c : Nat} {bs : T} {L : Int} (sl : Nat) (hL : 0 ≤ L ∧ L ≤ 4096) (hb : (bs.length : Int) + sl ≤ 1000 * (4096 - L)) {dd : Nat} (hd : dd ≤ 60) (t : Tr) (pv : Value) : FnC Tryz.prog 25 #[.pointer (some ⟨kp, 0, none⟩), .iface 124 pv, .int .i64 ((dd : Nat) : Int)] (WA w0 base (blk kp [rv g (bs).length c, .int .i64 (L)] 59 :: .row g c (bs).length 5 1 ((bs).map b8) :: [])) (fun q : Option (TypeId × Value) × (Option Nat × Nat) × T × Int => eV q.1) (fun q w => (q.1 = none → Kn sl t dd bs L q.2.2.1 q.2.2.2) ∧ WA w0 base (blk kp [rv q.2.1.1 (q.2.2.1).length q.2.1.2, .int .i64 (q.2.2.2)] 59 :: .row q.2.1.1 q.2.1.2 (q.2.2.1).length 5 1 ((q.2.2.1).map b8) :: []) w) := by
  refine FnC.of_body (fn := Tryz.f25) [(0, _), (1, _), (2, _)] Tryz.func25 rfl Tryz.ntmps25 rfl ⟨rfl, rfl, rfl, trivial⟩ ?_
  refine CX.seq <| CX.region <| LX.pure (Y.assign rfl) rfl rfl rfl <| LX.sub (l' := [(0, _), (1, _), (2, _), (6, _)]) ⟨rfl, rfl, rfl, rfl, trivial⟩ <| LX.next <| PX.thenN <| CX.seq <| CX.seq <| CX.region <| LX.pure (Y.move rfl) rfl rfl rfl <| LX.pure (Y.nilCheck rfl) rfl rfl rfl <| LX.pure (Y.fieldAddr0 Kc.fo59_1 rfl) rfl rfl rfl <| LX.pure (Y.ldB 0 Kc.one3 rfl rfl rfl) rfl rfl rfl <| LX.pure (Y.sub rfl rfl (by omega)) rfl rfl rfl <| LX.pure (Y.nilCheck rfl) rfl rfl rfl <| LX.pure (Y.fieldAddr0 Kc.fo59_1 rfl) rfl rfl rfl <| LX.storeB 0 Kc.sz3 rfl rfl rfl rfl rfl rfl rfl rfl <| LX.sub (l' := [(0, _), (1, _), (2, _), (6, _)]) ⟨rfl, rfl, rfl, rfl, trivial⟩ <| LX.next <| PX.thenN <| CX.seq <| CX.region <| LX.pure (Y.move rfl) rfl rfl rfl <| LX.pure (Y.nilCheck rfl) rfl rfl rfl <| LX.pure (Y.fieldAddr0 Kc.fo59_1 rfl) rfl rfl rfl <| LX.pure (Y.ldB 0 Kc.one3 rfl rfl rfl) rfl rfl rfl <| LX.pure (Y.ltI rfl rfl) rfl rfl rfl <| LX.sub (l' := [(0, _), (1, _), (2, _), (6, _), (27, _)]) ⟨rfl, rfl, rfl, rfl, rfl, trivial⟩ <| LX.next <| PX.thenN ?_
  refine CX.cond rfl (fun hb1 => ?_) (fun hb1 => ?_)
  · try simp at hb1
    refine CX.seq <| CX.region <| LX.pure (Y.ldO Kc.one28 rfl (hS.at_ 7 2 rfl) (hS.lt 2 (by decide))) rfl rfl rfl <| LX.pure (Y.assign rfl) rfl rfl rfl <| LX.sub (l' := [(0, _), (1, _), (2, _), (6, _)]) ⟨rfl, rfl, rfl, rfl, trivial⟩ <| LX.next <| PX.thenN <| CX.ret <| PX.thenR <| PX.ret1 (by simp) Tryz.results25 rfl ?_
    exact fun w hw => ⟨(some (247, .pointer (some (aE 7))), (g, c), bs, L - 1), rfl, (fun h => by cases h), hw⟩
  try simp at hb1
  refine CX.skip <| PX.thenN <| CX.seq <| CX.seq <| CX.region <| LX.pure (Y.move rfl) rfl rfl rfl <| LX.sub (l' := [(0, _), (2, _), (6, _), (29, _)]) ⟨rfl, rfl, rfl, rfl, trivial⟩ <| LX.next <| PX.thenN <| CX.block <| CX.seq <| CX.region <| LX.pure (Y.assertNo Kc.nif110 rfl (by decide) Kc.zv110) rfl rfl rfl <| LX.pure (Y.extract rfl rfl) rfl rfl rfl <| LX.pure (Y.extract rfl rfl) rfl rfl rfl <| LX.sub (l' := [(0, _), (2, _), (6, _), (29, _), (32, _), (33, _)]) ⟨rfl, rfl, rfl, rfl, rfl, rfl, trivial⟩ <| LX.next <| PX.thenN ?_
  refine CX.cond rfl (fun hb2 => ?_) (fun hb2 => ?_)
  · try simp at hb2
    done
  try simp at hb2
  refine CX.seq <| CX.region <| LX.pure (Y.assertNo Kc.nif111 rfl (by decide) Kc.zv111) rfl rfl rfl <| LX.pure (Y.extract rfl rfl) rfl rfl rfl <| LX.pure (Y.extract rfl rfl) rfl rfl rfl <| LX.sub (l' := [(0, _), (2, _), (6, _), (29, _), (44, _), (45, _)]) ⟨rfl, rfl, rfl, rfl, rfl, rfl, trivial⟩ <| LX.next <| PX.thenN ?_
  refine CX.cond rfl (fun hb3 => ?_) (fun hb3 => ?_)
  · try simp at hb3
    done
  try simp at hb3
  refine CX.seq <| CX.region <| LX.pure (Y.assertNo Kd.nif74 rfl (by decide) Kd.zv74) rfl rfl rfl <| LX.pure (Y.extract rfl rfl) rfl rfl rfl <| LX.pure (Y.extract rfl rfl) rfl rfl rfl <| LX.sub (l' := [(0, _), (2, _), (6, _), (29, _), (65, _), (66, _)]) ⟨rfl, rfl, rfl, rfl, rfl, rfl, trivial⟩ <| LX.next <| PX.thenN ?_
  refine CX.cond rfl (fun hb4 => ?_) (fun hb4 => ?_)
  · try simp at hb4
    done
  try simp at hb4
  refine CX.seq <| CX.region <| LX.pure (Y.assertNo Kd.nif78 rfl (by decide) Kd.zv78) rfl rfl rfl <| LX.pure (Y.extract rfl rfl) rfl rfl rfl <| LX.pure (Y.extract rfl rfl) rfl rfl rfl <| LX.sub (l' := [(0, _), (2, _), (6, _), (29, _), (88, _), (89, _)]) ⟨rfl, rfl, rfl, rfl, rfl, rfl, trivial⟩ <| LX.next <| PX.thenN ?_
  refine CX.cond rfl (fun hb5 => ?_) (fun hb5 => ?_)
  · try simp at hb5
    done
  try simp at hb5
  refine CX.seq <| CX.region <| LX.pure (Y.assertNo Kd.nif115 rfl (by decide) Kd.zv115) rfl rfl rfl <| LX.pure (Y.extract rfl rfl) rfl rfl rfl <| LX.pure (Y.extract rfl rfl) rfl rfl rfl <| LX.sub (l' := [(0, _), (2, _), (6, _), (29, _), (128, _), (129, _)]) ⟨rfl, rfl, rfl, rfl, rfl, rfl, trivial⟩ <| LX.next <| PX.thenN ?_
  refine CX.cond rfl (fun hb6 => ?_) (fun hb6 => ?_)
  · try simp at hb6
    done
  try simp at hb6
  refine CX.seq <| CX.region <| LX.pure (Y.assign rfl) rfl rfl rfl <| LX.sub (l' := [(0, _), (6, _)]) ⟨rfl, rfl, trivial⟩ <| LX.next <| PX.thenN <| CX.seq <| CX.region <| LX.pure (Y.ldO Kc.one28 rfl (hS.at_ 3 3 rfl) (hS.lt 3 (by decide))) rfl rfl rfl <| LX.pure (Y.assign rfl) rfl rfl rfl <| LX.sub (l' := [(0, _), (6, _)]) ⟨rfl, rfl, trivial⟩ <| LX.next <| PX.thenN <| CX.ret <| PX.blockR <| PX.thenR <| PX.ret1 (by simp) Tryz.results25 rfl ?_
  exact fun w hw => ⟨(some (247, .pointer (some (aE 3))), (g, c), bs, L - 1), rfl, (fun h => by cases h), hw⟩
theorem key_tup {w0 : World} {base : Nat} {aE : Nat → Addr} (hS : EnvS w0 base aE) {kp : Nat} {g : Option Nat} {c : Nat} {bs : T} {L : Int} (sl : Nat) (hL : 0 ≤ L ∧ L ≤ 4096) (hb : (bs.length : Int) + sl ≤ 1000 * (4096 - L)) {dd : Nat} (hd : dd ≤ 60) {xs : List Tr} {vs : List Value} {b cx : Nat} {av : Option Addr} (hbk : Lies w0 base ⟨b, 0, none⟩ [.slice av xs.length cx]) (hs : SlAt 1 valA (Lies w0 base) av vs) (hl : vs.length = xs.length) (h3 : xs.length ≤ 300) (hv : ∀ (i : Nat) x v, xs[i]? = some x → vs[i]? = some v → VL w0 base x v) (ih : dd < 60 → ∀ {g : Option Nat} {c : Nat} {bs : T} {L : Int} (sl : Nat) (_hL : 0 ≤ L ∧ L ≤ 4096) (_hb : (bs.length : Int) + sl ≤ 1000 * (4096 - L)) {t : Tr} {v : Value} (_hv : VL w0 base t v), FnC Tryz.prog 25 #[.pointer (some ⟨kp, 0, none⟩), v, .int .i64 ((dd + 1 : Nat) : Int)] (WA w0 base (blk kp [rv g (bs).length c, .int .i64 (L)] 59 :: .row g c (bs).length 5 1 ((bs).map b8) :: [])) (fun q : Option (TypeId × Value) × (Option Nat × Nat) × T × Int => eV q.1) (fun q w => (q.1 = none → Kn sl t (dd + 1) bs L q.2.2.1 q.2.2.2) ∧ WA w0 base (blk kp [rv q.2.1.1 (q.2.2.1).length q.2.1.2, .int .i64 (q.2.2.2)] 59 :: .row q.2.1.1 q.2.1.2 (q.2.2.1).length 5 1 ((q.2.2.1).map b8) :: []) w)) : FnC Tryz.prog 25 #[.pointer (some ⟨kp, 0, none⟩), .iface 115 (.pointer (some ⟨b, 0, none⟩)), .int .i64 ((dd : Nat) : Int)] (WA w0 base (blk kp [rv g (bs).length c, .int .i64 (L)] 59 :: .row g c (bs).length 5 1 ((bs).map b8) :: [])) (fun q : Option (TypeId × Value) × (Option Nat × Nat) × T × Int => eV q.1) (fun q w => (q.1 = none → Kn sl (.tup xs) dd bs L q.2.2.1 q.2.2.2) ∧ WA w0 base (blk kp [rv q.2.1.1 (q.2.2.1).length q.2.1.2, .int .i64 (q.2.2.2)] 59 :: .row q.2.1.1 q.2.1.2 (q.2.2.1).length 5 1 ((q.2.2.1).map b8) :: []) w) := by
  refine FnC.of_body (fn := Tryz.f25) [(0, _), (1, _), (2, _)] Tryz.func25 rfl Tryz.ntmps25 rfl ⟨rfl, rfl, rfl, trivial⟩ ?_
  refine CX.seq <| CX.region <| LX.pure (Y.assign rfl) rfl rfl rfl <| LX.sub (l' := [(0, _), (1, _), (2, _), (6, _)]) ⟨rfl, rfl, rfl, rfl, trivial⟩ <| LX.next <| PX.thenN <| CX.seq <| CX.seq <| CX.region <| LX.pure (Y.move rfl) rfl rfl rfl <| LX.pure (Y.nilCheck rfl) rfl rfl rfl <| LX.pure (Y.fieldAddr0 Kc.fo59_1 rfl) rfl rfl rfl <| LX.pure (Y.ldB 0 Kc.one3 rfl rfl rfl) rfl rfl rfl <| LX.pure (Y.sub rfl rfl (by omega)) rfl rfl rfl <| LX.pure (Y.nilCheck rfl) rfl rfl rfl <| LX.pure (Y.fieldAddr0 Kc.fo59_1 rfl) rfl rfl rfl <| LX.storeB 0 Kc.sz3 rfl rfl rfl rfl rfl rfl rfl rfl <| LX.sub (l' := [(0, _), (1, _), (2, _), (6, _)]) ⟨rfl, rfl, rfl, rfl, trivial⟩ <| LX.next <| PX.thenN <| CX.seq <| CX.region <| LX.pure (Y.move rfl) rfl rfl rfl <| LX.pure (Y.nilCheck rfl) rfl rfl rfl <| LX.pure (Y.fieldAddr0 Kc.fo59_1 rfl) rfl rfl rfl <| LX.pure (Y.ldB 0 Kc.one3 rfl rfl rfl) rfl rfl rfl <| LX.pure (Y.ltI rfl rfl) rfl rfl rfl <| LX.sub (l' := [(0, _), (1, _), (2, _), (6, _), (27, _)]) ⟨rfl, rfl, rfl, rfl, rfl, trivial⟩ <| LX.next <| PX.thenN ?_
  refine CX.cond rfl (fun hb1 => ?_) (fun hb1 => ?_)
  · try simp at hb1
    refine CX.seq <| CX.region <| LX.pure (Y.ldO Kc.one28 rfl (hS.at_ 7 2 rfl) (hS.lt 2 (by decide))) rfl rfl rfl <| LX.pure (Y.assign rfl) rfl rfl rfl <| LX.sub (l' := [(0, _), (1, _), (2, _), (6, _)]) ⟨rfl, rfl, rfl, rfl, trivial⟩ <| LX.next <| PX.thenN <| CX.ret <| PX.thenR <| PX.ret1 (by simp) Tryz.results25 rfl ?_
    exact fun w hw => ⟨(some (247, .pointer (some (aE 7))), (g, c), bs, L - 1), rfl, (fun h => by cases h), hw⟩
  try simp at hb1
  refine CX.skip <| PX.thenN <| CX.seq <| CX.seq <| CX.region <| LX.pure (Y.move rfl) rfl rfl rfl <| LX.sub (l' := [(0, _), (2, _), (6, _), (29, _)]) ⟨rfl, rfl, rfl, rfl, trivial⟩ <| LX.next <| PX.thenN <| CX.block <| CX.seq <| CX.region <| LX.pure (Y.assertNo Kc.nif110 rfl (by decide) Kc.zv110) rfl rfl rfl <| LX.pure (Y.extract rfl rfl) rfl rfl rfl <| LX.pure (Y.extract rfl rfl) rfl rfl rfl <| LX.sub (l' := [(0, _), (2, _), (6, _), (29, _), (32, _), (33, _)]) ⟨rfl, rfl, rfl, rfl, rfl, rfl, trivial⟩ <| LX.next <| PX.thenN ?_
  refine CX.cond rfl (fun hb2 => ?_) (fun hb2 => ?_)
  · try simp at hb2
    done
  try simp at hb2
  refine CX.seq <| CX.region <| LX.pure (Y.assertNo Kc.nif111 rfl (by decide) Kc.zv111) rfl rfl rfl <| LX.pure (Y.extract rfl rfl) rfl rfl rfl <| LX.pure (Y.extract rfl rfl) rfl rfl rfl <| LX.sub (l' := [(0, _), (2, _), (6, _), (29, _), (44, _), (45, _)]) ⟨rfl, rfl, rfl, rfl, rfl, rfl, trivial⟩ <| LX.next <| PX.thenN ?_
  refine CX.cond rfl (fun hb3 => ?_) (fun hb3 => ?_)
  · try simp at hb3
    done
  try simp at hb3
  refine CX.seq <| CX.region <| LX.pure (Y.assertNo Kd.nif74 rfl (by decide) Kd.zv74) rfl rfl rfl <| LX.pure (Y.extract rfl rfl) rfl rfl rfl <| LX.pure (Y.extract rfl rfl) rfl rfl rfl <| LX.sub (l' := [(0, _), (2, _), (6, _), (29, _), (65, _), (66, _)]) ⟨rfl, rfl, rfl, rfl, rfl, rfl, trivial⟩ <| LX.next <| PX.thenN ?_
  refine CX.cond rfl (fun hb4 => ?_) (fun hb4 => ?_)
  · try simp at hb4
    done
  try simp at hb4
  refine CX.seq <| CX.region <| LX.pure (Y.assertNo Kd.nif78 rfl (by decide) Kd.zv78) rfl rfl rfl <| LX.pure (Y.extract rfl rfl) rfl rfl rfl <| LX.pure (Y.extract rfl rfl) rfl rfl rfl <| LX.sub (l' := [(0, _), (2, _), (6, _), (29, _), (88, _), (89, _)]) ⟨rfl, rfl, rfl, rfl, rfl, rfl, trivial⟩ <| LX.next <| PX.thenN ?_
  refine CX.cond rfl (fun hb5 => ?_) (fun hb5 => ?_)
  · try simp at hb5
    done
  try simp at hb5
  refine CX.seq <| CX.region <| LX.pure (Y.assertYes Kd.nif115 rfl) rfl rfl rfl <| LX.pure (Y.extract rfl rfl) rfl rfl rfl <| LX.pure (Y.extract rfl rfl) rfl rfl rfl <| LX.sub (l' := [(0, _), (2, _), (6, _), (29, _), (128, _), (129, _)]) ⟨rfl, rfl, rfl, rfl, rfl, rfl, trivial⟩ <| LX.next <| PX.thenN ?_
  refine CX.cond rfl (fun hb6 => ?_) (fun hb6 => ?_)
  · try simp at hb6
    refine CX.seq <| CX.region <| LX.pure (Y.assign rfl) rfl rfl rfl <| LX.sub (l' := [(0, _), (2, _), (6, _), (11, _)]) ⟨rfl, rfl, rfl, rfl, trivial⟩ <| LX.next <| PX.thenN <| CX.seq <| CX.seq <| CX.region <| LX.pure (Y.move rfl) rfl rfl rfl <| LX.pure (Y.geN rfl rfl) rfl rfl rfl <| LX.sub (l' := [(0, _), (2, _), (6, _), (11, _), (131, _)]) ⟨rfl, rfl, rfl, rfl, rfl, trivial⟩ <| LX.next <| PX.thenN ?_
    refine CX.cond rfl (fun hb7 => ?_) (fun hb7 => ?_)
    · try simp at hb7
      refine CX.seq <| CX.region <| LX.pure (Y.ldO Kc.one28 rfl (hS.at_ 7 2 rfl) (hS.lt 2 (by decide))) rfl rfl rfl <| LX.pure (Y.assign rfl) rfl rfl rfl <| LX.sub (l' := [(0, _), (2, _), (6, _), (11, _)]) ⟨rfl, rfl, rfl, rfl, trivial⟩ <| LX.next <| PX.thenN <| CX.ret <| PX.thenR <| PX.blockR <| PX.thenR <| PX.ret1 (by simp) Tryz.results25 rfl ?_
      exact fun w hw => ⟨(some (247, .pointer (some (aE 7))), (g, c), bs, L - 1), rfl, (fun h => by cases h), hw⟩
    try simp at hb7
    refine CX.skip <| PX.thenN <| CX.seq <| CX.region <| LX.pure (Y.move rfl) rfl rfl rfl <| LX.pure (Y.move rfl) rfl rfl rfl <| LX.pure (Y.nilCheck rfl) rfl rfl rfl <| LX.pure (Y.fieldAddr0 Kc.fo59_0 rfl) rfl rfl rfl <| LX.pure (Y.ldB 0 Kc.one57 rfl rfl rfl) rfl rfl rfl <| LX.buildSlice (e := 5) (size := 1) rfl rfl (fun _ => by kernel_rfl) rfl (by decide) rfl rfl rfl ?_
    intro gt42
    refine LX.appendT 1 Ka.el57 rfl rfl rfl rfl rfl rfl rfl (by omega) (by omega) rfl rfl rfl ?_
    intro g1 c1
    rw [show List.length (α := UInt8) (bs) + 1 = List.length (α := UInt8) (bs ++ [84]) from by simp only [List.length_append, List.length_cons, List.length_nil] <;> omega]
    refine LX.world (W' := WA w0 base (blk kp [rv g (bs).length c, .int .i64 (L - 1)] 59 :: .row g1 c1 (bs ++ [84]).length 5 1 ((bs ++ [84]).map b8) :: [])) (fun w hw => by rw [List.map_append]; exact hw) <| LX.pure (Y.nilCheck rfl) rfl rfl rfl <| LX.pure (Y.fieldAddr0 Kc.fo59_0 rfl) rfl rfl rfl <| LX.storeB 0 Kc.sz57 rfl rfl rfl rfl rfl rfl rfl rfl <| LX.sub (l' := [(0, _), (2, _), (6, _), (11, _)]) ⟨rfl, rfl, rfl, rfl, trivial⟩ <| LX.next <| PX.thenN <| CX.seq <| CX.seq <| CX.region <| LX.pure (Y.move rfl) rfl rfl rfl <| LX.pure (Y.nilCheck rfl) rfl rfl rfl <| LX.pure (Y.fieldAddr0 Kd.fo117_1 rfl) rfl rfl rfl <| LX.pure (Y.ldB0 Kd.one96 rfl hbk rfl) rfl rfl rfl <| LX.pure (Y.lenSl rfl Kd.un96 rfl) rfl rfl rfl <| LX.pure (Y.move rfl) rfl rfl rfl <| LX.sub (l' := [(0, _), (2, _), (6, _), (145, _), (146, _), (147, _)]) ⟨rfl, rfl, rfl, rfl, rfl, rfl, trivial⟩ <| LX.next <| PX.thenN <| CX.block ?_
    refine CX.loop (fun s : Nat × (Option Nat × Nat) × T × Int => [(0, .pointer (some ⟨kp, 0, none⟩)), (2, .int .i64 ((dd : Nat) : Int)), (145, .slice av xs.length cx), (146, .int .i64 (xs.length : Int)), (147, .int .i64 (s.1 : Int))]) (fun (s : Nat × (Option Nat × Nat) × T × Int) w => Kt sl xs dd bs L s.1 s.2.2.1 s.2.2.2 ∧ WA w0 base (blk kp [rv s.2.1.1 (s.2.2.1).length s.2.1.2, .int .i64 (s.2.2.2)] 59 :: .row s.2.1.1 s.2.1.2 (s.2.2.1).length 5 1 ((s.2.2.1).map b8) :: []) w) (fun s => xs.length - s.1) (0, (g1, c1), bs ++ [84], L - 1) ⟨rfl, rfl, rfl, rfl, rfl, trivial⟩ (fun w hw => ⟨Kt.start (by omega) (by omega) hb, hw⟩) ?_
    rintro ⟨i, ⟨gi, ci⟩, bs2, L2⟩
    refine CX.have fun hk0 => ?_
    try dsimp only at hk0 ⊢
    have hi0 := hk0.le
    have hkb := hk0.b
    have hkl := hk0.l
    have hkl0 := hk0.l0
    refine CX.seq <| CX.region <| LX.pure (Y.ltN rfl rfl) rfl rfl rfl <| LX.sub (l' := [(0, _), (2, _), (145, _), (146, _), (147, _), (148, _)]) ⟨rfl, rfl, rfl, rfl, rfl, rfl, trivial⟩ <| LX.next <| PX.thenN <| CX.seq ?_
    refine CX.cond rfl (fun hb8 => ?_) (fun hb8 => ?_)
    · try simp at hb8
      have hi1 : i < xs.length := by omega
      obtain ⟨x, hx⟩ : ∃ x, xs[i]? = some x := ⟨_, List.getElem?_eq_getElem hi1⟩
      obtain ⟨y, hy⟩ : ∃ y, vs[i]? = some y := ⟨_, List.getElem?_eq_getElem (by omega)⟩
      obtain ⟨a1, ha1, hL1⟩ := val_at hs hy
      refine CX.skip <| PX.thenN <| CX.seq <| CX.block <| CX.seq <| CX.region <| LX.pure (Y.idxZ Kd.un96 Kd.sz26 rfl rfl ha1 (j := i) rfl hi1) rfl rfl rfl <| LX.pure (Y.ldO1 Kd.one26 rfl hL1) rfl rfl rfl <| LX.pure (Y.assign rfl) rfl rfl rfl <| LX.sub (l' := [(0, _), (2, _), (13, _), (145, _), (146, _), (147, _)]) ⟨rfl, rfl, rfl, rfl, rfl, rfl, trivial⟩ <| LX.next <| PX.thenN <| CX.seq <| CX.region <| LX.pure (Y.move rfl) rfl rfl rfl <| LX.pure (Y.move rfl) rfl rfl rfl <| LX.pure (Y.move rfl) rfl rfl rfl <| LX.pure (Y.addN rfl rfl (by (simp only []; omega))) rfl rfl rfl <| LX.call (ih (by omega) (bs := bs2) (L := L2) (sl + 990) ⟨hk0.l0, by have := hk0.l; omega⟩ hk0.b (hv i x y hx hy)) Kd.en25 rfl rfl rfl rfl rfl ?_
      rintro ⟨q4, ⟨g4, c4⟩, bs4, L4⟩
      refine LX.have fun hk4 => ?_
      try dsimp only at hk4 ⊢
      refine LX.pure (Y.assign rfl) rfl rfl rfl <| LX.sub (l' := [(0, _), (2, _), (14, _), (145, _), (146, _), (147, _)]) ⟨rfl, rfl, rfl, rfl, rfl, rfl, trivial⟩ <| LX.next <| PX.thenN <| CX.seq <| CX.region <| LX.pure (Y.move rfl) rfl rfl rfl <| LX.pure (Y.neE Kd.un28 rfl) rfl rfl rfl <| LX.sub (l' := [(0, _), (2, _), (14, _), (145, _), (146, _), (147, _), (157, _)]) ⟨rfl, rfl, rfl, rfl, rfl, rfl, rfl, trivial⟩ <| LX.next <| PX.thenN ?_
      refine CX.cond rfl (fun hb9 => ?_) (fun hb9 => ?_)
      · try simp at hb9
        obtain ⟨e4, rfl⟩ := Option.isSome_iff_exists.1 hb9
        refine CX.seq <| CX.region <| LX.pure (Y.move rfl) rfl rfl rfl <| LX.pure (Y.assign rfl) rfl rfl rfl <| LX.sub (l' := [(0, _), (2, _), (6, _), (145, _), (146, _), (147, _)]) ⟨rfl, rfl, rfl, rfl, rfl, rfl, trivial⟩ <| LX.next <| PX.thenN <| CX.ret <| PX.blockR <| PX.thenR <| PX.thenR <| PX.blockR <| PX.thenR <| PX.blockR <| PX.thenR <| PX.ret1 (by simp) Tryz.results25 rfl ?_
        exact fun w hw => ⟨(some e4, (g4, c4), bs4, L4), rfl, (fun h => by cases h), hw⟩
      try simp at hb9
      obtain rfl : q4 = none := by exact hb9
      refine CX.skip <| PX.blockN <| PX.thenN <| CX.region <| LX.pure (Y.addN rfl rfl (by (simp only []; omega))) rfl rfl rfl <| LX.pure (Y.move rfl) rfl rfl rfl <| LX.sub (l' := [(0, _), (2, _), (145, _), (146, _), (147, _)]) ⟨rfl, rfl, rfl, rfl, rfl, trivial⟩ <| LX.next ?_
      exact PX.again (μ := fun s => xs.length - s.1) (i := (i, (gi, ci), bs2, L2)) (i + 1, (g4, c4), bs4, L4) (by show xs.length - (i + 1) < xs.length - i; omega) ⟨rfl, rfl, rfl, rfl, rfl, trivial⟩ (fun w hw => ⟨hk0.next hx (hk4 rfl), hw⟩)
    try simp at hb8
    obtain rfl : i = xs.length := by omega
    refine CX.exit <| PX.thenE <| PX.thenE <| PX.blockE <| PX.thenN <| CX.region <| LX.pure (Y.move rfl) rfl rfl rfl <| LX.pure (Y.move rfl) rfl rfl rfl <| LX.pure (Y.nilCheck rfl) rfl rfl rfl <| LX.pure (Y.fieldAddr0 Kc.fo59_0 rfl) rfl rfl rfl <| LX.pure (Y.ldB 0 Kc.one57 rfl rfl rfl) rfl rfl rfl <| LX.buildSlice (e := 5) (size := 1) rfl rfl (fun _ => by kernel_rfl) rfl (by decide) rfl rfl rfl ?_
    intro gt74
    refine LX.appendT 1 Ka.el57 rfl rfl rfl rfl rfl rfl rfl (by omega) (by omega) rfl rfl rfl ?_
    intro g2 c2
    rw [show List.length (α := UInt8) (bs2) + 1 = List.length (α := UInt8) (bs2 ++ [69]) from by simp only [List.length_append, List.length_cons, List.length_nil] <;> omega]
    refine LX.world (W' := WA w0 base (blk kp [rv gi (bs2).length ci, .int .i64 L2] 59 :: .row g2 c2 (bs2 ++ [69]).length 5 1 ((bs2 ++ [69]).map b8) :: [])) (fun w hw => by rw [List.map_append]; exact hw) <| LX.pure (Y.nilCheck rfl) rfl rfl rfl <| LX.pure (Y.fieldAddr0 Kc.fo59_0 rfl) rfl rfl rfl <| LX.storeB 0 Kc.sz57 rfl rfl rfl rfl rfl rfl rfl rfl <| LX.sub (l' := [(0, _)]) ⟨rfl, trivial⟩ <| LX.next <| PX.blockN <| PX.thenN <| CX.seq <| CX.region <| LX.pure (Y.move rfl) rfl rfl rfl <| LX.pure (Y.move rfl) rfl rfl rfl <| LX.pure (Y.nilCheck rfl) rfl rfl rfl <| LX.pure (Y.fieldAddr0 Kc.fo59_0 rfl) rfl rfl rfl <| LX.pure (Y.ldB 0 Kc.one57 rfl rfl rfl) rfl rfl rfl <| LX.buildSlice (e := 5) (size := 1) rfl rfl (fun _ => by kernel_rfl) rfl (by decide) rfl rfl rfl ?_
    intro gt84
    refine LX.appendT 1 Ka.el57 rfl rfl rfl rfl rfl rfl rfl (by (simp only [List.length_append, List.length_cons, List.length_nil]; omega)) (by (simp only [List.length_append, List.length_cons, List.length_nil]; omega)) rfl rfl rfl ?_
    intro g3 c3
    rw [show List.length (α := UInt8) (bs2 ++ [69]) + 1 = List.length (α := UInt8) (bs2 ++ [69] ++ [59]) from by simp only [List.length_append, List.length_cons, List.length_nil] <;> omega]
    refine LX.world (W' := WA w0 base (blk kp [rv g2 (bs2 ++ [69]).length c2, .int .i64 L2] 59 :: .row g3 c3 (bs2 ++ [69] ++ [59]).length 5 1 ((bs2 ++ [69] ++ [59]).map b8) :: [])) (fun w hw => by rw [List.map_append]; exact hw) <| LX.pure (Y.nilCheck rfl) rfl rfl rfl <| LX.pure (Y.fieldAddr0 Kc.fo59_0 rfl) rfl rfl rfl <| LX.storeB 0 Kc.sz57 rfl rfl rfl rfl rfl rfl rfl rfl <| LX.sub (l' := []) trivial <| LX.next <| PX.thenN <| CX.seq <| CX.region <| LX.pure (Y.assign rfl) rfl rfl rfl <| LX.sub (l' := [(6, _)]) ⟨rfl, trivial⟩ <| LX.next <| PX.thenN <| CX.ret <| PX.ret1 (by simp) Tryz.results25 rfl ?_
    exact fun w hw => ⟨(none, (g3, c3), bs2 ++ [69] ++ [59], L2), rfl, (fun _ => hk0.fin), hw⟩
  try simp at hb6
  done
end Go.Proofs.YtickdimknfeddaaGreatDoor
