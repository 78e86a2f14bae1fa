/-
  Proved here: the chapter's first(): it comes to true, in any world that holds api's errors.
-/
import Derived.Test.YtickdimknfeddaaGreatDoorFsC
import Derived.Test.YtickdimknfeddaaGreatDoorFsD
import Derived.Test.YtickdimknfeddaaGreatDoorIsa
namespace Go.Proofs.YtickdimknfeddaaGreatDoor.Bsf
open Go.SX Go.EX Go.EB Go.RowKit Go.Proofs.YtickdimknfeddaaGreatDoor.Env
namespace Fs
theorem en12 : Enters Tryz.prog 12 := Enters.of Tryz.func12 (by kernel_rfl) (by kernel_rfl)
theorem en13 : Enters Tryz.prog 13 := Enters.of Tryz.func13 (by kernel_rfl) (by kernel_rfl)
theorem en14 : Enters Tryz.prog 14 := Enters.of Tryz.func14 (by kernel_rfl) (by kernel_rfl)
theorem en15 : Enters Tryz.prog 15 := Enters.of Tryz.func15 (by kernel_rfl) (by kernel_rfl)
theorem en16 : Enters Tryz.prog 16 := Enters.of Tryz.func16 (by kernel_rfl) (by kernel_rfl)
theorem en17 : Enters Tryz.prog 17 := Enters.of Tryz.func17 (by kernel_rfl) (by kernel_rfl)
theorem en18 : Enters Tryz.prog 18 := Enters.of Tryz.func18 (by kernel_rfl) (by kernel_rfl)
theorem en28 : Enters Tryz.prog 28 := Enters.of Tryz.func28 (by kernel_rfl) (by kernel_rfl)
theorem en8 : Enters Tryz.prog 8 := Enters.of Tryz.func8 (by kernel_rfl) (by kernel_rfl)
theorem un26 : Tryz.prog.underlying 26 = some (.interface #[("Kind", 119), ("smithy/val.value", 1)]) := by kernel_rfl
theorem un28 : Tryz.prog.underlying 28 = some (.interface #[("Error", 113)]) := by kernel_rfl
end Fs
theorem made_c {hs : List AH} {nx n1 n2 d1 d2 : Nat} {ids1 ids2 : List Nat} {H1 H2 : AH} {l a : AV} {T : TypeId} {s : List UInt8} (e1 : pk ids1 (callB Tryz.prog cfg d1 hs 28 [.lit (.string ⟨s.toArray⟩)] [] nx) = some (.tup [l, .lit .nilIface], H1, n1)) (e2 : pk ids2 (callB Tryz.prog cfg d2 (H1 :: hs) 8 [l] [] n1) = some (.tup [.iface T a, .lit .nilIface], H2, n2))
    {W : World → Prop} [Stab W] {ρ : Rho} (hS : ∀ w, W w → St hs nx ρ w) : FnC Tryz.prog 13 #[str s] W (fun q : Rho × Value => .tuple #[.iface T q.2, .bool true]) (fun q w => (Ext ρ q.1 ∧ inst q.1 a = some q.2) ∧ St (H2 :: H1 :: hs) n2 q.1 w ∧ W w) := by
  refine FnC.of_body (fn := Tryz.f13) [(0, _)] Tryz.func13 rfl Tryz.ntmps13 rfl ⟨rfl, trivial⟩ ?_
  refine CX.seq <| CX.region <| LX.pure (Y.assign rfl) rfl rfl rfl <| LX.pure (Y.assign rfl) rfl rfl rfl <| LX.sub (l' := [(0, _), (2, _), (3, _)]) ⟨rfl, rfl, rfl, trivial⟩ <| LX.next <| PX.thenN <| CX.seq <| CX.region <| LX.pure (Y.move rfl) rfl rfl rfl <| LX.call (callG e1 (fun _ _ h => inst_pair h) hS rfl) Fs.en28 rfl rfl rfl rfl rfl ?_
  rintro ⟨ρ1, l1⟩
  refine LX.have fun ⟨x1, i1⟩ => ?_
  dsimp only at x1 i1 ⊢
  refine LX.pure (Y.move rfl) rfl rfl rfl <| LX.pure (Y.extract rfl rfl) rfl rfl rfl <| LX.pure (Y.extract rfl rfl) rfl rfl rfl <| LX.pure (Y.assign rfl) rfl rfl rfl <| LX.pure (Y.assign rfl) rfl rfl rfl <| LX.sub (l' := [(2, _), (3, _), (4, _), (5, _)]) ⟨rfl, rfl, rfl, rfl, trivial⟩ <| LX.next <| PX.thenN <| CX.seq <| CX.seq <| CX.region <| LX.pure (Y.move rfl) rfl rfl rfl <| LX.pure (Y.neNilNil Fs.un28 rfl) rfl rfl rfl <| LX.sub (l' := [(2, _), (3, _), (4, _), (14, _)]) ⟨rfl, rfl, rfl, rfl, trivial⟩ <| LX.next <| PX.thenN ?_
  refine CX.cond rfl (fun hb1 => ?_) (fun hb1 => ?_)
  · try simp at hb1
    done
  try simp at hb1
  refine CX.skip <| PX.thenN <| CX.seq <| CX.region <| LX.pure (Y.move rfl) rfl rfl rfl <| LX.call (callG e2 (fun _ _ h => inst_pairI h) (fun w hw => hw.1) (instL1 i1)) Fs.en8 rfl rfl rfl rfl rfl ?_
  rintro ⟨ρ2, v2⟩
  refine LX.have fun ⟨x2, i2⟩ => ?_
  dsimp only at x2 i2 ⊢
  refine LX.pure (Y.move rfl) rfl rfl rfl <| LX.pure (Y.extract rfl rfl) rfl rfl rfl <| LX.pure (Y.extract rfl rfl) rfl rfl rfl <| LX.pure (Y.assign rfl) rfl rfl rfl <| LX.pure (Y.assign rfl) rfl rfl rfl <| LX.sub (l' := [(2, _), (3, _), (6, _), (7, _)]) ⟨rfl, rfl, rfl, rfl, trivial⟩ <| LX.next <| PX.thenN <| CX.seq <| CX.regionQ rfl (by kernel_rfl) <| LX.pure (Y.move rfl) rfl rfl rfl <| LX.pure (Y.move rfl) rfl rfl rfl <| LX.pure (Y.eqNilNil Fs.un28 rfl) rfl rfl rfl <| LX.pure (Y.move rfl) rfl rfl rfl <| LX.sub (l' := [(2, _), (3, _), (6, _), (20, _), (23, _)]) ⟨rfl, rfl, rfl, rfl, rfl, trivial⟩ ?_
  apply LX.joinAnd 3 26 23 rfl
  · intro hb2
    refine LX.gT rfl rfl rfl hb2 (Y.move rfl) rfl rfl <| LX.gT rfl rfl rfl hb2 (Y.neNil Fs.un26 rfl rfl) rfl rfl <| LX.pure (Y.pickT rfl hb2 rfl) rfl rfl rfl ?_
    exact LX.left ⟨rfl, rfl, rfl, rfl, rfl, rfl, trivial⟩
  · intro hb2
    cases hb2
  refine LX.pure (Y.assign rfl) rfl rfl rfl <| LX.pure (Y.assign rfl) rfl rfl rfl <| LX.sub (l' := [(2, _), (3, _)]) ⟨rfl, rfl, trivial⟩ <| LX.nextQ <| PX.thenN <| CX.ret <| PX.ret2 (by simp) Tryz.results13 rfl rfl ?_
  exact fun w hw => ⟨(ρ2, v2), rfl, ⟨x1.trans x2, i2⟩, hw.1, hw.2.2⟩
theorem first_c {w0 : World} {base : Nat} {aE : Nat → Addr} (hS : EnvS w0 base aE) (its : List It) : FnC Tryz.prog 5 #[] (WA w0 base its) (fun _ : Unit => .bool true) (fun _ => WA w0 base its) := by
  refine FnC.of_body (fn := Tryz.f5) [] Tryz.func5 rfl Tryz.ntmps5 rfl trivial ?_
  refine CX.seq <| CX.region <| LX.pure (Y.assign rfl) rfl rfl rfl <| LX.sub (l' := [(0, _)]) ⟨rfl, trivial⟩ <| LX.next <| PX.thenN <| CX.seq <| CX.region <| LX.call (made_c (s := [123, 34, 97, 34, 58, 32, 91, 49, 44, 32, 40, 50, 44, 41, 93, 125]) sa0 sa1 (fun w hw => St.start (push hS hw))) Fs.en13 rfl rfl rfl rfl rfl ?_
  rintro ⟨ρa, va⟩
  refine LX.have fun ⟨xa, ia⟩ => ?_
  dsimp only at xa ia ⊢
  refine LX.pure (Y.move rfl) rfl rfl rfl <| LX.pure (Y.extract rfl rfl) rfl rfl rfl <| LX.pure (Y.extract rfl rfl) rfl rfl rfl <| LX.pure (Y.assign rfl) rfl rfl rfl <| LX.pure (Y.assign rfl) rfl rfl rfl <| LX.sub (l' := [(0, _), (1, _), (2, _)]) ⟨rfl, rfl, rfl, trivial⟩ <| LX.next <| PX.thenN <| CX.seq <| CX.region <| LX.call (made_c (s := [40, 49, 44, 32, 50, 41]) sb0 sb1 (fun w hw => St.start (push hS hw.2))) Fs.en13 rfl rfl rfl rfl rfl ?_
  rintro ⟨ρx, vx⟩
  refine LX.have fun ⟨xx, ix⟩ => ?_
  dsimp only at xx ix ⊢
  refine LX.pure (Y.move rfl) rfl rfl rfl <| LX.pure (Y.extract rfl rfl) rfl rfl rfl <| LX.pure (Y.extract rfl rfl) rfl rfl rfl <| LX.pure (Y.assign rfl) rfl rfl rfl <| LX.pure (Y.assign rfl) rfl rfl rfl <| LX.sub (l' := [(0, _), (1, _), (2, _), (3, _), (4, _)]) ⟨rfl, rfl, rfl, rfl, rfl, trivial⟩ <| LX.next <| PX.thenN <| CX.seq <| CX.region <| LX.call (made_c (s := [40, 49, 44, 32, 51, 41]) sb2 sb3 (fun w hw => hw.1)) Fs.en13 rfl rfl rfl rfl rfl ?_
  rintro ⟨ρy, vy⟩
  refine LX.have fun ⟨xy, iy⟩ => ?_
  dsimp only at xy iy ⊢
  refine LX.pure (Y.move rfl) rfl rfl rfl <| LX.pure (Y.extract rfl rfl) rfl rfl rfl <| LX.pure (Y.extract rfl rfl) rfl rfl rfl <| LX.pure (Y.assign rfl) rfl rfl rfl <| LX.pure (Y.assign rfl) rfl rfl rfl <| LX.sub (l' := [(0, _), (1, _), (2, _), (3, _), (4, _), (5, _), (6, _)]) ⟨rfl, rfl, rfl, rfl, rfl, rfl, rfl, trivial⟩ <| LX.next <| PX.thenN <| CX.seq <| CX.seq <| CX.region <| LX.pure (Y.move rfl) rfl rfl rfl <| LX.pure (Y.not rfl) rfl rfl rfl <| LX.pure (Y.move rfl) rfl rfl rfl <| LX.sub (l' := [(0, _), (1, _), (3, _), (4, _), (5, _), (6, _), (25, _)]) ⟨rfl, rfl, rfl, rfl, rfl, rfl, rfl, trivial⟩ ?_
  apply LX.joinOr 3 28 25 rfl
  · intro hb1
    (exfalso; simp_all; done)
  · intro hb1
    refine LX.gT rfl rfl rfl hb1 (Y.move rfl) rfl rfl <| LX.gT rfl rfl rfl hb1 (Y.not rfl) rfl rfl <| LX.pure (Y.pickF rfl hb1 rfl) rfl rfl rfl ?_
    exact LX.left ⟨rfl, rfl, rfl, rfl, rfl, rfl, rfl, rfl, trivial⟩
  refine LX.pure (Y.move rfl) rfl rfl rfl <| LX.sub (l' := [(0, _), (1, _), (3, _), (5, _), (6, _), (29, _)]) ⟨rfl, rfl, rfl, rfl, rfl, rfl, trivial⟩ ?_
  apply LX.joinOr 3 32 29 rfl
  · intro hb2
    (exfalso; simp_all; done)
  · intro hb2
    refine LX.gT rfl rfl rfl hb2 (Y.move rfl) rfl rfl <| LX.gT rfl rfl rfl hb2 (Y.not rfl) rfl rfl <| LX.pure (Y.pickF rfl hb2 rfl) rfl rfl rfl ?_
    exact LX.left ⟨rfl, rfl, rfl, rfl, rfl, rfl, rfl, trivial⟩
  refine LX.sub (l' := [(0, _), (1, _), (3, _), (5, _), (32, _)]) ⟨rfl, rfl, rfl, rfl, rfl, trivial⟩ <| LX.next <| PX.thenN ?_
  refine CX.cond rfl (fun hb3 => ?_) (fun hb3 => ?_)
  · try simp at hb3
    done
  try simp at hb3
  refine CX.skip <| PX.thenN <| CX.seq <| CX.region <| LX.pure (Y.move rfl) rfl rfl rfl <| LX.pure (Y.move rfl) rfl rfl rfl <| LX.callQ (callL sb4 (fun _ _ _ h => by obtain ⟨x, h1, rfl⟩ := inst_pair h; obtain rfl := inst_lit h1; rfl) (fun w hw => hw.1) (instL_mk (inst_mkI (inst_ext xy _ _ ix)) (instL1 (inst_mkI iy)))) Fs.en14 rfl rfl rfl rfl rfl <| LX.pure (Y.move rfl) rfl rfl rfl <| LX.pure (Y.extract rfl rfl) rfl rfl rfl <| LX.pure (Y.extract rfl rfl) rfl rfl rfl <| LX.pure (Y.assign rfl) rfl rfl rfl <| LX.pure (Y.assign rfl) rfl rfl rfl <| LX.sub (l' := [(0, _), (1, _), (7, _), (8, _)]) ⟨rfl, rfl, rfl, rfl, trivial⟩ <| LX.next <| PX.thenN <| CX.seq <| CX.region <| LX.call (callG sc0 (fun _ _ h => ⟨_, h, rfl⟩) (fun w hw => St.start (push hS hw.2.2.2)) rfl) Fs.en16 rfl rfl rfl rfl rfl ?_
  rintro ⟨ρ1, v1⟩
  refine LX.have fun ⟨x1, i1⟩ => ?_
  dsimp only at x1 i1 ⊢
  refine LX.call (callG sc1 (fun _ _ h => inst_if h) (fun w hw => hw.1) (instL1 i1)) Fs.en15 rfl rfl rfl rfl rfl ?_
  rintro ⟨ρ2, v2⟩
  refine LX.have fun ⟨x2, i2⟩ => ?_
  dsimp only at x2 i2 ⊢
  refine LX.callQ (callL sc2 (z := .iface 78 (str [97])) (fun _ _ _ h => by obtain ⟨x, h1, rfl⟩ := inst_if h; obtain rfl := inst_lit h1; rfl) (fun w hw => hw.1) rfl) Fs.en17 rfl rfl rfl rfl rfl ?_
  refine LX.callQ (callL sc3 (z := .tuple #[.bool false, errV (aE 3)]) (fun ρ2 u e h => by
    obtain ⟨us, h1, rfl⟩ := inst_tup h
    obtain ⟨a1, _, rfl, h2, h3⟩ := instL_cons h1
    obtain ⟨a2, _, rfl, h4, h5⟩ := instL_cons h3
    cases h5
    obtain rfl := inst_lit h2
    obtain ⟨x, h6, rfl⟩ := inst_if h4
    cases h6
    rw [((x1.trans x2).trans e).opq]
    rfl) (fun w hw => ⟨hw.1.ro, hw.1.ee, hw.1.fr⟩) (instL_mk (inst_mkI i2) rfl)) Fs.en14 rfl rfl rfl rfl rfl ?_
  refine LX.pure (Y.move rfl) rfl rfl rfl <| LX.pure (Y.extract rfl rfl) rfl rfl rfl <| LX.pure (Y.extract rfl rfl) rfl rfl rfl <| LX.pure (Y.assign rfl) rfl rfl rfl <| LX.pure (Y.assign rfl) rfl rfl rfl <| LX.sub (l' := [(0, _), (1, _), (7, _), (8, _), (10, _)]) ⟨rfl, rfl, rfl, rfl, rfl, trivial⟩ <| LX.next <| PX.thenN <| CX.seq <| CX.region <| LX.pure (Y.move rfl) rfl rfl rfl <| LX.callQ (callL sa2 (z := str [123, 34, 97, 34, 58, 32, 91, 49, 44, 32, 40, 50, 44, 41, 93, 125]) (fun _ _ _ h => by obtain rfl := inst_lit h; rfl) (fun w hw => hw.2.2.2.2.1) (instL1 (inst_mkI ia))) Fs.en12 rfl rfl rfl rfl rfl <| LX.pure (Y.eqS rfl rfl) rfl rfl rfl <| LX.pure (Y.move rfl) rfl rfl rfl <| LX.sub (l' := [(0, _), (7, _), (8, _), (10, _), (49, _)]) ⟨rfl, rfl, rfl, rfl, rfl, trivial⟩ ?_
  apply LX.joinAnd 2 51 49 rfl
  · intro hb4
    refine LX.gT rfl rfl rfl hb4 (Y.move rfl) rfl rfl <| LX.pure (Y.pickT rfl hb4 rfl) rfl rfl rfl ?_
    exact LX.left ⟨rfl, rfl, rfl, rfl, rfl, rfl, trivial⟩
  · intro hb4
    (exfalso; simp_all; done)
  refine LX.pure (Y.move rfl) rfl rfl rfl <| LX.sub (l' := [(0, _), (8, _), (10, _), (52, _)]) ⟨rfl, rfl, rfl, rfl, trivial⟩ ?_
  apply LX.joinAnd 3 55 52 rfl
  · intro hb5
    refine LX.gT rfl rfl rfl hb5 (Y.move rfl) rfl rfl <| LX.gT rfl rfl rfl hb5 (Y.eqNilNil Fs.un28 rfl) rfl rfl <| LX.pure (Y.pickT rfl hb5 rfl) rfl rfl rfl ?_
    exact LX.left ⟨rfl, rfl, rfl, rfl, rfl, trivial⟩
  · intro hb5
    (exfalso; simp_all; done)
  refine LX.pure (Y.move rfl) rfl rfl rfl <| LX.sub (l' := [(0, _), (10, _), (56, _)]) ⟨rfl, rfl, rfl, trivial⟩ ?_
  apply LX.joinAnd 3 59 56 rfl
  · intro hb6
    have hb6p := hb6
    try simp at hb6p
    refine LX.gT rfl rfl rfl hb6 (Y.move rfl) rfl rfl <| LX.callQT rfl rfl rfl hb6 (Isa.is_q (fun w hw => push hS hw.2.2.2.2.2) (i := 3) (by decide) (b := true) (by decide)) Fs.en18 rfl rfl rfl rfl <| LX.pure (Y.pickT rfl hb6 rfl) rfl rfl rfl ?_
    exact LX.left ⟨rfl, rfl, rfl, rfl, trivial⟩
  · intro hb6
    (exfalso; simp_all; done)
  refine LX.pure (Y.assign rfl) rfl rfl rfl <| LX.sub (l' := [(0, _)]) ⟨rfl, trivial⟩ <| LX.next <| PX.thenN <| CX.ret <| PX.ret1 (by simp) Tryz.results5 rfl ?_
  exact fun w hw => ⟨(), rfl, hw.2.2.2.2.2⟩
theorem first_q {w0 : World} {base : Nat} {aE : Nat → Addr} (hS : EnvS w0 base aE) (its : List It) : FnQ Tryz.prog 5 #[] (WA w0 base its) (.bool true) := fun w hw =>
  (first_c (push hS hw) [] w (WA.start w)).mono fun _ _ ⟨_, he, h⟩ => ⟨he, h.below⟩
end Go.Proofs.YtickdimknfeddaaGreatDoor.Bsf
