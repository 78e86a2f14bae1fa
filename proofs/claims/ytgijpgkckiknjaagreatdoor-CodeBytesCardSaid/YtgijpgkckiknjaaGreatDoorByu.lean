/-
  Proved here: one program is the same as itself, wherever it lies.
-/
import Derived.Test.YtgijpgkckiknjaaGreatDoorByS
import Derived.Test.YtgijpgkckiknjaaGreatDoorByR
namespace Go.Proofs.YtgijpgkckiknjaaGreatDoor
open Go.SX Go.RowKit Go.Ck Go.Lex Go.By
namespace Hw
theorem en68 : Enters Tryz.prog 68 := Enters.of Tryz.func68 (by kernel_rfl) (by kernel_rfl)
theorem en69 : Enters Tryz.prog 69 := Enters.of Tryz.func69 (by kernel_rfl) (by kernel_rfl)
theorem en70 : Enters Tryz.prog 70 := Enters.of Tryz.func70 (by kernel_rfl) (by kernel_rfl)
theorem en71 : Enters Tryz.prog 71 := Enters.of Tryz.func71 (by kernel_rfl) (by kernel_rfl)
theorem en72 : Enters Tryz.prog 72 := Enters.of Tryz.func72 (by kernel_rfl) (by kernel_rfl)
theorem en73 : Enters Tryz.prog 73 := Enters.of Tryz.func73 (by kernel_rfl) (by kernel_rfl)
theorem en74 : Enters Tryz.prog 74 := Enters.of Tryz.func74 (by kernel_rfl) (by kernel_rfl)
end Hw
open Go.Tr (ndA)
theorem ins_ne {x y : Operand} (i : Ins) (w : World) : ((do eqGuard .neq 53 x y (insV i) (insV i); binOp .neq 53 (insV i) (insV i)) : Sem Value).run Tryz.prog w = .ok (.bool false) w := by
  have h1 : Tryz.prog.eqGuardType Tryz.prog.depth 53 = false := by kernel_rfl
  have h2 : Tryz.prog.stoodInHeld 53 = false := by kernel_rfl
  have h3 : Tryz.prog.underlying 53 = some (.struct (Tryz.prog.fieldsOf 53)) := by kernel_rfl
  have u3 := Tryz.underlying3
  have a3 := Tryz.isAgg3
  have z3 := Tryz.sizeOf3
  rw [Sem.run_bind, run_eqGuard_agg w _ _ _ _ _ _ h1]
  simp only [Result.andThen_ok]
  rw [run_neq_struct, show (10000 : Nat) = 9999 + 1 from rfl, run_equalIn_agg w 9999 53 _ _ h3 h2]
  simp only [Program.fieldsOf, Tryz.underlying53]
  go_simp
theorem Y.insNe {l : Fr} {W : World → Prop} {x y : Operand} {ty ty2 : TypeId} {i : Ins} (hx : evl l x = some (insV i)) (hy : evl l y = some (insV i)) : Y Tryz.prog l W (.binOp .neq 53 x y ty2) ty (.bool false) :=
  Y.bin hx hy fun w _ => ins_ne i w
theorem eqInts_c {w0 : World} {base : Nat} {fr : List It} {ak ak2 : Option Addr} (ck ck2 : Nat) {ks : List Int} (hk : SlAt 1 intA (Lies w0 base) ak ks) (hk2 : SlAt 1 intA (Lies w0 base) ak2 ks) (hkl : ks.length ≤ 9223372036854775807) : FnC Tryz.prog 69 #[.slice ak ks.length ck, .slice ak2 ks.length ck2] (WA w0 base fr) (fun _ : Unit => .bool true) (fun _ => WA w0 base fr) := by
  refine FnC.of_body (fn := Tryz.f69) [(0, _), (1, _)] Tryz.func69 rfl Tryz.ntmps69 rfl ⟨rfl, rfl, trivial⟩ ?_
  refine CX.seq ?_
  refine CX.region ?_
  refine LX.pure (Y.assign rfl) rfl rfl rfl ?_
  refine LX.sub (l' := [(0, _), (1, _), (4, _)]) ⟨rfl, rfl, rfl, trivial⟩ ?_
  refine LX.next ?_
  refine PX.thenN ?_
  refine CX.seq ?_
  refine CX.seq ?_
  refine CX.region ?_
  refine LX.pure (Y.move rfl) rfl rfl rfl ?_
  refine LX.pure (Y.lenSl rfl Fj.un42 rfl) rfl rfl rfl ?_
  refine LX.pure (Y.move rfl) rfl rfl rfl ?_
  refine LX.pure (Y.lenSl rfl Fj.un42 rfl) rfl rfl rfl ?_
  refine LX.pure (Y.neN rfl rfl) rfl rfl rfl ?_
  refine LX.sub (l' := [(0, _), (1, _), (4, _), (10, _)]) ⟨rfl, rfl, rfl, rfl, trivial⟩ ?_
  refine LX.next ?_
  refine PX.thenN ?_
  refine CX.cond rfl (fun hb1 => ?_) (fun hb1 => ?_)
  · try simp at hb1
    done
  · try simp at hb1
    refine CX.skip ?_
    refine PX.thenN ?_
    refine CX.seq ?_
    refine CX.seq ?_
    refine CX.region ?_
    refine LX.pure (Y.move rfl) rfl rfl rfl ?_
    refine LX.pure (Y.lenSl rfl Fj.un42 rfl) rfl rfl rfl ?_
    refine LX.pure (Y.move rfl) rfl rfl rfl ?_
    refine LX.sub (l' := [(0, _), (1, _), (4, _), (12, _), (13, _)]) ⟨rfl, rfl, rfl, rfl, rfl, trivial⟩ ?_
    refine LX.next ?_
    refine PX.thenN ?_
    refine CX.block ?_
    refine CX.loop (fun j : Nat => [(0, .slice ak ks.length ck), (1, .slice ak2 ks.length ck2), (12, .int .i64 (ks.length : Int)), (13, .int .i64 (j : Int))]) (fun (j : Nat) w => j ≤ ks.length ∧ WA w0 base fr w) (fun j => ks.length - j) 0 ⟨rfl, rfl, rfl, rfl, trivial⟩ (fun w hw => ⟨Nat.zero_le _, hw⟩) ?_
    rintro j
    refine CX.have fun hj0 => ?_
    replace hj0 : j ≤ ks.length := hj0
    try dsimp only
    refine CX.seq ?_
    refine CX.region ?_
    refine LX.pure (Y.ltN rfl rfl) rfl rfl rfl ?_
    refine LX.sub (l' := [(0, _), (1, _), (12, _), (13, _), (14, _)]) ⟨rfl, rfl, rfl, rfl, rfl, trivial⟩ ?_
    refine LX.next ?_
    refine PX.thenN ?_
    refine CX.seq ?_
    refine CX.cond rfl (fun hb2 => ?_) (fun hb2 => ?_)
    · try simp at hb2
      have hj : j < ks.length := by omega
      obtain ⟨a0, hav, hL, _⟩ := hk.int_at hj
      obtain ⟨a2, hav2, hL2, _⟩ := hk2.int_at hj
      refine CX.skip ?_
      refine PX.thenN ?_
      refine CX.seq ?_
      refine CX.block ?_
      refine CX.seq ?_
      refine CX.region ?_
      refine LX.pure (Y.move rfl) rfl rfl rfl ?_
      refine LX.pure (Y.assign rfl) rfl rfl rfl ?_
      refine LX.sub (l' := [(0, _), (1, _), (5, _), (12, _), (13, _)]) ⟨rfl, rfl, rfl, rfl, rfl, trivial⟩ ?_
      refine LX.next ?_
      refine PX.thenN ?_
      refine CX.seq ?_
      refine CX.regionQ rfl (by kernel_rfl) ?_
      refine LX.pure (Y.move rfl) rfl rfl rfl ?_
      refine LX.pure (Y.move rfl) rfl rfl rfl ?_
      refine LX.pure (Y.idxZ Fj.un42 Fjb.sz3 rfl rfl hav (j := j) rfl hj) rfl rfl rfl ?_
      refine LX.pure (Y.ldO1 (v := .int .i64 (ks.getD j 0)) Fjb.one3 rfl hL) rfl rfl rfl ?_
      refine LX.pure (Y.move rfl) rfl rfl rfl ?_
      refine LX.pure (Y.move rfl) rfl rfl rfl ?_
      refine LX.pure (Y.idxZ Fj.un42 Fjb.sz3 rfl rfl hav2 (j := j) rfl hj) rfl rfl rfl ?_
      refine LX.pure (Y.ldO1 (v := .int .i64 (ks.getD j 0)) Fjb.one3 rfl hL2) rfl rfl rfl ?_
      refine LX.pure (Y.neI rfl rfl) rfl rfl rfl ?_
      refine LX.sub (l' := [(0, _), (1, _), (12, _), (13, _), (24, _)]) ⟨rfl, rfl, rfl, rfl, rfl, trivial⟩ ?_
      refine LX.nextQ ?_
      refine PX.thenN ?_
      refine CX.cond rfl (fun hb3 => ?_) (fun hb3 => ?_)
      · try simp at hb3
        done
      · try simp at hb3
        refine CX.skip ?_
        refine PX.blockN ?_
        refine PX.thenN ?_
        refine CX.region ?_
        refine LX.pure (Y.addN rfl rfl (by (simp only []; omega))) rfl rfl rfl ?_
        refine LX.pure (Y.move rfl) rfl rfl rfl ?_
        refine LX.sub (l' := [(0, _), (1, _), (12, _), (13, _)]) ⟨rfl, rfl, rfl, rfl, trivial⟩ ?_
        refine LX.next ?_
        exact PX.again (L := (fun j : Nat => [(0, .slice ak ks.length ck), (1, .slice ak2 ks.length ck2), (12, .int .i64 (ks.length : Int)), (13, .int .i64 (j : Int))])) (WW := (fun (j : Nat) w => j ≤ ks.length ∧ WA w0 base fr w)) (μ := fun j => ks.length - j) (i := j) (j + 1) (by show ks.length - (j + 1) < ks.length - j; omega) ⟨rfl, rfl, rfl, rfl, trivial⟩ (fun w hw => ⟨by show j + 1 ≤ ks.length; omega, hw⟩)
    · try simp at hb2
      refine CX.exit ?_
      refine PX.thenE ?_
      refine PX.thenE ?_
      refine PX.blockE ?_
      refine PX.thenN ?_
      refine CX.seq ?_
      refine CX.region ?_
      refine LX.pure (Y.assign rfl) rfl rfl rfl ?_
      refine LX.sub (l' := [(4, _)]) ⟨rfl, trivial⟩ ?_
      refine LX.next ?_
      refine PX.thenN ?_
      refine CX.ret ?_
      refine PX.ret1 (by simp) Tryz.results69 rfl ?_
      exact fun w hw => ⟨(), rfl, hw⟩
theorem eqStrs_c {w0 : World} {base : Nat} {fr : List It} {ak ak2 : Option Addr} (ck ck2 : Nat) {ks : List (List UInt8)} (hk : SlAt 1 strA (Lies w0 base) ak ks) (hk2 : SlAt 1 strA (Lies w0 base) ak2 ks) (hkl : ks.length ≤ 9223372036854775807) : FnC Tryz.prog 71 #[.slice ak ks.length ck, .slice ak2 ks.length ck2] (WA w0 base fr) (fun _ : Unit => .bool true) (fun _ => WA w0 base fr) := by
  refine FnC.of_body (fn := Tryz.f71) [(0, _), (1, _)] Tryz.func71 rfl Tryz.ntmps71 rfl ⟨rfl, rfl, trivial⟩ ?_
  refine CX.seq ?_
  refine CX.region ?_
  refine LX.pure (Y.assign rfl) rfl rfl rfl ?_
  refine LX.sub (l' := [(0, _), (1, _), (4, _)]) ⟨rfl, rfl, rfl, trivial⟩ ?_
  refine LX.next ?_
  refine PX.thenN ?_
  refine CX.seq ?_
  refine CX.seq ?_
  refine CX.region ?_
  refine LX.pure (Y.move rfl) rfl rfl rfl ?_
  refine LX.pure (Y.lenSl rfl Fj.un26 rfl) rfl rfl rfl ?_
  refine LX.pure (Y.move rfl) rfl rfl rfl ?_
  refine LX.pure (Y.lenSl rfl Fj.un26 rfl) rfl rfl rfl ?_
  refine LX.pure (Y.neN rfl rfl) rfl rfl rfl ?_
  refine LX.sub (l' := [(0, _), (1, _), (4, _), (10, _)]) ⟨rfl, rfl, rfl, rfl, trivial⟩ ?_
  refine LX.next ?_
  refine PX.thenN ?_
  refine CX.cond rfl (fun hb1 => ?_) (fun hb1 => ?_)
  · try simp at hb1
    done
  · try simp at hb1
    refine CX.skip ?_
    refine PX.thenN ?_
    refine CX.seq ?_
    refine CX.seq ?_
    refine CX.region ?_
    refine LX.pure (Y.move rfl) rfl rfl rfl ?_
    refine LX.pure (Y.lenSl rfl Fj.un26 rfl) rfl rfl rfl ?_
    refine LX.pure (Y.move rfl) rfl rfl rfl ?_
    refine LX.sub (l' := [(0, _), (1, _), (4, _), (12, _), (13, _)]) ⟨rfl, rfl, rfl, rfl, rfl, trivial⟩ ?_
    refine LX.next ?_
    refine PX.thenN ?_
    refine CX.block ?_
    refine CX.loop (fun j : Nat => [(0, .slice ak ks.length ck), (1, .slice ak2 ks.length ck2), (12, .int .i64 (ks.length : Int)), (13, .int .i64 (j : Int))]) (fun (j : Nat) w => j ≤ ks.length ∧ WA w0 base fr w) (fun j => ks.length - j) 0 ⟨rfl, rfl, rfl, rfl, trivial⟩ (fun w hw => ⟨Nat.zero_le _, hw⟩) ?_
    rintro j
    refine CX.have fun hj0 => ?_
    replace hj0 : j ≤ ks.length := hj0
    try dsimp only
    refine CX.seq ?_
    refine CX.region ?_
    refine LX.pure (Y.ltN rfl rfl) rfl rfl rfl ?_
    refine LX.sub (l' := [(0, _), (1, _), (12, _), (13, _), (14, _)]) ⟨rfl, rfl, rfl, rfl, rfl, trivial⟩ ?_
    refine LX.next ?_
    refine PX.thenN ?_
    refine CX.seq ?_
    refine CX.cond rfl (fun hb2 => ?_) (fun hb2 => ?_)
    · try simp at hb2
      have hj : j < ks.length := by omega
      obtain ⟨a0, _, hav, hL⟩ := Go.Tr.strA_at hk hj
      obtain ⟨a2, _, hav2, hL2⟩ := Go.Tr.strA_at hk2 hj
      refine CX.skip ?_
      refine PX.thenN ?_
      refine CX.seq ?_
      refine CX.block ?_
      refine CX.seq ?_
      refine CX.region ?_
      refine LX.pure (Y.move rfl) rfl rfl rfl ?_
      refine LX.pure (Y.assign rfl) rfl rfl rfl ?_
      refine LX.sub (l' := [(0, _), (1, _), (5, _), (12, _), (13, _)]) ⟨rfl, rfl, rfl, rfl, rfl, trivial⟩ ?_
      refine LX.next ?_
      refine PX.thenN ?_
      refine CX.seq ?_
      refine CX.regionQ rfl (by kernel_rfl) ?_
      refine LX.pure (Y.move rfl) rfl rfl rfl ?_
      refine LX.pure (Y.move rfl) rfl rfl rfl ?_
      refine LX.pure (Y.idxZ Fj.un26 Fj.sz9 rfl rfl hav (j := j) rfl hj) rfl rfl rfl ?_
      refine LX.pure (Y.ldO1 (v := str (ks.getD j [])) Fj.one9 rfl hL) rfl rfl rfl ?_
      refine LX.pure (Y.move rfl) rfl rfl rfl ?_
      refine LX.pure (Y.move rfl) rfl rfl rfl ?_
      refine LX.pure (Y.idxZ Fj.un26 Fj.sz9 rfl rfl hav2 (j := j) rfl hj) rfl rfl rfl ?_
      refine LX.pure (Y.ldO1 (v := str (ks.getD j [])) Fj.one9 rfl hL2) rfl rfl rfl ?_
      refine LX.pure (Y.neS rfl rfl) rfl rfl rfl ?_
      refine LX.sub (l' := [(0, _), (1, _), (12, _), (13, _), (24, _)]) ⟨rfl, rfl, rfl, rfl, rfl, trivial⟩ ?_
      refine LX.nextQ ?_
      refine PX.thenN ?_
      refine CX.cond rfl (fun hb3 => ?_) (fun hb3 => ?_)
      · try simp at hb3
        done
      · try simp at hb3
        refine CX.skip ?_
        refine PX.blockN ?_
        refine PX.thenN ?_
        refine CX.region ?_
        refine LX.pure (Y.addN rfl rfl (by (simp only []; omega))) rfl rfl rfl ?_
        refine LX.pure (Y.move rfl) rfl rfl rfl ?_
        refine LX.sub (l' := [(0, _), (1, _), (12, _), (13, _)]) ⟨rfl, rfl, rfl, rfl, trivial⟩ ?_
        refine LX.next ?_
        exact PX.again (L := (fun j : Nat => [(0, .slice ak ks.length ck), (1, .slice ak2 ks.length ck2), (12, .int .i64 (ks.length : Int)), (13, .int .i64 (j : Int))])) (WW := (fun (j : Nat) w => j ≤ ks.length ∧ WA w0 base fr w)) (μ := fun j => ks.length - j) (i := j) (j + 1) (by show ks.length - (j + 1) < ks.length - j; omega) ⟨rfl, rfl, rfl, rfl, trivial⟩ (fun w hw => ⟨by show j + 1 ≤ ks.length; omega, hw⟩)
    · try simp at hb2
      refine CX.exit ?_
      refine PX.thenE ?_
      refine PX.thenE ?_
      refine PX.blockE ?_
      refine PX.thenN ?_
      refine CX.seq ?_
      refine CX.region ?_
      refine LX.pure (Y.assign rfl) rfl rfl rfl ?_
      refine LX.sub (l' := [(4, _)]) ⟨rfl, trivial⟩ ?_
      refine LX.next ?_
      refine PX.thenN ?_
      refine CX.ret ?_
      refine PX.ret1 (by simp) Tryz.results71 rfl ?_
      exact fun w hw => ⟨(), rfl, hw⟩
theorem eqIns_c {w0 : World} {base : Nat} {fr : List It} {ak ak2 : Option Addr} (ck ck2 : Nat) {ks : List Ins} (hk : SlAt 4 insA (Lies w0 base) ak ks) (hk2 : SlAt 4 insA (Lies w0 base) ak2 ks) (hkl : ks.length ≤ 9223372036854775807) : FnC Tryz.prog 72 #[.slice ak ks.length ck, .slice ak2 ks.length ck2] (WA w0 base fr) (fun _ : Unit => .bool true) (fun _ => WA w0 base fr) := by
  refine FnC.of_body (fn := Tryz.f72) [(0, _), (1, _)] Tryz.func72 rfl Tryz.ntmps72 rfl ⟨rfl, rfl, trivial⟩ ?_
  refine CX.seq ?_
  refine CX.region ?_
  refine LX.pure (Y.assign rfl) rfl rfl rfl ?_
  refine LX.sub (l' := [(0, _), (1, _), (4, _)]) ⟨rfl, rfl, rfl, trivial⟩ ?_
  refine LX.next ?_
  refine PX.thenN ?_
  refine CX.seq ?_
  refine CX.seq ?_
  refine CX.region ?_
  refine LX.pure (Y.move rfl) rfl rfl rfl ?_
  refine LX.pure (Y.lenSl rfl Fja.un49 rfl) rfl rfl rfl ?_
  refine LX.pure (Y.move rfl) rfl rfl rfl ?_
  refine LX.pure (Y.lenSl rfl Fja.un49 rfl) rfl rfl rfl ?_
  refine LX.pure (Y.neN rfl rfl) rfl rfl rfl ?_
  refine LX.sub (l' := [(0, _), (1, _), (4, _), (10, _)]) ⟨rfl, rfl, rfl, rfl, trivial⟩ ?_
  refine LX.next ?_
  refine PX.thenN ?_
  refine CX.cond rfl (fun hb1 => ?_) (fun hb1 => ?_)
  · try simp at hb1
    done
  · try simp at hb1
    refine CX.skip ?_
    refine PX.thenN ?_
    refine CX.seq ?_
    refine CX.seq ?_
    refine CX.region ?_
    refine LX.pure (Y.move rfl) rfl rfl rfl ?_
    refine LX.pure (Y.lenSl rfl Fja.un49 rfl) rfl rfl rfl ?_
    refine LX.pure (Y.move rfl) rfl rfl rfl ?_
    refine LX.sub (l' := [(0, _), (1, _), (4, _), (12, _), (13, _)]) ⟨rfl, rfl, rfl, rfl, rfl, trivial⟩ ?_
    refine LX.next ?_
    refine PX.thenN ?_
    refine CX.block ?_
    refine CX.loop (fun j : Nat => [(0, .slice ak ks.length ck), (1, .slice ak2 ks.length ck2), (12, .int .i64 (ks.length : Int)), (13, .int .i64 (j : Int))]) (fun (j : Nat) w => j ≤ ks.length ∧ WA w0 base fr w) (fun j => ks.length - j) 0 ⟨rfl, rfl, rfl, rfl, trivial⟩ (fun w hw => ⟨Nat.zero_le _, hw⟩) ?_
    rintro j
    refine CX.have fun hj0 => ?_
    replace hj0 : j ≤ ks.length := hj0
    try dsimp only
    refine CX.seq ?_
    refine CX.region ?_
    refine LX.pure (Y.ltN rfl rfl) rfl rfl rfl ?_
    refine LX.sub (l' := [(0, _), (1, _), (12, _), (13, _), (14, _)]) ⟨rfl, rfl, rfl, rfl, rfl, trivial⟩ ?_
    refine LX.next ?_
    refine PX.thenN ?_
    refine CX.seq ?_
    refine CX.cond rfl (fun hb2 => ?_) (fun hb2 => ?_)
    · try simp at hb2
      have hj : j < ks.length := by omega
      obtain ⟨i, hi⟩ : ∃ i, ks[j]? = some i := ⟨_, List.getElem?_eq_getElem hj⟩
      obtain ⟨a0, cs, hav, hcl, hL, rfl, _⟩ := hk j i hi
      obtain ⟨a2, cs2, hav2, hcl2, hL2, rfl, _⟩ := hk2 j i hi
      refine CX.skip ?_
      refine PX.thenN ?_
      refine CX.seq ?_
      refine CX.block ?_
      refine CX.seq ?_
      refine CX.region ?_
      refine LX.pure (Y.move rfl) rfl rfl rfl ?_
      refine LX.pure (Y.assign rfl) rfl rfl rfl ?_
      refine LX.sub (l' := [(0, _), (1, _), (5, _), (12, _), (13, _)]) ⟨rfl, rfl, rfl, rfl, rfl, trivial⟩ ?_
      refine LX.next ?_
      refine PX.thenN ?_
      refine CX.seq ?_
      refine CX.regionQ rfl (by kernel_rfl) ?_
      refine LX.pure (Y.move rfl) rfl rfl rfl ?_
      refine LX.pure (Y.move rfl) rfl rfl rfl ?_
      refine LX.pure (Y.idxZ Fja.un49 Fjf.sz53 rfl rfl hav (j := j) rfl hj) rfl rfl rfl ?_
      refine LX.pure (Y.ldAO (cs := insCs i) Fjf.ag53 rfl hL rfl) rfl rfl rfl ?_
      refine LX.pure (Y.move rfl) rfl rfl rfl ?_
      refine LX.pure (Y.move rfl) rfl rfl rfl ?_
      refine LX.pure (Y.idxZ Fja.un49 Fjf.sz53 rfl rfl hav2 (j := j) rfl hj) rfl rfl rfl ?_
      refine LX.pure (Y.ldAO (cs := insCs i) Fjf.ag53 rfl hL2 rfl) rfl rfl rfl ?_
      refine LX.pure (Y.insNe rfl rfl) rfl rfl rfl ?_
      refine LX.sub (l' := [(0, _), (1, _), (12, _), (13, _), (24, _)]) ⟨rfl, rfl, rfl, rfl, rfl, trivial⟩ ?_
      refine LX.nextQ ?_
      refine PX.thenN ?_
      refine CX.cond rfl (fun hb3 => ?_) (fun hb3 => ?_)
      · try simp at hb3
        done
      · try simp at hb3
        refine CX.skip ?_
        refine PX.blockN ?_
        refine PX.thenN ?_
        refine CX.region ?_
        refine LX.pure (Y.addN rfl rfl (by (simp only []; omega))) rfl rfl rfl ?_
        refine LX.pure (Y.move rfl) rfl rfl rfl ?_
        refine LX.sub (l' := [(0, _), (1, _), (12, _), (13, _)]) ⟨rfl, rfl, rfl, rfl, trivial⟩ ?_
        refine LX.next ?_
        exact PX.again (L := (fun j : Nat => [(0, .slice ak ks.length ck), (1, .slice ak2 ks.length ck2), (12, .int .i64 (ks.length : Int)), (13, .int .i64 (j : Int))])) (WW := (fun (j : Nat) w => j ≤ ks.length ∧ WA w0 base fr w)) (μ := fun j => ks.length - j) (i := j) (j + 1) (by show ks.length - (j + 1) < ks.length - j; omega) ⟨rfl, rfl, rfl, rfl, trivial⟩ (fun w hw => ⟨by show j + 1 ≤ ks.length; omega, hw⟩)
    · try simp at hb2
      refine CX.exit ?_
      refine PX.thenE ?_
      refine PX.thenE ?_
      refine PX.blockE ?_
      refine PX.thenN ?_
      refine CX.seq ?_
      refine CX.region ?_
      refine LX.pure (Y.assign rfl) rfl rfl rfl ?_
      refine LX.sub (l' := [(4, _)]) ⟨rfl, trivial⟩ ?_
      refine LX.next ?_
      refine PX.thenN ?_
      refine CX.ret ?_
      refine PX.ret1 (by simp) Tryz.results72 rfl ?_
      exact fun w hw => ⟨(), rfl, hw⟩
theorem same1_c {w0 : World} {base : Nat} {fr : List It} {x : Nd} {cs cs2 : List Value} (h1 : ndA (Lies w0 base) cs x) (h2 : ndA (Lies w0 base) cs2 x) : FnC Tryz.prog 68 #[.agg cs.toArray, .agg cs2.toArray] (WA w0 base fr) (fun _ : Unit => .bool true) (fun _ => WA w0 base fr) := by
  obtain ⟨vk, rfl, hks, _⟩ := h1
  obtain ⟨ak, ck, rfl, ⟨hkn, _⟩, hka⟩ := hks.sl
  obtain ⟨vk2, rfl, hks2, _⟩ := h2
  obtain ⟨ak2, ck2, rfl, _, hka2⟩ := hks2.sl
  refine FnC.of_body (fn := Tryz.f68) [(0, _), (1, _)] Tryz.func68 rfl Tryz.ntmps68 rfl ⟨rfl, rfl, trivial⟩ ?_
  refine CX.seq ?_
  refine CX.region ?_
  refine LX.box rfl rfl rfl rfl rfl ?_
  intro bx0
  refine LX.box rfl rfl rfl rfl rfl ?_
  intro bx1
  refine LX.pure (Y.assign rfl) rfl rfl rfl ?_
  refine LX.sub (l' := [(2, _), (3, _), (4, _)]) ⟨rfl, rfl, rfl, trivial⟩ ?_
  refine LX.next ?_
  refine PX.thenN ?_
  refine CX.seq ?_
  refine CX.region ?_
  refine LX.pure (Y.fieldAddr0 Fjc.fo44_0 rfl) rfl rfl rfl ?_
  refine LX.pure (Y.ldB 1 Fjb.one3 rfl rfl rfl) rfl rfl rfl ?_
  refine LX.pure (Y.fieldAddr0 Fjc.fo44_0 rfl) rfl rfl rfl ?_
  refine LX.pure (Y.ldB 0 Fjb.one3 rfl rfl rfl) rfl rfl rfl ?_
  refine LX.pure (Y.eqI rfl rfl) rfl rfl rfl ?_
  refine LX.pure (Y.move rfl) rfl rfl rfl ?_
  refine LX.sub (l' := [(2, _), (3, _), (4, _), (10, _)]) ⟨rfl, rfl, rfl, rfl, trivial⟩ ?_
  apply LX.joinAnd 6 16 10 rfl
  · intro hb1
    have hb1p := hb1
    try simp at hb1p
    refine LX.gT rfl rfl rfl hb1 (Y.fieldAddr0 Fjc.fo44_1 rfl) rfl rfl ?_
    refine LX.gT rfl rfl rfl hb1 (Y.ldB 1 Fjb.one3 rfl rfl rfl) rfl rfl ?_
    refine LX.gT rfl rfl rfl hb1 (Y.fieldAddr0 Fjc.fo44_1 rfl) rfl rfl ?_
    refine LX.gT rfl rfl rfl hb1 (Y.ldB 0 Fjb.one3 rfl rfl rfl) rfl rfl ?_
    refine LX.gT rfl rfl rfl hb1 (Y.eqI rfl rfl) rfl rfl ?_
    refine LX.pure (Y.pickT rfl hb1 rfl) rfl rfl rfl ?_
    exact LX.left ⟨rfl, rfl, rfl, rfl, rfl, trivial⟩
  · intro hb1
    (simp at hb1; done)
  refine LX.pure (Y.move rfl) rfl rfl rfl ?_
  refine LX.sub (l' := [(2, _), (3, _), (4, _), (17, _)]) ⟨rfl, rfl, rfl, rfl, trivial⟩ ?_
  apply LX.joinAnd 6 23 17 rfl
  · intro hb2
    have hb2p := hb2
    try simp at hb2p
    refine LX.gT rfl rfl rfl hb2 (Y.fieldAddr0 Fjc.fo44_2 rfl) rfl rfl ?_
    refine LX.gT rfl rfl rfl hb2 (Y.ldB 1 Fjb.one3 rfl rfl rfl) rfl rfl ?_
    refine LX.gT rfl rfl rfl hb2 (Y.fieldAddr0 Fjc.fo44_2 rfl) rfl rfl ?_
    refine LX.gT rfl rfl rfl hb2 (Y.ldB 0 Fjb.one3 rfl rfl rfl) rfl rfl ?_
    refine LX.gT rfl rfl rfl hb2 (Y.eqI rfl rfl) rfl rfl ?_
    refine LX.pure (Y.pickT rfl hb2 rfl) rfl rfl rfl ?_
    exact LX.left ⟨rfl, rfl, rfl, rfl, rfl, trivial⟩
  · intro hb2
    (simp at hb2; done)
  refine LX.pure (Y.move rfl) rfl rfl rfl ?_
  refine LX.sub (l' := [(2, _), (3, _), (4, _), (24, _)]) ⟨rfl, rfl, rfl, rfl, trivial⟩ ?_
  apply LX.joinAnd 6 30 24 rfl
  · intro hb3
    have hb3p := hb3
    try simp at hb3p
    refine LX.gT rfl rfl rfl hb3 (Y.fieldAddr0 Fj.fo44_3 rfl) rfl rfl ?_
    refine LX.gT rfl rfl rfl hb3 (Y.ldB 1 Fj.one9 rfl rfl rfl) rfl rfl ?_
    refine LX.gT rfl rfl rfl hb3 (Y.fieldAddr0 Fj.fo44_3 rfl) rfl rfl ?_
    refine LX.gT rfl rfl rfl hb3 (Y.ldB 0 Fj.one9 rfl rfl rfl) rfl rfl ?_
    refine LX.gT rfl rfl rfl hb3 (Y.eqS rfl rfl) rfl rfl ?_
    refine LX.pure (Y.pickT rfl hb3 rfl) rfl rfl rfl ?_
    exact LX.left ⟨rfl, rfl, rfl, rfl, rfl, trivial⟩
  · intro hb3
    (simp at hb3; done)
  refine LX.pure (Y.move rfl) rfl rfl rfl ?_
  refine LX.sub (l' := [(2, _), (3, _), (4, _), (31, _)]) ⟨rfl, rfl, rfl, rfl, trivial⟩ ?_
  apply LX.joinAnd 6 37 31 rfl
  · intro hb4
    have hb4p := hb4
    try simp at hb4p
    refine LX.gT rfl rfl rfl hb4 (Y.fieldAddr0 Fj.fo44_4 rfl) rfl rfl ?_
    refine LX.gT rfl rfl rfl hb4 (Y.ldB 1 Fj.one42 rfl rfl rfl) rfl rfl ?_
    refine LX.gT rfl rfl rfl hb4 (Y.fieldAddr0 Fj.fo44_4 rfl) rfl rfl ?_
    refine LX.gT rfl rfl rfl hb4 (Y.ldB 0 Fj.one42 rfl rfl rfl) rfl rfl ?_
    refine LX.callT rfl rfl rfl hb4 (eqInts_c ck ck2 hka hka2 hkn) Hw.en69 rfl rfl rfl rfl ?_
    intro _
    refine LX.pure (Y.pickT rfl hb4 rfl) rfl rfl rfl ?_
    exact LX.leftP ⟨rfl, rfl, rfl, rfl, rfl, trivial⟩
  · intro hb4
    (simp at hb4; done)
  refine LX.pure (Y.assign rfl) rfl rfl rfl ?_
  refine LX.sub (l' := [(4, _)]) ⟨rfl, trivial⟩ ?_
  refine LX.next ?_
  refine PX.thenN ?_
  refine CX.ret ?_
  refine PX.ret1 (by simp) Tryz.results68 rfl ?_
  exact fun w hw => ⟨(), by simp, hw.drop (.cons _ (.cons _ (List.Sublist.refl _)))⟩
theorem same2_c {w0 : World} {base : Nat} {fr : List It} {x : Fc} {cs cs2 : List Value} (h1 : fnA (Lies w0 base) cs x) (h2 : fnA (Lies w0 base) cs2 x) : FnC Tryz.prog 70 #[.agg cs.toArray, .agg cs2.toArray] (WA w0 base fr) (fun _ : Unit => .bool true) (fun _ => WA w0 base fr) := by
  obtain ⟨vn, vc, rfl, hnm, hcd, _⟩ := h1
  obtain ⟨an, cn, rfl, ⟨hnn, _⟩, hna⟩ := hnm.sl
  obtain ⟨ad, cd, rfl, ⟨hdn, _⟩, hda⟩ := hcd.sl
  obtain ⟨vn2, vc2, rfl, hnm2, hcd2, _⟩ := h2
  obtain ⟨an2, cn2, rfl, _, hna2⟩ := hnm2.sl
  obtain ⟨ad2, cd2, rfl, _, hda2⟩ := hcd2.sl
  refine FnC.of_body (fn := Tryz.f70) [(0, _), (1, _)] Tryz.func70 rfl Tryz.ntmps70 rfl ⟨rfl, rfl, trivial⟩ ?_
  refine CX.seq ?_
  refine CX.region ?_
  refine LX.box rfl rfl rfl rfl rfl ?_
  intro bx0
  refine LX.box rfl rfl rfl rfl rfl ?_
  intro bx1
  refine LX.pure (Y.assign rfl) rfl rfl rfl ?_
  refine LX.sub (l' := [(2, _), (3, _), (4, _)]) ⟨rfl, rfl, rfl, trivial⟩ ?_
  refine LX.next ?_
  refine PX.thenN ?_
  refine CX.seq ?_
  refine CX.region ?_
  refine LX.pure (Y.fieldAddr0 Fja.fo51_0 rfl) rfl rfl rfl ?_
  refine LX.pure (Y.ldB 1 Fj.one9 rfl rfl rfl) rfl rfl rfl ?_
  refine LX.pure (Y.fieldAddr0 Fja.fo51_0 rfl) rfl rfl rfl ?_
  refine LX.pure (Y.ldB 0 Fj.one9 rfl rfl rfl) rfl rfl rfl ?_
  refine LX.pure (Y.eqS rfl rfl) rfl rfl rfl ?_
  refine LX.pure (Y.move rfl) rfl rfl rfl ?_
  refine LX.sub (l' := [(2, _), (3, _), (4, _), (10, _)]) ⟨rfl, rfl, rfl, rfl, trivial⟩ ?_
  apply LX.joinAnd 6 16 10 rfl
  · intro hb1
    have hb1p := hb1
    try simp at hb1p
    refine LX.gT rfl rfl rfl hb1 (Y.fieldAddr0 Fjf.fo51_1 rfl) rfl rfl ?_
    refine LX.gT rfl rfl rfl hb1 (Y.ldB 1 Fjb.one3 rfl rfl rfl) rfl rfl ?_
    refine LX.gT rfl rfl rfl hb1 (Y.fieldAddr0 Fjf.fo51_1 rfl) rfl rfl ?_
    refine LX.gT rfl rfl rfl hb1 (Y.ldB 0 Fjb.one3 rfl rfl rfl) rfl rfl ?_
    refine LX.gT rfl rfl rfl hb1 (Y.eqI rfl rfl) rfl rfl ?_
    refine LX.pure (Y.pickT rfl hb1 rfl) rfl rfl rfl ?_
    exact LX.left ⟨rfl, rfl, rfl, rfl, rfl, trivial⟩
  · intro hb1
    (simp at hb1; done)
  refine LX.pure (Y.move rfl) rfl rfl rfl ?_
  refine LX.sub (l' := [(2, _), (3, _), (4, _), (17, _)]) ⟨rfl, rfl, rfl, rfl, trivial⟩ ?_
  apply LX.joinAnd 6 23 17 rfl
  · intro hb2
    have hb2p := hb2
    try simp at hb2p
    refine LX.gT rfl rfl rfl hb2 (Y.fieldAddr0 Fjf.fo51_2 rfl) rfl rfl ?_
    refine LX.gT rfl rfl rfl hb2 (Y.ldB 1 Fjb.one3 rfl rfl rfl) rfl rfl ?_
    refine LX.gT rfl rfl rfl hb2 (Y.fieldAddr0 Fjf.fo51_2 rfl) rfl rfl ?_
    refine LX.gT rfl rfl rfl hb2 (Y.ldB 0 Fjb.one3 rfl rfl rfl) rfl rfl ?_
    refine LX.gT rfl rfl rfl hb2 (Y.eqI rfl rfl) rfl rfl ?_
    refine LX.pure (Y.pickT rfl hb2 rfl) rfl rfl rfl ?_
    exact LX.left ⟨rfl, rfl, rfl, rfl, rfl, trivial⟩
  · intro hb2
    (simp at hb2; done)
  refine LX.pure (Y.move rfl) rfl rfl rfl ?_
  refine LX.sub (l' := [(2, _), (3, _), (4, _), (24, _)]) ⟨rfl, rfl, rfl, rfl, trivial⟩ ?_
  apply LX.joinAnd 6 30 24 rfl
  · intro hb3
    have hb3p := hb3
    try simp at hb3p
    refine LX.gT rfl rfl rfl hb3 (Y.fieldAddr0 Fjf.fo51_3 rfl) rfl rfl ?_
    refine LX.gT rfl rfl rfl hb3 (Y.ldB 1 Fjb.one3 rfl rfl rfl) rfl rfl ?_
    refine LX.gT rfl rfl rfl hb3 (Y.fieldAddr0 Fjf.fo51_3 rfl) rfl rfl ?_
    refine LX.gT rfl rfl rfl hb3 (Y.ldB 0 Fjb.one3 rfl rfl rfl) rfl rfl ?_
    refine LX.gT rfl rfl rfl hb3 (Y.eqI rfl rfl) rfl rfl ?_
    refine LX.pure (Y.pickT rfl hb3 rfl) rfl rfl rfl ?_
    exact LX.left ⟨rfl, rfl, rfl, rfl, rfl, trivial⟩
  · intro hb3
    (simp at hb3; done)
  refine LX.pure (Y.move rfl) rfl rfl rfl ?_
  refine LX.sub (l' := [(2, _), (3, _), (4, _), (31, _)]) ⟨rfl, rfl, rfl, rfl, trivial⟩ ?_
  apply LX.joinAnd 6 37 31 rfl
  · intro hb4
    have hb4p := hb4
    try simp at hb4p
    refine LX.gT rfl rfl rfl hb4 (Y.fieldAddr0 Fja.fo51_4 rfl) rfl rfl ?_
    refine LX.gT rfl rfl rfl hb4 (Y.ldB 1 Fja.one26 rfl rfl rfl) rfl rfl ?_
    refine LX.gT rfl rfl rfl hb4 (Y.fieldAddr0 Fja.fo51_4 rfl) rfl rfl ?_
    refine LX.gT rfl rfl rfl hb4 (Y.ldB 0 Fja.one26 rfl rfl rfl) rfl rfl ?_
    refine LX.callT rfl rfl rfl hb4 (eqStrs_c cn cn2 hna hna2 hnn) Hw.en71 rfl rfl rfl rfl ?_
    intro _
    refine LX.pure (Y.pickT rfl hb4 rfl) rfl rfl rfl ?_
    exact LX.leftP ⟨rfl, rfl, rfl, rfl, rfl, trivial⟩
  · intro hb4
    (simp at hb4; done)
  refine LX.pure (Y.move rfl) rfl rfl rfl ?_
  refine LX.sub (l' := [(2, _), (3, _), (4, _), (38, _)]) ⟨rfl, rfl, rfl, rfl, trivial⟩ ?_
  apply LX.joinAnd 6 44 38 rfl
  · intro hb5
    have hb5p := hb5
    try simp at hb5p
    refine LX.gT rfl rfl rfl hb5 (Y.fieldAddr0 Fja.fo51_5 rfl) rfl rfl ?_
    refine LX.gT rfl rfl rfl hb5 (Y.ldB 1 Fja.one49 rfl rfl rfl) rfl rfl ?_
    refine LX.gT rfl rfl rfl hb5 (Y.fieldAddr0 Fja.fo51_5 rfl) rfl rfl ?_
    refine LX.gT rfl rfl rfl hb5 (Y.ldB 0 Fja.one49 rfl rfl rfl) rfl rfl ?_
    refine LX.callT rfl rfl rfl hb5 (eqIns_c cd cd2 hda hda2 hdn) Hw.en72 rfl rfl rfl rfl ?_
    intro _
    refine LX.pure (Y.pickT rfl hb5 rfl) rfl rfl rfl ?_
    exact LX.leftP ⟨rfl, rfl, rfl, rfl, rfl, trivial⟩
  · intro hb5
    (simp at hb5; done)
  refine LX.pure (Y.assign rfl) rfl rfl rfl ?_
  refine LX.sub (l' := [(4, _)]) ⟨rfl, trivial⟩ ?_
  refine LX.next ?_
  refine PX.thenN ?_
  refine CX.ret ?_
  refine PX.ret1 (by simp) Tryz.results70 rfl ?_
  exact fun w hw => ⟨(), by simp, hw.drop (.cons _ (.cons _ (List.Sublist.refl _)))⟩
theorem eqNds_c {w0 : World} {base : Nat} {fr : List It} {ak ak2 : Option Addr} (ck ck2 : Nat) {ks : List Nd} (hk : SlAt 5 ndA (Lies w0 base) ak ks) (hk2 : SlAt 5 ndA (Lies w0 base) ak2 ks) (hkl : ks.length ≤ 9223372036854775807) : FnC Tryz.prog 73 #[.slice ak ks.length ck, .slice ak2 ks.length ck2, .func (.func 68) #[] #[]] (WA w0 base fr) (fun _ : Unit => .bool true) (fun _ => WA w0 base fr) := by
  refine FnC.of_body (fn := Tryz.f73) [(0, _), (1, _), (2, _)] Tryz.func73 rfl Tryz.ntmps73 rfl ⟨rfl, rfl, rfl, trivial⟩ ?_
  refine CX.seq ?_
  refine CX.region ?_
  refine LX.pure (Y.assign rfl) rfl rfl rfl ?_
  refine LX.sub (l' := [(0, _), (1, _), (2, _), (6, _)]) ⟨rfl, rfl, rfl, rfl, trivial⟩ ?_
  refine LX.next ?_
  refine PX.thenN ?_
  refine CX.seq ?_
  refine CX.seq ?_
  refine CX.region ?_
  refine LX.pure (Y.move rfl) rfl rfl rfl ?_
  refine LX.pure (Y.lenSl rfl Fj.un22 rfl) rfl rfl rfl ?_
  refine LX.pure (Y.move rfl) rfl rfl rfl ?_
  refine LX.pure (Y.lenSl rfl Fj.un22 rfl) rfl rfl rfl ?_
  refine LX.pure (Y.neN rfl rfl) rfl rfl rfl ?_
  refine LX.sub (l' := [(0, _), (1, _), (2, _), (6, _), (14, _)]) ⟨rfl, rfl, rfl, rfl, rfl, trivial⟩ ?_
  refine LX.next ?_
  refine PX.thenN ?_
  refine CX.cond rfl (fun hb1 => ?_) (fun hb1 => ?_)
  · try simp at hb1
    done
  · try simp at hb1
    refine CX.skip ?_
    refine PX.thenN ?_
    refine CX.seq ?_
    refine CX.seq ?_
    refine CX.region ?_
    refine LX.pure (Y.move rfl) rfl rfl rfl ?_
    refine LX.pure (Y.lenSl rfl Fj.un22 rfl) rfl rfl rfl ?_
    refine LX.pure (Y.move rfl) rfl rfl rfl ?_
    refine LX.sub (l' := [(1, _), (2, _), (6, _), (15, _), (16, _), (17, _)]) ⟨rfl, rfl, rfl, rfl, rfl, rfl, trivial⟩ ?_
    refine LX.next ?_
    refine PX.thenN ?_
    refine CX.block ?_
    refine CX.loop (fun j : Nat => [(1, .slice ak2 ks.length ck2), (2, .func (.func 68) #[] #[]), (15, .slice ak ks.length ck), (16, .int .i64 (ks.length : Int)), (17, .int .i64 (j : Int))]) (fun (j : Nat) w => j ≤ ks.length ∧ WA w0 base fr w) (fun j => ks.length - j) 0 ⟨rfl, rfl, rfl, rfl, rfl, trivial⟩ (fun w hw => ⟨Nat.zero_le _, hw⟩) ?_
    rintro j
    refine CX.have fun hj0 => ?_
    replace hj0 : j ≤ ks.length := hj0
    try dsimp only
    refine CX.seq ?_
    refine CX.region ?_
    refine LX.pure (Y.ltN rfl rfl) rfl rfl rfl ?_
    refine LX.sub (l' := [(1, _), (2, _), (15, _), (16, _), (17, _), (18, _)]) ⟨rfl, rfl, rfl, rfl, rfl, rfl, trivial⟩ ?_
    refine LX.next ?_
    refine PX.thenN ?_
    refine CX.seq ?_
    refine CX.cond rfl (fun hb2 => ?_) (fun hb2 => ?_)
    · try simp at hb2
      have hj : j < ks.length := by omega
      obtain ⟨x, hx⟩ : ∃ x, ks[j]? = some x := ⟨_, List.getElem?_eq_getElem hj⟩
      obtain ⟨a0, cs, hav, hcl, hL, hA⟩ := hk j x hx
      obtain ⟨a2, cs2, hav2, hcl2, hL2, hA2⟩ := hk2 j x hx
      obtain ⟨vk, rfl, hks, hin⟩ := hA
      obtain ⟨ak3, ck3, rfl, _, _⟩ := hks.sl
      obtain ⟨vk4, rfl, hks2, hin2⟩ := hA2
      obtain ⟨ak4, ck4, rfl, _, _⟩ := hks2.sl
      refine CX.skip ?_
      refine PX.thenN ?_
      refine CX.seq ?_
      refine CX.block ?_
      refine CX.seq ?_
      refine CX.region ?_
      refine LX.pure (Y.move rfl) rfl rfl rfl ?_
      refine LX.pure (Y.idxZ Fj.un22 Fj.sz44 rfl rfl hav (j := j) rfl hj) rfl rfl rfl ?_
      refine LX.pure (Y.ldAO (cs := [.int .i64 x.op, .int .i64 x.n, .int .i64 x.pos, str x.s, .slice ak3 x.kids.length ck3]) Fjc.ag44 rfl hL rfl) rfl rfl rfl ?_
      refine LX.alloc rfl Fjc.zv44 rfl rfl rfl ?_
      intro b8x
      refine LX.pure (Y.assign rfl) rfl rfl rfl ?_
      refine LX.storeA 0 Fjc.ag44 rfl rfl rfl rfl rfl rfl rfl rfl rfl ?_
      refine LX.sub (l' := [(1, _), (2, _), (7, _), (8, _), (15, _), (16, _), (17, _)]) ⟨rfl, rfl, rfl, rfl, rfl, rfl, rfl, trivial⟩ ?_
      refine LX.next ?_
      refine PX.thenN ?_
      refine CX.seq ?_
      refine CX.region ?_
      refine LX.pure (Y.move rfl) rfl rfl rfl ?_
      refine LX.pure (Y.move rfl) rfl rfl rfl ?_
      refine LX.pure (Y.idxZ Fj.un22 Fj.sz44 rfl rfl hav2 (j := j) rfl hj) rfl rfl rfl ?_
      refine LX.pure (Y.ldAO (cs := [.int .i64 x.op, .int .i64 x.n, .int .i64 x.pos, str x.s, .slice ak4 x.kids.length ck4]) Fjc.ag44 rfl hL2 rfl) rfl rfl rfl ?_
      refine LX.alloc rfl Fjc.zv44 rfl rfl rfl ?_
      intro b9x
      refine LX.storeA 0 Fjc.ag44 rfl rfl rfl rfl rfl rfl rfl rfl rfl ?_
      refine LX.sub (l' := [(1, _), (2, _), (8, _), (9, _), (15, _), (16, _), (17, _)]) ⟨rfl, rfl, rfl, rfl, rfl, rfl, rfl, trivial⟩ ?_
      refine LX.next ?_
      refine PX.thenN ?_
      refine CX.seq ?_
      refine CX.region ?_
      refine LX.pure (Y.move rfl) rfl rfl rfl ?_
      refine LX.pure (Y.ldAggB (vs := [.int .i64 x.op, .int .i64 x.n, .int .i64 x.pos, str x.s, .slice ak3 x.kids.length ck3]) 1 Fjc.ag44 rfl rfl rfl rfl) rfl rfl rfl ?_
      refine LX.pure (Y.ldAggB (vs := [.int .i64 x.op, .int .i64 x.n, .int .i64 x.pos, str x.s, .slice ak4 x.kids.length ck4]) 0 Fjc.ag44 rfl rfl rfl rfl) rfl rfl rfl ?_
      refine LX.callV (fst := #[]) (vs := [.agg ([.int .i64 x.op, .int .i64 x.n, .int .i64 x.pos, str x.s, .slice ak3 x.kids.length ck3]).toArray, .agg ([.int .i64 x.op, .int .i64 x.n, .int .i64 x.pos, str x.s, .slice ak4 x.kids.length ck4]).toArray]) (cap := #[]) (same1_c ⟨_, rfl, hks, hin⟩ ⟨_, rfl, hks2, hin2⟩) Hw.en68 rfl rfl rfl rfl rfl rfl ?_
      intro _
      refine LX.pure (Y.not rfl) rfl rfl rfl ?_
      refine LX.sub (l' := [(1, _), (2, _), (15, _), (16, _), (17, _), (30, _)]) ⟨rfl, rfl, rfl, rfl, rfl, rfl, trivial⟩ ?_
      refine LX.next ?_
      refine PX.thenN ?_
      refine CX.cond rfl (fun hb3 => ?_) (fun hb3 => ?_)
      · try simp at hb3
        done
      · try simp at hb3
        refine CX.skip ?_
        refine PX.blockN ?_
        refine PX.thenN ?_
        refine CX.region ?_
        refine LX.pure (Y.addN rfl rfl (by (simp only []; omega))) rfl rfl rfl ?_
        refine LX.pure (Y.move rfl) rfl rfl rfl ?_
        refine LX.sub (l' := [(1, _), (2, _), (15, _), (16, _), (17, _)]) ⟨rfl, rfl, rfl, rfl, rfl, trivial⟩ ?_
        refine LX.next ?_
        exact PX.again (L := (fun j : Nat => [(1, .slice ak2 ks.length ck2), (2, .func (.func 68) #[] #[]), (15, .slice ak ks.length ck), (16, .int .i64 (ks.length : Int)), (17, .int .i64 (j : Int))])) (WW := (fun (j : Nat) w => j ≤ ks.length ∧ WA w0 base fr w)) (μ := fun j => ks.length - j) (i := j) (j + 1) (by show ks.length - (j + 1) < ks.length - j; omega) ⟨rfl, rfl, rfl, rfl, rfl, trivial⟩ (fun w hw => ⟨by show j + 1 ≤ ks.length; omega, hw.drop (.cons _ (.cons _ (List.Sublist.refl _)))⟩)
    · try simp at hb2
      refine CX.exit ?_
      refine PX.thenE ?_
      refine PX.thenE ?_
      refine PX.blockE ?_
      refine PX.thenN ?_
      refine CX.seq ?_
      refine CX.region ?_
      refine LX.pure (Y.assign rfl) rfl rfl rfl ?_
      refine LX.sub (l' := [(6, _)]) ⟨rfl, trivial⟩ ?_
      refine LX.next ?_
      refine PX.thenN ?_
      refine CX.ret ?_
      refine PX.ret1 (by simp) Tryz.results73 rfl ?_
      exact fun w hw => ⟨(), rfl, hw⟩
theorem eqFcs_c {w0 : World} {base : Nat} {fr : List It} {ak ak2 : Option Addr} (ck ck2 : Nat) {ks : List Fc} (hk : SlAt 6 fnA (Lies w0 base) ak ks) (hk2 : SlAt 6 fnA (Lies w0 base) ak2 ks) (hkl : ks.length ≤ 9223372036854775807) : FnC Tryz.prog 74 #[.slice ak ks.length ck, .slice ak2 ks.length ck2, .func (.func 70) #[] #[]] (WA w0 base fr) (fun _ : Unit => .bool true) (fun _ => WA w0 base fr) := by
  refine FnC.of_body (fn := Tryz.f74) [(0, _), (1, _), (2, _)] Tryz.func74 rfl Tryz.ntmps74 rfl ⟨rfl, rfl, rfl, trivial⟩ ?_
  refine CX.seq ?_
  refine CX.region ?_
  refine LX.pure (Y.assign rfl) rfl rfl rfl ?_
  refine LX.sub (l' := [(0, _), (1, _), (2, _), (6, _)]) ⟨rfl, rfl, rfl, rfl, trivial⟩ ?_
  refine LX.next ?_
  refine PX.thenN ?_
  refine CX.seq ?_
  refine CX.seq ?_
  refine CX.region ?_
  refine LX.pure (Y.move rfl) rfl rfl rfl ?_
  refine LX.pure (Y.lenSl rfl Fja.un25 rfl) rfl rfl rfl ?_
  refine LX.pure (Y.move rfl) rfl rfl rfl ?_
  refine LX.pure (Y.lenSl rfl Fja.un25 rfl) rfl rfl rfl ?_
  refine LX.pure (Y.neN rfl rfl) rfl rfl rfl ?_
  refine LX.sub (l' := [(0, _), (1, _), (2, _), (6, _), (14, _)]) ⟨rfl, rfl, rfl, rfl, rfl, trivial⟩ ?_
  refine LX.next ?_
  refine PX.thenN ?_
  refine CX.cond rfl (fun hb1 => ?_) (fun hb1 => ?_)
  · try simp at hb1
    done
  · try simp at hb1
    refine CX.skip ?_
    refine PX.thenN ?_
    refine CX.seq ?_
    refine CX.seq ?_
    refine CX.region ?_
    refine LX.pure (Y.move rfl) rfl rfl rfl ?_
    refine LX.pure (Y.lenSl rfl Fja.un25 rfl) rfl rfl rfl ?_
    refine LX.pure (Y.move rfl) rfl rfl rfl ?_
    refine LX.sub (l' := [(1, _), (2, _), (6, _), (15, _), (16, _), (17, _)]) ⟨rfl, rfl, rfl, rfl, rfl, rfl, trivial⟩ ?_
    refine LX.next ?_
    refine PX.thenN ?_
    refine CX.block ?_
    refine CX.loop (fun j : Nat => [(1, .slice ak2 ks.length ck2), (2, .func (.func 70) #[] #[]), (15, .slice ak ks.length ck), (16, .int .i64 (ks.length : Int)), (17, .int .i64 (j : Int))]) (fun (j : Nat) w => j ≤ ks.length ∧ WA w0 base fr w) (fun j => ks.length - j) 0 ⟨rfl, rfl, rfl, rfl, rfl, trivial⟩ (fun w hw => ⟨Nat.zero_le _, hw⟩) ?_
    rintro j
    refine CX.have fun hj0 => ?_
    replace hj0 : j ≤ ks.length := hj0
    try dsimp only
    refine CX.seq ?_
    refine CX.region ?_
    refine LX.pure (Y.ltN rfl rfl) rfl rfl rfl ?_
    refine LX.sub (l' := [(1, _), (2, _), (15, _), (16, _), (17, _), (18, _)]) ⟨rfl, rfl, rfl, rfl, rfl, rfl, trivial⟩ ?_
    refine LX.next ?_
    refine PX.thenN ?_
    refine CX.seq ?_
    refine CX.cond rfl (fun hb2 => ?_) (fun hb2 => ?_)
    · try simp at hb2
      have hj : j < ks.length := by omega
      obtain ⟨x, hx⟩ : ∃ x, ks[j]? = some x := ⟨_, List.getElem?_eq_getElem hj⟩
      obtain ⟨a0, cs, hav, hcl, hL, hA⟩ := hk j x hx
      obtain ⟨a2, cs2, hav2, hcl2, hL2, hA2⟩ := hk2 j x hx
      obtain ⟨vn, vc, rfl, hnm, hcd, hin⟩ := hA
      obtain ⟨an3, cn3, rfl, _, _⟩ := hnm.sl
      obtain ⟨ad3, cd3, rfl, _, _⟩ := hcd.sl
      obtain ⟨vn4, vc4, rfl, hnm2, hcd2, hin2⟩ := hA2
      obtain ⟨an4, cn4, rfl, _, _⟩ := hnm2.sl
      obtain ⟨ad4, cd4, rfl, _, _⟩ := hcd2.sl
      refine CX.skip ?_
      refine PX.thenN ?_
      refine CX.seq ?_
      refine CX.block ?_
      refine CX.seq ?_
      refine CX.region ?_
      refine LX.pure (Y.move rfl) rfl rfl rfl ?_
      refine LX.pure (Y.idxZ Fja.un25 Fja.sz51 rfl rfl hav (j := j) rfl hj) rfl rfl rfl ?_
      refine LX.pure (Y.ldAO (cs := [str x.name, .int .i64 x.params, .int .i64 x.given, .int .i64 x.slots, .slice an3 x.names.length cn3, .slice ad3 x.code.length cd3]) Fjf.ag51 rfl hL rfl) rfl rfl rfl ?_
      refine LX.alloc rfl Fjf.zv51 rfl rfl rfl ?_
      intro b8x
      refine LX.pure (Y.assign rfl) rfl rfl rfl ?_
      refine LX.storeA 0 Fjf.ag51 rfl rfl rfl rfl rfl rfl rfl rfl rfl ?_
      refine LX.sub (l' := [(1, _), (2, _), (7, _), (8, _), (15, _), (16, _), (17, _)]) ⟨rfl, rfl, rfl, rfl, rfl, rfl, rfl, trivial⟩ ?_
      refine LX.next ?_
      refine PX.thenN ?_
      refine CX.seq ?_
      refine CX.region ?_
      refine LX.pure (Y.move rfl) rfl rfl rfl ?_
      refine LX.pure (Y.move rfl) rfl rfl rfl ?_
      refine LX.pure (Y.idxZ Fja.un25 Fja.sz51 rfl rfl hav2 (j := j) rfl hj) rfl rfl rfl ?_
      refine LX.pure (Y.ldAO (cs := [str x.name, .int .i64 x.params, .int .i64 x.given, .int .i64 x.slots, .slice an4 x.names.length cn4, .slice ad4 x.code.length cd4]) Fjf.ag51 rfl hL2 rfl) rfl rfl rfl ?_
      refine LX.alloc rfl Fjf.zv51 rfl rfl rfl ?_
      intro b9x
      refine LX.storeA 0 Fjf.ag51 rfl rfl rfl rfl rfl rfl rfl rfl rfl ?_
      refine LX.sub (l' := [(1, _), (2, _), (8, _), (9, _), (15, _), (16, _), (17, _)]) ⟨rfl, rfl, rfl, rfl, rfl, rfl, rfl, trivial⟩ ?_
      refine LX.next ?_
      refine PX.thenN ?_
      refine CX.seq ?_
      refine CX.region ?_
      refine LX.pure (Y.move rfl) rfl rfl rfl ?_
      refine LX.pure (Y.ldAggB (vs := [str x.name, .int .i64 x.params, .int .i64 x.given, .int .i64 x.slots, .slice an3 x.names.length cn3, .slice ad3 x.code.length cd3]) 1 Fjf.ag51 rfl rfl rfl rfl) rfl rfl rfl ?_
      refine LX.pure (Y.ldAggB (vs := [str x.name, .int .i64 x.params, .int .i64 x.given, .int .i64 x.slots, .slice an4 x.names.length cn4, .slice ad4 x.code.length cd4]) 0 Fjf.ag51 rfl rfl rfl rfl) rfl rfl rfl ?_
      refine LX.callV (fst := #[]) (vs := [.agg ([str x.name, .int .i64 x.params, .int .i64 x.given, .int .i64 x.slots, .slice an3 x.names.length cn3, .slice ad3 x.code.length cd3]).toArray, .agg ([str x.name, .int .i64 x.params, .int .i64 x.given, .int .i64 x.slots, .slice an4 x.names.length cn4, .slice ad4 x.code.length cd4]).toArray]) (cap := #[]) (same2_c ⟨_, _, rfl, hnm, hcd, hin⟩ ⟨_, _, rfl, hnm2, hcd2, hin2⟩) Hw.en70 rfl rfl rfl rfl rfl rfl ?_
      intro _
      refine LX.pure (Y.not rfl) rfl rfl rfl ?_
      refine LX.sub (l' := [(1, _), (2, _), (15, _), (16, _), (17, _), (30, _)]) ⟨rfl, rfl, rfl, rfl, rfl, rfl, trivial⟩ ?_
      refine LX.next ?_
      refine PX.thenN ?_
      refine CX.cond rfl (fun hb3 => ?_) (fun hb3 => ?_)
      · try simp at hb3
        done
      · try simp at hb3
        refine CX.skip ?_
        refine PX.blockN ?_
        refine PX.thenN ?_
        refine CX.region ?_
        refine LX.pure (Y.addN rfl rfl (by (simp only []; omega))) rfl rfl rfl ?_
        refine LX.pure (Y.move rfl) rfl rfl rfl ?_
        refine LX.sub (l' := [(1, _), (2, _), (15, _), (16, _), (17, _)]) ⟨rfl, rfl, rfl, rfl, rfl, trivial⟩ ?_
        refine LX.next ?_
        exact PX.again (L := (fun j : Nat => [(1, .slice ak2 ks.length ck2), (2, .func (.func 70) #[] #[]), (15, .slice ak ks.length ck), (16, .int .i64 (ks.length : Int)), (17, .int .i64 (j : Int))])) (WW := (fun (j : Nat) w => j ≤ ks.length ∧ WA w0 base fr w)) (μ := fun j => ks.length - j) (i := j) (j + 1) (by show ks.length - (j + 1) < ks.length - j; omega) ⟨rfl, rfl, rfl, rfl, rfl, trivial⟩ (fun w hw => ⟨by show j + 1 ≤ ks.length; omega, hw.drop (.cons _ (.cons _ (List.Sublist.refl _)))⟩)
    · try simp at hb2
      refine CX.exit ?_
      refine PX.thenE ?_
      refine PX.thenE ?_
      refine PX.blockE ?_
      refine PX.thenN ?_
      refine CX.seq ?_
      refine CX.region ?_
      refine LX.pure (Y.assign rfl) rfl rfl rfl ?_
      refine LX.sub (l' := [(6, _)]) ⟨rfl, trivial⟩ ?_
      refine LX.next ?_
      refine PX.thenN ?_
      refine CX.ret ?_
      refine PX.ret1 (by simp) Tryz.results74 rfl ?_
      exact fun w hw => ⟨(), rfl, hw⟩
theorem same_c {w0 : World} {base : Nat} {fr : List It} {X X2 : Cx} {p : Pg} (hX : CkAt (Lies w0 base) X p ⟨[], 0, 0, 0, [], []⟩) (hX2 : CkAt (Lies w0 base) X2 p ⟨[], 0, 0, 0, [], []⟩) (hm : midB p) : FnC Tryz.prog 30 #[.agg (X.pcs p).toArray, .agg (X2.pcs p).toArray] (WA w0 base fr) (fun _ : Unit => .bool true) (fun _ => WA w0 base fr) := by
  obtain ⟨⟨hf1, ⟨hc1, _⟩, ⟨hg1, _⟩, hn1, _⟩, _⟩ := id hm
  refine FnC.of_body (fn := Tryz.f30) [(0, _), (1, _)] Tryz.func30 rfl Tryz.ntmps30 rfl ⟨rfl, rfl, trivial⟩ ?_
  refine CX.seq ?_
  refine CX.region ?_
  refine LX.box rfl rfl rfl rfl rfl ?_
  intro bx0
  refine LX.box rfl rfl rfl rfl rfl ?_
  intro bx1
  refine LX.pure (Y.assign rfl) rfl rfl rfl ?_
  refine LX.sub (l' := [(2, _), (3, _), (4, _)]) ⟨rfl, rfl, rfl, trivial⟩ ?_
  refine LX.next ?_
  refine PX.thenN ?_
  refine CX.seq ?_
  refine CX.region ?_
  refine LX.pure (Y.assign rfl) rfl rfl rfl ?_
  refine LX.sub (l' := [(2, _), (3, _), (4, _), (5, _)]) ⟨rfl, rfl, rfl, rfl, trivial⟩ ?_
  refine LX.next ?_
  refine PX.thenN ?_
  refine CX.seq ?_
  refine CX.region ?_
  refine LX.pure (Y.assign rfl) rfl rfl rfl ?_
  refine LX.sub (l' := [(2, _), (3, _), (4, _), (5, _), (6, _)]) ⟨rfl, rfl, rfl, rfl, rfl, trivial⟩ ?_
  refine LX.next ?_
  refine PX.thenN ?_
  refine CX.seq ?_
  refine CX.region ?_
  refine LX.pure (Y.fieldAddr0 Fja.fo28_1 rfl) rfl rfl rfl ?_
  refine LX.pure (Y.ldB 1 Fja.one22 rfl rfl rfl) rfl rfl rfl ?_
  refine LX.pure (Y.fieldAddr0 Fja.fo28_1 rfl) rfl rfl rfl ?_
  refine LX.pure (Y.ldB 0 Fja.one22 rfl rfl rfl) rfl rfl rfl ?_
  refine LX.pure (Y.move rfl) rfl rfl rfl ?_
  refine LX.call (eqNds_c X.cc X2.cc hX.hC hX2.hC (by omega)) Hw.en73 rfl rfl rfl rfl rfl ?_
  intro _
  refine LX.pure (Y.move rfl) rfl rfl rfl ?_
  refine LX.sub (l' := [(2, _), (3, _), (4, _), (6, _), (13, _)]) ⟨rfl, rfl, rfl, rfl, rfl, trivial⟩ ?_
  apply LX.joinAnd 7 20 13 rfl
  · intro hb1
    have hb1p := hb1
    try simp at hb1p
    refine LX.gT rfl rfl rfl hb1 (Y.fieldAddr0 Fja.fo28_0 rfl) rfl rfl ?_
    refine LX.gT rfl rfl rfl hb1 (Y.ldB 1 Fja.one25 rfl rfl rfl) rfl rfl ?_
    refine LX.gT rfl rfl rfl hb1 (Y.fieldAddr0 Fja.fo28_0 rfl) rfl rfl ?_
    refine LX.gT rfl rfl rfl hb1 (Y.ldB 0 Fja.one25 rfl rfl rfl) rfl rfl ?_
    refine LX.gT rfl rfl rfl hb1 (Y.move rfl) rfl rfl ?_
    refine LX.callT rfl rfl rfl hb1 (eqFcs_c X.cf X2.cf hX.hF hX2.hF (by omega)) Hw.en74 rfl rfl rfl rfl ?_
    intro _
    refine LX.pure (Y.pickT rfl hb1 rfl) rfl rfl rfl ?_
    exact LX.leftP ⟨rfl, rfl, rfl, rfl, rfl, rfl, trivial⟩
  · intro hb1
    (simp at hb1; done)
  refine LX.pure (Y.move rfl) rfl rfl rfl ?_
  refine LX.sub (l' := [(2, _), (3, _), (4, _), (21, _)]) ⟨rfl, rfl, rfl, rfl, trivial⟩ ?_
  apply LX.joinAnd 6 27 21 rfl
  · intro hb2
    have hb2p := hb2
    try simp at hb2p
    refine LX.gT rfl rfl rfl hb2 (Y.fieldAddr0 Fja.fo28_2 rfl) rfl rfl ?_
    refine LX.gT rfl rfl rfl hb2 (Y.ldB 1 Fja.one26 rfl rfl rfl) rfl rfl ?_
    refine LX.gT rfl rfl rfl hb2 (Y.fieldAddr0 Fja.fo28_2 rfl) rfl rfl ?_
    refine LX.gT rfl rfl rfl hb2 (Y.ldB 0 Fja.one26 rfl rfl rfl) rfl rfl ?_
    refine LX.callT rfl rfl rfl hb2 (eqStrs_c X.cg X2.cg hX.hG hX2.hG (by omega)) Hw.en71 rfl rfl rfl rfl ?_
    intro _
    refine LX.pure (Y.pickT rfl hb2 rfl) rfl rfl rfl ?_
    exact LX.leftP ⟨rfl, rfl, rfl, rfl, rfl, trivial⟩
  · intro hb2
    (simp at hb2; done)
  refine LX.pure (Y.move rfl) rfl rfl rfl ?_
  refine LX.sub (l' := [(2, _), (3, _), (4, _), (28, _)]) ⟨rfl, rfl, rfl, rfl, trivial⟩ ?_
  apply LX.joinAnd 6 34 28 rfl
  · intro hb3
    have hb3p := hb3
    try simp at hb3p
    refine LX.gT rfl rfl rfl hb3 (Y.fieldAddr0 Fja.fo28_3 rfl) rfl rfl ?_
    refine LX.gT rfl rfl rfl hb3 (Y.ldB 1 Fja.one26 rfl rfl rfl) rfl rfl ?_
    refine LX.gT rfl rfl rfl hb3 (Y.fieldAddr0 Fja.fo28_3 rfl) rfl rfl ?_
    refine LX.gT rfl rfl rfl hb3 (Y.ldB 0 Fja.one26 rfl rfl rfl) rfl rfl ?_
    refine LX.callT rfl rfl rfl hb3 (eqStrs_c X.cn X2.cn hX.hN hX2.hN (by omega)) Hw.en71 rfl rfl rfl rfl ?_
    intro _
    refine LX.pure (Y.pickT rfl hb3 rfl) rfl rfl rfl ?_
    exact LX.leftP ⟨rfl, rfl, rfl, rfl, rfl, trivial⟩
  · intro hb3
    (simp at hb3; done)
  refine LX.pure (Y.assign rfl) rfl rfl rfl ?_
  refine LX.sub (l' := [(4, _)]) ⟨rfl, trivial⟩ ?_
  refine LX.next ?_
  refine PX.thenN ?_
  refine CX.ret ?_
  refine PX.ret1 (by simp) Tryz.results30 rfl ?_
  exact fun w hw => ⟨(), by simp, hw.drop (.cons _ (.cons _ (List.Sublist.refl _)))⟩
end Go.Proofs.YtgijpgkckiknjaaGreatDoor
