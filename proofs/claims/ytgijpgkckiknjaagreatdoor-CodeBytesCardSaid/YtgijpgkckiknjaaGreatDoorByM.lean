/-
  Proved here: copies of nodes.
-/
import Derived.Test.YtgijpgkckiknjaaGreatDoorByL
import Derived.Test.YtgijpgkckiknjaaGreatDoorMg
namespace Go.Proofs.YtgijpgkckiknjaaGreatDoor
open Go.SX Go.RowKit Go.Ck Go.Lex
namespace Fjc
theorem ag44 : AggT Tryz.prog 44 5 := AggT.of (by kernel_rfl) (by kernel_rfl)
theorem en157 : Enters Tryz.prog 157 := Enters.of Tryz.func157 (by kernel_rfl) (by kernel_rfl)
theorem fa44_0 : FieldOffA Tryz.prog 44 0 0 := fun a w => by kernel_rfl
theorem fa44_1 : FieldOffA Tryz.prog 44 1 1 := fun a w => by kernel_rfl
theorem fa44_2 : FieldOffA Tryz.prog 44 2 2 := fun a w => by kernel_rfl
theorem fo44_0 : FieldOff Tryz.prog 44 0 0 := fun b o w => by kernel_rfl
theorem fo44_1 : FieldOff Tryz.prog 44 1 1 := fun b o w => by kernel_rfl
theorem fo44_2 : FieldOff Tryz.prog 44 2 2 := fun b o w => by kernel_rfl
theorem zv44 : ∀ w, (zeroValue 44).run Tryz.prog w = .ok (.agg #[.int .i64 0, .int .i64 0, .int .i64 0, .string ⟨#[]⟩, .slice none 0 0]) w := fun w => by kernel_rfl
end Fjc
open Go.Tr (ndA)
theorem cNode_c {w0 : World} {base : Nat} {fr : List It} {x : Nd} {cs : List Value} (hx : ndA (Lies w0 base) cs x) (hkl : x.kids.length ≤ 1048576) : FnC Tryz.prog 122 #[.agg cs.toArray] (WA w0 base fr) (fun s : Option Nat × Nat => .agg ([.int .i64 x.op, .int .i64 x.n, .int .i64 x.pos, str x.s, rv s.1 x.kids.length s.2]).toArray) (fun s => WA w0 base (.row s.1 s.2 x.kids.length 3 1 (x.kids.map iv) :: fr)) := by
  obtain ⟨vk, rfl, hks, hin⟩ := hx
  obtain ⟨ak2, ck2, rfl, ⟨hkn2, hkc2⟩, hka2⟩ := hks.sl
  refine FnC.of_body (fn := Tryz.f122) [(0, _)] Tryz.func122 rfl Tryz.ntmps122 rfl ⟨rfl, trivial⟩ ?_
  refine CX.seq ?_
  refine CX.region ?_
  refine LX.box rfl rfl rfl rfl rfl ?_
  intro n1x
  refine LX.alloc rfl Fjc.zv44 rfl rfl rfl ?_
  intro n2x
  refine LX.sub (l' := [(1, _), (2, _)]) ⟨rfl, rfl, trivial⟩ ?_
  refine LX.next ?_
  refine PX.thenN ?_
  refine CX.seq ?_
  refine CX.regionM [(0, .anywhere), (1, .held), (2, .anywhere), (3, .held), (4, .anywhere), (5, .held), (6, .anywhere), (7, .held), (8, .anywhere), (9, .held), (10, .alone), (11, .alone), (12, .alone)] rfl (by kernel_rfl) ?_
  refine MX.lift0 (i := 0) rfl (Y.fieldAddr0 Fjc.fo44_0 rfl) rfl rfl rfl ?_
  refine MX.lift1 (i := 1) (pend' := []) rfl (fun w hw => by exact hw) (Y.ldB 1 Fjb.one3 rfl rfl rfl) rfl rfl rfl (by kernel_rfl) ?_
  refine MX.lift0 (i := 2) rfl (Y.fieldAddr0 Fjc.fo44_1 rfl) rfl rfl rfl ?_
  refine MX.lift1 (i := 3) (pend' := [1]) rfl (fun w hw => by exact hw) (Y.ldB 1 Fjb.one3 rfl rfl rfl) rfl rfl rfl (by kernel_rfl) ?_
  refine MX.lift0 (i := 4) rfl (Y.fieldAddr0 Fjc.fo44_2 rfl) rfl rfl rfl ?_
  refine MX.lift1 (i := 5) (pend' := [3, 1]) rfl (fun w hw => by exact hw) (Y.ldB 1 Fjb.one3 rfl rfl rfl) rfl rfl rfl (by kernel_rfl) ?_
  refine MX.lift0 (i := 6) rfl (Y.fieldAddr0 Fj.fo44_3 rfl) rfl rfl rfl ?_
  refine MX.lift1 (i := 7) (pend' := [5, 3, 1]) rfl (fun w hw => by exact hw) (Y.ldB 1 Fj.one9 rfl rfl rfl) rfl rfl rfl (by kernel_rfl) ?_
  refine MX.lift0 (i := 8) rfl (Y.fieldAddr0 Fj.fo44_4 rfl) rfl rfl rfl ?_
  refine MX.lift1 (i := 9) (pend' := [7, 5, 3, 1]) rfl (fun w hw => by exact hw) (Y.ldB 1 Fj.one42 rfl rfl rfl) rfl rfl rfl (by kernel_rfl) ?_
  refine MX.force (i := 10) rfl ?_
  refine LX.call (cInts_c ck2 hkl hka2) Fjc.en157 rfl rfl rfl rfl rfl ?_
  intro sk
  refine LX.nextM [7, 5, 3, 1] (by kernel_rfl) (fun _ => (fun w hw => by exact hw.drop (List.sublist_cons_self _ _))) ?_
  refine MX.force (i := 11) rfl ?_
  refine LX.pure (Y.build (v := .agg ([.int .i64 x.op, .int .i64 x.n, .int .i64 x.pos, str x.s, rv sk.1 x.kids.length sk.2]).toArray) rfl (fun _ => by kernel_rfl)) rfl rfl rfl ?_
  refine LX.nextM [] (by kernel_rfl) (fun h => absurd rfl h) ?_
  refine MX.force (i := 12) rfl ?_
  refine LX.storeA 1 Fjc.ag44 rfl rfl rfl rfl rfl rfl rfl rfl rfl ?_
  refine LX.nextM [] (by kernel_rfl) (fun h => absurd rfl h) ?_
  refine MX.sub (l' := [(2, _)]) ⟨rfl, trivial⟩ ?_
  refine MX.done ?_
  refine PX.thenN ?_
  refine CX.ret ?_
  refine PX.retA (i := 1) (by simp) Tryz.results122 Fjc.ag44 rfl rfl rfl ?_
  exact fun w hw => ⟨sk, rfl, hw.drop (.cons_cons _ (.cons _ (.cons _ (List.Sublist.refl _))))⟩
end Go.Proofs.YtgijpgkckiknjaaGreatDoor
