/-
  Proved here: programs as the document has them.
-/
import Derived.Test.YtgijpgkckiknjaaGreatDoorByO
import Derived.Test.YtgijpgkckiknjaaGreatDoorLgP
import Derived.Test.YtgijpgkckiknjaaGreatDoorCpP
import Derived.Test.YtgijpgkckiknjaaGreatDoorMt
namespace Go.Proofs.YtgijpgkckiknjaaGreatDoor
open Go.SX Go.RowKit Go.Ck Go.Lex
namespace Fjf
theorem ag124 : AggT Tryz.prog 124 6 := AggT.of (by kernel_rfl) (by kernel_rfl)
theorem ag51 : AggT Tryz.prog 51 6 := AggT.of (by kernel_rfl) (by kernel_rfl)
theorem ag53 : AggT Tryz.prog 53 4 := AggT.of (by kernel_rfl) (by kernel_rfl)
theorem ag57 : AggT Tryz.prog 57 4 := AggT.of (by kernel_rfl) (by kernel_rfl)
theorem en58 : Enters Tryz.prog 58 := Enters.of Tryz.func58 (by kernel_rfl) (by kernel_rfl)
theorem en59 : Enters Tryz.prog 59 := Enters.of Tryz.func59 (by kernel_rfl) (by kernel_rfl)
theorem fa124_5 : FieldOffA Tryz.prog 124 5 5 := fun a w => by kernel_rfl
theorem fa51_1 : FieldOffA Tryz.prog 51 1 1 := fun a w => by kernel_rfl
theorem fa51_2 : FieldOffA Tryz.prog 51 2 2 := fun a w => by kernel_rfl
theorem fa51_3 : FieldOffA Tryz.prog 51 3 3 := fun a w => by kernel_rfl
theorem fa53_0 : FieldOffA Tryz.prog 53 0 0 := fun a w => by kernel_rfl
theorem fa53_1 : FieldOffA Tryz.prog 53 1 1 := fun a w => by kernel_rfl
theorem fa53_2 : FieldOffA Tryz.prog 53 2 2 := fun a w => by kernel_rfl
theorem fa53_3 : FieldOffA Tryz.prog 53 3 3 := fun a w => by kernel_rfl
theorem fa57_0 : FieldOffA Tryz.prog 57 0 0 := fun a w => by kernel_rfl
theorem fo124_5 : FieldOff Tryz.prog 124 5 5 := fun b o w => by kernel_rfl
theorem fo51_1 : FieldOff Tryz.prog 51 1 1 := fun b o w => by kernel_rfl
theorem fo51_2 : FieldOff Tryz.prog 51 2 2 := fun b o w => by kernel_rfl
theorem fo51_3 : FieldOff Tryz.prog 51 3 3 := fun b o w => by kernel_rfl
theorem fo53_0 : FieldOff Tryz.prog 53 0 0 := fun b o w => by kernel_rfl
theorem fo53_1 : FieldOff Tryz.prog 53 1 1 := fun b o w => by kernel_rfl
theorem fo53_2 : FieldOff Tryz.prog 53 2 2 := fun b o w => by kernel_rfl
theorem fo53_3 : FieldOff Tryz.prog 53 3 3 := fun b o w => by kernel_rfl
theorem fo57_0 : FieldOff Tryz.prog 57 0 0 := fun b o w => by kernel_rfl
theorem one122 : One Tryz.prog 122 := fun w => by kernel_rfl
theorem one55 : One Tryz.prog 55 := fun w => by kernel_rfl
theorem sz122 : SizeIs Tryz.prog 122 1 := fun w => by kernel_rfl
theorem sz53 : SizeIs Tryz.prog 53 4 := fun w => by kernel_rfl
theorem sz55 : SizeIs Tryz.prog 55 1 := fun w => by kernel_rfl
theorem un122 : Tryz.prog.underlying 122 = some (.slice 65) := by kernel_rfl
theorem un55 : Tryz.prog.underlying 55 = some (.slice 124) := by kernel_rfl
theorem zv124 : ∀ w, (zeroValue 124).run Tryz.prog w = .ok (.agg #[.string ⟨#[]⟩, .int .i64 0, .int .i64 0, .int .i64 0, .slice none 0 0, .slice none 0 0]) w := fun w => by kernel_rfl
theorem zv51 : ∀ w, (zeroValue 51).run Tryz.prog w = .ok (.agg #[.string ⟨#[]⟩, .int .i64 0, .int .i64 0, .int .i64 0, .slice none 0 0, .slice none 0 0]) w := fun w => by kernel_rfl
theorem zv53 : ∀ w, (zeroValue 53).run Tryz.prog w = .ok (.agg #[.int .i64 0, .int .i64 0, .int .i64 0, .int .i64 0]) w := fun w => by kernel_rfl
theorem zv57 : ∀ w, (zeroValue 57).run Tryz.prog w = .ok (.agg #[.slice none 0 0, .slice none 0 0, .slice none 0 0, .slice none 0 0]) w := fun w => by kernel_rfl
theorem el122 : Elem Tryz.prog 122 65 4 32 := Elem.of un122 (z := .agg #[.int .i64 0, .int .i64 0, .int .i64 0, .int .i64 0]) (by kernel_rfl) rfl
theorem el55 : Elem Tryz.prog 55 124 6 88 := Elem.of un55 (z := .agg #[.string ⟨#[]⟩, .int .i64 0, .int .i64 0, .int .i64 0, .slice none 0 0, .slice none 0 0]) (by kernel_rfl) rfl
end Fjf
open Go.Tr (ndA)
theorem plain_s {w0 : World} {base : Nat} {fr : List It} {X : Cx} {p : Pg} (hX : CkAt (Lies w0 base) X p ⟨[], 0, 0, 0, [], []⟩) (hlb : midB p) : FnC Tryz.prog 20 #[.agg (X.pcs p).toArray] (WA w0 base fr) (fun X2 : Cx => .agg (X2.pcs p).toArray) (fun X2 w => CkAt (Lies w w.heap.size) X2 p ⟨[], 0, 0, 0, [], []⟩ ∧ WA w0 base fr w) := by
  have hl1 := hlb.1.1
  have hl2 := hlb.1.2.1.1
  have hl3 := hlb.1.2.2.1.1
  have hl4 := hlb.1.2.2.2.1
  refine FnC.of_body (fn := Tryz.f20) [(0, _)] Tryz.func20 rfl Tryz.ntmps20 rfl ⟨rfl, trivial⟩ ?_
  refine CX.seq ?_
  refine CX.region ?_
  refine LX.box rfl rfl rfl rfl rfl ?_
  intro bx1
  refine LX.alloc rfl Fjf.zv57 rfl rfl rfl ?_
  intro bz
  refine LX.sub (l' := [(1, _), (2, _)]) ⟨rfl, rfl, trivial⟩ ?_
  refine LX.next ?_
  refine PX.thenN ?_
  refine CX.seqM (fun q : Nat × ((Option Nat × Nat) × List Value × List It) × (Option Nat × Nat) × (Option Nat × Nat) => [(1, .pointer (some ⟨bx1, 0, none⟩)), (2, .pointer (some ⟨bz, 0, none⟩)), (3, .pointer (some ⟨q.1, 0, none⟩))]) (fun (q : Nat × ((Option Nat × Nat) × List Value × List It) × (Option Nat × Nat) × (Option Nat × Nat)) w => NdsF w0 base q.2.1.2.2 q.2.1.2.1 p.consts ∧ WA w0 base (blk q.1 [.slice none 0 0, rv q.2.1.1.1 p.consts.length q.2.1.1.2, rv q.2.2.1.1 p.globals.length q.2.2.1.2, rv q.2.2.2.1 p.names.length q.2.2.2.2] 57 :: blk bx1 (X.pcs p) 28 :: blk bz [.slice none 0 0, .slice none 0 0, .slice none 0 0, .slice none 0 0] 57 :: .row q.2.2.2.1 q.2.2.2.2 p.names.length 9 1 (p.names.map str) :: .row q.2.2.1.1 q.2.2.1.2 p.globals.length 9 1 (p.globals.map str) :: .row q.2.1.1.1 q.2.1.1.2 p.consts.length 44 5 q.2.1.2.1 :: (q.2.1.2.2 ++ fr)) w) ?_ ?_
  ·
    refine CX.regionT (.step 0 .anywhere (.step 1 .held (.step 3 .anywhere (.step 4 .held (.step 6 .anywhere (.step 7 .held (.fork 2 10 (.fork 5 10 (.fork 8 10 (.step 9 .anywhere (.step 10 .alone (.step 11 .alone .done))) (.step 8 .alone (.step 9 .anywhere (.step 11 .alone .done)))) (.step 5 .alone (.step 8 .alone (.step 9 .anywhere (.step 11 .alone .done))))) (.step 2 .alone (.step 5 .alone (.step 8 .alone (.step 9 .anywhere (.step 11 .alone .done)))))))))))) rfl (by kernel_rfl) ?_
    refine MT.lift0 (i := 0) rfl (Y.fieldAddr0 Fja.fo28_1 rfl) rfl rfl rfl ?_
    refine MT.lift1 (i := 1) (pend' := []) rfl (fun w hw => by exact hw) (Y.ldB 1 Fja.one22 rfl rfl rfl) rfl rfl rfl (by kernel_rfl) ?_
    refine MT.lift0 (i := 3) rfl (Y.fieldAddr0 Fja.fo28_2 rfl) rfl rfl rfl ?_
    refine MT.lift1 (i := 4) (pend' := [1]) rfl (fun w hw => by exact hw) (Y.ldB 1 Fja.one26 rfl rfl rfl) rfl rfl rfl (by kernel_rfl) ?_
    refine MT.lift0 (i := 6) rfl (Y.fieldAddr0 Fja.fo28_3 rfl) rfl rfl rfl ?_
    refine MT.lift1 (i := 7) (pend' := [4, 1]) rfl (fun w hw => by exact hw) (Y.ldB 1 Fja.one26 rfl rfl rfl) rfl rfl rfl (by kernel_rfl) ?_
    refine MT.fork (i := 2) (j := 10) rfl rfl ?_ ?_
    ·
      refine LX.call (cNodes_c X.cc (by omega) hX.hC (fun x hx => by have := (hlb.1.2.1.2 x hx).1; omega)) Fjf.en58 rfl rfl rfl rfl rfl ?_
      intro sN
      refine LX.have fun hnf => ?_
      try dsimp only at hnf ⊢
      refine LX.nextT [7, 4] (by kernel_rfl) (fun _ => (fun w hw => by exact hw.drop (.cons _ (List.sublist_append_right _ _)))) ?_
      refine MT.fork (i := 5) (j := 10) rfl rfl ?_ ?_
      ·
        refine LX.call (cTexts_c X.cg (by omega) hX.hG) Fjf.en59 rfl rfl rfl rfl rfl ?_
        intro sG
        refine LX.nextT [7] (by kernel_rfl) (fun _ => (fun w hw => by exact hw.drop (.cons _ (.cons _ (List.sublist_append_right _ _))))) ?_
        refine MT.fork (i := 8) (j := 10) rfl rfl ?_ ?_
        ·
          refine LX.call (cTexts_c X.cn (by omega) hX.hN) Fjf.en59 rfl rfl rfl rfl rfl ?_
          intro sT
          refine LX.nextT [] (by kernel_rfl) (fun h => absurd rfl h) ?_
          refine MT.lift0 (i := 9) rfl (Y.build (v := .agg ([.slice none 0 0, rv sN.1.1 p.consts.length sN.1.2, rv sG.1 p.globals.length sG.2, rv sT.1 p.names.length sT.2]).toArray) rfl (fun _ => by kernel_rfl)) rfl rfl rfl ?_
          refine MT.force (i := 10) rfl ?_
          refine LX.alloc rfl Fjf.zv57 rfl rfl rfl ?_
          intro bp
          refine LX.nextT [] (by kernel_rfl) (fun h => absurd rfl h) ?_
          refine MT.force (i := 11) rfl ?_
          (refine LX.world (W' := WA w0 base (blk bp [.slice none 0 0, .slice none 0 0, .slice none 0 0, .slice none 0 0] 57 :: .row sT.1 sT.2 p.names.length 9 1 (p.names.map str) :: .row sG.1 sG.2 p.globals.length 9 1 (p.globals.map str) :: .row sN.1.1 sN.1.2 p.consts.length 44 5 sN.2.1 :: (sN.2.2 ++ (blk bz [.slice none 0 0, .slice none 0 0, .slice none 0 0, .slice none 0 0] 57 :: blk bx1 (X.pcs p) 28 :: fr)))) (fun w hw => hw) ?_; refine LX.storeA 0 Fjf.ag57 rfl rfl rfl rfl rfl rfl rfl rfl rfl ?_)
          refine LX.nextT [] (by kernel_rfl) (fun h => absurd rfl h) ?_
          refine MT.sub (l' := [(1, _), (2, _), (3, _)]) ⟨rfl, rfl, rfl, trivial⟩ ?_
          refine MT.done ?_
          exact PX.seam (L := (fun q : Nat × ((Option Nat × Nat) × List Value × List It) × (Option Nat × Nat) × (Option Nat × Nat) => [(1, .pointer (some ⟨bx1, 0, none⟩)), (2, .pointer (some ⟨bz, 0, none⟩)), (3, .pointer (some ⟨q.1, 0, none⟩))])) (WW := (fun (q : Nat × ((Option Nat × Nat) × List Value × List It) × (Option Nat × Nat) × (Option Nat × Nat)) w => NdsF w0 base q.2.1.2.2 q.2.1.2.1 p.consts ∧ WA w0 base (blk q.1 [.slice none 0 0, rv q.2.1.1.1 p.consts.length q.2.1.1.2, rv q.2.2.1.1 p.globals.length q.2.2.1.2, rv q.2.2.2.1 p.names.length q.2.2.2.2] 57 :: blk bx1 (X.pcs p) 28 :: blk bz [.slice none 0 0, .slice none 0 0, .slice none 0 0, .slice none 0 0] 57 :: .row q.2.2.2.1 q.2.2.2.2 p.names.length 9 1 (p.names.map str) :: .row q.2.2.1.1 q.2.2.1.2 p.globals.length 9 1 (p.globals.map str) :: .row q.2.1.1.1 q.2.1.1.2 p.consts.length 44 5 q.2.1.2.1 :: (q.2.1.2.2 ++ fr)) w)) (bp, sN, sG, sT) ⟨rfl, rfl, rfl, trivial⟩ (fun w hw => ⟨hnf, (show WA w0 base (blk bp [.slice none 0 0, rv sN.1.1 p.consts.length sN.1.2, rv sG.1 p.globals.length sG.2, rv sT.1 p.names.length sT.2] 57 :: .row sT.1 sT.2 p.names.length 9 1 (p.names.map str) :: .row sG.1 sG.2 p.globals.length 9 1 (p.globals.map str) :: .row sN.1.1 sN.1.2 p.consts.length 44 5 sN.2.1 :: (sN.2.2 ++ (blk bz [.slice none 0 0, .slice none 0 0, .slice none 0 0, .slice none 0 0] 57 :: blk bx1 (X.pcs p) 28 :: fr))) w from hw).perm (by (refine perm_cnt fun x => ?_; simp only [cnt_append, cnt_cons, cnt_nil]; omega))⟩)
        ·
          refine LX.alloc rfl Fjf.zv57 rfl rfl rfl ?_
          intro bp
          refine LX.nextT [7] (by kernel_rfl) (fun _ => (fun w hw => by exact hw.drop (.cons _ (.cons _ (.cons _ (List.sublist_append_right _ _)))))) ?_
          refine MT.force (i := 8) rfl ?_
          refine LX.call (cTexts_c X.cn (by omega) hX.hN) Fjf.en59 rfl rfl rfl rfl rfl ?_
          intro sT
          refine LX.nextT [] (by kernel_rfl) (fun h => absurd rfl h) ?_
          refine MT.lift0 (i := 9) rfl (Y.build (v := .agg ([.slice none 0 0, rv sN.1.1 p.consts.length sN.1.2, rv sG.1 p.globals.length sG.2, rv sT.1 p.names.length sT.2]).toArray) rfl (fun _ => by kernel_rfl)) rfl rfl rfl ?_
          refine MT.force (i := 11) rfl ?_
          (refine LX.world (W' := WA w0 base (blk bp [.slice none 0 0, .slice none 0 0, .slice none 0 0, .slice none 0 0] 57 :: .row sT.1 sT.2 p.names.length 9 1 (p.names.map str) :: .row sG.1 sG.2 p.globals.length 9 1 (p.globals.map str) :: .row sN.1.1 sN.1.2 p.consts.length 44 5 sN.2.1 :: (sN.2.2 ++ (blk bz [.slice none 0 0, .slice none 0 0, .slice none 0 0, .slice none 0 0] 57 :: blk bx1 (X.pcs p) 28 :: fr)))) (fun w hw => (show WA w0 base (.row sT.1 sT.2 p.names.length 9 1 (p.names.map str) :: blk bp [.slice none 0 0, .slice none 0 0, .slice none 0 0, .slice none 0 0] 57 :: .row sG.1 sG.2 p.globals.length 9 1 (p.globals.map str) :: .row sN.1.1 sN.1.2 p.consts.length 44 5 sN.2.1 :: (sN.2.2 ++ (blk bz [.slice none 0 0, .slice none 0 0, .slice none 0 0, .slice none 0 0] 57 :: blk bx1 (X.pcs p) 28 :: fr))) w from hw).perm (by (refine perm_cnt fun x => ?_; simp only [cnt_append, cnt_cons, cnt_nil]; omega))) ?_; refine LX.storeA 0 Fjf.ag57 rfl rfl rfl rfl rfl rfl rfl rfl rfl ?_)
          refine LX.nextT [] (by kernel_rfl) (fun h => absurd rfl h) ?_
          refine MT.sub (l' := [(1, _), (2, _), (3, _)]) ⟨rfl, rfl, rfl, trivial⟩ ?_
          refine MT.done ?_
          exact PX.seam (L := (fun q : Nat × ((Option Nat × Nat) × List Value × List It) × (Option Nat × Nat) × (Option Nat × Nat) => [(1, .pointer (some ⟨bx1, 0, none⟩)), (2, .pointer (some ⟨bz, 0, none⟩)), (3, .pointer (some ⟨q.1, 0, none⟩))])) (WW := (fun (q : Nat × ((Option Nat × Nat) × List Value × List It) × (Option Nat × Nat) × (Option Nat × Nat)) w => NdsF w0 base q.2.1.2.2 q.2.1.2.1 p.consts ∧ WA w0 base (blk q.1 [.slice none 0 0, rv q.2.1.1.1 p.consts.length q.2.1.1.2, rv q.2.2.1.1 p.globals.length q.2.2.1.2, rv q.2.2.2.1 p.names.length q.2.2.2.2] 57 :: blk bx1 (X.pcs p) 28 :: blk bz [.slice none 0 0, .slice none 0 0, .slice none 0 0, .slice none 0 0] 57 :: .row q.2.2.2.1 q.2.2.2.2 p.names.length 9 1 (p.names.map str) :: .row q.2.2.1.1 q.2.2.1.2 p.globals.length 9 1 (p.globals.map str) :: .row q.2.1.1.1 q.2.1.1.2 p.consts.length 44 5 q.2.1.2.1 :: (q.2.1.2.2 ++ fr)) w)) (bp, sN, sG, sT) ⟨rfl, rfl, rfl, trivial⟩ (fun w hw => ⟨hnf, (show WA w0 base (blk bp [.slice none 0 0, rv sN.1.1 p.consts.length sN.1.2, rv sG.1 p.globals.length sG.2, rv sT.1 p.names.length sT.2] 57 :: .row sT.1 sT.2 p.names.length 9 1 (p.names.map str) :: .row sG.1 sG.2 p.globals.length 9 1 (p.globals.map str) :: .row sN.1.1 sN.1.2 p.consts.length 44 5 sN.2.1 :: (sN.2.2 ++ (blk bz [.slice none 0 0, .slice none 0 0, .slice none 0 0, .slice none 0 0] 57 :: blk bx1 (X.pcs p) 28 :: fr))) w from hw).perm (by (refine perm_cnt fun x => ?_; simp only [cnt_append, cnt_cons, cnt_nil]; omega))⟩)
      ·
        refine LX.alloc rfl Fjf.zv57 rfl rfl rfl ?_
        intro bp
        refine LX.nextT [7, 4] (by kernel_rfl) (fun _ => (fun w hw => by exact hw.drop (.cons _ (.cons _ (List.sublist_append_right _ _))))) ?_
        refine MT.force (i := 5) rfl ?_
        refine LX.call (cTexts_c X.cg (by omega) hX.hG) Fjf.en59 rfl rfl rfl rfl rfl ?_
        intro sG
        refine LX.nextT [7] (by kernel_rfl) (fun _ => (fun w hw => by exact hw.drop (.cons _ (.cons _ (.cons _ (List.sublist_append_right _ _)))))) ?_
        refine MT.force (i := 8) rfl ?_
        refine LX.call (cTexts_c X.cn (by omega) hX.hN) Fjf.en59 rfl rfl rfl rfl rfl ?_
        intro sT
        refine LX.nextT [] (by kernel_rfl) (fun h => absurd rfl h) ?_
        refine MT.lift0 (i := 9) rfl (Y.build (v := .agg ([.slice none 0 0, rv sN.1.1 p.consts.length sN.1.2, rv sG.1 p.globals.length sG.2, rv sT.1 p.names.length sT.2]).toArray) rfl (fun _ => by kernel_rfl)) rfl rfl rfl ?_
        refine MT.force (i := 11) rfl ?_
        (refine LX.world (W' := WA w0 base (blk bp [.slice none 0 0, .slice none 0 0, .slice none 0 0, .slice none 0 0] 57 :: .row sT.1 sT.2 p.names.length 9 1 (p.names.map str) :: .row sG.1 sG.2 p.globals.length 9 1 (p.globals.map str) :: .row sN.1.1 sN.1.2 p.consts.length 44 5 sN.2.1 :: (sN.2.2 ++ (blk bz [.slice none 0 0, .slice none 0 0, .slice none 0 0, .slice none 0 0] 57 :: blk bx1 (X.pcs p) 28 :: fr)))) (fun w hw => (show WA w0 base (.row sT.1 sT.2 p.names.length 9 1 (p.names.map str) :: .row sG.1 sG.2 p.globals.length 9 1 (p.globals.map str) :: blk bp [.slice none 0 0, .slice none 0 0, .slice none 0 0, .slice none 0 0] 57 :: .row sN.1.1 sN.1.2 p.consts.length 44 5 sN.2.1 :: (sN.2.2 ++ (blk bz [.slice none 0 0, .slice none 0 0, .slice none 0 0, .slice none 0 0] 57 :: blk bx1 (X.pcs p) 28 :: fr))) w from hw).perm (by (refine perm_cnt fun x => ?_; simp only [cnt_append, cnt_cons, cnt_nil]; omega))) ?_; refine LX.storeA 0 Fjf.ag57 rfl rfl rfl rfl rfl rfl rfl rfl rfl ?_)
        refine LX.nextT [] (by kernel_rfl) (fun h => absurd rfl h) ?_
        refine MT.sub (l' := [(1, _), (2, _), (3, _)]) ⟨rfl, rfl, rfl, trivial⟩ ?_
        refine MT.done ?_
        exact PX.seam (L := (fun q : Nat × ((Option Nat × Nat) × List Value × List It) × (Option Nat × Nat) × (Option Nat × Nat) => [(1, .pointer (some ⟨bx1, 0, none⟩)), (2, .pointer (some ⟨bz, 0, none⟩)), (3, .pointer (some ⟨q.1, 0, none⟩))])) (WW := (fun (q : Nat × ((Option Nat × Nat) × List Value × List It) × (Option Nat × Nat) × (Option Nat × Nat)) w => NdsF w0 base q.2.1.2.2 q.2.1.2.1 p.consts ∧ WA w0 base (blk q.1 [.slice none 0 0, rv q.2.1.1.1 p.consts.length q.2.1.1.2, rv q.2.2.1.1 p.globals.length q.2.2.1.2, rv q.2.2.2.1 p.names.length q.2.2.2.2] 57 :: blk bx1 (X.pcs p) 28 :: blk bz [.slice none 0 0, .slice none 0 0, .slice none 0 0, .slice none 0 0] 57 :: .row q.2.2.2.1 q.2.2.2.2 p.names.length 9 1 (p.names.map str) :: .row q.2.2.1.1 q.2.2.1.2 p.globals.length 9 1 (p.globals.map str) :: .row q.2.1.1.1 q.2.1.1.2 p.consts.length 44 5 q.2.1.2.1 :: (q.2.1.2.2 ++ fr)) w)) (bp, sN, sG, sT) ⟨rfl, rfl, rfl, trivial⟩ (fun w hw => ⟨hnf, (show WA w0 base (blk bp [.slice none 0 0, rv sN.1.1 p.consts.length sN.1.2, rv sG.1 p.globals.length sG.2, rv sT.1 p.names.length sT.2] 57 :: .row sT.1 sT.2 p.names.length 9 1 (p.names.map str) :: .row sG.1 sG.2 p.globals.length 9 1 (p.globals.map str) :: .row sN.1.1 sN.1.2 p.consts.length 44 5 sN.2.1 :: (sN.2.2 ++ (blk bz [.slice none 0 0, .slice none 0 0, .slice none 0 0, .slice none 0 0] 57 :: blk bx1 (X.pcs p) 28 :: fr))) w from hw).perm (by (refine perm_cnt fun x => ?_; simp only [cnt_append, cnt_cons, cnt_nil]; omega))⟩)
    ·
      refine LX.alloc rfl Fjf.zv57 rfl rfl rfl ?_
      intro bp
      refine LX.nextT [7, 4, 1] (by kernel_rfl) (fun _ => (fun w hw => by exact hw.drop (List.sublist_cons_self _ _))) ?_
      refine MT.force (i := 2) rfl ?_
      refine LX.call (cNodes_c X.cc (by omega) hX.hC (fun x hx => by have := (hlb.1.2.1.2 x hx).1; omega)) Fjf.en58 rfl rfl rfl rfl rfl ?_
      intro sN
      refine LX.have fun hnf => ?_
      try dsimp only at hnf ⊢
      refine LX.nextT [7, 4] (by kernel_rfl) (fun _ => (fun w hw => by exact hw.drop (.cons _ ((List.sublist_cons_self _ _).trans (List.sublist_append_right _ _))))) ?_
      refine MT.force (i := 5) rfl ?_
      refine LX.call (cTexts_c X.cg (by omega) hX.hG) Fjf.en59 rfl rfl rfl rfl rfl ?_
      intro sG
      refine LX.nextT [7] (by kernel_rfl) (fun _ => (fun w hw => by exact hw.drop (.cons _ (.cons _ ((List.sublist_cons_self _ _).trans (List.sublist_append_right _ _)))))) ?_
      refine MT.force (i := 8) rfl ?_
      refine LX.call (cTexts_c X.cn (by omega) hX.hN) Fjf.en59 rfl rfl rfl rfl rfl ?_
      intro sT
      refine LX.nextT [] (by kernel_rfl) (fun h => absurd rfl h) ?_
      refine MT.lift0 (i := 9) rfl (Y.build (v := .agg ([.slice none 0 0, rv sN.1.1 p.consts.length sN.1.2, rv sG.1 p.globals.length sG.2, rv sT.1 p.names.length sT.2]).toArray) rfl (fun _ => by kernel_rfl)) rfl rfl rfl ?_
      refine MT.force (i := 11) rfl ?_
      (refine LX.world (W' := WA w0 base (blk bp [.slice none 0 0, .slice none 0 0, .slice none 0 0, .slice none 0 0] 57 :: .row sT.1 sT.2 p.names.length 9 1 (p.names.map str) :: .row sG.1 sG.2 p.globals.length 9 1 (p.globals.map str) :: .row sN.1.1 sN.1.2 p.consts.length 44 5 sN.2.1 :: (sN.2.2 ++ (blk bz [.slice none 0 0, .slice none 0 0, .slice none 0 0, .slice none 0 0] 57 :: blk bx1 (X.pcs p) 28 :: fr)))) (fun w hw => (show WA w0 base (.row sT.1 sT.2 p.names.length 9 1 (p.names.map str) :: .row sG.1 sG.2 p.globals.length 9 1 (p.globals.map str) :: .row sN.1.1 sN.1.2 p.consts.length 44 5 sN.2.1 :: (sN.2.2 ++ (blk bp [.slice none 0 0, .slice none 0 0, .slice none 0 0, .slice none 0 0] 57 :: blk bz [.slice none 0 0, .slice none 0 0, .slice none 0 0, .slice none 0 0] 57 :: blk bx1 (X.pcs p) 28 :: fr))) w from hw).perm (by (refine perm_cnt fun x => ?_; simp only [cnt_append, cnt_cons, cnt_nil]; omega))) ?_; refine LX.storeA 0 Fjf.ag57 rfl rfl rfl rfl rfl rfl rfl rfl rfl ?_)
      refine LX.nextT [] (by kernel_rfl) (fun h => absurd rfl h) ?_
      refine MT.sub (l' := [(1, _), (2, _), (3, _)]) ⟨rfl, rfl, rfl, trivial⟩ ?_
      refine MT.done ?_
      exact PX.seam (L := (fun q : Nat × ((Option Nat × Nat) × List Value × List It) × (Option Nat × Nat) × (Option Nat × Nat) => [(1, .pointer (some ⟨bx1, 0, none⟩)), (2, .pointer (some ⟨bz, 0, none⟩)), (3, .pointer (some ⟨q.1, 0, none⟩))])) (WW := (fun (q : Nat × ((Option Nat × Nat) × List Value × List It) × (Option Nat × Nat) × (Option Nat × Nat)) w => NdsF w0 base q.2.1.2.2 q.2.1.2.1 p.consts ∧ WA w0 base (blk q.1 [.slice none 0 0, rv q.2.1.1.1 p.consts.length q.2.1.1.2, rv q.2.2.1.1 p.globals.length q.2.2.1.2, rv q.2.2.2.1 p.names.length q.2.2.2.2] 57 :: blk bx1 (X.pcs p) 28 :: blk bz [.slice none 0 0, .slice none 0 0, .slice none 0 0, .slice none 0 0] 57 :: .row q.2.2.2.1 q.2.2.2.2 p.names.length 9 1 (p.names.map str) :: .row q.2.2.1.1 q.2.2.1.2 p.globals.length 9 1 (p.globals.map str) :: .row q.2.1.1.1 q.2.1.1.2 p.consts.length 44 5 q.2.1.2.1 :: (q.2.1.2.2 ++ fr)) w)) (bp, sN, sG, sT) ⟨rfl, rfl, rfl, trivial⟩ (fun w hw => ⟨hnf, (show WA w0 base (blk bp [.slice none 0 0, rv sN.1.1 p.consts.length sN.1.2, rv sG.1 p.globals.length sG.2, rv sT.1 p.names.length sT.2] 57 :: .row sT.1 sT.2 p.names.length 9 1 (p.names.map str) :: .row sG.1 sG.2 p.globals.length 9 1 (p.globals.map str) :: .row sN.1.1 sN.1.2 p.consts.length 44 5 sN.2.1 :: (sN.2.2 ++ (blk bz [.slice none 0 0, .slice none 0 0, .slice none 0 0, .slice none 0 0] 57 :: blk bx1 (X.pcs p) 28 :: fr))) w from hw).perm (by (refine perm_cnt fun x => ?_; simp only [cnt_append, cnt_cons, cnt_nil]; omega))⟩)
  ·
    rintro ⟨bp, sN, sG, sT⟩
    refine CX.have fun hnf => ?_
    try dsimp only at hnf ⊢
    refine CX.seq ?_
    refine CX.seq ?_
    refine CX.region ?_
    refine LX.pure (Y.assign rfl) rfl rfl rfl ?_
    refine LX.sub (l' := [(1, _), (2, _), (3, _), (4, _)]) ⟨rfl, rfl, rfl, rfl, trivial⟩ ?_
    refine LX.next ?_
    refine PX.thenN ?_
    refine CX.block ?_
    refine CX.loop (fun s : Nat × (Option Nat × Nat) × List Value × List It => [(1, .pointer (some ⟨bx1, 0, none⟩)), (2, .pointer (some ⟨bz, 0, none⟩)), (3, .pointer (some ⟨bp, 0, none⟩)), (4, .int .i64 (s.1 : Int))]) (fun (s : Nat × (Option Nat × Nat) × List Value × List It) w => (s.1 ≤ p.funcs.length ∧ FnsF w0 base s.2.2.2 s.2.2.1 (p.funcs.take s.1)) ∧ WA w0 base (blk bp [rv s.2.1.1 s.1 s.2.1.2, rv sN.1.1 p.consts.length sN.1.2, rv sG.1 p.globals.length sG.2, rv sT.1 p.names.length sT.2] 57 :: .row s.2.1.1 s.2.1.2 s.1 124 6 s.2.2.1 :: blk bx1 (X.pcs p) 28 :: blk bz [.slice none 0 0, .slice none 0 0, .slice none 0 0, .slice none 0 0] 57 :: (s.2.2.2 ++ (.row sT.1 sT.2 p.names.length 9 1 (p.names.map str) :: .row sG.1 sG.2 p.globals.length 9 1 (p.globals.map str) :: .row sN.1.1 sN.1.2 p.consts.length 44 5 sN.2.1 :: (sN.2.2 ++ fr)))) w) (fun s => p.funcs.length - s.1) (0, (none, 0), [], []) ⟨rfl, rfl, rfl, rfl, trivial⟩ (fun w hw => ⟨⟨Nat.zero_le _, rfl, fun i x hx => by cases hx⟩, ((show WA w0 base (blk bp [rv none 0 0, rv sN.1.1 p.consts.length sN.1.2, rv sG.1 p.globals.length sG.2, rv sT.1 p.names.length sT.2] 57 :: blk bx1 (X.pcs p) 28 :: blk bz [.slice none 0 0, .slice none 0 0, .slice none 0 0, .slice none 0 0] 57 :: .row sT.1 sT.2 p.names.length 9 1 (p.names.map str) :: .row sG.1 sG.2 p.globals.length 9 1 (p.globals.map str) :: .row sN.1.1 sN.1.2 p.consts.length 44 5 sN.2.1 :: (sN.2.2 ++ fr)) w from hw).nilRow 124 6).perm (by (refine perm_cnt fun x => ?_; simp only [cnt_append, cnt_cons, cnt_nil]; omega))⟩) ?_
    rintro ⟨j, ⟨gF, capF⟩, cells, rs⟩
    refine CX.have fun ⟨hj0, hff⟩ => ?_
    try dsimp only at hj0 hff ⊢
    refine CX.seq ?_
    refine CX.seq ?_
    refine CX.region ?_
    refine LX.pure (Y.move rfl) rfl rfl rfl ?_
    refine LX.pure (Y.fieldAddr0 Fja.fo28_0 rfl) rfl rfl rfl ?_
    refine LX.pure (Y.ldB 2 Fja.one25 rfl rfl rfl) rfl rfl rfl ?_
    refine LX.pure (Y.lenSl rfl Fja.un25 rfl) rfl rfl rfl ?_
    refine LX.pure (Y.ltN rfl rfl) rfl rfl rfl ?_
    refine LX.sub (l' := [(1, _), (2, _), (3, _), (4, _), (23, _)]) ⟨rfl, rfl, rfl, rfl, rfl, trivial⟩ ?_
    refine LX.next ?_
    refine PX.thenN ?_
    refine CX.cond rfl (fun hb1 => ?_) (fun hb1 => ?_)
    · try simp at hb1
      have hj : j < p.funcs.length := by omega
      obtain ⟨g, hg⟩ : ∃ g, p.funcs[j]? = some g := ⟨_, List.getElem?_eq_getElem hj⟩
      obtain ⟨a, cs, hav, hcl, hL, vn2, vc2, rfl, hnm, hcd, hi1, hi2, hi3⟩ := hX.hF j g hg
      obtain ⟨an2, cn2, rfl, ⟨hn1, hn2⟩, hna⟩ := hnm.sl
      obtain ⟨ad2, cd2, rfl, ⟨hd1, hd2⟩, hda⟩ := hcd.sl
      have hlg := hlb.2 g (List.mem_of_getElem? hg)
      have hlm := hlg.2.2.1
      refine CX.skip ?_
      refine PX.thenN ?_
      refine CX.seq ?_
      refine CX.block ?_
      refine CX.seq ?_
      refine CX.region ?_
      refine LX.pure (Y.fieldAddr0 Fja.fo28_0 rfl) rfl rfl rfl ?_
      refine LX.pure (Y.ldB 2 Fja.one25 rfl rfl rfl) rfl rfl rfl ?_
      refine LX.pure (Y.move rfl) rfl rfl rfl ?_
      refine LX.pure (Y.idxZ Fja.un25 Fja.sz51 rfl rfl hav (j := j) rfl hj) rfl rfl rfl ?_
      refine LX.pure (Y.ldAO (cs := [str g.name, .int .i64 g.params, .int .i64 g.given, .int .i64 g.slots, .slice an2 g.names.length cn2, .slice ad2 g.code.length cd2]) Fjf.ag51 rfl hL rfl) rfl rfl rfl ?_
      refine LX.alloc rfl Fjf.zv51 rfl rfl rfl ?_
      intro b5x
      refine LX.storeA 0 Fjf.ag51 rfl rfl rfl rfl rfl rfl rfl rfl rfl ?_
      refine LX.sub (l' := [(1, _), (2, _), (3, _), (4, _), (5, _)]) ⟨rfl, rfl, rfl, rfl, rfl, trivial⟩ ?_
      refine LX.next ?_
      refine PX.thenN ?_
      refine CX.seqM (fun q : Nat × (Option Nat × Nat) => [(1, .pointer (some ⟨bx1, 0, none⟩)), (2, .pointer (some ⟨bz, 0, none⟩)), (3, .pointer (some ⟨bp, 0, none⟩)), (4, .int .i64 (j : Int)), (5, .pointer (some ⟨b5x, 0, none⟩)), (6, .pointer (some ⟨q.1, 0, none⟩))]) (fun (q : Nat × (Option Nat × Nat)) w => WA w0 base (blk q.1 [str g.name, .int .i64 g.params, .int .i64 g.given, .int .i64 g.slots, rv q.2.1 g.names.length q.2.2, .slice none 0 0] 124 :: .row q.2.1 q.2.2 g.names.length 9 1 (g.names.map str) :: blk b5x [str g.name, .int .i64 g.params, .int .i64 g.given, .int .i64 g.slots, .slice an2 g.names.length cn2, .slice ad2 g.code.length cd2] 51 :: blk bp [rv gF j capF, rv sN.1.1 p.consts.length sN.1.2, rv sG.1 p.globals.length sG.2, rv sT.1 p.names.length sT.2] 57 :: .row gF capF j 124 6 cells :: blk bx1 (X.pcs p) 28 :: blk bz [.slice none 0 0, .slice none 0 0, .slice none 0 0, .slice none 0 0] 57 :: (rs ++ (.row sT.1 sT.2 p.names.length 9 1 (p.names.map str) :: .row sG.1 sG.2 p.globals.length 9 1 (p.globals.map str) :: .row sN.1.1 sN.1.2 p.consts.length 44 5 sN.2.1 :: (sN.2.2 ++ fr)))) w) ?_ ?_
      ·
        refine CX.regionT (.step 0 .anywhere (.step 1 .held (.step 2 .anywhere (.step 3 .held (.step 4 .anywhere (.step 5 .held (.step 6 .anywhere (.step 7 .held (.step 8 .anywhere (.step 9 .held (.fork 10 12 (.step 11 .held (.step 12 .alone (.step 13 .alone .done))) (.step 10 .alone (.step 11 .held (.step 13 .alone .done)))))))))))))) rfl (by kernel_rfl) ?_
        refine MT.lift0 (i := 0) rfl (Y.fieldAddr0 Fja.fo51_0 rfl) rfl rfl rfl ?_
        refine MT.lift1 (i := 1) (pend' := []) rfl (fun w hw => by exact hw) (Y.ldB 0 Fj.one9 rfl rfl rfl) rfl rfl rfl (by kernel_rfl) ?_
        refine MT.lift0 (i := 2) rfl (Y.fieldAddr0 Fjf.fo51_1 rfl) rfl rfl rfl ?_
        refine MT.lift1 (i := 3) (pend' := [1]) rfl (fun w hw => by exact hw) (Y.ldB 0 Fjb.one3 rfl rfl rfl) rfl rfl rfl (by kernel_rfl) ?_
        refine MT.lift0 (i := 4) rfl (Y.fieldAddr0 Fjf.fo51_2 rfl) rfl rfl rfl ?_
        refine MT.lift1 (i := 5) (pend' := [3, 1]) rfl (fun w hw => by exact hw) (Y.ldB 0 Fjb.one3 rfl rfl rfl) rfl rfl rfl (by kernel_rfl) ?_
        refine MT.lift0 (i := 6) rfl (Y.fieldAddr0 Fjf.fo51_3 rfl) rfl rfl rfl ?_
        refine MT.lift1 (i := 7) (pend' := [5, 3, 1]) rfl (fun w hw => by exact hw) (Y.ldB 0 Fjb.one3 rfl rfl rfl) rfl rfl rfl (by kernel_rfl) ?_
        refine MT.lift0 (i := 8) rfl (Y.fieldAddr0 Fja.fo51_4 rfl) rfl rfl rfl ?_
        refine MT.lift1 (i := 9) (pend' := [7, 5, 3, 1]) rfl (fun w hw => by exact hw) (Y.ldB 0 Fja.one26 rfl rfl rfl) rfl rfl rfl (by kernel_rfl) ?_
        refine MT.fork (i := 10) (j := 12) rfl rfl ?_ ?_
        ·
          refine LX.call (cTexts_c cn2 (by omega) hna) Fjf.en59 rfl rfl rfl rfl rfl ?_
          intro sM
          refine LX.nextT [7, 5, 3, 1] (by kernel_rfl) (fun _ => (fun w hw => by exact hw.drop (List.sublist_cons_self _ _))) ?_
          refine MT.lift1 (i := 11) (pend' := []) rfl (fun w hw => by exact hw.drop (List.sublist_cons_self _ _)) (Y.build (v := .agg ([str g.name, .int .i64 g.params, .int .i64 g.given, .int .i64 g.slots, rv sM.1 g.names.length sM.2, .slice none 0 0]).toArray) rfl (fun _ => by kernel_rfl)) rfl rfl rfl (by kernel_rfl) ?_
          refine MT.force (i := 12) rfl ?_
          refine LX.alloc rfl Fjf.zv124 rfl rfl rfl ?_
          intro b6x
          refine LX.nextT [11] (by kernel_rfl) (fun _ => (fun w hw => by exact hw.drop (.cons _ (List.sublist_cons_self _ _)))) ?_
          refine MT.force (i := 13) rfl ?_
          (refine LX.world (W' := WA w0 base (blk b6x [.string ⟨#[]⟩, .int .i64 0, .int .i64 0, .int .i64 0, .slice none 0 0, .slice none 0 0] 124 :: .row sM.1 sM.2 g.names.length 9 1 (g.names.map str) :: blk b5x [str g.name, .int .i64 g.params, .int .i64 g.given, .int .i64 g.slots, .slice an2 g.names.length cn2, .slice ad2 g.code.length cd2] 51 :: blk bp [rv gF j capF, rv sN.1.1 p.consts.length sN.1.2, rv sG.1 p.globals.length sG.2, rv sT.1 p.names.length sT.2] 57 :: .row gF capF j 124 6 cells :: blk bx1 (X.pcs p) 28 :: blk bz [.slice none 0 0, .slice none 0 0, .slice none 0 0, .slice none 0 0] 57 :: (rs ++ (.row sT.1 sT.2 p.names.length 9 1 (p.names.map str) :: .row sG.1 sG.2 p.globals.length 9 1 (p.globals.map str) :: .row sN.1.1 sN.1.2 p.consts.length 44 5 sN.2.1 :: (sN.2.2 ++ fr))))) (fun w hw => hw) ?_; refine LX.storeA 0 Fjf.ag124 rfl rfl rfl rfl rfl rfl rfl rfl rfl ?_)
          refine LX.nextT [] (by kernel_rfl) (fun h => absurd rfl h) ?_
          refine MT.sub (l' := [(1, _), (2, _), (3, _), (4, _), (5, _), (6, _)]) ⟨rfl, rfl, rfl, rfl, rfl, rfl, trivial⟩ ?_
          refine MT.done ?_
          exact PX.seam (L := (fun q : Nat × (Option Nat × Nat) => [(1, .pointer (some ⟨bx1, 0, none⟩)), (2, .pointer (some ⟨bz, 0, none⟩)), (3, .pointer (some ⟨bp, 0, none⟩)), (4, .int .i64 (j : Int)), (5, .pointer (some ⟨b5x, 0, none⟩)), (6, .pointer (some ⟨q.1, 0, none⟩))])) (WW := (fun (q : Nat × (Option Nat × Nat)) w => WA w0 base (blk q.1 [str g.name, .int .i64 g.params, .int .i64 g.given, .int .i64 g.slots, rv q.2.1 g.names.length q.2.2, .slice none 0 0] 124 :: .row q.2.1 q.2.2 g.names.length 9 1 (g.names.map str) :: blk b5x [str g.name, .int .i64 g.params, .int .i64 g.given, .int .i64 g.slots, .slice an2 g.names.length cn2, .slice ad2 g.code.length cd2] 51 :: blk bp [rv gF j capF, rv sN.1.1 p.consts.length sN.1.2, rv sG.1 p.globals.length sG.2, rv sT.1 p.names.length sT.2] 57 :: .row gF capF j 124 6 cells :: blk bx1 (X.pcs p) 28 :: blk bz [.slice none 0 0, .slice none 0 0, .slice none 0 0, .slice none 0 0] 57 :: (rs ++ (.row sT.1 sT.2 p.names.length 9 1 (p.names.map str) :: .row sG.1 sG.2 p.globals.length 9 1 (p.globals.map str) :: .row sN.1.1 sN.1.2 p.consts.length 44 5 sN.2.1 :: (sN.2.2 ++ fr)))) w)) (b6x, sM) ⟨rfl, rfl, rfl, rfl, rfl, rfl, trivial⟩ (fun w hw => hw)
        ·
          refine LX.alloc rfl Fjf.zv124 rfl rfl rfl ?_
          intro b6x
          refine LX.nextT [9, 7, 5, 3, 1] (by kernel_rfl) (fun _ => (fun w hw => by exact hw.drop (List.sublist_cons_self _ _))) ?_
          refine MT.force (i := 10) rfl ?_
          refine LX.call (cTexts_c cn2 (by omega) hna) Fjf.en59 rfl rfl rfl rfl rfl ?_
          intro sM
          refine LX.nextT [7, 5, 3, 1] (by kernel_rfl) (fun _ => (fun w hw => by exact hw.drop (.cons _ (List.sublist_cons_self _ _)))) ?_
          refine MT.lift1 (i := 11) (pend' := []) rfl (fun w hw => by exact hw.drop (.cons _ (List.sublist_cons_self _ _))) (Y.build (v := .agg ([str g.name, .int .i64 g.params, .int .i64 g.given, .int .i64 g.slots, rv sM.1 g.names.length sM.2, .slice none 0 0]).toArray) rfl (fun _ => by kernel_rfl)) rfl rfl rfl (by kernel_rfl) ?_
          refine MT.force (i := 13) rfl ?_
          (refine LX.world (W' := WA w0 base (blk b6x [.string ⟨#[]⟩, .int .i64 0, .int .i64 0, .int .i64 0, .slice none 0 0, .slice none 0 0] 124 :: .row sM.1 sM.2 g.names.length 9 1 (g.names.map str) :: blk b5x [str g.name, .int .i64 g.params, .int .i64 g.given, .int .i64 g.slots, .slice an2 g.names.length cn2, .slice ad2 g.code.length cd2] 51 :: blk bp [rv gF j capF, rv sN.1.1 p.consts.length sN.1.2, rv sG.1 p.globals.length sG.2, rv sT.1 p.names.length sT.2] 57 :: .row gF capF j 124 6 cells :: blk bx1 (X.pcs p) 28 :: blk bz [.slice none 0 0, .slice none 0 0, .slice none 0 0, .slice none 0 0] 57 :: (rs ++ (.row sT.1 sT.2 p.names.length 9 1 (p.names.map str) :: .row sG.1 sG.2 p.globals.length 9 1 (p.globals.map str) :: .row sN.1.1 sN.1.2 p.consts.length 44 5 sN.2.1 :: (sN.2.2 ++ fr))))) (fun w hw => (show WA w0 base (.row sM.1 sM.2 g.names.length 9 1 (g.names.map str) :: blk b6x [.string ⟨#[]⟩, .int .i64 0, .int .i64 0, .int .i64 0, .slice none 0 0, .slice none 0 0] 124 :: blk b5x [str g.name, .int .i64 g.params, .int .i64 g.given, .int .i64 g.slots, .slice an2 g.names.length cn2, .slice ad2 g.code.length cd2] 51 :: blk bp [rv gF j capF, rv sN.1.1 p.consts.length sN.1.2, rv sG.1 p.globals.length sG.2, rv sT.1 p.names.length sT.2] 57 :: .row gF capF j 124 6 cells :: blk bx1 (X.pcs p) 28 :: blk bz [.slice none 0 0, .slice none 0 0, .slice none 0 0, .slice none 0 0] 57 :: (rs ++ (.row sT.1 sT.2 p.names.length 9 1 (p.names.map str) :: .row sG.1 sG.2 p.globals.length 9 1 (p.globals.map str) :: .row sN.1.1 sN.1.2 p.consts.length 44 5 sN.2.1 :: (sN.2.2 ++ fr)))) w from hw).perm (by (refine perm_cnt fun x => ?_; simp only [cnt_append, cnt_cons, cnt_nil]; omega))) ?_; refine LX.storeA 0 Fjf.ag124 rfl rfl rfl rfl rfl rfl rfl rfl rfl ?_)
          refine LX.nextT [] (by kernel_rfl) (fun h => absurd rfl h) ?_
          refine MT.sub (l' := [(1, _), (2, _), (3, _), (4, _), (5, _), (6, _)]) ⟨rfl, rfl, rfl, rfl, rfl, rfl, trivial⟩ ?_
          refine MT.done ?_
          exact PX.seam (L := (fun q : Nat × (Option Nat × Nat) => [(1, .pointer (some ⟨bx1, 0, none⟩)), (2, .pointer (some ⟨bz, 0, none⟩)), (3, .pointer (some ⟨bp, 0, none⟩)), (4, .int .i64 (j : Int)), (5, .pointer (some ⟨b5x, 0, none⟩)), (6, .pointer (some ⟨q.1, 0, none⟩))])) (WW := (fun (q : Nat × (Option Nat × Nat)) w => WA w0 base (blk q.1 [str g.name, .int .i64 g.params, .int .i64 g.given, .int .i64 g.slots, rv q.2.1 g.names.length q.2.2, .slice none 0 0] 124 :: .row q.2.1 q.2.2 g.names.length 9 1 (g.names.map str) :: blk b5x [str g.name, .int .i64 g.params, .int .i64 g.given, .int .i64 g.slots, .slice an2 g.names.length cn2, .slice ad2 g.code.length cd2] 51 :: blk bp [rv gF j capF, rv sN.1.1 p.consts.length sN.1.2, rv sG.1 p.globals.length sG.2, rv sT.1 p.names.length sT.2] 57 :: .row gF capF j 124 6 cells :: blk bx1 (X.pcs p) 28 :: blk bz [.slice none 0 0, .slice none 0 0, .slice none 0 0, .slice none 0 0] 57 :: (rs ++ (.row sT.1 sT.2 p.names.length 9 1 (p.names.map str) :: .row sG.1 sG.2 p.globals.length 9 1 (p.globals.map str) :: .row sN.1.1 sN.1.2 p.consts.length 44 5 sN.2.1 :: (sN.2.2 ++ fr)))) w)) (b6x, sM) ⟨rfl, rfl, rfl, rfl, rfl, rfl, trivial⟩ (fun w hw => hw)
      ·
        rintro ⟨b6x, sM⟩
        try dsimp only
        refine CX.seq ?_
        refine CX.seq ?_
        refine CX.region ?_
        refine LX.pure (Y.assign rfl) rfl rfl rfl ?_
        refine LX.sub (l' := [(1, _), (2, _), (3, _), (4, _), (5, _), (6, _), (7, _)]) ⟨rfl, rfl, rfl, rfl, rfl, rfl, rfl, trivial⟩ ?_
        refine LX.next ?_
        refine PX.thenN ?_
        refine CX.block ?_
        refine CX.loop (fun s : Nat × Option Nat × Nat => [(1, .pointer (some ⟨bx1, 0, none⟩)), (2, .pointer (some ⟨bz, 0, none⟩)), (3, .pointer (some ⟨bp, 0, none⟩)), (4, .int .i64 (j : Int)), (5, .pointer (some ⟨b5x, 0, none⟩)), (6, .pointer (some ⟨b6x, 0, none⟩)), (7, .int .i64 (s.1 : Int))]) (fun (s : Nat × Option Nat × Nat) w => s.1 ≤ g.code.length ∧ WA w0 base (blk b6x [str g.name, .int .i64 g.params, .int .i64 g.given, .int .i64 g.slots, rv sM.1 g.names.length sM.2, rv s.2.1 s.1 s.2.2] 124 :: .row s.2.1 s.2.2 s.1 65 4 (insR (g.code.take s.1)) :: .row sM.1 sM.2 g.names.length 9 1 (g.names.map str) :: blk b5x [str g.name, .int .i64 g.params, .int .i64 g.given, .int .i64 g.slots, .slice an2 g.names.length cn2, .slice ad2 g.code.length cd2] 51 :: blk bp [rv gF j capF, rv sN.1.1 p.consts.length sN.1.2, rv sG.1 p.globals.length sG.2, rv sT.1 p.names.length sT.2] 57 :: .row gF capF j 124 6 cells :: blk bx1 (X.pcs p) 28 :: blk bz [.slice none 0 0, .slice none 0 0, .slice none 0 0, .slice none 0 0] 57 :: (rs ++ (.row sT.1 sT.2 p.names.length 9 1 (p.names.map str) :: .row sG.1 sG.2 p.globals.length 9 1 (p.globals.map str) :: .row sN.1.1 sN.1.2 p.consts.length 44 5 sN.2.1 :: (sN.2.2 ++ fr)))) w) (fun s => g.code.length - s.1) (0, none, 0) ⟨rfl, rfl, rfl, rfl, rfl, rfl, rfl, trivial⟩ (fun w hw => ⟨Nat.zero_le _, (hw.nilRow 65 4).perm (.swap _ _ _)⟩) ?_
        rintro ⟨q, gC, capC⟩
        refine CX.have fun hq0 => ?_
        try dsimp only at hq0 ⊢
        refine CX.seq ?_
        refine CX.seq ?_
        refine CX.region ?_
        refine LX.pure (Y.move rfl) rfl rfl rfl ?_
        refine LX.pure (Y.fieldAddr0 Fja.fo51_5 rfl) rfl rfl rfl ?_
        refine LX.pure (Y.ldB 3 Fja.one49 rfl rfl rfl) rfl rfl rfl ?_
        refine LX.pure (Y.lenSl rfl Fja.un49 rfl) rfl rfl rfl ?_
        refine LX.pure (Y.ltN rfl rfl) rfl rfl rfl ?_
        refine LX.sub (l' := [(1, _), (2, _), (3, _), (4, _), (5, _), (6, _), (7, _), (47, _)]) ⟨rfl, rfl, rfl, rfl, rfl, rfl, rfl, rfl, trivial⟩ ?_
        refine LX.next ?_
        refine PX.thenN ?_
        refine CX.cond rfl (fun hb2 => ?_) (fun hb2 => ?_)
        · try simp at hb2
          have hq : q < g.code.length := by omega
          obtain ⟨i, hi⟩ : ∃ i, g.code[q]? = some i := ⟨_, List.getElem?_eq_getElem hq⟩
          obtain ⟨aI, csI, havI, hclI, hLI, rfl, hin1, hin2, hin3, hin4⟩ := hda q i hi
          refine CX.skip ?_
          refine PX.thenN ?_
          refine CX.seq ?_
          refine CX.block ?_
          refine CX.seq ?_
          refine CX.region ?_
          refine LX.pure (Y.fieldAddr0 Fja.fo51_5 rfl) rfl rfl rfl ?_
          refine LX.pure (Y.ldB 3 Fja.one49 rfl rfl rfl) rfl rfl rfl ?_
          refine LX.pure (Y.move rfl) rfl rfl rfl ?_
          refine LX.pure (Y.idxZ Fja.un49 Fjf.sz53 rfl rfl havI (j := q) rfl hq) rfl rfl rfl ?_
          refine LX.pure (Y.ldAO (cs := insCs i) Fjf.ag53 rfl hLI rfl) rfl rfl rfl ?_
          refine LX.alloc rfl Fjf.zv53 rfl rfl rfl ?_
          intro bx52
          refine LX.storeA 0 Fjf.ag53 rfl rfl rfl rfl rfl rfl rfl rfl rfl ?_
          refine LX.sub (l' := [(1, _), (2, _), (3, _), (4, _), (5, _), (6, _), (7, _), (8, _)]) ⟨rfl, rfl, rfl, rfl, rfl, rfl, rfl, rfl, trivial⟩ ?_
          refine LX.next ?_
          refine PX.thenN ?_
          refine CX.region ?_
          refine LX.pure (Y.fieldAddr0 Fjf.fo124_5 rfl) rfl rfl rfl ?_
          refine LX.pure (Y.ldB 1 Fjf.one122 rfl rfl rfl) rfl rfl rfl ?_
          refine LX.pure (Y.fieldAddr0 Fjf.fo53_0 rfl) rfl rfl rfl ?_
          refine LX.pure (Y.ldB 0 Fjb.one3 rfl rfl rfl) rfl rfl rfl ?_
          refine LX.pure (Y.fieldAddr0 Fjf.fo53_1 rfl) rfl rfl rfl ?_
          refine LX.pure (Y.ldB 0 Fjb.one3 rfl rfl rfl) rfl rfl rfl ?_
          refine LX.pure (Y.fieldAddr0 Fjf.fo53_2 rfl) rfl rfl rfl ?_
          refine LX.pure (Y.ldB 0 Fjb.one3 rfl rfl rfl) rfl rfl rfl ?_
          refine LX.pure (Y.fieldAddr0 Fjf.fo53_3 rfl) rfl rfl rfl ?_
          refine LX.pure (Y.ldB 0 Fjb.one3 rfl rfl rfl) rfl rfl rfl ?_
          refine LX.pure (Y.build (v := insV i) rfl (fun _ => by kernel_rfl)) rfl rfl rfl ?_
          refine LX.buildSlice (e := 65) (size := 4) rfl rfl (fun _ => by kernel_rfl) rfl (by decide) rfl rfl rfl ?_
          intro gt65
          refine LX.appendRows 3 0 Fjf.el122 rfl rfl rfl rfl rfl rfl rfl (by omega) (by omega) rfl rfl rfl ?_
          intro g2 cap2
          refine LX.pure (Y.fieldAddr0 Fjf.fo124_5 rfl) rfl rfl rfl ?_
          refine LX.storeB 2 Fjf.sz122 rfl rfl rfl rfl rfl rfl rfl rfl ?_
          refine LX.sub (l' := [(1, _), (2, _), (3, _), (4, _), (5, _), (6, _), (7, _)]) ⟨rfl, rfl, rfl, rfl, rfl, rfl, rfl, trivial⟩ ?_
          refine LX.next ?_
          refine PX.blockN ?_
          refine PX.thenN ?_
          refine CX.region ?_
          refine LX.pure (Y.move rfl) rfl rfl rfl ?_
          refine LX.pure (Y.addN rfl rfl (by (simp only []; omega))) rfl rfl rfl ?_
          refine LX.pure (Y.assign rfl) rfl rfl rfl ?_
          refine LX.sub (l' := [(1, _), (2, _), (3, _), (4, _), (5, _), (6, _), (7, _)]) ⟨rfl, rfl, rfl, rfl, rfl, rfl, rfl, trivial⟩ ?_
          refine LX.next ?_
          exact PX.again (L := (fun s : Nat × Option Nat × Nat => [(1, .pointer (some ⟨bx1, 0, none⟩)), (2, .pointer (some ⟨bz, 0, none⟩)), (3, .pointer (some ⟨bp, 0, none⟩)), (4, .int .i64 (j : Int)), (5, .pointer (some ⟨b5x, 0, none⟩)), (6, .pointer (some ⟨b6x, 0, none⟩)), (7, .int .i64 (s.1 : Int))])) (WW := (fun (s : Nat × Option Nat × Nat) w => s.1 ≤ g.code.length ∧ WA w0 base (blk b6x [str g.name, .int .i64 g.params, .int .i64 g.given, .int .i64 g.slots, rv sM.1 g.names.length sM.2, rv s.2.1 s.1 s.2.2] 124 :: .row s.2.1 s.2.2 s.1 65 4 (insR (g.code.take s.1)) :: .row sM.1 sM.2 g.names.length 9 1 (g.names.map str) :: blk b5x [str g.name, .int .i64 g.params, .int .i64 g.given, .int .i64 g.slots, .slice an2 g.names.length cn2, .slice ad2 g.code.length cd2] 51 :: blk bp [rv gF j capF, rv sN.1.1 p.consts.length sN.1.2, rv sG.1 p.globals.length sG.2, rv sT.1 p.names.length sT.2] 57 :: .row gF capF j 124 6 cells :: blk bx1 (X.pcs p) 28 :: blk bz [.slice none 0 0, .slice none 0 0, .slice none 0 0, .slice none 0 0] 57 :: (rs ++ (.row sT.1 sT.2 p.names.length 9 1 (p.names.map str) :: .row sG.1 sG.2 p.globals.length 9 1 (p.globals.map str) :: .row sN.1.1 sN.1.2 p.consts.length 44 5 sN.2.1 :: (sN.2.2 ++ fr)))) w)) (μ := fun s => g.code.length - s.1) (i := (q, gC, capC)) (q + 1, g2, cap2) (by show g.code.length - (q + 1) < g.code.length - q; omega) ⟨rfl, rfl, rfl, rfl, rfl, rfl, rfl, trivial⟩ (fun w hw => ⟨by show q + 1 ≤ g.code.length; omega, by have h1 := hw.drop (.cons _ (List.sublist_cons_self _ _)); show WA w0 base (blk b6x [str g.name, .int .i64 g.params, .int .i64 g.given, .int .i64 g.slots, rv sM.1 g.names.length sM.2, rv g2 (q + 1) cap2] 124 :: .row g2 cap2 (q + 1) 65 4 (insR (g.code.take (q + 1))) :: .row sM.1 sM.2 g.names.length 9 1 (g.names.map str) :: blk b5x [str g.name, .int .i64 g.params, .int .i64 g.given, .int .i64 g.slots, .slice an2 g.names.length cn2, .slice ad2 g.code.length cd2] 51 :: blk bp [rv gF j capF, rv sN.1.1 p.consts.length sN.1.2, rv sG.1 p.globals.length sG.2, rv sT.1 p.names.length sT.2] 57 :: .row gF capF j 124 6 cells :: blk bx1 (X.pcs p) 28 :: blk bz [.slice none 0 0, .slice none 0 0, .slice none 0 0, .slice none 0 0] 57 :: (rs ++ (.row sT.1 sT.2 p.names.length 9 1 (p.names.map str) :: .row sG.1 sG.2 p.globals.length 9 1 (p.globals.map str) :: .row sN.1.1 sN.1.2 p.consts.length 44 5 sN.2.1 :: (sN.2.2 ++ fr)))) w; rw [insR_take hi]; exact h1⟩)
        · try simp at hb2
          have hqe : q = g.code.length := by omega
          subst hqe
          rw [List.take_length]
          have htj : p.funcs.take (j + 1) = p.funcs.take j ++ [g] := by rw [List.take_add_one, hg]; rfl
          refine CX.exit ?_
          refine PX.thenE ?_
          refine PX.thenE ?_
          refine PX.blockE ?_
          refine PX.thenN ?_
          refine CX.region ?_
          refine LX.pure (Y.fieldAddr0 Fjf.fo57_0 rfl) rfl rfl rfl ?_
          refine LX.pure (Y.ldB 4 Fjf.one55 rfl rfl rfl) rfl rfl rfl ?_
          refine LX.pure (Y.ldAggB (vs := [str g.name, .int .i64 g.params, .int .i64 g.given, .int .i64 g.slots, rv sM.1 g.names.length sM.2, rv gC g.code.length capC]) 0 Fjf.ag124 rfl rfl rfl rfl) rfl rfl rfl ?_
          refine LX.buildSlice (e := 124) (size := 6) rfl rfl (fun _ => by kernel_rfl) rfl (by decide) rfl rfl rfl ?_
          intro gt75
          refine LX.appendRows 6 0 Fjf.el55 rfl rfl rfl rfl rfl rfl rfl (by omega) (by omega) rfl rfl rfl ?_
          intro g3 cap3
          refine LX.pure (Y.fieldAddr0 Fjf.fo57_0 rfl) rfl rfl rfl ?_
          refine LX.storeB 5 Fjf.sz55 rfl rfl rfl rfl rfl rfl rfl rfl ?_
          refine LX.sub (l' := [(1, _), (2, _), (3, _), (4, _)]) ⟨rfl, rfl, rfl, rfl, trivial⟩ ?_
          refine LX.next ?_
          refine PX.blockN ?_
          refine PX.thenN ?_
          refine CX.region ?_
          refine LX.pure (Y.move rfl) rfl rfl rfl ?_
          refine LX.pure (Y.addN rfl rfl (by (simp only []; omega))) rfl rfl rfl ?_
          refine LX.pure (Y.assign rfl) rfl rfl rfl ?_
          refine LX.sub (l' := [(1, _), (2, _), (3, _), (4, _)]) ⟨rfl, rfl, rfl, rfl, trivial⟩ ?_
          refine LX.next ?_
          exact PX.again (L := (fun s : Nat × (Option Nat × Nat) × List Value × List It => [(1, .pointer (some ⟨bx1, 0, none⟩)), (2, .pointer (some ⟨bz, 0, none⟩)), (3, .pointer (some ⟨bp, 0, none⟩)), (4, .int .i64 (s.1 : Int))])) (WW := (fun (s : Nat × (Option Nat × Nat) × List Value × List It) w => (s.1 ≤ p.funcs.length ∧ FnsF w0 base s.2.2.2 s.2.2.1 (p.funcs.take s.1)) ∧ WA w0 base (blk bp [rv s.2.1.1 s.1 s.2.1.2, rv sN.1.1 p.consts.length sN.1.2, rv sG.1 p.globals.length sG.2, rv sT.1 p.names.length sT.2] 57 :: .row s.2.1.1 s.2.1.2 s.1 124 6 s.2.2.1 :: blk bx1 (X.pcs p) 28 :: blk bz [.slice none 0 0, .slice none 0 0, .slice none 0 0, .slice none 0 0] 57 :: (s.2.2.2 ++ (.row sT.1 sT.2 p.names.length 9 1 (p.names.map str) :: .row sG.1 sG.2 p.globals.length 9 1 (p.globals.map str) :: .row sN.1.1 sN.1.2 p.consts.length 44 5 sN.2.1 :: (sN.2.2 ++ fr)))) w)) (μ := fun s => p.funcs.length - s.1) (i := (j, (gF, capF), cells, rs)) (j + 1, (g3, cap3), cells ++ [str g.name, .int .i64 g.params, .int .i64 g.given, .int .i64 g.slots, rv sM.1 g.names.length sM.2, rv gC g.code.length capC], .row gC capC g.code.length 65 4 (insR g.code) :: .row sM.1 sM.2 g.names.length 9 1 (g.names.map str) :: rs) (by show p.funcs.length - (j + 1) < p.funcs.length - j; omega) ⟨rfl, rfl, rfl, rfl, trivial⟩ (fun w hw => ⟨⟨by show j + 1 ≤ p.funcs.length; omega, by show FnsF w0 base (_ :: _ :: rs) (cells ++ _) (p.funcs.take (j + 1)); rw [htj]; exact hff.next rfl ⟨_, _, rfl, texts_A (i := 3) hw rfl (by simp) (by omega), code_A (i := 2) hw rfl (code_in hda) (by simp) (by omega), hi1, hi2, hi3⟩⟩, (show WA w0 base (.row gC capC g.code.length 65 4 (insR g.code) :: .row sM.1 sM.2 g.names.length 9 1 (g.names.map str) :: blk bp [rv g3 (j + 1) cap3, rv sN.1.1 p.consts.length sN.1.2, rv sG.1 p.globals.length sG.2, rv sT.1 p.names.length sT.2] 57 :: .row g3 cap3 (j + 1) 124 6 (cells ++ [str g.name, .int .i64 g.params, .int .i64 g.given, .int .i64 g.slots, rv sM.1 g.names.length sM.2, rv gC g.code.length capC]) :: blk bx1 (X.pcs p) 28 :: blk bz [.slice none 0 0, .slice none 0 0, .slice none 0 0, .slice none 0 0] 57 :: (rs ++ (.row sT.1 sT.2 p.names.length 9 1 (p.names.map str) :: .row sG.1 sG.2 p.globals.length 9 1 (p.globals.map str) :: .row sN.1.1 sN.1.2 p.consts.length 44 5 sN.2.1 :: (sN.2.2 ++ fr)))) w from hw.drop (.cons _ (.cons _ (.cons_cons _ (.cons_cons _ (.cons _ (List.Sublist.refl _))))))).perm (by (refine perm_cnt fun x => ?_; simp only [cnt_append, cnt_cons, cnt_nil]; omega))⟩)
    · try simp at hb1
      have hje : j = p.funcs.length := by omega
      subst hje
      rw [List.take_length] at hff
      refine CX.exit ?_
      refine PX.thenE ?_
      refine PX.thenE ?_
      refine PX.blockE ?_
      refine PX.thenN ?_
      refine CX.seq ?_
      refine CX.region ?_
      refine LX.pure (Y.ldAggB (vs := [rv gF p.funcs.length capF, rv sN.1.1 p.consts.length sN.1.2, rv sG.1 p.globals.length sG.2, rv sT.1 p.names.length sT.2]) 0 Fjf.ag57 rfl rfl rfl rfl) rfl rfl rfl ?_
      refine LX.storeA 3 Fjf.ag57 rfl rfl rfl rfl rfl rfl rfl rfl rfl ?_
      refine LX.sub (l' := [(2, _)]) ⟨rfl, trivial⟩ ?_
      refine LX.next ?_
      refine PX.thenN ?_
      refine CX.ret ?_
      refine PX.retA (i := 3) (by simp) Tryz.results20 Fjf.ag57 rfl rfl rfl ?_
      refine fun w hw0 => ?_
      have hw : WA w0 base (blk bp [rv gF p.funcs.length capF, rv sN.1.1 p.consts.length sN.1.2, rv sG.1 p.globals.length sG.2, rv sT.1 p.names.length sT.2] 57 :: .row gF capF p.funcs.length 124 6 cells :: blk bx1 (X.pcs p) 28 :: blk bz [rv gF p.funcs.length capF, rv sN.1.1 p.consts.length sN.1.2, rv sG.1 p.globals.length sG.2, rv sT.1 p.names.length sT.2] 57 :: (rs ++ (.row sT.1 sT.2 p.names.length 9 1 (p.names.map str) :: .row sG.1 sG.2 p.globals.length 9 1 (p.globals.map str) :: .row sN.1.1 sN.1.2 p.consts.length 44 5 sN.2.1 :: (sN.2.2 ++ fr)))) w := hw0
      exact ⟨⟨gF.map fun b => ⟨b, 0, none⟩, sN.1.1.map fun b => ⟨b, 0, none⟩, sG.1.map fun b => ⟨b, 0, none⟩, sT.1.map fun b => ⟨b, 0, none⟩, none, none, capF, sN.1.2, sG.2, sT.2, 0, 0⟩, rfl, ⟨hff.lies hw (fun it hit => by simp [hit]) (j := 1) rfl, hnf.liesM hw (fun it hit => by simp [hit]) (e := 44) (c := sN.1.2) (g := sN.1.1) (by simp), texts_M hw (e := 9) (c := sG.2) (g := sG.1) (by simp), texts_M hw (e := 9) (c := sT.2) (g := sT.1) (by simp), fun i x h => (by cases h), fun i x h => (by cases h), hX.small⟩, hw.drop (.cons _ (.cons _ (.cons _ (.cons _ ((List.Sublist.cons _ (.cons _ (.cons _ (List.sublist_append_right _ _)))).trans (List.sublist_append_right _ _))))))⟩
end Go.Proofs.YtgijpgkckiknjaaGreatDoor
