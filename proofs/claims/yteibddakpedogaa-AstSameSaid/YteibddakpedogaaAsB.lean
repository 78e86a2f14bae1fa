/-
  Proved here: the document's parser: one token on.
-/
import Derived.Test.YteibddakpedogaaAsA
set_option linter.unusedSimpArgs false
namespace Go.Proofs.Yteibddakpedogaa
open Go.SX Go.RowKit Go.Tr Go.As Go.Ck
namespace Pb
theorem en12 : Enters Try.prog 12 := Enters.of Try.func12 (by kernel_rfl) (by kernel_rfl)
theorem en32 : Enters Try.prog 32 := Enters.of Try.func32 (by kernel_rfl) (by kernel_rfl)
theorem en37 : Enters Try.prog 37 := Enters.of Try.func37 (by kernel_rfl) (by kernel_rfl)
theorem en50 : Enters Try.prog 50 := Enters.of Try.func50 (by kernel_rfl) (by kernel_rfl)
theorem fo42_3 : FieldOff Try.prog 42 3 3 := fun b o w => by kernel_rfl
theorem fo42_8 : FieldOff Try.prog 42 8 8 := fun b o w => by kernel_rfl
theorem sz3 : SizeIs Try.prog 3 1 := fun w => by kernel_rfl
end Pb
open Go.Pa (Tk)
theorem fail_c {w0 : World} {base : Nat} {fr : List It} {bp : Nat} {al : Option Addr} {cl : Nat} {L : List Go.Pa.Tk} (s : RS) (m : Mm) (c pp : Int) : FnC Try.prog 50 #[.pointer (some ⟨bp, 0, none⟩), .int .i64 c, .int .i64 pp] (WA w0 base (PWl bp al L cl s m fr)) (fun _ : RS => .int .i64 (-1)) (fun q w => FailR s c pp q ∧ WA w0 base (PWl bp al L cl q m fr) w) := by
  refine FnC.of_body (fn := Try.f50) [(0, _), (1, _), (2, _)] Try.func50 rfl Try.ntmps50 rfl ⟨rfl, rfl, rfl, trivial⟩ ?_
  refine CX.sr <| LX.mv rfl <| LX.su [0, 1, 2, 6] rfl <| LX.nt <| CX.seq <| CX.sr <| LX.ms 2 rfl <| LX.p (Y.fieldAddr0 Pa.fo42_7 rfl) rfl <| LX.p (Y.ldB 0 Pa.one3 rfl rfl rfl) rfl <| LX.p (Y.eqI rfl rfl) rfl <| LX.su [0, 1, 2, 6, 11] rfl <| LX.nt ?_
  refine CX.cond rfl (fun hb1 => ?_) (fun hb1 => ?_)
  · try simp at hb1
    refine CX.sr <| LX.ms 3 rfl <| LX.p (Y.fieldAddr0 Pa.fo42_7 rfl) rfl <| LX.storeB 0 Pb.sz3 rfl rfl rfl rfl rfl rfl rfl rfl <| LX.su [0, 2, 6] rfl <| LX.nt <| CX.region <| LX.ms 3 rfl <| LX.p (Y.fieldAddr0 Pb.fo42_8 rfl) rfl <| LX.storeB 0 Pb.sz3 rfl rfl rfl rfl rfl rfl rfl rfl <| LX.su [6] rfl <| LX.nt <| CX.sr <| LX.mv rfl <| LX.su [6] rfl <| LX.nt <| CX.ret <| PX.ret1 (by simp) Try.results50 rfl ?_
    exact fun w hw => ⟨s.no c pp, rfl, ⟨fun h => absurd as_ h, fun _ => rfl⟩, hw⟩
  try simp at hb1
  refine CX.skip <| PX.thenN <| CX.sr <| LX.mv rfl <| LX.su [6] rfl <| LX.nt <| CX.ret <| PX.ret1 (by simp) Try.results50 rfl ?_
  exact fun w hw => ⟨s, rfl, ⟨fun _ => rfl, fun h => absurd h as_⟩, hw⟩
theorem wrong_c {w0 : World} {base : Nat} {fr : List It} {bp : Nat} {al : Option Addr} {cl : Nat} {L : List Go.Pa.Tk} (s : RS) (m : Mm) (hL : SlAt 3 tokA (Lies w0 base) al L) {t : Tk} (ht : L[s.at_]? = some t) : FnC Try.prog 37 #[.pointer (some ⟨bp, 0, none⟩)] (WA w0 base (PWl bp al L cl s m fr)) (fun _ : RS => .int .i64 (-1)) (fun q w => FailR s 102 t.pos q ∧ WA w0 base (PWl bp al L cl q m fr) w) := by
  refine FnC.of_body (fn := Try.f37) [(0, _)] Try.func37 rfl Try.ntmps37 rfl ⟨rfl, trivial⟩ ?_
  refine CX.sr <| LX.mv rfl <| LX.su [0, 2] rfl <| LX.nt <| CX.sr <| LX.ms 2 rfl <| LX.callQ (now_q ht (fun w hw => blkL hw (i := 0) rfl) (fun w hw => hL.push hw)) Pa.en13 rfl rfl rfl rfl rfl <| LX.p (Y.field (v := .int .i64 t.pos) rfl (fun _ => by kernel_rfl)) rfl <| LX.call (fail_c s m 102 t.pos) Pb.en50 rfl rfl rfl rfl rfl ?_
  intro q9
  refine LX.have fun hq9 => LX.mv rfl <| LX.su [2] rfl <| LX.nt <| CX.ret <| PX.ret1 (by simp) Try.results37 rfl ?_
  exact fun w hw => ⟨q9, rfl, hq9, hw⟩
theorem want_c {w0 : World} {base : Nat} {fr : List It} {bp : Nat} {al : Option Addr} {cl : Nat} {L : List Go.Pa.Tk} (s : RS) (m : Mm) (hL : SlAt 3 tokA (Lies w0 base) al L) (hK : Tok6 L) {t : Tk} (ht : L[s.at_]? = some t) (x : List UInt8) : FnC Try.prog 35 #[.pointer (some ⟨bp, 0, none⟩), str x] (WA w0 base (PWl bp al L cl s m fr)) (fun q : Bool × RS => .bool q.1) (fun q w => WantR L.length s q.1 q.2 ∧ WA w0 base (PWl bp al L cl q.2 m fr) w) := by
  refine FnC.of_body (fn := Try.f35) [(0, _), (1, _)] Try.func35 rfl Try.ntmps35 rfl ⟨rfl, rfl, trivial⟩ ?_
  refine CX.sr <| LX.mv rfl <| LX.su [0, 1, 4] rfl <| LX.nt <| CX.seq <| CX.sr <| LX.mv rfl <| LX.callQ (bad_q (fun w hw => blkL hw (i := 0) rfl)) Pb.en12 rfl rfl rfl rfl rfl <| LX.su [0, 1, 4, 6] rfl <| LX.nt ?_
  refine CX.cond rfl (fun hb1 => ?_) (fun hb1 => ?_)
  · try simp at hb1
    refine CX.sr <| LX.mv rfl <| LX.su [0, 1, 4] rfl <| LX.nt <| CX.ret <| PX.thenR <| PX.ret1 (by simp) Try.results35 rfl ?_
    exact fun w hw => ⟨(false, s), rfl, ⟨(fun h => by cases h), fun _ => Bad.self as_⟩, hw⟩
  try simp at hb1
  refine CX.skip <| PX.thenN <| CX.seq <| CX.sr <| LX.ms 2 rfl <| LX.callQ (is_q ht x (fun w hw => blkL hw (i := 0) rfl) (fun w hw => hL.push hw)) Pb.en32 rfl rfl rfl rfl rfl <| LX.p (Y.not rfl) rfl <| LX.su [0, 4, 10] rfl <| LX.nt ?_
  refine CX.cond rfl (fun hb2 => ?_) (fun hb2 => ?_)
  · try simp at hb2
    refine CX.sr <| LX.mv rfl <| LX.call (wrong_c s m hL ht) Pb.en37 rfl rfl rfl rfl rfl ?_
    intro q9
    refine LX.have fun hq9 => LX.su [0, 4] rfl <| LX.nt <| CX.sr <| LX.mv rfl <| LX.su [0, 4] rfl <| LX.nt <| CX.ret <| PX.thenR <| PX.ret1 (by simp) Try.results35 rfl ?_
    exact fun w hw => ⟨(false, q9), rfl, ⟨(fun h => by cases h), fun _ => hq9.bad dc⟩, hw⟩
  try simp at hb2
  have hgo : s.at_ + 1 < L.length := hK.fin _ t ht (isS_kind as_)
  have hln := hK.len
  refine CX.skip <| PX.thenN <| CX.sr <| LX.ms 3 rfl <| LX.p (Y.fieldAddr0 Pa.fo42_1 rfl) rfl <| LX.p (Y.ldB 0 Pa.one3 rfl rfl rfl) rfl <| LX.p (Y.addN rfl rfl (by (simp only []; omega))) rfl <| LX.mv rfl <| LX.p (Y.fieldAddr0 Pa.fo42_1 rfl) rfl <| LX.storeB 0 Pb.sz3 rfl rfl rfl rfl rfl rfl rfl rfl <| LX.su [4] rfl <| LX.nt <| CX.sr <| LX.mv rfl <| LX.su [4] rfl <| LX.nt <| CX.ret <| PX.ret1 (by simp) Try.results35 rfl ?_
  exact fun w hw => ⟨(true, s.go 1), rfl, ⟨fun _ => ⟨as_, hgo, rfl⟩, fun h => by cases h⟩, hw⟩
theorem perm2 (a b c d : It) (rs fr : List It) : (c :: d :: (rs ++ (a :: b :: fr))).Perm (a :: b :: c :: d :: (rs ++ fr)) := by
  refine perm_cnt fun x => ?_
  simp only [cnt_append, cnt_cons, cnt_nil]
  omega
theorem kind_c {w0 : World} {base : Nat} {fr : List It} {bp : Nat} {al : Option Addr} {cl : Nat} {L : List Go.Pa.Tk} (s : RS) (m : Mm) (hL : SlAt 3 tokA (Lies w0 base) al L) (hK : Tok6 L) {t : Tk} (ht : L[s.at_]? = some t) (k : Int) (hk : k ≠ 8) : FnC Try.prog 42 #[.pointer (some ⟨bp, 0, none⟩), .int .i64 k] (WA w0 base (PWl bp al L cl s m fr)) (fun q : Tk × Bool × RS => .tuple #[.agg #[.int .i64 q.1.kind, str q.1.text, .int .i64 q.1.pos], .bool q.2.1]) (fun q w => ((q.2.1 = true → q.1 = t ∧ t.kind = k) ∧ inI q.1.pos ∧ q.1.text.length < 1000000 ∧ WantR L.length s q.2.1 q.2.2) ∧ WA w0 base (PWl bp al L cl q.2.2 m fr) w) := by
  refine FnC.of_body (fn := Try.f42) [(0, _), (1, _)] Try.func42 rfl Try.ntmps42 rfl ⟨rfl, rfl, trivial⟩ ?_
  refine CX.sr <| LX.alloc rfl Pa.zv44 rfl rfl rfl ?_
  intro bt4
  refine LX.mv rfl <| LX.su [0, 1, 4, 5] rfl <| LX.nt <| CX.seq <| CX.sr <| LX.mv rfl <| LX.callQ (bad_q (fun w hw => blkL hw (i := 1) rfl)) Pb.en12 rfl rfl rfl rfl rfl <| LX.su [0, 1, 4, 5, 8] rfl <| LX.nt ?_
  refine CX.cond rfl (fun hb1 => ?_) (fun hb1 => ?_)
  · try simp at hb1
    refine CX.sr <| LX.p (Y.build (v := .agg #[.int .i64 0, str [], .int .i64 0]) rfl (fun _ => by kernel_rfl)) rfl <| LX.storeA 0 Pa.ag44 rfl rfl rfl rfl rfl rfl rfl rfl rfl <| LX.mv rfl <| LX.su [0, 1, 4, 5] rfl <| LX.nt <| CX.ret <| PX.thenR <| PX.retA2 (i := 0) (by simp) Try.results42 Pa.ag44 rfl rfl rfl rfl ?_
    exact fun w hw => ⟨(⟨0, [], 0⟩, false, s), rfl, ⟨(fun h => by cases h), (show inI 0 by unfold inI; omega), (show 0 < 1000000 by decide), (fun h => by cases h), fun _ => Bad.self as_⟩, hw.drop (List.sublist_cons_self _ _)⟩
  try simp at hb1
  refine CX.skip <| PX.thenN <| CX.sr <| LX.mv rfl <| LX.callQ (now_q ht (fun w hw => blkL hw (i := 1) rfl) (fun w hw => hL.push hw)) Pa.en13 rfl rfl rfl rfl rfl <| LX.alloc rfl Pa.zv44 rfl rfl rfl ?_
  intro bt6
  refine LX.storeA 0 Pa.ag44 rfl rfl rfl rfl rfl rfl rfl rfl rfl <| LX.su [0, 1, 4, 5, 6] rfl <| LX.nt <| CX.seq <| CX.sr <| LX.p (Y.fieldAddr0 Pa.fo44_0 rfl) rfl <| LX.p (Y.ldB 0 Pa.one3 rfl rfl rfl) rfl <| LX.mv rfl <| LX.p (Y.neI rfl rfl) rfl <| LX.su [0, 4, 5, 6, 15] rfl <| LX.nt ?_
  refine CX.cond rfl (fun hb2 => ?_) (fun hb2 => ?_)
  · try simp at hb2
    refine CX.sr <| LX.mv rfl <| LX.world (W' := WA w0 base (PWl bp al L cl s m (Tb bt6 t :: blk bt4 [.int .i64 0, str [], .int .i64 0] 44 :: fr))) (fun w hw => hw.perm (by simp only [PWl]; exact perm2 _ _ _ _ _ _)) <| LX.call (wrong_c s m hL ht) Pb.en37 rfl rfl rfl rfl rfl ?_
    intro q9
    refine LX.have fun hq9 => LX.world (W' := WA w0 base (Tb bt6 t :: blk bt4 [.int .i64 0, str [], .int .i64 0] 44 :: PWl bp al L cl q9 m fr)) (fun w hw => hw.perm (by simp only [PWl]; exact (perm2 _ _ _ _ _ _).symm)) <| LX.su [0, 4, 5, 6] rfl <| LX.nt <| CX.sr <| LX.p (Y.build (v := .agg #[.int .i64 0, str [], .int .i64 0]) rfl (fun _ => by kernel_rfl)) rfl <| LX.storeA 1 Pa.ag44 rfl rfl rfl rfl rfl rfl rfl rfl rfl <| LX.mv rfl <| LX.su [0, 4, 5, 6] rfl <| LX.nt <| CX.ret <| PX.thenR <| PX.retA2 (i := 1) (by simp) Try.results42 Pa.ag44 rfl rfl rfl rfl ?_
    exact fun w hw => ⟨(⟨0, [], 0⟩, false, q9), rfl, ⟨(fun h => by cases h), (show inI 0 by unfold inI; omega), (show 0 < 1000000 by decide), (fun h => by cases h), fun _ => hq9.bad dc⟩, hw.drop (.cons _ (List.sublist_cons_self _ _))⟩
  try simp at hb2
  have hgo : s.at_ + 1 < L.length := hK.fin _ t ht (by omega)
  have hln := hK.len
  refine CX.skip <| PX.thenN <| CX.sr <| LX.ms 3 rfl <| LX.p (Y.fieldAddr0 Pa.fo42_1 rfl) rfl <| LX.p (Y.ldB 2 Pa.one3 rfl rfl rfl) rfl <| LX.p (Y.addN rfl rfl (by (simp only []; omega))) rfl <| LX.mv rfl <| LX.p (Y.fieldAddr0 Pa.fo42_1 rfl) rfl <| LX.storeB 2 Pb.sz3 rfl rfl rfl rfl rfl rfl rfl rfl <| LX.su [4, 5, 6] rfl <| LX.nt <| CX.sr <| LX.p (Y.ldAggB 0 Pa.ag44 rfl rfl rfl rfl) rfl <| LX.storeA 1 Pa.ag44 rfl rfl rfl rfl rfl rfl rfl rfl rfl <| LX.mv rfl <| LX.su [4, 5] rfl <| LX.nt <| CX.ret <| PX.retA2 (i := 1) (by simp) Try.results42 Pa.ag44 rfl rfl rfl rfl ?_
  exact fun w hw => ⟨(t, true, s.go 1), rfl, ⟨fun _ => ⟨rfl, by omega⟩, (tok_in hL ht).2, tok_len hK ht, fun _ => ⟨as_, hgo, rfl⟩, fun h => by cases h⟩, hw.drop (.cons _ (List.sublist_cons_self _ _))⟩
theorem enter_c {w0 : World} {base : Nat} {fr : List It} {bp : Nat} {al : Option Addr} {cl : Nat} {L : List Go.Pa.Tk} (s : RS) (m : Mm) (hd : 0 ≤ s.deep) (pp : Int) : FnC Try.prog 48 #[.pointer (some ⟨bp, 0, none⟩), .int .i64 pp] (WA w0 base (PWl bp al L cl s m fr)) (fun q : Bool × RS => .bool q.1) (fun q w => EnterR s q.1 q.2 ∧ WA w0 base (PWl bp al L cl q.2 m fr) w) := by
  refine FnC.of_body (fn := Try.f48) [(0, _), (1, _)] Try.func48 rfl Try.ntmps48 rfl ⟨rfl, rfl, trivial⟩ ?_
  refine CX.sr <| LX.mv rfl <| LX.su [0, 1, 4] rfl <| LX.nt <| CX.seq <| CX.sr <| LX.mv rfl <| LX.callQ (bad_q (fun w hw => blkL hw (i := 0) rfl)) Pb.en12 rfl rfl rfl rfl rfl <| LX.su [0, 1, 4, 6] rfl <| LX.nt ?_
  refine CX.cond rfl (fun hb1 => ?_) (fun hb1 => ?_)
  · try simp at hb1
    refine CX.sr <| LX.mv rfl <| LX.su [0, 1, 4] rfl <| LX.nt <| CX.ret <| PX.thenR <| PX.ret1 (by simp) Try.results48 rfl ?_
    exact fun w hw => ⟨(false, s), rfl, ⟨(fun h => by cases h), fun _ => Bad.self as_⟩, hw⟩
  try simp at hb1
  refine CX.skip <| PX.thenN <| CX.seq <| CX.sr <| LX.ms 2 rfl <| LX.p (Y.fieldAddr0 Pb.fo42_3 rfl) rfl <| LX.p (Y.ldB 0 Pa.one3 rfl rfl rfl) rfl <| LX.p (Y.geI rfl rfl) rfl <| LX.su [0, 1, 4, 11] rfl <| LX.nt ?_
  refine CX.cond rfl (fun hb2 => ?_) (fun hb2 => ?_)
  · try simp at hb2
    refine CX.sr <| LX.ms 2 rfl <| LX.call (fail_c s m 108 pp) Pb.en50 rfl rfl rfl rfl rfl ?_
    intro q9
    refine LX.have fun hq9 => LX.su [0, 4] rfl <| LX.nt <| CX.sr <| LX.mv rfl <| LX.su [0, 4] rfl <| LX.nt <| CX.ret <| PX.thenR <| PX.ret1 (by simp) Try.results48 rfl ?_
    exact fun w hw => ⟨(false, q9), rfl, ⟨(fun h => by cases h), fun _ => hq9.bad dc⟩, hw⟩
  try simp at hb2
  refine CX.skip <| PX.thenN <| CX.sr <| LX.ms 3 rfl <| LX.p (Y.fieldAddr0 Pb.fo42_3 rfl) rfl <| LX.p (Y.ldB 0 Pa.one3 rfl rfl rfl) rfl <| LX.p (Y.add rfl rfl (by omega)) rfl <| LX.mv rfl <| LX.p (Y.fieldAddr0 Pb.fo42_3 rfl) rfl <| LX.storeB 0 Pb.sz3 rfl rfl rfl rfl rfl rfl rfl rfl <| LX.su [4] rfl <| LX.nt <| CX.sr <| LX.mv rfl <| LX.su [4] rfl <| LX.nt <| CX.ret <| PX.ret1 (by simp) Try.results48 rfl ?_
  exact fun w hw => ⟨(true, s.dp (s.deep + 1)), rfl, ⟨fun _ => ⟨as_, by omega, rfl⟩, fun h => by cases h⟩, hw⟩
end Go.Proofs.Yteibddakpedogaa
