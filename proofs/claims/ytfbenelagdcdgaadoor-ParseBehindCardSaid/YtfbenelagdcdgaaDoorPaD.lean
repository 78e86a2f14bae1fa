/-
  Proved here: tokens are taken, nodes are put.
-/
import Derived.Test.YtfbenelagdcdgaaDoorPaC
set_option linter.unusedSimpArgs false
namespace Go.Proofs.YtfbenelagdcdgaaDoor
open Go.SX Go.RowKit Go.Tr Go.Lex
namespace Pd
theorem ag57 : AggT Tryd.prog 57 3 := AggT.of (by kernel_rfl) (by kernel_rfl)
theorem en20 : Enters Tryd.prog 20 := Enters.of Tryd.func20 (by kernel_rfl) (by kernel_rfl)
theorem en23 : Enters Tryd.prog 23 := Enters.of Tryd.func23 (by kernel_rfl) (by kernel_rfl)
theorem en40 : Enters Tryd.prog 40 := Enters.of Tryd.func40 (by kernel_rfl) (by kernel_rfl)
theorem fa41_2 : FieldOffA Tryd.prog 41 2 2 := fun a w => by kernel_rfl
theorem fa41_3 : FieldOffA Tryd.prog 41 3 3 := fun a w => by kernel_rfl
theorem fo41_2 : FieldOff Tryd.prog 41 2 2 := fun b o w => by kernel_rfl
theorem fo41_3 : FieldOff Tryd.prog 41 3 3 := fun b o w => by kernel_rfl
theorem one23 : One Tryd.prog 23 := fun w => by kernel_rfl
theorem sz23 : SizeIs Tryd.prog 23 1 := fun w => by kernel_rfl
theorem un23 : Tryd.prog.underlying 23 = some (.slice 31) := by kernel_rfl
theorem zv57 : ∀ w, (zeroValue 57).run Tryd.prog w = .ok (.agg #[.int .i64 0, .string ⟨#[]⟩, .int .i64 0]) w := fun w => by kernel_rfl
theorem el23 : Elem Tryd.prog 23 31 5 64 := Elem.of un23 (z := .agg #[.int .i64 0, .int .i64 0, .int .i64 0, .string ⟨#[]⟩, .slice none 0 0]) (by kernel_rfl) rfl
end Pd
open Go.Proofs.YtfbenelagdcdgaaDoor.Env (EnvS errV sentG)
open Go.Pa (Tk Rs bnd ret isB is_ adv bad take must kinds inn outn node nodeAt setPos)
/-- which error it is -/
@[reducible] def lk (lim : Bool) : Nat := if lim then 2 else 1
theorem take_c {w0 : World} {base : Nat} {fr : List It} {bp : Nat} {al : Option Addr} {cl : Nat} {L : List Tk} {s : Go.Pa.St} {m : Mm} (hL : SlAt 3 tokA (Lies w0 base) al L) (hln : L.length ≤ 1099511627776) {t : Tk} (ht : L[s.at_]? = some t) (x : List UInt8) : FnC Tryd.prog 40 #[.pointer (some ⟨bp, 0, none⟩), str x] (WA w0 base (PBl bp al L cl s m :: fr)) (fun _ : Unit => .bool (isB t [x])) (fun _ => WA w0 base (PBl bp al L cl (if isB t [x] then s.adv else s) m :: fr)) := by
  have hj : s.at_ < L.length := (List.getElem?_eq_some_iff.1 ht).1
  refine FnC.of_body (fn := Tryd.f40) [(0, _), (1, _)] Tryd.func40 rfl Tryd.ntmps40 rfl ⟨rfl, rfl, trivial⟩ ?_
  refine CX.seq <| CX.region <| LX.pure (Y.assign rfl) rfl rfl rfl <| LX.sub (l' := [(0, _), (1, _), (4, _)]) ⟨rfl, rfl, rfl, trivial⟩ <| LX.next <| PX.thenN <| CX.seq <| CX.seq <| CX.region <| LX.pure (Y.move rfl) rfl rfl rfl <| LX.pure (Y.move rfl) rfl rfl rfl <| LX.buildSlice (e := 9) (size := 1) rfl rfl (fun _ => by kernel_rfl) rfl (by decide) rfl rfl rfl ?_
  intro gt3
  refine LX.callQ (is_q ht 1 (ss := [x]) (by simp) (fun w hw => blkL hw (i := 1) rfl) (fun w hw => hL.push hw) (fun w hw => row_at hw (j := 0) rfl rfl (by decide) (fun i z h => map_A (f := str) (xs := [x]) h))) Pd.en20 rfl rfl rfl rfl rfl <| LX.pure (Y.not rfl) rfl rfl rfl <| LX.sub (l' := [(0, _), (4, _), (9, _)]) ⟨rfl, rfl, rfl, trivial⟩ <| LX.next <| PX.thenN ?_
  refine CX.cond rfl (fun hb1 => ?_) (fun hb1 => ?_)
  · try simp at hb1
    refine CX.seq <| CX.region <| LX.pure (Y.assign rfl) rfl rfl rfl <| LX.sub (l' := [(0, _), (4, _)]) ⟨rfl, rfl, trivial⟩ <| LX.next <| PX.thenN <| CX.ret <| PX.thenR <| PX.ret1 (by simp) Tryd.results40 rfl ?_
    exact fun w hw => ⟨(), by rw [hb1], by rw [hb1]; exact hw.drop (List.sublist_cons_self _ _)⟩
  try simp at hb1
  refine CX.skip <| PX.thenN <| CX.seq <| CX.region <| LX.pure (Y.move rfl) rfl rfl rfl <| LX.pure (Y.nilCheck rfl) rfl rfl rfl <| LX.pure (Y.fieldAddr0 Pa.fo41_1 rfl) rfl rfl rfl <| LX.pure (Y.ldB 1 Pa.one3 rfl rfl rfl) rfl rfl rfl <| LX.pure (Y.addN rfl rfl (by (simp only []; omega))) rfl rfl rfl <| LX.pure (Y.nilCheck rfl) rfl rfl rfl <| LX.pure (Y.fieldAddr0 Pa.fo41_1 rfl) rfl rfl rfl <| LX.storeB 1 Pb.sz3 rfl rfl rfl rfl rfl rfl rfl rfl <| LX.sub (l' := [(4, _)]) ⟨rfl, trivial⟩ <| LX.next <| PX.thenN <| CX.seq <| CX.region <| LX.pure (Y.assign rfl) rfl rfl rfl <| LX.sub (l' := [(4, _)]) ⟨rfl, trivial⟩ <| LX.next <| PX.thenN <| CX.ret <| PX.ret1 (by simp) Tryd.results40 rfl ?_
  exact fun w hw => ⟨(), by rw [hb1], by rw [hb1]; exact hw.drop (List.sublist_cons_self _ _)⟩
theorem must_p {w0 : World} {base : Nat} {fr : List It} {aE : Nat → Addr} (hS : EnvS w0 base aE) {bp : Nat} {al : Option Addr} {cl : Nat} {L : List Tk} {s : Go.Pa.St} {m : Mm} (hL : SlAt 3 tokA (Lies w0 base) al L) (hln : L.length ≤ 1099511627776) (x : List UInt8) {r : Rs Int} (hr : must L x s = some r) : FnP Tryd.prog 41 #[.pointer (some ⟨bp, 0, none⟩), str x] (WA w0 base (PBl bp al L cl s m :: fr)) (fun q : Int × Go.Pa.St => .int .i64 q.1) (fun q w => (r = .ok q.1 q.2 ∧ q.2.out = s.out ∧ inI q.1) ∧ WA w0 base (PBl bp al L cl q.2 m :: fr) w) (fun y : Int × Bool × Nat => .iface 44 (.agg #[.pointer (some ⟨y.2.2, 0, none⟩)])) (fun y w => r = .stop y.1 y.2.1 ∧ WA w0 base (blk y.2.2 [.int .i64 y.1, errV (aE (lk y.2.1))] 64 :: fr) w) := by
  obtain ⟨t, ht⟩ := must_tok hr
  obtain ⟨a0, cs, hav, hcl, hLt, rfl, hin1, hin2⟩ := hL _ _ ht
  have hj : s.at_ < L.length := (List.getElem?_eq_some_iff.1 ht).1
  rw [must_eq x ht] at hr
  refine FnP.of_body (fn := Tryd.f41) [(0, _), (1, _)] Tryd.func41 rfl Tryd.ntmps41 rfl ⟨rfl, rfl, trivial⟩ ?_
  refine CX.seq <| CX.region <| LX.pure (Y.assign rfl) rfl rfl rfl <| LX.sub (l' := [(0, _), (1, _), (4, _)]) ⟨rfl, rfl, rfl, trivial⟩ <| LX.next <| PX.thenN <| CX.seq <| CX.region <| LX.pure (Y.move rfl) rfl rfl rfl <| LX.callQ (pos_q ht (fun w hw => blkL hw (i := 0) rfl) (fun w hw => hL.push hw)) Pc.en36 rfl rfl rfl rfl rfl <| LX.pure (Y.assign rfl) rfl rfl rfl <| LX.sub (l' := [(0, _), (1, _), (4, _), (5, _)]) ⟨rfl, rfl, rfl, rfl, trivial⟩ <| LX.next <| PX.thenN <| CX.seq <| CX.seq <| CX.region <| LX.pure (Y.move rfl) rfl rfl rfl <| LX.pure (Y.move rfl) rfl rfl rfl <| LX.call (take_c hL hln ht x) Pd.en40 rfl rfl rfl rfl rfl ?_
  intro _
  refine LX.pure (Y.not rfl) rfl rfl rfl <| LX.sub (l' := [(0, _), (4, _), (5, _), (11, _)]) ⟨rfl, rfl, rfl, rfl, trivial⟩ <| LX.next <| PX.thenN ?_
  refine CX.cond rfl (fun hb1 => ?_) (fun hb1 => ?_)
  · try simp at hb1
    rw [hb1] at hr
    have hrs : r = .stop t.pos false := by injection hr with h; exact h.symm
    rw [hb1]
    refine CX.world (W' := WA w0 base (PBl bp al L cl s m :: fr)) (fun w hw => hw) <| CX.region <| LX.pure (Y.move rfl) rfl rfl rfl ?_
    refine LX.callP (bad_p hS hL hln ht) Pd.en23 rfl rfl rfl rfl rfl (fun ax => fun _ w ha hw => ⟨ha.defs, .inr ⟨(t.pos, false, ax), rfl, hrs, hw⟩⟩) (fun x => x.elim)
  try simp at hb1
  rw [hb1] at hr
  have hrs : r = .ok t.pos s.adv := by injection hr with h; exact h.symm
  refine CX.skip <| PX.thenN <| CX.seq <| CX.region <| LX.pure (Y.move rfl) rfl rfl rfl <| LX.pure (Y.assign rfl) rfl rfl rfl <| LX.sub (l' := [(4, _)]) ⟨rfl, trivial⟩ <| LX.next <| PX.thenN <| CX.ret <| PX.ret1 (by simp) Tryd.results41 rfl ?_
  exact fun w hw => .inl ⟨(t.pos, s.adv), rfl, ⟨hrs, rfl, hin2⟩, by rw [hb1] at hw; exact hw⟩
theorem kinds_p {w0 : World} {base : Nat} {fr : List It} {aE : Nat → Addr} (hS : EnvS w0 base aE) {bp : Nat} {al : Option Addr} {cl : Nat} {L : List Tk} {s : Go.Pa.St} {m : Mm} (hL : SlAt 3 tokA (Lies w0 base) al L) (hln : L.length ≤ 1099511627776) (k : Int) {r : Rs (List UInt8 × Int)} (hr : kinds L k s = some r) : FnP Tryd.prog 26 #[.pointer (some ⟨bp, 0, none⟩), .int .i64 k] (WA w0 base (PBl bp al L cl s m :: fr)) (fun q : (List UInt8 × Int) × Go.Pa.St => .tuple #[str q.1.1, .int .i64 q.1.2]) (fun q w => (r = .ok q.1 q.2 ∧ q.2.out = s.out ∧ inI q.1.2) ∧ WA w0 base (PBl bp al L cl q.2 m :: fr) w) (fun y : Int × Bool × Nat => .iface 44 (.agg #[.pointer (some ⟨y.2.2, 0, none⟩)])) (fun y w => r = .stop y.1 y.2.1 ∧ WA w0 base (blk y.2.2 [.int .i64 y.1, errV (aE (lk y.2.1))] 64 :: fr) w) := by
  obtain ⟨t, ht⟩ := kinds_tok hr
  obtain ⟨a0, cs, hav, hcl, hLt, rfl, hin1, hin2⟩ := hL _ _ ht
  have hj : s.at_ < L.length := (List.getElem?_eq_some_iff.1 ht).1
  rw [kinds_eq k ht] at hr
  refine FnP.of_body (fn := Tryd.f26) [(0, _), (1, _)] Tryd.func26 rfl Tryd.ntmps26 rfl ⟨rfl, rfl, trivial⟩ ?_
  refine CX.seq <| CX.region <| LX.pure (Y.assign rfl) rfl rfl rfl <| LX.pure (Y.assign rfl) rfl rfl rfl <| LX.sub (l' := [(0, _), (1, _), (4, _), (5, _)]) ⟨rfl, rfl, rfl, rfl, trivial⟩ <| LX.next <| PX.thenN <| CX.seq <| CX.seq <| CX.region <| LX.pure (Y.move rfl) rfl rfl rfl <| LX.callQ (kind_q ht (fun w hw => blkL hw (i := 0) rfl) (fun w hw => hL.push hw)) Pa.en13 rfl rfl rfl rfl rfl <| LX.pure (Y.move rfl) rfl rfl rfl <| LX.pure (Y.neI rfl rfl) rfl rfl rfl <| LX.sub (l' := [(0, _), (1, _), (4, _), (5, _), (10, _)]) ⟨rfl, rfl, rfl, rfl, rfl, trivial⟩ <| LX.next <| PX.thenN ?_
  refine CX.cond rfl (fun hb1 => ?_) (fun hb1 => ?_)
  · try simp at hb1
    rw [if_pos hb1] at hr
    have hrs : r = .stop t.pos false := by injection hr with h; exact h.symm
    refine CX.region <| LX.pure (Y.move rfl) rfl rfl rfl ?_
    refine LX.callP (bad_p hS hL hln ht) Pd.en23 rfl rfl rfl rfl rfl (fun ax => fun _ w ha hw => ⟨ha.defs, .inr ⟨(t.pos, false, ax), rfl, hrs, hw⟩⟩) (fun x => x.elim)
  try simp at hb1
  refine CX.skip <| PX.thenN <| CX.seq <| CX.regionM [(0, .anywhere), (1, .anywhere), (2, .anywhere), (3, .held), (4, .anywhere), (5, .anywhere), (6, .anywhere), (7, .held), (8, .held), (9, .held), (10, .alone), (11, .alone)] rfl (by kernel_rfl) <| MX.lift0 (i := 0) rfl (Y.move rfl) rfl rfl rfl <| MX.lift0 (i := 1) rfl (Y.nilCheck rfl) rfl rfl rfl <| MX.lift0 (i := 2) rfl (Y.fieldAddr0 Pa.fo41_0 rfl) rfl rfl rfl <| MX.lift1 (i := 3) (pend' := []) rfl (fun w hw => by exact hw) (Y.ldB 0 Pa.one37 rfl rfl rfl) rfl rfl rfl (by kernel_rfl) <| MX.lift0 (i := 4) rfl (Y.move rfl) rfl rfl rfl <| MX.lift0 (i := 5) rfl (Y.nilCheck rfl) rfl rfl rfl <| MX.lift0 (i := 6) rfl (Y.fieldAddr0 Pa.fo41_1 rfl) rfl rfl rfl <| MX.lift1 (i := 7) (pend' := [3]) rfl (fun w hw => by exact hw) (Y.ldB 0 Pa.one3 rfl rfl rfl) rfl rfl rfl (by kernel_rfl) <| MX.lift1 (i := 8) (pend' := []) rfl (fun w hw => by exact hw) (Y.idxZ Pa.un37 Pa.sz57 rfl rfl hav (j := s.at_) rfl hj) rfl rfl rfl (by kernel_rfl) <| MX.lift1 (i := 9) (pend' := []) rfl (fun w hw => by exact hw) (Y.ldAO (cs := [.int .i64 t.kind, str t.text, .int .i64 t.pos]) Pd.ag57 rfl hLt rfl) rfl rfl rfl (by kernel_rfl) <| MX.force (i := 10) rfl <| LX.alloc rfl Pd.zv57 rfl rfl rfl ?_
  intro b6
  refine LX.nextM [9] (by kernel_rfl) (fun _ => (fun w hw => by exact hw.drop (List.sublist_cons_self _ _))) <| MX.force (i := 11) rfl <| LX.storeA 0 Pd.ag57 rfl rfl rfl rfl rfl rfl rfl rfl rfl <| LX.nextM [] (by kernel_rfl) (fun h => absurd rfl h) <| MX.sub (l' := [(0, _), (1, _), (4, _), (5, _), (6, _)]) ⟨rfl, rfl, rfl, rfl, rfl, trivial⟩ <| MX.done <| PX.thenN <| CX.seq <| CX.seq <| CX.region <| LX.pure (Y.move rfl) rfl rfl rfl <| LX.pure (Y.neI rfl rfl) rfl rfl rfl <| LX.sub (l' := [(0, _), (4, _), (5, _), (6, _), (24, _)]) ⟨rfl, rfl, rfl, rfl, rfl, trivial⟩ <| LX.next <| PX.thenN ?_
  refine CX.cond rfl (fun hb2 => ?_) (fun hb2 => ?_)
  · try simp at hb2
    rw [if_neg (fun h => h hb1), if_pos hb2] at hr
    have hrs : r = .ok (t.text, t.pos) s.adv := by injection hr with h; exact h.symm
    refine CX.region <| LX.pure (Y.move rfl) rfl rfl rfl <| LX.pure (Y.nilCheck rfl) rfl rfl rfl <| LX.pure (Y.fieldAddr0 Pa.fo41_1 rfl) rfl rfl rfl <| LX.pure (Y.ldB 1 Pa.one3 rfl rfl rfl) rfl rfl rfl <| LX.pure (Y.addN rfl rfl (by (simp only []; omega))) rfl rfl rfl <| LX.pure (Y.nilCheck rfl) rfl rfl rfl <| LX.pure (Y.fieldAddr0 Pa.fo41_1 rfl) rfl rfl rfl <| LX.storeB 1 Pb.sz3 rfl rfl rfl rfl rfl rfl rfl rfl <| LX.sub (l' := [(4, _), (5, _), (6, _)]) ⟨rfl, rfl, rfl, trivial⟩ <| LX.next <| PX.thenN <| CX.seq <| CX.regionQ rfl (by kernel_rfl) <| LX.pure (Y.fieldAddr0 Pa.fo57_1 rfl) rfl rfl rfl <| LX.pure (Y.ldB 0 Fy.one9 rfl rfl rfl) rfl rfl rfl <| LX.pure (Y.fieldAddr0 Pa.fo57_2 rfl) rfl rfl rfl <| LX.pure (Y.ldB 0 Pa.one3 rfl rfl rfl) rfl rfl rfl <| LX.pure (Y.assign rfl) rfl rfl rfl <| LX.pure (Y.assign rfl) rfl rfl rfl <| LX.sub (l' := [(4, _), (5, _)]) ⟨rfl, rfl, trivial⟩ <| LX.nextQ <| PX.thenN <| CX.ret <| PX.ret2 (by simp) Tryd.results26 rfl rfl ?_
    exact fun w hw => .inl ⟨((t.text, t.pos), s.adv), rfl, ⟨hrs, rfl, hin2⟩, hw.drop (List.sublist_cons_self _ _)⟩
  try simp at hb2
  rw [if_neg (fun h => h hb1), if_neg (fun h => h hb2)] at hr
  have hrs : r = .ok (t.text, t.pos) s := by injection hr with h; exact h.symm
  refine CX.skip <| PX.thenN <| CX.seq <| CX.regionQ rfl (by kernel_rfl) <| LX.pure (Y.fieldAddr0 Pa.fo57_1 rfl) rfl rfl rfl <| LX.pure (Y.ldB 0 Fy.one9 rfl rfl rfl) rfl rfl rfl <| LX.pure (Y.fieldAddr0 Pa.fo57_2 rfl) rfl rfl rfl <| LX.pure (Y.ldB 0 Pa.one3 rfl rfl rfl) rfl rfl rfl <| LX.pure (Y.assign rfl) rfl rfl rfl <| LX.pure (Y.assign rfl) rfl rfl rfl <| LX.sub (l' := [(4, _), (5, _)]) ⟨rfl, rfl, trivial⟩ <| LX.nextQ <| PX.thenN <| CX.ret <| PX.ret2 (by simp) Tryd.results26 rfl rfl ?_
  exact fun w hw => .inl ⟨((t.text, t.pos), s), rfl, ⟨hrs, rfl, hin2⟩, hw.drop (List.sublist_cons_self _ _)⟩
theorem in_p {w0 : World} {base : Nat} {fr : List It} {aE : Nat → Addr} (hS : EnvS w0 base aE) {bp : Nat} {al : Option Addr} {cl : Nat} {L : List Tk} {s : Go.Pa.St} {m : Mm} (hL : SlAt 3 tokA (Lies w0 base) al L) (hln : L.length ≤ 1099511627776) (pos : Int) {r : Rs Unit} (hr : inn pos s = some r) : FnP Tryd.prog 39 #[.pointer (some ⟨bp, 0, none⟩), .int .i64 pos] (WA w0 base (PBl bp al L cl s m :: fr)) (fun q : Unit × Go.Pa.St => .tuple #[]) (fun q w => (r = .ok q.1 q.2 ∧ q.2.out = s.out ∧ True) ∧ WA w0 base (PBl bp al L cl q.2 m :: fr) w) (fun y : Int × Bool × Nat => .iface 44 (.agg #[.pointer (some ⟨y.2.2, 0, none⟩)])) (fun y w => r = .stop y.1 y.2.1 ∧ WA w0 base (blk y.2.2 [.int .i64 y.1, errV (aE (lk y.2.1))] 64 :: fr) w) := by
  refine FnP.of_body (fn := Tryd.f39) [(0, _), (1, _)] Tryd.func39 rfl Tryd.ntmps39 rfl ⟨rfl, rfl, trivial⟩ ?_
  refine CX.seq <| CX.seq <| CX.region <| LX.pure (Y.move rfl) rfl rfl rfl <| LX.pure (Y.nilCheck rfl) rfl rfl rfl <| LX.pure (Y.fieldAddr0 Pd.fo41_3 rfl) rfl rfl rfl <| LX.pure (Y.ldB 0 Pa.one3 rfl rfl rfl) rfl rfl rfl <| LX.pure (Y.geN rfl rfl) rfl rfl rfl <| LX.sub (l' := [(0, _), (1, _), (8, _)]) ⟨rfl, rfl, rfl, trivial⟩ <| LX.next <| PX.thenN ?_
  refine CX.cond rfl (fun hb1 => ?_) (fun hb1 => ?_)
  · try simp at hb1
    have hrs : r = .stop pos true := by unfold inn at hr; rw [if_pos (by omega)] at hr; injection hr with h; exact h.symm
    refine CX.region <| LX.pure (Y.move rfl) rfl rfl rfl <| LX.pure (Y.ldO Pc.one25 rfl (hS.at_ 2 0 rfl) (hS.lt 0 (by decide))) rfl rfl rfl ?_
    refine LX.callP (stop_p pos (aE 2)) Pc.en44 rfl rfl rfl rfl rfl (fun ax => fun _ w ha hw => ⟨ha.defs, .inr ⟨(pos, true, ax), rfl, hrs, hw.drop (.cons_cons _ (List.sublist_cons_self _ _))⟩⟩) (fun x => x.elim)
  try simp at hb1
  have hrs : r = .ok () (⟨s.at_, s.out, s.deep + 1, s.defs, s.fors⟩ : Go.Pa.St) := by unfold inn at hr; rw [if_neg (by omega)] at hr; injection hr with h; exact h.symm
  refine CX.skip <| PX.thenN <| CX.region <| LX.pure (Y.move rfl) rfl rfl rfl <| LX.pure (Y.nilCheck rfl) rfl rfl rfl <| LX.pure (Y.fieldAddr0 Pd.fo41_3 rfl) rfl rfl rfl <| LX.pure (Y.ldB 0 Pa.one3 rfl rfl rfl) rfl rfl rfl <| LX.pure (Y.addN rfl rfl (by (simp only []; omega))) rfl rfl rfl <| LX.pure (Y.nilCheck rfl) rfl rfl rfl <| LX.pure (Y.fieldAddr0 Pd.fo41_3 rfl) rfl rfl rfl <| LX.storeB 0 Pb.sz3 rfl rfl rfl rfl rfl rfl rfl rfl <| LX.sub (l' := []) trivial <| LX.next <| PX.ret0 (by simp) Tryd.results39 ?_
  exact fun w hw => .inl ⟨((), (⟨s.at_, s.out, s.deep + 1, s.defs, s.fors⟩ : Go.Pa.St)), rfl, ⟨hrs, rfl, trivial⟩, hw⟩
theorem node_c {w0 : World} {base : Nat} {fr : List It} {bp : Nat} {al : Option Addr} {cl : Nat} {L : List Tk} {s : Go.Pa.St} {m : Mm} (op pos : Int) (x : List UInt8) (ak : Option Addr) (kn ck : Nat) (ks : List Int) (hn : s.out.length < 1000000) : FnC Tryd.prog 15 #[.pointer (some ⟨bp, 0, none⟩), .int .i64 op, .int .i64 pos, str x, .slice ak kn ck] (WA w0 base (PBl bp al L cl s m :: ROl s m :: fr)) (fun _ : Option Nat × Nat => .int .i64 (s.out.length : Int)) (fun q => WA w0 base (PBl bp al L cl (s.nod op pos x ks) (m.put q op pos x (.slice ak kn ck) m.rs) :: ROl (s.nod op pos x ks) (m.put q op pos x (.slice ak kn ck) m.rs) :: fr)) := by
  refine FnC.of_body (fn := Tryd.f15) [(0, _), (1, _), (2, _), (3, _), (4, _)] Tryd.func15 rfl Tryd.ntmps15 rfl ⟨rfl, rfl, rfl, rfl, rfl, trivial⟩ ?_
  refine CX.seq <| CX.region <| LX.pure (Y.assign rfl) rfl rfl rfl <| LX.sub (l' := [(0, _), (1, _), (2, _), (3, _), (4, _), (10, _)]) ⟨rfl, rfl, rfl, rfl, rfl, rfl, trivial⟩ <| LX.next <| PX.thenN <| CX.seq <| CX.region <| LX.pure (Y.move rfl) rfl rfl rfl <| LX.pure (Y.move rfl) rfl rfl rfl <| LX.pure (Y.nilCheck rfl) rfl rfl rfl <| LX.pure (Y.fieldAddr0 Pd.fo41_2 rfl) rfl rfl rfl <| LX.pure (Y.ldB 0 Pd.one23 rfl rfl rfl) rfl rfl rfl <| LX.pure (Y.move rfl) rfl rfl rfl <| LX.pure (Y.move rfl) rfl rfl rfl <| LX.pure (Y.move rfl) rfl rfl rfl <| LX.pure (Y.move rfl) rfl rfl rfl <| LX.pure (Y.build (v := .agg #[.int .i64 op, .int .i64 0, .int .i64 pos, str x, .slice ak kn ck]) rfl (fun _ => by kernel_rfl)) rfl rfl rfl <| LX.buildSlice (e := 31) (size := 5) rfl rfl (fun _ => by kernel_rfl) rfl (by decide) rfl rfl rfl ?_
  intro gt11
  refine LX.appendT 1 Pd.el23 rfl rfl rfl rfl rfl rfl rfl (by omega) (by omega) rfl rfl rfl ?_
  intro g' cap'
  refine LX.pure (Y.nilCheck rfl) rfl rfl rfl <| LX.pure (Y.fieldAddr0 Pd.fo41_2 rfl) rfl rfl rfl <| LX.storeB 0 Pd.sz23 rfl rfl rfl rfl rfl rfl rfl rfl <| LX.sub (l' := [(0, _), (10, _)]) ⟨rfl, rfl, trivial⟩ <| LX.next <| PX.thenN <| CX.seq <| CX.region <| LX.pure (Y.move rfl) rfl rfl rfl <| LX.pure (Y.nilCheck rfl) rfl rfl rfl <| LX.pure (Y.fieldAddr0 Pd.fo41_2 rfl) rfl rfl rfl <| LX.pure (Y.ldB 0 Pd.one23 rfl rfl rfl) rfl rfl rfl <| LX.pure (Y.lenSl rfl Pd.un23 rfl) rfl rfl rfl <| LX.pure (Y.subN (b := 1) rfl rfl (by omega) (by omega)) rfl rfl rfl <| LX.pure (Y.assign rfl) rfl rfl rfl <| LX.sub (l' := [(10, _)]) ⟨rfl, trivial⟩ <| LX.next <| PX.thenN <| CX.ret <| PX.ret1 (by simp) Tryd.results15 rfl ?_
  exact fun w hw => ⟨(g', cap'), by rw [show s.out.length + 1 - 1 = s.out.length by omega], by show WA w0 base (blk bp [.slice al L.length cl, .int .i64 (s.at_ : Int), rv g' (s.out ++ [_]).length cap', .int .i64 (s.deep : Int), .bool s.defs, .int .i64 (s.fors : Int)] 41 :: .row g' cap' (s.out ++ [_]).length 31 5 (m.cells ++ _) :: fr) w; rw [List.length_append]; exact hw⟩
end Go.Proofs.YtfbenelagdcdgaaDoor
