/-
  Proved here: what is given back.
-/
import Derived.Test.YtfbenelagdcdgaaDoorPaN
set_option linter.unusedSimpArgs false
namespace Go.Proofs.YtfbenelagdcdgaaDoor
open Go.SX Go.RowKit Go.Tr Go.Lex
namespace Pw_
theorem en43 : Enters Tryd.prog 43 := Enters.of Tryd.func43 (by kernel_rfl) (by kernel_rfl)
theorem fa41_4 : FieldOffA Tryd.prog 41 4 4 := fun a w => by kernel_rfl
theorem fo41_4 : FieldOff Tryd.prog 41 4 4 := fun b o w => by kernel_rfl
theorem one4 : One Tryd.prog 4 := fun w => by kernel_rfl
end Pw_
open Go.Proofs.YtfbenelagdcdgaaDoor.Env (EnvS errV sentG)
open Go.Pa (Tk Rs bnd ret isB is_ adv bad take must kinds inn outn node nodeAt setPos)
open Go.Ck (NdsR)
theorem bad_some {α : Type} {L : List Tk} {s : Go.Pa.St} {r : Rs α} (h : (bad L : Go.Pa.M α) s = some r) : ∃ t, L[s.at_]? = some t ∧ r = .stop t.pos false := by
  cases ht : L[s.at_]? with
  | some t => exact ⟨t, rfl, Go.Pa.bad_eq ht h⟩
  | none => unfold bad bnd Go.Pa.tok at h; simp only [ht] at h; cases h
theorem answer_p {w0 : World} {base : Nat} {aE : Nat → Addr} (hS : EnvS w0 base aE) {bp : Nat} {al : Option Addr} {cl : Nat} {L : List Tk} (hL : SlAt 3 tokA (Lies w0 base) al L) (hln : L.length ≤ 1099511627776) (n : Nat) (hTup : ∀ j, j ≤ n → FS w0 base aE al cl L bp 43 #[.pointer (some ⟨bp, 0, none⟩)] (fun z : Int × Bool => .int .i64 z.1) (fun z => gI z.1) (.many) j) : FI w0 base aE al cl L bp 46 (.answer) (n + 1) := by
  intro s m fr r hr hnd
  change (bnd Go.Pa.getDefs fun d => if d then bnd (must L [114, 101, 116, 117, 114, 110]) fun pos => bnd (Go.Pa.tok L) fun t => if t.kind = 5 then node 41 pos [] [] else bnd (Go.Pa.run L nameB n .many) fun k => node 41 pos [] [k.1] else bad L) s = some r at hr
  replace hr := Go.Pa.getDefs_bnd hr
  refine FnP.of_body (fn := Tryd.f46) [(0, _)] Tryd.func46 rfl Tryd.ntmps46 rfl ⟨rfl, trivial⟩ ?_
  refine CX.seq <| CX.region <| LX.pure (Y.assign rfl) rfl rfl rfl <| LX.sub (l' := [(0, _), (2, _)]) ⟨rfl, rfl, trivial⟩ <| LX.next <| PX.thenN <| CX.seq <| CX.seq <| CX.region <| LX.pure (Y.move rfl) rfl rfl rfl <| LX.pure (Y.nilCheck rfl) rfl rfl rfl <| LX.pure (Y.fieldAddr0 Pw_.fo41_4 rfl) rfl rfl rfl <| LX.pure (Y.ldB 0 Pw_.one4 rfl rfl rfl) rfl rfl rfl <| LX.pure (Y.not rfl) rfl rfl rfl <| LX.sub (l' := [(0, _), (2, _), (8, _)]) ⟨rfl, rfl, rfl, trivial⟩ <| LX.next <| PX.thenN ?_
  refine CX.cond rfl (fun hb1 => ?_) (fun hb1 => ?_)
  · try simp at hb1
    rw [hb1, if_neg Bool.false_ne_true] at hr
    obtain ⟨t, ht, hrs⟩ := bad_some hr
    
    refine CX.region <| LX.pure (Y.move rfl) rfl rfl rfl ?_
    refine LX.callP (bad_p hS hL hln ht) Pd.en23 rfl rfl rfl rfl rfl (fun ax => fun _ w ha hw => ⟨ha.defs, .inr ⟨(t.pos, false, ax), rfl, hrs, hw.drop (.cons_cons _ (.cons _ (List.sublist_append_right _ _)))⟩⟩) (fun x => x.elim)
  try simp at hb1
  rw [hb1, if_pos rfl] at hr
  refine CX.skip <| PX.thenN <| CX.seq <| CX.region <| LX.pure (Y.move rfl) rfl rfl rfl ?_
  obtain ⟨r0, e0, hok0, hst0⟩ := Go.Pa.bnd_some hr
  refine LX.callP (must_p hS hL hln [114, 101, 116, 117, 114, 110] e0) Pf.en41 rfl rfl rfl rfl rfl (fun y => fun _ w ha hw => ⟨ha.defs, .inr ⟨y, rfl, hst0 _ _ hw.1, hw.2.drop (.cons_cons _ (.cons _ (List.sublist_append_right _ _)))⟩⟩) ?_
  rintro ⟨pos, s0⟩
  refine LX.have fun ⟨hr0, hou0, hp0⟩ => ?_
  replace hou0 : s0.out = s.out := hou0
  have hnd0 : NdsR 3 m.rs m.cells s0.out := by rw [hou0]; exact hnd
  replace hr := hok0 _ _ hr0
  refine LX.world (W' := WA w0 base (PWl bp al L cl s0 m fr)) (fun w hw => by show WA w0 base (PBl bp al L cl s0 m :: .row m.g m.c s0.out.length 31 5 m.cells :: (m.rs ++ fr)) w; rw [hou0]; exact hw) ?_
  try dsimp only
  refine LX.pure (Y.assign rfl) rfl rfl rfl <| LX.sub (l' := [(0, _), (2, _), (3, _)]) ⟨rfl, rfl, rfl, trivial⟩ <| LX.next <| PX.thenN <| CX.seq <| CX.seq <| CX.region <| LX.pure (Y.move rfl) rfl rfl rfl ?_
  obtain ⟨t, ht, hr⟩ := Go.Pa.tok_bnd hr
  refine LX.callQ (kind_q ht (fun w hw => blkL hw (i := 0) rfl) (fun w hw => hL.push hw)) Pa.en13 rfl rfl rfl rfl rfl <| LX.pure (Y.eqI rfl rfl) rfl rfl rfl <| LX.sub (l' := [(0, _), (2, _), (3, _), (15, _)]) ⟨rfl, rfl, rfl, rfl, trivial⟩ <| LX.next <| PX.thenN ?_
  refine CX.cond rfl (fun hb2 => ?_) (fun hb2 => ?_)
  · try simp at hb2
    rw [if_pos hb2] at hr
    refine CX.seq <| CX.region <| LX.pure (Y.move rfl) rfl rfl rfl <| LX.pure (Y.move rfl) rfl rfl rfl ?_
    obtain ⟨hlen, hre⟩ := Go.Pa.node_end hr
    refine LX.call (node_c (s := s0) (m := m) (41) pos [] none 0 0 [] hlen) Pe.en15 rfl rfl rfl rfl rfl ?_
    intro q
    refine LX.pure (Y.assign rfl) rfl rfl rfl <| LX.sub (l' := [(0, _), (2, _), (3, _)]) ⟨rfl, rfl, rfl, trivial⟩ <| LX.next <| PX.thenN <| CX.ret <| PX.thenR <| PX.ret1 (by simp) Tryd.results46 rfl ?_
    exact fun w hw => .inl ⟨((s0.out.length : Int), (s0.nod 41 pos [] []), (m.put q 41 pos [] (.slice none 0 0) (m.rs))), rfl, ⟨hre, put_nil (op := 41) (pos := pos) (x := []) hnd0 (by unfold Go.SX.inI; omega) hp0, gI.len hlen⟩, hw⟩
  try simp at hb2
  rw [if_neg hb2] at hr
  refine CX.skip <| PX.thenN <| CX.seq <| CX.region <| LX.pure (Y.move rfl) rfl rfl rfl <| LX.pure (Y.move rfl) rfl rfl rfl <| LX.pure (Y.move rfl) rfl rfl rfl ?_
  obtain ⟨r4, e4, hok4, hst4⟩ := Go.Pa.bnd_some hr
  refine LX.callP (hTup n (Nat.le_refl _) s0 m (fr) r4 e4 hnd0) Pw_.en43 rfl rfl rfl rfl rfl (fun y => fun _ w ha hw => ⟨ha.defs, .inr ⟨y, rfl, hst4 _ _ hw.1, hw.2⟩⟩) ?_
  rintro ⟨⟨k4, c4⟩, s4, m4⟩
  refine LX.have fun ⟨hr4, hnd4, hk4⟩ => ?_
  replace hr := hok4 _ _ hr4
  try dsimp only
  refine LX.buildSlice (e := 3) (size := 1) rfl rfl (fun _ => by kernel_rfl) rfl (by decide) rfl rfl rfl ?_
  intro gK
  obtain ⟨hlen, hre⟩ := Go.Pa.node_end hr
  refine LX.world (W' := WA w0 base (PBl bp al L cl s4 m4 :: ROl s4 m4 :: .row (some gK) 1 1 3 1 ([k4].map iv) :: (m4.rs ++ fr))) (fun w hw => (show WA w0 base (.row (some gK) 1 1 3 1 ([k4].map iv) :: PWl bp al L cl s4 m4 fr) w from hw).perm (by (refine perm_cnt fun x => ?_; simp only [PWl, PBl, ROl, z1, z2, z3, z4, z5, z6]; omega))) ?_
  refine LX.call (node_c (s := s4) (m := m4) (41) pos [] (some ⟨gK, 0, none⟩) 1 1 [k4] hlen) Pe.en15 rfl rfl rfl rfl rfl ?_
  intro q
  refine LX.pure (Y.assign rfl) rfl rfl rfl <| LX.sub (l' := [(2, _)]) ⟨rfl, trivial⟩ <| LX.next <| PX.thenN <| CX.ret <| PX.ret1 (by simp) Tryd.results46 rfl ?_
  exact fun w hw => .inl ⟨((s4.out.length : Int), (s4.nod 41 pos [] [k4]), (m4.put q 41 pos [] (rv (some gK) 1 1) (.row (some gK) 1 1 3 1 ([k4].map iv) :: m4.rs))), rfl, ⟨hre, put_nds (op := 41) (pos := pos) (x := []) hnd4 hw (i := 2) (ks := [k4]) rfl (fun z hz => by cases List.mem_singleton.1 hz; exact hk4.inI) (by simp) (by unfold Go.SX.inI; omega) hp0, gI.len hlen⟩, hw⟩
end Go.Proofs.YtfbenelagdcdgaaDoor

namespace Go.Proofs.YtfbenelagdcdgaaDoor
open Go.SX Go.RowKit Go.Tr Go.Lex
namespace Px_
theorem en46 : Enters Tryd.prog 46 := Enters.of Tryd.func46 (by kernel_rfl) (by kernel_rfl)
theorem en47 : Enters Tryd.prog 47 := Enters.of Tryd.func47 (by kernel_rfl) (by kernel_rfl)
theorem fa41_5 : FieldOffA Tryd.prog 41 5 5 := fun a w => by kernel_rfl
theorem fo41_5 : FieldOff Tryd.prog 41 5 5 := fun b o w => by kernel_rfl
end Px_
open Go.Proofs.YtfbenelagdcdgaaDoor.Env (EnvS errV sentG)
open Go.Pa (Tk Rs bnd ret isB is_ adv bad take must kinds inn outn node nodeAt setPos)
open Go.Ck (NdsR)
theorem simple_p {w0 : World} {base : Nat} {aE : Nat → Addr} (hS : EnvS w0 base aE) {bp : Nat} {al : Option Addr} {cl : Nat} {L : List Tk} (hL : SlAt 3 tokA (Lies w0 base) al L) (hln : L.length ≤ 1099511627776) (n : Nat) (hAns : ∀ j, j ≤ n → FI w0 base aE al cl L bp 46 (.answer) j) (hLoad : ∀ j, j ≤ n → FI w0 base aE al cl L bp 47 (.load) j) (hTup : ∀ j, j ≤ n → FS w0 base aE al cl L bp 43 #[.pointer (some ⟨bp, 0, none⟩)] (fun z : Int × Bool => .int .i64 z.1) (fun z => gI z.1) (.many) j) (hTgt : ∀ j, j ≤ n → TS w0 base al cl L bp j) (whole : Bool) : FS w0 base aE al cl L bp 25 #[.pointer (some ⟨bp, 0, none⟩), .bool whole] (fun z : Int => .int .i64 z) gI (.simple whole) (n + 1) := by
  intro s m fr r hr hnd
  change (bnd (Go.Pa.tok L) fun t => bnd (take L [112, 97, 115, 115]) fun b => if b then node 38 t.pos [] [] else if isB t [[98, 114, 101, 97, 107], [99, 111, 110, 116, 105, 110, 117, 101]] then bnd Go.Pa.getFors fun n => if n = 0 then bad L else bnd (take L [98, 114, 101, 97, 107]) fun b => if b then node 39 t.pos [] [] else bnd adv fun _ => node 40 t.pos [] [] else if isB t [[114, 101, 116, 117, 114, 110]] then Go.Pa.run L nameB n .answer else if isB t [[108, 111, 97, 100]] then (if whole then Go.Pa.run L nameB n .load else bad L) else bnd (Go.Pa.run L nameB n .many) fun a => bnd (Go.Pa.tok L) fun t2 => if isB t2 [[61]] then bnd (Go.Pa.run L nameB n (.target a.1)) fun ok => if ok then bnd adv fun _ => bnd (Go.Pa.run L nameB n .many) fun b => node 36 t2.pos [] [a.1, b.1] else bad L else if isB t2 [[43, 61]] then bnd (nodeAt a.1) fun x => if x.op ≠ 6 ∧ x.op ≠ 13 then bad L else bnd adv fun _ => bnd (Go.Pa.run L nameB n .many) fun b => node 37 t2.pos [] [a.1, b.1] else bnd (nodeAt a.1) fun x => node 35 x.pos [] [a.1]) s = some r at hr
  obtain ⟨t, ht, hr⟩ := Go.Pa.tok_bnd hr
  obtain ⟨a0, cs, hav, hcl, hLt, rfl, hin1, hin2⟩ := hL _ _ ht
  have hj : s.at_ < L.length := (List.getElem?_eq_some_iff.1 ht).1
  refine FnP.of_body (fn := Tryd.f25) [(0, _), (1, _)] Tryd.func25 rfl Tryd.ntmps25 rfl ⟨rfl, rfl, trivial⟩ ?_
  refine CX.seq <| CX.region <| LX.pure (Y.assign rfl) rfl rfl rfl <| LX.sub (l' := [(0, _), (1, _), (4, _)]) ⟨rfl, rfl, rfl, trivial⟩ <| LX.next <| PX.thenN <| CX.seq <| CX.region <| LX.pure (Y.move rfl) rfl rfl rfl <| LX.callQ (pos_q ht (fun w hw => blkL hw (i := 0) rfl) (fun w hw => hL.push hw)) Pc.en36 rfl rfl rfl rfl rfl <| LX.pure (Y.assign rfl) rfl rfl rfl <| LX.sub (l' := [(0, _), (1, _), (4, _), (5, _)]) ⟨rfl, rfl, rfl, rfl, trivial⟩ <| LX.next <| PX.thenN <| CX.seq <| CX.block <| CX.seq <| CX.region <| LX.pure (Y.move rfl) rfl rfl rfl ?_
  obtain ⟨t2, ht2, hT, hF⟩ := Go.Pa.take_bnd hr
  obtain rfl : t = t2 := by rw [ht] at ht2; exact Option.some.inj ht2
  refine LX.call (take_c hL hln ht [112, 97, 115, 115]) Pd.en40 rfl rfl rfl rfl rfl ?_
  intro _
  refine LX.pure (Y.assign rfl) rfl rfl rfl <| LX.sub (l' := [(0, _), (1, _), (4, _), (5, _), (11, _)]) ⟨rfl, rfl, rfl, rfl, rfl, trivial⟩ <| LX.next <| PX.thenN ?_
  refine CX.cond rfl (fun hb1 => ?_) (fun hb1 => ?_)
  · try simp at hb1
    rw [show isB t [[112, 97, 115, 115]] = true from hb1]
    replace hr := hT hb1
    refine CX.world (W' := WA w0 base (PWl bp al L cl s.adv m fr)) (fun w hw => hw) ?_
    rw [if_pos rfl] at hr
    refine CX.seq <| CX.region <| LX.pure (Y.move rfl) rfl rfl rfl <| LX.pure (Y.move rfl) rfl rfl rfl ?_
    obtain ⟨hlen, hre⟩ := Go.Pa.node_end hr
    refine LX.call (node_c (s := s.adv) (m := m) (38) t.pos [] none 0 0 [] hlen) Pe.en15 rfl rfl rfl rfl rfl ?_
    intro q
    refine LX.pure (Y.assign rfl) rfl rfl rfl <| LX.sub (l' := [(0, _), (4, _)]) ⟨rfl, rfl, trivial⟩ <| LX.next <| PX.thenN <| CX.ret <| PX.blockR <| PX.thenR <| PX.ret1 (by simp) Tryd.results25 rfl ?_
    exact fun w hw => .inl ⟨((s.adv.out.length : Int), (s.adv.nod 38 t.pos [] []), (m.put q 38 t.pos [] (.slice none 0 0) (m.rs))), rfl, ⟨hre, put_nil (op := 38) (pos := t.pos) (x := []) hnd (by unfold Go.SX.inI; omega) hin2, gI.len hlen⟩, hw⟩
  try simp at hb1
  rw [show isB t [[112, 97, 115, 115]] = false from hb1]
  replace hr := hF hb1
  refine CX.world (W' := WA w0 base (PWl bp al L cl s m fr)) (fun w hw => hw) ?_
  rw [if_neg Bool.false_ne_true] at hr
  refine CX.seq <| CX.region <| LX.pure (Y.move rfl) rfl rfl rfl <| LX.buildSlice (e := 9) (size := 1) rfl rfl (fun _ => by kernel_rfl) rfl (by decide) rfl rfl rfl ?_
  intro gS
  refine LX.callQ (is_q ht _ (ss := [[98, 114, 101, 97, 107], [99, 111, 110, 116, 105, 110, 117, 101]]) (by decide) (fun w hw => blkL hw (i := 1) rfl) (fun w hw => hL.push hw) (fun w hw => row_at hw (j := 0) rfl rfl (by decide) (fun i z h => map_A (f := str) (xs := [[98, 114, 101, 97, 107], [99, 111, 110, 116, 105, 110, 117, 101]]) h))) Pd.en20 rfl rfl rfl rfl rfl <| LX.world (W' := WA w0 base (PWl bp al L cl s m fr)) (fun w hw => hw.drop (List.sublist_cons_self _ _)) <| LX.pure (Y.assign rfl) rfl rfl rfl <| LX.sub (l' := [(0, _), (1, _), (4, _), (5, _), (17, _)]) ⟨rfl, rfl, rfl, rfl, rfl, trivial⟩ <| LX.next <| PX.thenN ?_
  refine CX.cond rfl (fun hb2 => ?_) (fun hb2 => ?_)
  · try simp at hb2
    rw [show isB t [[98, 114, 101, 97, 107], [99, 111, 110, 116, 105, 110, 117, 101]] = true from hb2, if_pos rfl] at hr
    replace hr := Go.Pa.getFors_bnd hr
    refine CX.seq <| CX.seq <| CX.region <| LX.pure (Y.move rfl) rfl rfl rfl <| LX.pure (Y.nilCheck rfl) rfl rfl rfl <| LX.pure (Y.fieldAddr0 Px_.fo41_5 rfl) rfl rfl rfl <| LX.pure (Y.ldB 0 Pa.one3 rfl rfl rfl) rfl rfl rfl <| LX.pure (Y.eqN rfl rfl) rfl rfl rfl <| LX.sub (l' := [(0, _), (4, _), (5, _), (25, _)]) ⟨rfl, rfl, rfl, rfl, trivial⟩ <| LX.next <| PX.thenN ?_
    refine CX.cond rfl (fun hb3 => ?_) (fun hb3 => ?_)
    · try simp at hb3
      rw [if_pos hb3] at hr
      refine CX.region <| LX.pure (Y.move rfl) rfl rfl rfl ?_
      refine LX.callP (bad_p hS hL hln ht) Pd.en23 rfl rfl rfl rfl rfl (fun ax => fun _ w ha hw => ⟨ha.defs, .inr ⟨(t.pos, false, ax), rfl, Go.Pa.bad_eq ht hr, hw.drop (.cons_cons _ (.cons _ (List.sublist_append_right _ _)))⟩⟩) (fun x => x.elim)
    try simp at hb3
    rw [if_neg hb3] at hr
    refine CX.skip <| PX.thenN <| CX.seq <| CX.seq <| CX.region <| LX.pure (Y.move rfl) rfl rfl rfl ?_
    obtain ⟨t2, ht2, hT, hF⟩ := Go.Pa.take_bnd hr
    obtain rfl : t = t2 := by rw [ht] at ht2; exact Option.some.inj ht2
    refine LX.call (take_c hL hln ht [98, 114, 101, 97, 107]) Pd.en40 rfl rfl rfl rfl rfl ?_
    intro _
    refine LX.sub (l' := [(0, _), (4, _), (5, _), (29, _)]) ⟨rfl, rfl, rfl, rfl, trivial⟩ <| LX.next <| PX.thenN ?_
    refine CX.cond rfl (fun hb4 => ?_) (fun hb4 => ?_)
    · try simp at hb4
      rw [show isB t [[98, 114, 101, 97, 107]] = true from hb4]
      replace hr := hT hb4
      refine CX.world (W' := WA w0 base (PWl bp al L cl s.adv m fr)) (fun w hw => hw) ?_
      rw [if_pos rfl] at hr
      refine CX.seq <| CX.region <| LX.pure (Y.move rfl) rfl rfl rfl <| LX.pure (Y.move rfl) rfl rfl rfl ?_
      obtain ⟨hlen, hre⟩ := Go.Pa.node_end hr
      refine LX.call (node_c (s := s.adv) (m := m) (39) t.pos [] none 0 0 [] hlen) Pe.en15 rfl rfl rfl rfl rfl ?_
      intro q
      refine LX.pure (Y.assign rfl) rfl rfl rfl <| LX.sub (l' := [(0, _), (4, _), (5, _)]) ⟨rfl, rfl, rfl, trivial⟩ <| LX.next <| PX.thenN <| CX.ret <| PX.thenR <| PX.blockR <| PX.thenR <| PX.ret1 (by simp) Tryd.results25 rfl ?_
      exact fun w hw => .inl ⟨((s.adv.out.length : Int), (s.adv.nod 39 t.pos [] []), (m.put q 39 t.pos [] (.slice none 0 0) (m.rs))), rfl, ⟨hre, put_nil (op := 39) (pos := t.pos) (x := []) hnd (by unfold Go.SX.inI; omega) hin2, gI.len hlen⟩, hw⟩
    try simp at hb4
    rw [show isB t [[98, 114, 101, 97, 107]] = false from hb4]
    replace hr := hF hb4
    refine CX.world (W' := WA w0 base (PWl bp al L cl s m fr)) (fun w hw => hw) ?_
    rw [if_neg Bool.false_ne_true] at hr
    replace hr := Go.Pa.adv_bnd hr
    refine CX.skip <| PX.thenN <| CX.seq <| CX.region <| LX.pure (Y.move rfl) rfl rfl rfl <| LX.pure (Y.nilCheck rfl) rfl rfl rfl <| LX.pure (Y.fieldAddr0 Pa.fo41_1 rfl) rfl rfl rfl <| LX.pure (Y.ldB 0 Pa.one3 rfl rfl rfl) rfl rfl rfl <| LX.pure (Y.addN rfl rfl (by (simp only []; omega))) rfl rfl rfl <| LX.pure (Y.nilCheck rfl) rfl rfl rfl <| LX.pure (Y.fieldAddr0 Pa.fo41_1 rfl) rfl rfl rfl <| LX.storeB 0 Pb.sz3 rfl rfl rfl rfl rfl rfl rfl rfl <| LX.sub (l' := [(0, _), (4, _), (5, _)]) ⟨rfl, rfl, rfl, trivial⟩ <| LX.next <| PX.thenN <| CX.seq <| CX.region <| LX.pure (Y.move rfl) rfl rfl rfl <| LX.pure (Y.move rfl) rfl rfl rfl ?_
    obtain ⟨hlen, hre⟩ := Go.Pa.node_end hr
    refine LX.call (node_c (s := s.adv) (m := m) (40) t.pos [] none 0 0 [] hlen) Pe.en15 rfl rfl rfl rfl rfl ?_
    intro q
    refine LX.pure (Y.assign rfl) rfl rfl rfl <| LX.sub (l' := [(0, _), (4, _)]) ⟨rfl, rfl, trivial⟩ <| LX.next <| PX.thenN <| CX.ret <| PX.blockR <| PX.thenR <| PX.ret1 (by simp) Tryd.results25 rfl ?_
    exact fun w hw => .inl ⟨((s.adv.out.length : Int), (s.adv.nod 40 t.pos [] []), (m.put q 40 t.pos [] (.slice none 0 0) (m.rs))), rfl, ⟨hre, put_nil (op := 40) (pos := t.pos) (x := []) hnd (by unfold Go.SX.inI; omega) hin2, gI.len hlen⟩, hw⟩
  try simp at hb2
  rw [show isB t [[98, 114, 101, 97, 107], [99, 111, 110, 116, 105, 110, 117, 101]] = false from hb2, if_neg Bool.false_ne_true] at hr
  refine CX.seq <| CX.region <| LX.pure (Y.move rfl) rfl rfl rfl <| LX.buildSlice (e := 9) (size := 1) rfl rfl (fun _ => by kernel_rfl) rfl (by decide) rfl rfl rfl ?_
  intro gS
  refine LX.callQ (is_q ht _ (ss := [[114, 101, 116, 117, 114, 110]]) (by decide) (fun w hw => blkL hw (i := 1) rfl) (fun w hw => hL.push hw) (fun w hw => row_at hw (j := 0) rfl rfl (by decide) (fun i z h => map_A (f := str) (xs := [[114, 101, 116, 117, 114, 110]]) h))) Pd.en20 rfl rfl rfl rfl rfl <| LX.world (W' := WA w0 base (PWl bp al L cl s m fr)) (fun w hw => hw.drop (List.sublist_cons_self _ _)) <| LX.pure (Y.assign rfl) rfl rfl rfl <| LX.sub (l' := [(0, _), (1, _), (4, _), (43, _)]) ⟨rfl, rfl, rfl, rfl, trivial⟩ <| LX.next <| PX.thenN ?_
  refine CX.cond rfl (fun hb5 => ?_) (fun hb5 => ?_)
  · try simp at hb5
    rw [show isB t [[114, 101, 116, 117, 114, 110]] = true from hb5, if_pos rfl] at hr
    refine CX.seq <| CX.region <| LX.pure (Y.move rfl) rfl rfl rfl <| LX.callP (hAns n (Nat.le_refl _) s m (fr) r hr hnd) Px_.en46 rfl rfl rfl rfl rfl (fun y => fun _ w ha hw => ⟨ha.defs, .inr ⟨y, rfl, hw.1, hw.2⟩⟩) ?_
    rintro ⟨kE, sE, mE⟩
    refine LX.have fun ⟨hrE, hndE, hkE⟩ => ?_
    try dsimp only
    refine LX.pure (Y.assign rfl) rfl rfl rfl <| LX.sub (l' := [(0, _), (4, _)]) ⟨rfl, rfl, trivial⟩ <| LX.next <| PX.thenN <| CX.ret <| PX.blockR <| PX.thenR <| PX.ret1 (by simp) Tryd.results25 rfl ?_
    exact fun w hw => .inl ⟨(kE, sE, mE), rfl, ⟨hrE, hndE, hkE⟩, hw⟩
  try simp at hb5
  rw [show isB t [[114, 101, 116, 117, 114, 110]] = false from hb5, if_neg Bool.false_ne_true] at hr
  refine CX.seq <| CX.region <| LX.pure (Y.move rfl) rfl rfl rfl <| LX.buildSlice (e := 9) (size := 1) rfl rfl (fun _ => by kernel_rfl) rfl (by decide) rfl rfl rfl ?_
  intro gS
  refine LX.callQ (is_q ht _ (ss := [[108, 111, 97, 100]]) (by decide) (fun w hw => blkL hw (i := 1) rfl) (fun w hw => hL.push hw) (fun w hw => row_at hw (j := 0) rfl rfl (by decide) (fun i z h => map_A (f := str) (xs := [[108, 111, 97, 100]]) h))) Pd.en20 rfl rfl rfl rfl rfl <| LX.world (W' := WA w0 base (PWl bp al L cl s m fr)) (fun w hw => hw.drop (List.sublist_cons_self _ _)) <| LX.pure (Y.assign rfl) rfl rfl rfl <| LX.sub (l' := [(0, _), (1, _), (4, _), (49, _)]) ⟨rfl, rfl, rfl, rfl, trivial⟩ <| LX.next <| PX.thenN ?_
  refine CX.cond rfl (fun hb6 => ?_) (fun hb6 => ?_)
  · try simp at hb6
    rw [show isB t [[108, 111, 97, 100]] = true from hb6, if_pos rfl] at hr
    refine CX.seq <| CX.seq <| CX.region <| LX.pure (Y.move rfl) rfl rfl rfl <| LX.pure (Y.not rfl) rfl rfl rfl <| LX.sub (l' := [(0, _), (4, _), (54, _)]) ⟨rfl, rfl, rfl, trivial⟩ <| LX.next <| PX.thenN ?_
    refine CX.cond rfl (fun hb7 => ?_) (fun hb7 => ?_)
    · try simp at hb7
      rw [hb7, if_neg Bool.false_ne_true] at hr
      refine CX.region <| LX.pure (Y.move rfl) rfl rfl rfl ?_
      refine LX.callP (bad_p hS hL hln ht) Pd.en23 rfl rfl rfl rfl rfl (fun ax => fun _ w ha hw => ⟨ha.defs, .inr ⟨(t.pos, false, ax), rfl, Go.Pa.bad_eq ht hr, hw.drop (.cons_cons _ (.cons _ (List.sublist_append_right _ _)))⟩⟩) (fun x => x.elim)
    try simp at hb7
    rw [hb7, if_pos rfl] at hr
    refine CX.skip <| PX.thenN <| CX.seq <| CX.region <| LX.pure (Y.move rfl) rfl rfl rfl <| LX.callP (hLoad n (Nat.le_refl _) s m (fr) r hr hnd) Px_.en47 rfl rfl rfl rfl rfl (fun y => fun _ w ha hw => ⟨ha.defs, .inr ⟨y, rfl, hw.1, hw.2⟩⟩) ?_
    rintro ⟨kE, sE, mE⟩
    refine LX.have fun ⟨hrE, hndE, hkE⟩ => ?_
    try dsimp only
    refine LX.pure (Y.assign rfl) rfl rfl rfl <| LX.sub (l' := [(0, _), (4, _)]) ⟨rfl, rfl, trivial⟩ <| LX.next <| PX.thenN <| CX.ret <| PX.blockR <| PX.thenR <| PX.ret1 (by simp) Tryd.results25 rfl ?_
    exact fun w hw => .inl ⟨(kE, sE, mE), rfl, ⟨hrE, hndE, hkE⟩, hw⟩
  try simp at hb6
  rw [show isB t [[108, 111, 97, 100]] = false from hb6, if_neg Bool.false_ne_true] at hr
  refine CX.skip <| PX.blockN <| PX.thenN <| CX.seq <| CX.region <| LX.pure (Y.move rfl) rfl rfl rfl ?_
  obtain ⟨r1, e1, hok1, hst1⟩ := Go.Pa.bnd_some hr
  refine LX.callP (hTup n (Nat.le_refl _) s m (fr) r1 e1 hnd) Pw_.en43 rfl rfl rfl rfl rfl (fun y => fun _ w ha hw => ⟨ha.defs, .inr ⟨y, rfl, hst1 _ _ hw.1, hw.2⟩⟩) ?_
  rintro ⟨⟨ka, ca⟩, s1, m1⟩
  refine LX.have fun ⟨hr1, hnd1, hk1⟩ => ?_
  replace hr := hok1 _ _ hr1
  try dsimp only
  obtain ⟨t2, ht2, hr⟩ := Go.Pa.tok_bnd hr
  have hi2 : inI t2.pos := by obtain ⟨_, _, _, _, _, rfl, _, h⟩ := hL _ _ ht2; exact h
  have hj2 : s1.at_ < L.length := (List.getElem?_eq_some_iff.1 ht2).1
  refine LX.pure (Y.assign rfl) rfl rfl rfl <| LX.sub (l' := [(0, _), (4, _), (6, _)]) ⟨rfl, rfl, rfl, trivial⟩ <| LX.next <| PX.thenN <| CX.seq <| CX.region <| LX.pure (Y.move rfl) rfl rfl rfl <| LX.callQ (pos_q ht2 (fun w hw => blkL hw (i := 0) rfl) (fun w hw => hL.push hw)) Pc.en36 rfl rfl rfl rfl rfl <| LX.pure (Y.assign rfl) rfl rfl rfl <| LX.sub (l' := [(0, _), (4, _), (6, _), (7, _)]) ⟨rfl, rfl, rfl, rfl, trivial⟩ <| LX.next <| PX.thenN <| CX.seq <| CX.block <| CX.seq <| CX.region <| LX.pure (Y.move rfl) rfl rfl rfl <| LX.buildSlice (e := 9) (size := 1) rfl rfl (fun _ => by kernel_rfl) rfl (by decide) rfl rfl rfl ?_
  intro gS
  refine LX.callQ (is_q ht2 _ (ss := [[61]]) (by decide) (fun w hw => blkL hw (i := 1) rfl) (fun w hw => hL.push hw) (fun w hw => row_at hw (j := 0) rfl rfl (by decide) (fun i z h => map_A (f := str) (xs := [[61]]) h))) Pd.en20 rfl rfl rfl rfl rfl <| LX.world (W' := WA w0 base (PWl bp al L cl s1 m1 fr)) (fun w hw => hw.drop (List.sublist_cons_self _ _)) <| LX.pure (Y.assign rfl) rfl rfl rfl <| LX.sub (l' := [(0, _), (4, _), (6, _), (7, _), (63, _)]) ⟨rfl, rfl, rfl, rfl, rfl, trivial⟩ <| LX.next <| PX.thenN ?_
  refine CX.cond rfl (fun hb8 => ?_) (fun hb8 => ?_)
  · try simp at hb8
    rw [show isB t2 [[61]] = true from hb8, if_pos rfl] at hr
    refine CX.seq <| CX.seq <| CX.region <| LX.pure (Y.move rfl) rfl rfl rfl <| LX.pure (Y.move rfl) rfl rfl rfl ?_
    obtain ⟨r3, e3, hok3, hst3⟩ := Go.Pa.bnd_some hr
    obtain ⟨bt, rfl⟩ := (target_same L s1 n).1 _ _ e3
    replace hr := hok3 _ _ rfl
    refine LX.call (hTgt n (Nat.le_refl _) ka s1 m1 fr bt e3 hnd1) Pt_.en48 rfl rfl rfl rfl rfl ?_
    intro _
    try dsimp only at hr
    refine LX.pure (Y.not rfl) rfl rfl rfl <| LX.sub (l' := [(0, _), (4, _), (6, _), (7, _), (70, _)]) ⟨rfl, rfl, rfl, rfl, rfl, trivial⟩ <| LX.next <| PX.thenN ?_
    refine CX.cond rfl (fun hb9 => ?_) (fun hb9 => ?_)
    · try simp at hb9
      subst hb9
      rw [if_neg Bool.false_ne_true] at hr
      refine CX.region <| LX.pure (Y.move rfl) rfl rfl rfl ?_
      refine LX.callP (bad_p hS hL hln ht2) Pd.en23 rfl rfl rfl rfl rfl (fun ax => fun _ w ha hw => ⟨ha.defs, .inr ⟨(t2.pos, false, ax), rfl, Go.Pa.bad_eq ht2 hr, hw.drop (.cons_cons _ (.cons _ (List.sublist_append_right _ _)))⟩⟩) (fun x => x.elim)
    try simp at hb9
    subst hb9
    rw [if_pos rfl] at hr
    replace hr := Go.Pa.adv_bnd hr
    refine CX.skip <| PX.thenN <| CX.seq <| CX.region <| LX.pure (Y.move rfl) rfl rfl rfl <| LX.pure (Y.nilCheck rfl) rfl rfl rfl <| LX.pure (Y.fieldAddr0 Pa.fo41_1 rfl) rfl rfl rfl <| LX.pure (Y.ldB 0 Pa.one3 rfl rfl rfl) rfl rfl rfl <| LX.pure (Y.addN rfl rfl (by (simp only []; omega))) rfl rfl rfl <| LX.pure (Y.nilCheck rfl) rfl rfl rfl <| LX.pure (Y.fieldAddr0 Pa.fo41_1 rfl) rfl rfl rfl <| LX.storeB 0 Pb.sz3 rfl rfl rfl rfl rfl rfl rfl rfl <| LX.sub (l' := [(0, _), (4, _), (6, _), (7, _)]) ⟨rfl, rfl, rfl, rfl, trivial⟩ <| LX.next <| PX.thenN <| CX.seq <| CX.region <| LX.pure (Y.move rfl) rfl rfl rfl <| LX.pure (Y.move rfl) rfl rfl rfl <| LX.pure (Y.move rfl) rfl rfl rfl <| LX.pure (Y.move rfl) rfl rfl rfl ?_
    obtain ⟨r4, e4, hok4, hst4⟩ := Go.Pa.bnd_some hr
    refine LX.callP (hTup n (Nat.le_refl _) s1.adv m1 (fr) r4 e4 hnd1) Pw_.en43 rfl rfl rfl rfl rfl (fun y => fun _ w ha hw => ⟨ha.defs, .inr ⟨y, rfl, hst4 _ _ hw.1, hw.2⟩⟩) ?_
    rintro ⟨⟨kb, cb⟩, s4, m4⟩
    refine LX.have fun ⟨hr4, hnd4, hk4⟩ => ?_
    replace hr := hok4 _ _ hr4
    try dsimp only
    refine LX.buildSlice (e := 3) (size := 1) rfl rfl (fun _ => by kernel_rfl) rfl (by decide) rfl rfl rfl ?_
    intro gK
    obtain ⟨hlen, hre⟩ := Go.Pa.node_end hr
    refine LX.world (W' := WA w0 base (PBl bp al L cl s4 m4 :: ROl s4 m4 :: .row (some gK) 2 2 3 1 ([ka, kb].map iv) :: (m4.rs ++ fr))) (fun w hw => (show WA w0 base (.row (some gK) 2 2 3 1 ([ka, kb].map iv) :: PWl bp al L cl s4 m4 fr) w from hw).perm (by (refine perm_cnt fun x => ?_; simp only [PWl, PBl, ROl, z1, z2, z3, z4, z5, z6]; omega))) ?_
    refine LX.call (node_c (s := s4) (m := m4) (36) t2.pos [] (some ⟨gK, 0, none⟩) 2 2 [ka, kb] hlen) Pe.en15 rfl rfl rfl rfl rfl ?_
    intro q
    refine LX.pure (Y.assign rfl) rfl rfl rfl <| LX.sub (l' := [(0, _), (4, _), (6, _)]) ⟨rfl, rfl, rfl, trivial⟩ <| LX.next <| PX.thenN <| CX.ret <| PX.blockR <| PX.thenR <| PX.ret1 (by simp) Tryd.results25 rfl ?_
    exact fun w hw => .inl ⟨((s4.out.length : Int), (s4.nod 36 t2.pos [] [ka, kb]), (m4.put q 36 t2.pos [] (rv (some gK) 2 2) (.row (some gK) 2 2 3 1 ([ka, kb].map iv) :: m4.rs))), rfl, ⟨hre, put_nds (op := 36) (pos := t2.pos) (x := []) hnd4 hw (i := 2) (ks := [ka, kb]) rfl (fun z hz => by simp only [List.mem_cons, List.not_mem_nil, or_false] at hz; rcases hz with rfl | rfl; exact hk1.inI; exact hk4.inI) (by simp) (by unfold Go.SX.inI; omega) hi2, gI.len hlen⟩, hw⟩
  try simp at hb8
  rw [show isB t2 [[61]] = false from hb8, if_neg Bool.false_ne_true] at hr
  refine CX.seq <| CX.region <| LX.pure (Y.move rfl) rfl rfl rfl <| LX.buildSlice (e := 9) (size := 1) rfl rfl (fun _ => by kernel_rfl) rfl (by decide) rfl rfl rfl ?_
  intro gS
  refine LX.callQ (is_q ht2 _ (ss := [[43, 61]]) (by decide) (fun w hw => blkL hw (i := 1) rfl) (fun w hw => hL.push hw) (fun w hw => row_at hw (j := 0) rfl rfl (by decide) (fun i z h => map_A (f := str) (xs := [[43, 61]]) h))) Pd.en20 rfl rfl rfl rfl rfl <| LX.world (W' := WA w0 base (PWl bp al L cl s1 m1 fr)) (fun w hw => hw.drop (List.sublist_cons_self _ _)) <| LX.pure (Y.assign rfl) rfl rfl rfl <| LX.sub (l' := [(0, _), (4, _), (6, _), (7, _), (87, _)]) ⟨rfl, rfl, rfl, rfl, rfl, trivial⟩ <| LX.next <| PX.thenN ?_
  refine CX.cond rfl (fun hb10 => ?_) (fun hb10 => ?_)
  · try simp at hb10
    rw [show isB t2 [[43, 61]] = true from hb10, if_pos rfl] at hr
    obtain ⟨x, hx0, hx, hr⟩ := Go.Pa.nodeAt_bnd (k := ka) hr
    obtain ⟨hxl, hxo, hxp, hxi, hxj⟩ := hnd1.cell hx
    refine CX.seq <| CX.seq <| CX.region <| LX.pure (Y.move rfl) rfl rfl rfl <| LX.pure (Y.nilCheck rfl) rfl rfl rfl <| LX.pure (Y.fieldAddr0 Pd.fo41_2 rfl) rfl rfl rfl <| LX.pure (Y.ldB 0 Pd.one23 rfl rfl rfl) rfl rfl rfl <| LX.pure (Y.move rfl) rfl rfl rfl <| LX.pure (Y.idxRZ 1 (i := ka.toNat) Pd.un23 Pl.sz31 rfl rfl (Int.toNat_of_nonneg hx0).symm rfl hxl) rfl rfl rfl <| LX.pure (Y.fieldAddr Pt_.fo31_0 rfl) rfl rfl rfl <| LX.pure (Y.ldR 1 (v := .int .i64 x.op) Pa.one3 rfl rfl hxo) rfl rfl rfl <| LX.pure (Y.assign rfl) rfl rfl rfl <| LX.sub (l' := [(0, _), (4, _), (6, _), (7, _), (8, _)]) ⟨rfl, rfl, rfl, rfl, rfl, trivial⟩ <| LX.next <| PX.thenN <| CX.seq <| CX.region <| LX.pure (Y.move rfl) rfl rfl rfl <| LX.pure (Y.neI rfl rfl) rfl rfl rfl <| LX.pure (Y.move rfl) rfl rfl rfl <| LX.sub (l' := [(0, _), (4, _), (6, _), (7, _), (8, _), (101, _)]) ⟨rfl, rfl, rfl, rfl, rfl, rfl, trivial⟩ ?_
    apply LX.joinAnd 3 104 101 rfl
    · intro hb11
      have hb11p := hb11
      try simp at hb11p
      refine LX.gT rfl rfl rfl hb11 (Y.move rfl) rfl rfl <| LX.gT rfl rfl rfl hb11 (Y.neI rfl rfl) rfl rfl <| LX.pure (Y.pickT rfl hb11 rfl) rfl rfl rfl ?_
      exact LX.left ⟨rfl, rfl, rfl, rfl, rfl, rfl, rfl, trivial⟩
    · intro hb11
      have hb11p := hb11
      try simp at hb11p
      refine LX.gF rfl rfl rfl hb11 rfl rfl <| LX.gF rfl rfl rfl hb11 rfl rfl <| LX.pure (Y.pickF rfl hb11 rfl) rfl rfl rfl ?_
      exact LX.left ⟨rfl, rfl, rfl, rfl, rfl, rfl, rfl, trivial⟩
    refine LX.sub (l' := [(0, _), (4, _), (6, _), (7, _), (104, _)]) ⟨rfl, rfl, rfl, rfl, rfl, trivial⟩ <| LX.next <| PX.thenN ?_
    refine CX.cond rfl (fun hb12 => ?_) (fun hb12 => ?_)
    · try simp at hb12
      rw [if_pos (by simpa using hb12)] at hr
      refine CX.region <| LX.pure (Y.move rfl) rfl rfl rfl ?_
      refine LX.callP (bad_p hS hL hln ht2) Pd.en23 rfl rfl rfl rfl rfl (fun ax => fun _ w ha hw => ⟨ha.defs, .inr ⟨(t2.pos, false, ax), rfl, Go.Pa.bad_eq ht2 hr, hw.drop (.cons_cons _ (.cons _ (List.sublist_append_right _ _)))⟩⟩) (fun x => x.elim)
    try simp at hb12
    rw [if_neg (by simpa using hb12)] at hr
    replace hr := Go.Pa.adv_bnd hr
    refine CX.skip <| PX.thenN <| CX.seq <| CX.region <| LX.pure (Y.move rfl) rfl rfl rfl <| LX.pure (Y.nilCheck rfl) rfl rfl rfl <| LX.pure (Y.fieldAddr0 Pa.fo41_1 rfl) rfl rfl rfl <| LX.pure (Y.ldB 0 Pa.one3 rfl rfl rfl) rfl rfl rfl <| LX.pure (Y.addN rfl rfl (by (simp only []; omega))) rfl rfl rfl <| LX.pure (Y.nilCheck rfl) rfl rfl rfl <| LX.pure (Y.fieldAddr0 Pa.fo41_1 rfl) rfl rfl rfl <| LX.storeB 0 Pb.sz3 rfl rfl rfl rfl rfl rfl rfl rfl <| LX.sub (l' := [(0, _), (4, _), (6, _), (7, _)]) ⟨rfl, rfl, rfl, rfl, trivial⟩ <| LX.next <| PX.thenN <| CX.seq <| CX.region <| LX.pure (Y.move rfl) rfl rfl rfl <| LX.pure (Y.move rfl) rfl rfl rfl <| LX.pure (Y.move rfl) rfl rfl rfl <| LX.pure (Y.move rfl) rfl rfl rfl ?_
    obtain ⟨r5, e5, hok5, hst5⟩ := Go.Pa.bnd_some hr
    refine LX.callP (hTup n (Nat.le_refl _) s1.adv m1 (fr) r5 e5 hnd1) Pw_.en43 rfl rfl rfl rfl rfl (fun y => fun _ w ha hw => ⟨ha.defs, .inr ⟨y, rfl, hst5 _ _ hw.1, hw.2⟩⟩) ?_
    rintro ⟨⟨kb, cb⟩, s5, m5⟩
    refine LX.have fun ⟨hr5, hnd5, hk5⟩ => ?_
    replace hr := hok5 _ _ hr5
    try dsimp only
    refine LX.buildSlice (e := 3) (size := 1) rfl rfl (fun _ => by kernel_rfl) rfl (by decide) rfl rfl rfl ?_
    intro gK
    obtain ⟨hlen, hre⟩ := Go.Pa.node_end hr
    refine LX.world (W' := WA w0 base (PBl bp al L cl s5 m5 :: ROl s5 m5 :: .row (some gK) 2 2 3 1 ([ka, kb].map iv) :: (m5.rs ++ fr))) (fun w hw => (show WA w0 base (.row (some gK) 2 2 3 1 ([ka, kb].map iv) :: PWl bp al L cl s5 m5 fr) w from hw).perm (by (refine perm_cnt fun x => ?_; simp only [PWl, PBl, ROl, z1, z2, z3, z4, z5, z6]; omega))) ?_
    refine LX.call (node_c (s := s5) (m := m5) (37) t2.pos [] (some ⟨gK, 0, none⟩) 2 2 [ka, kb] hlen) Pe.en15 rfl rfl rfl rfl rfl ?_
    intro q
    refine LX.pure (Y.assign rfl) rfl rfl rfl <| LX.sub (l' := [(0, _), (4, _), (6, _)]) ⟨rfl, rfl, rfl, trivial⟩ <| LX.next <| PX.thenN <| CX.ret <| PX.blockR <| PX.thenR <| PX.ret1 (by simp) Tryd.results25 rfl ?_
    exact fun w hw => .inl ⟨((s5.out.length : Int), (s5.nod 37 t2.pos [] [ka, kb]), (m5.put q 37 t2.pos [] (rv (some gK) 2 2) (.row (some gK) 2 2 3 1 ([ka, kb].map iv) :: m5.rs))), rfl, ⟨hre, put_nds (op := 37) (pos := t2.pos) (x := []) hnd5 hw (i := 2) (ks := [ka, kb]) rfl (fun z hz => by simp only [List.mem_cons, List.not_mem_nil, or_false] at hz; rcases hz with rfl | rfl; exact hk1.inI; exact hk5.inI) (by simp) (by unfold Go.SX.inI; omega) hi2, gI.len hlen⟩, hw⟩
  try simp at hb10
  rw [show isB t2 [[43, 61]] = false from hb10, if_neg Bool.false_ne_true] at hr
  obtain ⟨x, hx0, hx, hr⟩ := Go.Pa.nodeAt_bnd (k := ka) hr
  obtain ⟨hxl, hxo, hxp, hxi, hxj⟩ := hnd1.cell hx
  refine CX.skip <| PX.blockN <| PX.thenN <| CX.seq <| CX.region <| LX.pure (Y.move rfl) rfl rfl rfl <| LX.pure (Y.move rfl) rfl rfl rfl <| LX.pure (Y.nilCheck rfl) rfl rfl rfl <| LX.pure (Y.fieldAddr0 Pd.fo41_2 rfl) rfl rfl rfl <| LX.pure (Y.ldB 0 Pd.one23 rfl rfl rfl) rfl rfl rfl <| LX.pure (Y.move rfl) rfl rfl rfl <| LX.pure (Y.idxRZ 1 (i := ka.toNat) Pd.un23 Pl.sz31 rfl rfl (Int.toNat_of_nonneg hx0).symm rfl hxl) rfl rfl rfl <| LX.pure (Y.fieldAddr Pl.fo31_2 rfl) rfl rfl rfl <| LX.pure (Y.ldR 1 (v := .int .i64 x.pos) Pa.one3 rfl rfl hxp) rfl rfl rfl <| LX.pure (Y.move rfl) rfl rfl rfl <| LX.buildSlice (e := 3) (size := 1) rfl rfl (fun _ => by kernel_rfl) rfl (by decide) rfl rfl rfl ?_
  intro gK
  obtain ⟨hlen, hre⟩ := Go.Pa.node_end hr
  refine LX.world (W' := WA w0 base (PBl bp al L cl s1 m1 :: ROl s1 m1 :: .row (some gK) 1 1 3 1 ([ka].map iv) :: (m1.rs ++ fr))) (fun w hw => (show WA w0 base (.row (some gK) 1 1 3 1 ([ka].map iv) :: PWl bp al L cl s1 m1 fr) w from hw).perm (by (refine perm_cnt fun x => ?_; simp only [PWl, PBl, ROl, z1, z2, z3, z4, z5, z6]; omega))) ?_
  refine LX.call (node_c (s := s1) (m := m1) (35) x.pos [] (some ⟨gK, 0, none⟩) 1 1 [ka] hlen) Pe.en15 rfl rfl rfl rfl rfl ?_
  intro q
  refine LX.pure (Y.assign rfl) rfl rfl rfl <| LX.sub (l' := [(4, _)]) ⟨rfl, trivial⟩ <| LX.next <| PX.thenN <| CX.ret <| PX.ret1 (by simp) Tryd.results25 rfl ?_
  exact fun w hw => .inl ⟨((s1.out.length : Int), (s1.nod 35 x.pos [] [ka]), (m1.put q 35 x.pos [] (rv (some gK) 1 1) (.row (some gK) 1 1 3 1 ([ka].map iv) :: m1.rs))), rfl, ⟨hre, put_nds (op := 35) (pos := x.pos) (x := []) hnd1 hw (i := 2) (ks := [ka]) rfl (fun z hz => by cases List.mem_singleton.1 hz; exact hk1.inI) (by simp) (by unfold Go.SX.inI; omega) hxj, gI.len hlen⟩, hw⟩
end Go.Proofs.YtfbenelagdcdgaaDoor

namespace Go.Proofs.YtfbenelagdcdgaaDoor
open Go.SX Go.RowKit Go.Tr Go.Lex
namespace Py_
theorem en21 : Enters Tryd.prog 21 := Enters.of Tryd.func21 (by kernel_rfl) (by kernel_rfl)
theorem en22 : Enters Tryd.prog 22 := Enters.of Tryd.func22 (by kernel_rfl) (by kernel_rfl)
theorem en24 : Enters Tryd.prog 24 := Enters.of Tryd.func24 (by kernel_rfl) (by kernel_rfl)
theorem en25 : Enters Tryd.prog 25 := Enters.of Tryd.func25 (by kernel_rfl) (by kernel_rfl)
end Py_
open Go.Proofs.YtfbenelagdcdgaaDoor.Env (EnvS errV sentG)
open Go.Pa (Tk Rs bnd ret isB is_ adv bad take must kinds inn outn node nodeAt setPos)
open Go.Ck (NdsR)
theorem statement_p {w0 : World} {base : Nat} {aE : Nat → Addr} (hS : EnvS w0 base aE) {bp : Nat} {al : Option Addr} {cl : Nat} {L : List Tk} (hL : SlAt 3 tokA (Lies w0 base) al L) (hln : L.length ≤ 1099511627776) (n : Nat) (hCond : ∀ j, j ≤ n → FI w0 base aE al cl L bp 21 (.cond) j) (hLoop : ∀ j, j ≤ n → FI w0 base aE al cl L bp 22 (.loop) j) (hDef : ∀ j, j ≤ n → FI w0 base aE al cl L bp 24 (.def_) j) (hSimp : ∀ wh, ∀ j, j ≤ n → FS w0 base aE al cl L bp 25 #[.pointer (some ⟨bp, 0, none⟩), .bool wh] (fun z : Int => .int .i64 z) gI (.simple wh) j) (whole : Bool) : FS w0 base aE al cl L bp 14 #[.pointer (some ⟨bp, 0, none⟩), .bool whole] (fun z : Int => .int .i64 z) gI (.statement whole) (n + 1) := by
  intro s m fr r hr hnd
  change (bnd (Go.Pa.tok L) fun t => if isB t [[105, 102]] then Go.Pa.run L nameB n .cond else if isB t [[102, 111, 114]] then Go.Pa.run L nameB n .loop else if isB t [[100, 101, 102]] then (if whole then Go.Pa.run L nameB n .def_ else bad L) else bnd (Go.Pa.run L nameB n (.simple whole)) fun k => bnd (kinds L 5) fun _ => ret k) s = some r at hr
  obtain ⟨t, ht, hr⟩ := Go.Pa.tok_bnd hr
  obtain ⟨a0, cs, hav, hcl, hLt, rfl, hin1, hin2⟩ := hL _ _ ht
  have hj : s.at_ < L.length := (List.getElem?_eq_some_iff.1 ht).1
  refine FnP.of_body (fn := Tryd.f14) [(0, _), (1, _)] Tryd.func14 rfl Tryd.ntmps14 rfl ⟨rfl, rfl, trivial⟩ ?_
  refine CX.seq <| CX.region <| LX.pure (Y.assign rfl) rfl rfl rfl <| LX.sub (l' := [(0, _), (1, _), (4, _)]) ⟨rfl, rfl, rfl, trivial⟩ <| LX.next <| PX.thenN <| CX.seq <| CX.block <| CX.seq <| CX.region <| LX.pure (Y.move rfl) rfl rfl rfl <| LX.buildSlice (e := 9) (size := 1) rfl rfl (fun _ => by kernel_rfl) rfl (by decide) rfl rfl rfl ?_
  intro gS
  refine LX.callQ (is_q ht _ (ss := [[105, 102]]) (by decide) (fun w hw => blkL hw (i := 1) rfl) (fun w hw => hL.push hw) (fun w hw => row_at hw (j := 0) rfl rfl (by decide) (fun i z h => map_A (f := str) (xs := [[105, 102]]) h))) Pd.en20 rfl rfl rfl rfl rfl <| LX.world (W' := WA w0 base (PWl bp al L cl s m fr)) (fun w hw => hw.drop (List.sublist_cons_self _ _)) <| LX.pure (Y.assign rfl) rfl rfl rfl <| LX.sub (l' := [(0, _), (1, _), (4, _), (6, _)]) ⟨rfl, rfl, rfl, rfl, trivial⟩ <| LX.next <| PX.thenN ?_
  refine CX.cond rfl (fun hb1 => ?_) (fun hb1 => ?_)
  · try simp at hb1
    rw [show isB t [[105, 102]] = true from hb1, if_pos rfl] at hr
    refine CX.seq <| CX.region <| LX.pure (Y.move rfl) rfl rfl rfl <| LX.callP (hCond n (Nat.le_refl _) s m (fr) r hr hnd) Py_.en21 rfl rfl rfl rfl rfl (fun y => fun _ w ha hw => ⟨ha.defs, .inr ⟨y, rfl, hw.1, hw.2⟩⟩) ?_
    rintro ⟨kE, sE, mE⟩
    refine LX.have fun ⟨hrE, hndE, hkE⟩ => ?_
    try dsimp only
    refine LX.pure (Y.assign rfl) rfl rfl rfl <| LX.sub (l' := [(0, _), (1, _), (4, _)]) ⟨rfl, rfl, rfl, trivial⟩ <| LX.next <| PX.thenN <| CX.ret <| PX.blockR <| PX.thenR <| PX.ret1 (by simp) Tryd.results14 rfl ?_
    exact fun w hw => .inl ⟨(kE, sE, mE), rfl, ⟨hrE, hndE, hkE⟩, hw⟩
  try simp at hb1
  rw [show isB t [[105, 102]] = false from hb1, if_neg Bool.false_ne_true] at hr
  refine CX.seq <| CX.region <| LX.pure (Y.move rfl) rfl rfl rfl <| LX.buildSlice (e := 9) (size := 1) rfl rfl (fun _ => by kernel_rfl) rfl (by decide) rfl rfl rfl ?_
  intro gS
  refine LX.callQ (is_q ht _ (ss := [[102, 111, 114]]) (by decide) (fun w hw => blkL hw (i := 1) rfl) (fun w hw => hL.push hw) (fun w hw => row_at hw (j := 0) rfl rfl (by decide) (fun i z h => map_A (f := str) (xs := [[102, 111, 114]]) h))) Pd.en20 rfl rfl rfl rfl rfl <| LX.world (W' := WA w0 base (PWl bp al L cl s m fr)) (fun w hw => hw.drop (List.sublist_cons_self _ _)) <| LX.pure (Y.assign rfl) rfl rfl rfl <| LX.sub (l' := [(0, _), (1, _), (4, _), (12, _)]) ⟨rfl, rfl, rfl, rfl, trivial⟩ <| LX.next <| PX.thenN ?_
  refine CX.cond rfl (fun hb2 => ?_) (fun hb2 => ?_)
  · try simp at hb2
    rw [show isB t [[102, 111, 114]] = true from hb2, if_pos rfl] at hr
    refine CX.seq <| CX.region <| LX.pure (Y.move rfl) rfl rfl rfl <| LX.callP (hLoop n (Nat.le_refl _) s m (fr) r hr hnd) Py_.en22 rfl rfl rfl rfl rfl (fun y => fun _ w ha hw => ⟨ha.defs, .inr ⟨y, rfl, hw.1, hw.2⟩⟩) ?_
    rintro ⟨kE, sE, mE⟩
    refine LX.have fun ⟨hrE, hndE, hkE⟩ => ?_
    try dsimp only
    refine LX.pure (Y.assign rfl) rfl rfl rfl <| LX.sub (l' := [(0, _), (1, _), (4, _)]) ⟨rfl, rfl, rfl, trivial⟩ <| LX.next <| PX.thenN <| CX.ret <| PX.blockR <| PX.thenR <| PX.ret1 (by simp) Tryd.results14 rfl ?_
    exact fun w hw => .inl ⟨(kE, sE, mE), rfl, ⟨hrE, hndE, hkE⟩, hw⟩
  try simp at hb2
  rw [show isB t [[102, 111, 114]] = false from hb2, if_neg Bool.false_ne_true] at hr
  refine CX.seq <| CX.region <| LX.pure (Y.move rfl) rfl rfl rfl <| LX.buildSlice (e := 9) (size := 1) rfl rfl (fun _ => by kernel_rfl) rfl (by decide) rfl rfl rfl ?_
  intro gS
  refine LX.callQ (is_q ht _ (ss := [[100, 101, 102]]) (by decide) (fun w hw => blkL hw (i := 1) rfl) (fun w hw => hL.push hw) (fun w hw => row_at hw (j := 0) rfl rfl (by decide) (fun i z h => map_A (f := str) (xs := [[100, 101, 102]]) h))) Pd.en20 rfl rfl rfl rfl rfl <| LX.world (W' := WA w0 base (PWl bp al L cl s m fr)) (fun w hw => hw.drop (List.sublist_cons_self _ _)) <| LX.pure (Y.assign rfl) rfl rfl rfl <| LX.sub (l' := [(0, _), (1, _), (4, _), (18, _)]) ⟨rfl, rfl, rfl, rfl, trivial⟩ <| LX.next <| PX.thenN ?_
  refine CX.cond rfl (fun hb3 => ?_) (fun hb3 => ?_)
  · try simp at hb3
    rw [show isB t [[100, 101, 102]] = true from hb3, if_pos rfl] at hr
    refine CX.seq <| CX.seq <| CX.region <| LX.pure (Y.move rfl) rfl rfl rfl <| LX.pure (Y.not rfl) rfl rfl rfl <| LX.sub (l' := [(0, _), (1, _), (4, _), (23, _)]) ⟨rfl, rfl, rfl, rfl, trivial⟩ <| LX.next <| PX.thenN ?_
    refine CX.cond rfl (fun hb4 => ?_) (fun hb4 => ?_)
    · try simp at hb4
      rw [hb4, if_neg Bool.false_ne_true] at hr
      refine CX.region <| LX.pure (Y.move rfl) rfl rfl rfl ?_
      refine LX.callP (bad_p hS hL hln ht) Pd.en23 rfl rfl rfl rfl rfl (fun ax => fun _ w ha hw => ⟨ha.defs, .inr ⟨(t.pos, false, ax), rfl, Go.Pa.bad_eq ht hr, hw.drop (.cons_cons _ (.cons _ (List.sublist_append_right _ _)))⟩⟩) (fun x => x.elim)
    try simp at hb4
    rw [hb4, if_pos rfl] at hr
    refine CX.skip <| PX.thenN <| CX.seq <| CX.region <| LX.pure (Y.move rfl) rfl rfl rfl <| LX.callP (hDef n (Nat.le_refl _) s m (fr) r hr hnd) Py_.en24 rfl rfl rfl rfl rfl (fun y => fun _ w ha hw => ⟨ha.defs, .inr ⟨y, rfl, hw.1, hw.2⟩⟩) ?_
    rintro ⟨kE, sE, mE⟩
    refine LX.have fun ⟨hrE, hndE, hkE⟩ => ?_
    try dsimp only
    refine LX.pure (Y.assign rfl) rfl rfl rfl <| LX.sub (l' := [(0, _), (1, _), (4, _)]) ⟨rfl, rfl, rfl, trivial⟩ <| LX.next <| PX.thenN <| CX.ret <| PX.blockR <| PX.thenR <| PX.ret1 (by simp) Tryd.results14 rfl ?_
    exact fun w hw => .inl ⟨(kE, sE, mE), rfl, ⟨hrE, hndE, hkE⟩, hw⟩
  try simp at hb3
  rw [show isB t [[100, 101, 102]] = false from hb3, if_neg Bool.false_ne_true] at hr
  refine CX.skip <| PX.blockN <| PX.thenN <| CX.seq <| CX.region <| LX.pure (Y.move rfl) rfl rfl rfl <| LX.pure (Y.move rfl) rfl rfl rfl ?_
  obtain ⟨r1, e1, hok1, hst1⟩ := Go.Pa.bnd_some hr
  refine LX.callP ((hSimp whole) n (Nat.le_refl _) s m (fr) r1 e1 hnd) Py_.en25 rfl rfl rfl rfl rfl (fun y => fun _ w ha hw => ⟨ha.defs, .inr ⟨y, rfl, hst1 _ _ hw.1, hw.2⟩⟩) ?_
  rintro ⟨k1, s1, m1⟩
  refine LX.have fun ⟨hr1, hnd1, hk1⟩ => ?_
  replace hr := hok1 _ _ hr1
  try dsimp only
  refine LX.pure (Y.assign rfl) rfl rfl rfl <| LX.sub (l' := [(0, _), (4, _), (5, _)]) ⟨rfl, rfl, rfl, trivial⟩ <| LX.next <| PX.thenN <| CX.seq <| CX.region <| LX.pure (Y.move rfl) rfl rfl rfl ?_
  obtain ⟨r2, e2, hok2, hst2⟩ := Go.Pa.bnd_some hr
  refine LX.callP (kinds_p hS hL hln 5 e2) Ph.en26 rfl rfl rfl rfl rfl (fun y => fun _ w ha hw => ⟨ha.defs, .inr ⟨y, rfl, hst2 _ _ hw.1, hw.2.drop (.cons_cons _ (.cons _ (List.sublist_append_right _ _)))⟩⟩) ?_
  rintro ⟨⟨xn, xp⟩, s2⟩
  refine LX.have fun ⟨hr2, hou2, hp2⟩ => ?_
  replace hou2 : s2.out = s1.out := hou2
  have hnd2 : NdsR 3 m1.rs m1.cells s2.out := by rw [hou2]; exact hnd1
  replace hr := hok2 _ _ hr2
  refine LX.world (W' := WA w0 base (PWl bp al L cl s2 m1 fr)) (fun w hw => by show WA w0 base (PBl bp al L cl s2 m1 :: .row m1.g m1.c s2.out.length 31 5 m1.cells :: (m1.rs ++ fr)) w; rw [hou2]; exact hw) ?_
  try dsimp only
  refine LX.sub (l' := [(4, _), (5, _)]) ⟨rfl, rfl, trivial⟩ <| LX.next <| PX.thenN <| CX.seq <| CX.region <| LX.pure (Y.move rfl) rfl rfl rfl <| LX.pure (Y.assign rfl) rfl rfl rfl <| LX.sub (l' := [(4, _)]) ⟨rfl, trivial⟩ <| LX.next <| PX.thenN <| CX.ret <| PX.ret1 (by simp) Tryd.results14 rfl ?_
  exact fun w hw => .inl ⟨(k1, s2, m1), rfl, ⟨Go.Pa.ret_end hr, hnd2, hk1⟩, hw⟩
end Go.Proofs.YtfbenelagdcdgaaDoor

namespace Go.Proofs.YtfbenelagdcdgaaDoor
open Go.SX Go.RowKit Go.Tr Go.Lex
namespace Pz_
theorem en60 : Enters Tryd.prog 60 := Enters.of Tryd.func60 (by kernel_rfl) (by kernel_rfl)
end Pz_
open Go.Proofs.YtfbenelagdcdgaaDoor.Env (EnvS errV sentG)
open Go.Pa (Tk Rs bnd ret isB is_ adv bad take must kinds inn outn node nodeAt setPos)
open Go.Ck (NdsR)
theorem load_p {w0 : World} {base : Nat} {aE : Nat → Addr} (hS : EnvS w0 base aE) {bp : Nat} {al : Option Addr} {cl : Nat} {L : List Tk} (hL : SlAt 3 tokA (Lies w0 base) al L) (hln : L.length ≤ 1099511627776) (n : Nat) (hTx : ∀ (i : Nat) (t : Tk), L[i]? = some t → t.text.length ≤ 9223372036854775807) : FI w0 base aE al cl L bp 47 (.load) (n + 1) := by
  intro s m fr r hr hnd
  change (bnd (must L [108, 111, 97, 100]) fun pos => bnd (must L [40]) fun p2 => bnd (inn p2) fun _ => bnd (kinds L 3) fun m => bnd (Go.Pa.run L nameB n (.loadGo [])) fun l => if l = [] then bad L else bnd (must L [41]) fun _ => bnd outn fun _ => node 42 pos m.1 l) s = some r at hr
  refine FnP.of_body (fn := Tryd.f47) [(0, _)] Tryd.func47 rfl Tryd.ntmps47 rfl ⟨rfl, trivial⟩ ?_
  refine CX.seq <| CX.region <| LX.pure (Y.assign rfl) rfl rfl rfl <| LX.sub (l' := [(0, _), (2, _)]) ⟨rfl, rfl, trivial⟩ <| LX.next <| PX.thenN <| CX.seq <| CX.region <| LX.pure (Y.move rfl) rfl rfl rfl ?_
  obtain ⟨r0, e0, hok0, hst0⟩ := Go.Pa.bnd_some hr
  refine LX.callP (must_p hS hL hln [108, 111, 97, 100] e0) Pf.en41 rfl rfl rfl rfl rfl (fun y => fun _ w ha hw => ⟨ha.defs, .inr ⟨y, rfl, hst0 _ _ hw.1, hw.2.drop (.cons_cons _ (.cons _ (List.sublist_append_right _ _)))⟩⟩) ?_
  rintro ⟨pos, s0⟩
  refine LX.have fun ⟨hr0, hou0, hp0⟩ => ?_
  replace hou0 : s0.out = s.out := hou0
  have hnd0 : NdsR 3 m.rs m.cells s0.out := by rw [hou0]; exact hnd
  replace hr := hok0 _ _ hr0
  refine LX.world (W' := WA w0 base (PWl bp al L cl s0 m fr)) (fun w hw => by show WA w0 base (PBl bp al L cl s0 m :: .row m.g m.c s0.out.length 31 5 m.cells :: (m.rs ++ fr)) w; rw [hou0]; exact hw) ?_
  try dsimp only
  refine LX.pure (Y.assign rfl) rfl rfl rfl <| LX.sub (l' := [(0, _), (2, _), (3, _)]) ⟨rfl, rfl, rfl, trivial⟩ <| LX.next <| PX.thenN <| CX.seq <| CX.region <| LX.pure (Y.move rfl) rfl rfl rfl <| LX.pure (Y.move rfl) rfl rfl rfl ?_
  obtain ⟨r1, e1, hok1, hst1⟩ := Go.Pa.bnd_some hr
  refine LX.callP (must_p hS hL hln [40] e1) Pf.en41 rfl rfl rfl rfl rfl (fun y => fun _ w ha hw => ⟨ha.defs, .inr ⟨y, rfl, hst1 _ _ hw.1, hw.2.drop (.cons_cons _ (.cons _ (List.sublist_append_right _ _)))⟩⟩) ?_
  rintro ⟨p1, s1⟩
  refine LX.have fun ⟨hr1, hou1, hp1⟩ => ?_
  replace hou1 : s1.out = s0.out := hou1
  have hnd1 : NdsR 3 m.rs m.cells s1.out := by rw [hou1]; exact hnd0
  replace hr := hok1 _ _ hr1
  refine LX.world (W' := WA w0 base (PWl bp al L cl s1 m fr)) (fun w hw => by show WA w0 base (PBl bp al L cl s1 m :: .row m.g m.c s1.out.length 31 5 m.cells :: (m.rs ++ fr)) w; rw [hou1]; exact hw) ?_
  try dsimp only
  obtain ⟨ra, ea, hoka, hsta⟩ := Go.Pa.bnd_some hr
  refine LX.callP (in_p hS hL hln p1 ea) Pf.en39 rfl rfl rfl rfl rfl (fun y => fun _ w ha hw => ⟨ha.defs, .inr ⟨y, rfl, hsta _ _ hw.1, hw.2.drop (.cons_cons _ (.cons _ (List.sublist_append_right _ _)))⟩⟩) ?_
  rintro ⟨_, sa⟩
  refine LX.have fun ⟨hra, houa, _⟩ => ?_
  replace houa : sa.out = s1.out := houa
  have hnda : NdsR 3 m.rs m.cells sa.out := by rw [houa]; exact hnd1
  replace hr := hoka _ _ hra
  refine LX.world (W' := WA w0 base (PWl bp al L cl sa m fr)) (fun w hw => by show WA w0 base (PBl bp al L cl sa m :: .row m.g m.c sa.out.length 31 5 m.cells :: (m.rs ++ fr)) w; rw [houa]; exact hw) ?_
  try dsimp only
  refine LX.sub (l' := [(0, _), (2, _), (3, _)]) ⟨rfl, rfl, rfl, trivial⟩ <| LX.next <| PX.thenN <| CX.seq <| CX.region <| LX.pure (Y.move rfl) rfl rfl rfl ?_
  obtain ⟨rb, eb, hokb, hstb⟩ := Go.Pa.bnd_some hr
  refine LX.callP (kinds_p hS hL hln 3 eb) Ph.en26 rfl rfl rfl rfl rfl (fun y => fun _ w ha hw => ⟨ha.defs, .inr ⟨y, rfl, hstb _ _ hw.1, hw.2.drop (.cons_cons _ (.cons _ (List.sublist_append_right _ _)))⟩⟩) ?_
  rintro ⟨⟨xm, pb⟩, sb⟩
  refine LX.have fun ⟨hrb, houb, hpb⟩ => ?_
  replace houb : sb.out = sa.out := houb
  have hndb : NdsR 3 m.rs m.cells sb.out := by rw [houb]; exact hnda
  replace hr := hokb _ _ hrb
  refine LX.world (W' := WA w0 base (PWl bp al L cl sb m fr)) (fun w hw => by show WA w0 base (PBl bp al L cl sb m :: .row m.g m.c sb.out.length 31 5 m.cells :: (m.rs ++ fr)) w; rw [houb]; exact hw) ?_
  try dsimp only
  refine LX.pure (Y.move rfl) rfl rfl rfl <| LX.pure (Y.extract rfl rfl) rfl rfl rfl <| LX.pure (Y.extract rfl rfl) rfl rfl rfl <| LX.pure (Y.assign rfl) rfl rfl rfl <| LX.pure (Y.assign rfl) rfl rfl rfl <| LX.sub (l' := [(0, _), (2, _), (3, _), (4, _)]) ⟨rfl, rfl, rfl, rfl, trivial⟩ <| LX.next <| PX.thenN <| CX.seq <| CX.region <| LX.pure (Y.assign rfl) rfl rfl rfl <| LX.sub (l' := [(0, _), (2, _), (3, _), (4, _), (6, _)]) ⟨rfl, rfl, rfl, rfl, rfl, trivial⟩ <| LX.next <| PX.thenN ?_
  refine CX.seqM (fun z : List Int × (Option Nat × Nat) × Go.Pa.St × Mm => [(0, .pointer (some ⟨bp, 0, none⟩)), (3, .int .i64 pos), (4, str xm), (6, rv z.2.1.1 z.1.length z.2.1.2)]) (fun (z : List Int × (Option Nat × Nat) × Go.Pa.St × Mm) w => ((if z.1 = [] then bad L else bnd (must L [41]) fun _ => bnd outn fun _ => node 42 pos xm z.1) z.2.2.1 = some r ∧ NdsR 3 z.2.2.2.rs z.2.2.2.cells z.2.2.1.out ∧ (∀ x ∈ z.1, gI x) ∧ z.1.length ≤ 1000002) ∧ WA w0 base (PWl bp al L cl z.2.2.1 z.2.2.2 (.row z.2.1.1 z.2.1.2 z.1.length 3 1 (z.1.map iv) :: fr)) w) ?_ ?_
  ·
    refine CX.block ?_
    refine CX.loop (fun z : List Int × (Option Nat × Nat) × Go.Pa.St × Mm × Nat => [(0, .pointer (some ⟨bp, 0, none⟩)), (3, .int .i64 pos), (4, str xm), (6, rv z.2.1.1 z.1.length z.2.1.2)]) (fun (z : List Int × (Option Nat × Nat) × Go.Pa.St × Mm × Nat) w => (((bnd (Go.Pa.run L nameB z.2.2.2.2 (.loadGo z.1)) (fun l => if l = [] then bad L else bnd (must L [41]) fun _ => bnd outn fun _ => node 42 pos xm l)) z.2.2.1 = some r ∧ z.2.2.2.2 ≤ n) ∧ NdsR 3 z.2.2.2.1.rs z.2.2.2.1.cells z.2.2.1.out ∧ (∀ x ∈ z.1, gI x) ∧ z.1.length ≤ 1000002) ∧ WA w0 base (PWl bp al L cl z.2.2.1 z.2.2.2.1 (.row z.2.1.1 z.2.1.2 z.1.length 3 1 (z.1.map iv) :: fr)) w) (fun z => z.2.2.2.2) ([], (none, 0), sb, m, n) ⟨rfl, rfl, rfl, rfl, trivial⟩ (fun w hw => ⟨⟨⟨hr, Nat.le_refl _⟩, hndb, (fun z hz => by cases hz), by simp⟩, by
      have h1 := (show WA w0 base (PWl bp al L cl sb m fr) w from hw).nilRow 3 1
      exact (show WA w0 base (.row none 0 ([] : List Int).length 3 1 (([] : List Int).map iv) :: PWl bp al L cl sb m fr) w from h1).perm (show List.Perm (PWl bp al L cl sb m (.row none 0 ([] : List Int).length 3 1 (([] : List Int).map iv) :: fr)) (.row none 0 ([] : List Int).length 3 1 (([] : List Int).map iv) :: PWl bp al L cl sb m fr) by (refine perm_cnt fun x => ?_; simp only [PWl, PBl, ROl, z1, z2, z3, z4, z5, z6]; omega))⟩) ?_
    clear hr
    rintro ⟨l, ⟨g, c⟩, s1, m1, j⟩
    refine CX.have fun ⟨⟨hr, hjn⟩, hnd1, hg, hlm⟩ => ?_
    replace hlm : l.length ≤ 1000002 := hlm
    replace hr : (bnd (Go.Pa.run L nameB j (.loadGo l)) (fun l => if l = [] then bad L else bnd (must L [41]) fun _ => bnd outn fun _ => node 42 pos xm l)) s1 = some r := hr
    replace hjn : j ≤ n := hjn
    replace hnd1 : NdsR 3 m1.rs m1.cells s1.out := hnd1
    replace hg : ∀ x ∈ l, gI x := hg
    try dsimp only
    obtain ⟨j, rfl⟩ : ∃ i, j = i + 1 := by
      cases j with
      | zero => cases hr
      | succ i => exact ⟨i, rfl⟩
    rw [show Go.Pa.run L nameB (j + 1) (.loadGo l) = (bnd (take L [44]) fun b => if b then bnd (Go.Pa.tok L) fun t => if decide (l ≠ []) && isB t [[41]] then ret l else if t.kind = 1 then bnd (kinds L 1) fun nm => bnd (must L [61]) fun _ => bnd (kinds L 3) fun th => bnd (node 5 th.2 th.1 []) fun n => bnd (node 46 t.pos nm.1 [n]) fun q => Go.Pa.grow l (Go.Pa.run L nameB j (.loadGo (l ++ [q]))) else if t.kind ≠ 3 ∨ nameB t.text = false then bad L else bnd (kinds L 3) fun nm => bnd (node 5 t.pos nm.1 []) fun n => bnd (node 46 t.pos nm.1 [n]) fun q => Go.Pa.grow l (Go.Pa.run L nameB j (.loadGo (l ++ [q]))) else ret l) from rfl, Go.Pa.bnd_assoc] at hr
    refine CX.seq <| CX.seq <| CX.region <| LX.pure (Y.move rfl) rfl rfl rfl ?_
    obtain ⟨t1, ht1, hT, hF⟩ := Go.Pa.take_bnd hr
    refine LX.call (take_c hL hln ht1 [44]) Pd.en40 rfl rfl rfl rfl rfl ?_
    intro _
    refine LX.sub (l' := [(0, _), (3, _), (4, _), (6, _), (26, _)]) ⟨rfl, rfl, rfl, rfl, rfl, trivial⟩ <| LX.next <| PX.thenN ?_
    refine CX.cond rfl (fun hb1 => ?_) (fun hb1 => ?_)
    · try simp at hb1
      rw [show isB t1 [[44]] = true from hb1]
      replace hr := hT hb1
      refine CX.world (W' := WA w0 base (PWl bp al L cl s1.adv m1 (.row g c l.length 3 1 (l.map iv) :: fr))) (fun w hw => hw) ?_
      rw [if_pos rfl, Go.Pa.bnd_assoc] at hr
      obtain ⟨t, ht, hr⟩ := Go.Pa.tok_bnd hr
      obtain ⟨a0, cs, hav, hcl, hLt, rfl, hin1, hin2⟩ := hL _ _ ht
      have hj : s1.at_ + 1 < L.length := (List.getElem?_eq_some_iff.1 ht).1
      refine CX.skip <| PX.thenN <| CX.block <| CX.seq <| CX.seq <| CX.region <| LX.pure (Y.move rfl) rfl rfl rfl <| LX.pure (Y.lenSl rfl Pb.un29 rfl) rfl rfl rfl <| LX.pure (Y.gtN rfl rfl) rfl rfl rfl <| LX.pure (Y.move rfl) rfl rfl rfl <| LX.sub (l' := [(0, _), (3, _), (4, _), (6, _), (30, _)]) ⟨rfl, rfl, rfl, rfl, rfl, trivial⟩ ?_
      apply LX.joinAnd 4 34 30 rfl
      · intro hb2
        have hb2p := hb2
        try simp at hb2p
        refine LX.unguard rfl rfl rfl hb2 <| LX.pure (Y.move rfl) rfl rfl rfl <| LX.unguard rfl rfl rfl hb2 <| LX.buildSlice (e := 9) (size := 1) rfl rfl (fun _ => by kernel_rfl) rfl (by decide) rfl rfl rfl ?_
        intro gS
        refine LX.unguard rfl rfl rfl hb2 <| LX.callQ (is_q ht _ (ss := [[41]]) (by decide) (fun w hw => blkL hw (i := 1) rfl) (fun w hw => hL.push hw) (fun w hw => row_at hw (j := 0) rfl rfl (by decide) (fun i z h => map_A (f := str) (xs := [[41]]) h))) Pd.en20 rfl rfl rfl rfl rfl <| LX.world (W' := WA w0 base (PWl bp al L cl s1.adv m1 (.row g c l.length 3 1 (l.map iv) :: fr))) (fun w hw => hw.drop (List.sublist_cons_self _ _)) <| LX.pure (Y.pickT rfl hb2 rfl) rfl rfl rfl ?_
        exact LX.leftP ⟨rfl, rfl, rfl, rfl, rfl, rfl, trivial⟩
      · intro hb2
        have hb2p := hb2
        try simp at hb2p
        refine LX.gF rfl rfl rfl hb2 rfl rfl <| LX.gF rfl rfl rfl hb2 rfl rfl <| LX.gF rfl rfl rfl hb2 rfl rfl <| LX.pure (Y.pickF rfl hb2 rfl) rfl rfl rfl ?_
        exact LX.left ⟨rfl, rfl, rfl, rfl, rfl, rfl, trivial⟩
      refine LX.sub (l' := [(0, _), (3, _), (4, _), (6, _), (34, _)]) ⟨rfl, rfl, rfl, rfl, rfl, trivial⟩ <| LX.next <| PX.thenN ?_
      refine CX.cond rfl (fun hb3 => ?_) (fun hb3 => ?_)
      · try simp at hb3
        rw [if_pos (by simpa [List.length_pos_iff] using hb3)] at hr
        replace hr := Go.Pa.ret_bnd hr
        refine CX.exit <| PX.thenE <| PX.blockO rfl <| PX.thenE <| PX.blockE ?_
        exact PX.seam (l, (g, c), s1.adv, m1) ⟨rfl, rfl, rfl, rfl, trivial⟩ (fun w hw => ⟨⟨hr, hnd1, hg, hlm⟩, hw⟩)
      try simp at hb3
      rw [if_neg (by simpa [List.length_pos_iff] using hb3)] at hr
      refine CX.skip <| PX.thenN <| CX.seq <| CX.region <| LX.pure (Y.move rfl) rfl rfl rfl <| LX.callQ (pos_q ht (fun w hw => blkL hw (i := 0) rfl) (fun w hw => hL.push hw)) Pc.en36 rfl rfl rfl rfl rfl <| LX.pure (Y.assign rfl) rfl rfl rfl <| LX.sub (l' := [(0, _), (3, _), (4, _), (6, _), (7, _)]) ⟨rfl, rfl, rfl, rfl, rfl, trivial⟩ <| LX.next <| PX.thenN <| CX.seq <| CX.seq <| CX.region <| LX.pure (Y.move rfl) rfl rfl rfl <| LX.callQ (kind_q ht (fun w hw => blkL hw (i := 0) rfl) (fun w hw => hL.push hw)) Pa.en13 rfl rfl rfl rfl rfl <| LX.pure (Y.eqI rfl rfl) rfl rfl rfl <| LX.sub (l' := [(0, _), (3, _), (4, _), (6, _), (7, _), (39, _)]) ⟨rfl, rfl, rfl, rfl, rfl, rfl, trivial⟩ <| LX.next <| PX.thenN ?_
      refine CX.cond rfl (fun hb4 => ?_) (fun hb4 => ?_)
      · try simp at hb4
        rw [if_pos hb4, Go.Pa.bnd_assoc] at hr
        refine CX.seq <| CX.region <| LX.pure (Y.move rfl) rfl rfl rfl ?_
        obtain ⟨r4, e4, hok4, hst4⟩ := Go.Pa.bnd_some hr
        refine LX.callP (kinds_p hS hL hln 1 e4) Ph.en26 rfl rfl rfl rfl rfl (fun y => fun _ w ha hw => ⟨ha.defs, .inr ⟨y, rfl, hst4 _ _ hw.1, hw.2.drop (.cons_cons _ (.cons _ ((List.sublist_cons_self _ _).trans (List.sublist_append_right _ _))))⟩⟩) ?_
        rintro ⟨⟨nm, pn⟩, s4⟩
        refine LX.have fun ⟨hr4, hou4, hp4⟩ => ?_
        replace hou4 : s4.out = s1.adv.out := hou4
        have hnd4 : NdsR 3 m1.rs m1.cells s4.out := by rw [hou4]; exact hnd1
        replace hr := hok4 _ _ hr4
        refine LX.world (W' := WA w0 base (PWl bp al L cl s4 m1 (.row g c l.length 3 1 (l.map iv) :: fr))) (fun w hw => by show WA w0 base (PBl bp al L cl s4 m1 :: .row m1.g m1.c s4.out.length 31 5 m1.cells :: (m1.rs ++ (.row g c l.length 3 1 (l.map iv) :: fr))) w; rw [hou4]; exact hw) ?_
        try dsimp only
        refine LX.pure (Y.move rfl) rfl rfl rfl <| LX.pure (Y.extract rfl rfl) rfl rfl rfl <| LX.pure (Y.extract rfl rfl) rfl rfl rfl <| LX.pure (Y.assign rfl) rfl rfl rfl <| LX.pure (Y.assign rfl) rfl rfl rfl <| LX.sub (l' := [(0, _), (3, _), (4, _), (6, _), (7, _), (8, _)]) ⟨rfl, rfl, rfl, rfl, rfl, rfl, trivial⟩ <| LX.next <| PX.thenN <| CX.seq <| CX.region <| LX.pure (Y.move rfl) rfl rfl rfl ?_
        rw [Go.Pa.bnd_assoc] at hr
        obtain ⟨r5, e5, hok5, hst5⟩ := Go.Pa.bnd_some hr
        refine LX.callP (must_p hS hL hln [61] e5) Pf.en41 rfl rfl rfl rfl rfl (fun y => fun _ w ha hw => ⟨ha.defs, .inr ⟨y, rfl, hst5 _ _ hw.1, hw.2.drop (.cons_cons _ (.cons _ ((List.sublist_cons_self _ _).trans (List.sublist_append_right _ _))))⟩⟩) ?_
        rintro ⟨p5, s5⟩
        refine LX.have fun ⟨hr5, hou5, hp5⟩ => ?_
        replace hou5 : s5.out = s4.out := hou5
        have hnd5 : NdsR 3 m1.rs m1.cells s5.out := by rw [hou5]; exact hnd4
        replace hr := hok5 _ _ hr5
        refine LX.world (W' := WA w0 base (PWl bp al L cl s5 m1 (.row g c l.length 3 1 (l.map iv) :: fr))) (fun w hw => by show WA w0 base (PBl bp al L cl s5 m1 :: .row m1.g m1.c s5.out.length 31 5 m1.cells :: (m1.rs ++ (.row g c l.length 3 1 (l.map iv) :: fr))) w; rw [hou5]; exact hw) ?_
        try dsimp only
        refine LX.sub (l' := [(0, _), (3, _), (4, _), (6, _), (7, _), (8, _)]) ⟨rfl, rfl, rfl, rfl, rfl, rfl, trivial⟩ <| LX.next <| PX.thenN <| CX.seq <| CX.region <| LX.pure (Y.move rfl) rfl rfl rfl ?_
        rw [Go.Pa.bnd_assoc] at hr
        obtain ⟨r6, e6, hok6, hst6⟩ := Go.Pa.bnd_some hr
        refine LX.callP (kinds_p hS hL hln 3 e6) Ph.en26 rfl rfl rfl rfl rfl (fun y => fun _ w ha hw => ⟨ha.defs, .inr ⟨y, rfl, hst6 _ _ hw.1, hw.2.drop (.cons_cons _ (.cons _ ((List.sublist_cons_self _ _).trans (List.sublist_append_right _ _))))⟩⟩) ?_
        rintro ⟨⟨th, tp⟩, s6⟩
        refine LX.have fun ⟨hr6, hou6, hp6⟩ => ?_
        replace hou6 : s6.out = s5.out := hou6
        have hnd6 : NdsR 3 m1.rs m1.cells s6.out := by rw [hou6]; exact hnd5
        replace hr := hok6 _ _ hr6
        refine LX.world (W' := WA w0 base (PWl bp al L cl s6 m1 (.row g c l.length 3 1 (l.map iv) :: fr))) (fun w hw => by show WA w0 base (PBl bp al L cl s6 m1 :: .row m1.g m1.c s6.out.length 31 5 m1.cells :: (m1.rs ++ (.row g c l.length 3 1 (l.map iv) :: fr))) w; rw [hou6]; exact hw) ?_
        try dsimp only
        refine LX.pure (Y.move rfl) rfl rfl rfl <| LX.pure (Y.extract rfl rfl) rfl rfl rfl <| LX.pure (Y.extract rfl rfl) rfl rfl rfl <| LX.pure (Y.assign rfl) rfl rfl rfl <| LX.pure (Y.assign rfl) rfl rfl rfl <| LX.sub (l' := [(0, _), (3, _), (4, _), (6, _), (7, _), (8, _), (10, _), (11, _)]) ⟨rfl, rfl, rfl, rfl, rfl, rfl, rfl, rfl, trivial⟩ <| LX.next <| PX.thenN <| CX.seq <| CX.region <| LX.pure (Y.move rfl) rfl rfl rfl <| LX.pure (Y.move rfl) rfl rfl rfl <| LX.pure (Y.move rfl) rfl rfl rfl <| LX.pure (Y.move rfl) rfl rfl rfl <| LX.pure (Y.move rfl) rfl rfl rfl <| LX.pure (Y.move rfl) rfl rfl rfl <| LX.pure (Y.move rfl) rfl rfl rfl ?_
        rw [Go.Pa.bnd_assoc] at hr
        obtain ⟨hlen, hr⟩ := Go.Pa.node_bnd hr
        try dsimp only at hr
        refine LX.call (node_c (s := s6) (m := m1) (5) tp th none 0 0 [] hlen) Pe.en15 rfl rfl rfl rfl rfl ?_
        intro q
        refine LX.buildSlice (e := 3) (size := 1) rfl rfl (fun _ => by kernel_rfl) rfl (by decide) rfl rfl rfl ?_
        intro gK
        have hndA : NdsR 3 (m1.put q 5 tp th (.slice none 0 0) (m1.rs)).rs (m1.put q 5 tp th (.slice none 0 0) (m1.rs)).cells (s6.nod 5 tp th []).out := put_nil (op := 5) (pos := tp) (x := th) hnd6 (by unfold Go.SX.inI; omega) hp6
        rw [Go.Pa.bnd_assoc] at hr
        obtain ⟨hlen2, hr⟩ := Go.Pa.node_bnd hr
        obtain ⟨hlg, hr⟩ := Go.Pa.grow_bnd hr
        try dsimp only at hr
        refine LX.world (W' := WA w0 base (PBl bp al L cl (s6.nod 5 tp th []) (m1.put q 5 tp th (.slice none 0 0) (m1.rs)) :: ROl (s6.nod 5 tp th []) (m1.put q 5 tp th (.slice none 0 0) (m1.rs)) :: .row (some gK) 1 1 3 1 ([(s6.out.length : Int)].map iv) :: ((m1.put q 5 tp th (.slice none 0 0) (m1.rs)).rs ++ (.row g c l.length 3 1 (l.map iv) :: fr)))) (fun w hw => (show WA w0 base (.row (some gK) 1 1 3 1 ([(s6.out.length : Int)].map iv) :: PWl bp al L cl (s6.nod 5 tp th []) (m1.put q 5 tp th (.slice none 0 0) (m1.rs)) (.row g c l.length 3 1 (l.map iv) :: fr)) w from hw).perm (by (refine perm_cnt fun x => ?_; simp only [PWl, PBl, ROl, z1, z2, z3, z4, z5, z6]; omega))) ?_
        refine LX.call (node_c (s := (s6.nod 5 tp th [])) (m := (m1.put q 5 tp th (.slice none 0 0) (m1.rs))) (46) t.pos nm (some ⟨gK, 0, none⟩) 1 1 [(s6.out.length : Int)] hlen2) Pe.en15 rfl rfl rfl rfl rfl ?_
        intro q2
        refine LX.world (W' := fun w => NdsR 3 (((m1.put q 5 tp th (.slice none 0 0) (m1.rs)).put q2 46 t.pos nm (rv (some gK) 1 1) (.row (some gK) 1 1 3 1 ([(s6.out.length : Int)].map iv) :: m1.rs))).rs (((m1.put q 5 tp th (.slice none 0 0) (m1.rs)).put q2 46 t.pos nm (rv (some gK) 1 1) (.row (some gK) 1 1 3 1 ([(s6.out.length : Int)].map iv) :: m1.rs))).cells (((s6.nod 5 tp th []).nod 46 t.pos nm [(s6.out.length : Int)])).out ∧ WA w0 base (PWl bp al L cl ((s6.nod 5 tp th []).nod 46 t.pos nm [(s6.out.length : Int)]) ((m1.put q 5 tp th (.slice none 0 0) (m1.rs)).put q2 46 t.pos nm (rv (some gK) 1 1) (.row (some gK) 1 1 3 1 ([(s6.out.length : Int)].map iv) :: m1.rs)) (.row g c l.length 3 1 (l.map iv) :: fr)) w) (fun w hw5 => ⟨put_nds (op := 46) (pos := t.pos) (x := nm) hndA hw5 (i := 2) (ks := [(s6.out.length : Int)]) rfl (fun z hz => by cases List.mem_singleton.1 hz; exact (gI.len hlen).inI) (by simp) (by unfold Go.SX.inI; omega) hin2, hw5⟩) <| LX.have fun hndB => LX.buildSlice (e := 3) (size := 1) rfl rfl (fun _ => by kernel_rfl) rfl (by decide) rfl rfl rfl ?_
        intro gT
        refine LX.world (W' := WA w0 base (.row (some gT) 1 1 3 1 [.int .i64 ((s6.nod 5 tp th []).out.length : Int)] :: .row g c l.length 3 1 (l.map iv) :: PWl bp al L cl ((s6.nod 5 tp th []).nod 46 t.pos nm [(s6.out.length : Int)]) ((m1.put q 5 tp th (.slice none 0 0) (m1.rs)).put q2 46 t.pos nm (rv (some gK) 1 1) (.row (some gK) 1 1 3 1 ([(s6.out.length : Int)].map iv) :: m1.rs)) fr)) (fun w hw => (show WA w0 base (.row (some gT) 1 1 3 1 [.int .i64 ((s6.nod 5 tp th []).out.length : Int)] :: PWl bp al L cl ((s6.nod 5 tp th []).nod 46 t.pos nm [(s6.out.length : Int)]) ((m1.put q 5 tp th (.slice none 0 0) (m1.rs)).put q2 46 t.pos nm (rv (some gK) 1 1) (.row (some gK) 1 1 3 1 ([(s6.out.length : Int)].map iv) :: m1.rs)) (.row g c l.length 3 1 (l.map iv) :: fr)) w from hw).perm (by (refine perm_cnt fun x => ?_; simp only [PWl, PBl, ROl, z1, z2, z3, z4, z5, z6]; omega))) ?_
        refine LX.appendT 0 (g := g) (k := l.length) Pk.el29 rfl rfl rfl rfl rfl rfl rfl (by omega) (by omega) rfl rfl rfl ?_
        intro g' cap'
        rw [show l.length + 1 = (l ++ [((s6.nod 5 tp th []).out.length : Int)]).length by simp]
        refine LX.world (W' := WA w0 base (PWl bp al L cl ((s6.nod 5 tp th []).nod 46 t.pos nm [(s6.out.length : Int)]) ((m1.put q 5 tp th (.slice none 0 0) (m1.rs)).put q2 46 t.pos nm (rv (some gK) 1 1) (.row (some gK) 1 1 3 1 ([(s6.out.length : Int)].map iv) :: m1.rs)) (.row g' cap' (l ++ [((s6.nod 5 tp th []).out.length : Int)]).length 3 1 ((l ++ [((s6.nod 5 tp th []).out.length : Int)]).map iv) :: fr))) (fun w hw => ?_) ?_
        · have h1 : WA w0 base (.row g' cap' (l ++ [((s6.nod 5 tp th []).out.length : Int)]).length 3 1 ((l ++ [((s6.nod 5 tp th []).out.length : Int)]).map iv) :: PWl bp al L cl ((s6.nod 5 tp th []).nod 46 t.pos nm [(s6.out.length : Int)]) ((m1.put q 5 tp th (.slice none 0 0) (m1.rs)).put q2 46 t.pos nm (rv (some gK) 1 1) (.row (some gK) 1 1 3 1 ([(s6.out.length : Int)].map iv) :: m1.rs)) fr) w := by rw [← iv_snoc]; exact hw
          exact h1.perm (by (refine perm_cnt fun x => ?_; simp only [PWl, PBl, ROl, z1, z2, z3, z4, z5, z6]; omega))
        refine LX.pure (Y.assign rfl) rfl rfl rfl <| LX.sub (l' := [(0, _), (3, _), (4, _), (6, _), (7, _)]) ⟨rfl, rfl, rfl, rfl, rfl, trivial⟩ <| LX.next <| PX.thenN <| CX.exit <| PX.thenE <| PX.blockE ?_
        exact PX.again (μ := fun z => z.2.2.2.2) (i := (l, (g, c), s1, m1, j + 1)) ((l ++ [((s6.nod 5 tp th []).out.length : Int)]), (g', cap'), ((s6.nod 5 tp th []).nod 46 t.pos nm [(s6.out.length : Int)]), ((m1.put q 5 tp th (.slice none 0 0) (m1.rs)).put q2 46 t.pos nm (rv (some gK) 1 1) (.row (some gK) 1 1 3 1 ([(s6.out.length : Int)].map iv) :: m1.rs)), j) (by show j < j + 1; omega) ⟨rfl, rfl, rfl, rfl, trivial⟩ (fun w hw => ⟨⟨⟨hr, by show j ≤ n; omega⟩, hndB, gI_snoc hg (gI.len hlen2), by show (l ++ [((s6.nod 5 tp th []).out.length : Int)]).length ≤ 1000002; simp only [List.length_append, List.length_cons, List.length_nil]; omega⟩, hw⟩)
      try simp at hb4
      rw [if_neg hb4] at hr
      refine CX.skip <| PX.thenN <| CX.seq <| CX.seq <| CX.regionQ rfl (by kernel_rfl) <| LX.pure (Y.move rfl) rfl rfl rfl <| LX.callQ (kind_q ht (fun w hw => blkL hw (i := 0) rfl) (fun w hw => hL.push hw)) Pa.en13 rfl rfl rfl rfl rfl <| LX.pure (Y.neI rfl rfl) rfl rfl rfl <| LX.pure (Y.move rfl) rfl rfl rfl <| LX.sub (l' := [(0, _), (3, _), (4, _), (6, _), (7, _), (67, _)]) ⟨rfl, rfl, rfl, rfl, rfl, rfl, trivial⟩ ?_
      apply LX.joinOr 14 81 67 rfl
      · intro hb5
        have hb5p := hb5
        try simp at hb5p
        refine LX.gF rfl rfl rfl hb5 rfl rfl <| LX.gF rfl rfl rfl hb5 rfl rfl <| LX.gF rfl rfl rfl hb5 rfl rfl <| LX.gF rfl rfl rfl hb5 rfl rfl <| LX.gF rfl rfl rfl hb5 rfl rfl <| LX.gF rfl rfl rfl hb5 rfl rfl <| LX.gF rfl rfl rfl hb5 rfl rfl <| LX.gF rfl rfl rfl hb5 rfl rfl <| LX.gF rfl rfl rfl hb5 rfl rfl <| LX.gF rfl rfl rfl hb5 rfl rfl <| LX.gF rfl rfl rfl hb5 rfl rfl <| LX.gF rfl rfl rfl hb5 rfl rfl <| LX.gF rfl rfl rfl hb5 rfl rfl <| LX.pure (Y.pickT rfl hb5 rfl) rfl rfl rfl ?_
        exact LX.left ⟨rfl, rfl, rfl, rfl, rfl, rfl, rfl, trivial⟩
      · intro hb5
        have hb5p := hb5
        try simp at hb5p
        refine LX.gT rfl rfl rfl hb5 (Y.move rfl) rfl rfl <| LX.gT rfl rfl rfl hb5 (Y.nilCheck rfl) rfl rfl <| LX.gT rfl rfl rfl hb5 (Y.fieldAddr0 Pa.fo41_0 rfl) rfl rfl <| LX.gT rfl rfl rfl hb5 (Y.ldB 0 Pa.one37 rfl rfl rfl) rfl rfl <| LX.gT rfl rfl rfl hb5 (Y.move rfl) rfl rfl <| LX.gT rfl rfl rfl hb5 (Y.nilCheck rfl) rfl rfl <| LX.gT rfl rfl rfl hb5 (Y.fieldAddr0 Pa.fo41_1 rfl) rfl rfl <| LX.gT rfl rfl rfl hb5 (Y.ldB 0 Pa.one3 rfl rfl rfl) rfl rfl <| LX.gT rfl rfl rfl hb5 (Y.idxZ Pa.un37 Pa.sz57 rfl rfl hav (j := s1.at_ + 1) rfl hj) rfl rfl <| LX.gT rfl rfl rfl hb5 (Y.fieldAddr Pa.fo57_1 rfl) rfl rfl <| LX.gT rfl rfl rfl hb5 (Y.ldFO (a := a0.add ((s1.at_ + 1) * 3)) (j := 1) (v := str t.text) Fy.one9 rfl hLt rfl) rfl rfl <| LX.callQT rfl rfl rfl hb5 (name_q t.text (hTx _ _ ht)) Pz_.en60 rfl rfl rfl rfl <| LX.gT rfl rfl rfl hb5 (Y.not rfl) rfl rfl <| LX.pure (Y.pickF rfl hb5 rfl) rfl rfl rfl ?_
        exact LX.left ⟨rfl, rfl, rfl, rfl, rfl, rfl, rfl, trivial⟩
      refine LX.sub (l' := [(0, _), (3, _), (4, _), (6, _), (7, _), (81, _)]) ⟨rfl, rfl, rfl, rfl, rfl, rfl, trivial⟩ <| LX.nextQ <| PX.thenN ?_
      refine CX.cond rfl (fun hb6 => ?_) (fun hb6 => ?_)
      · try simp at hb6
        rw [if_pos (by simpa using hb6)] at hr
        refine CX.region <| LX.pure (Y.move rfl) rfl rfl rfl ?_
        refine LX.callP (bad_p hS hL hln ht) Pd.en23 rfl rfl rfl rfl rfl (fun ax => fun _ w ha hw => ⟨ha.defs, .inr ⟨(t.pos, false, ax), rfl, bad_bnd ht hr, hw.drop (.cons_cons _ (.cons _ ((List.sublist_cons_self _ _).trans (List.sublist_append_right _ _))))⟩⟩) (fun x => x.elim)
      try simp at hb6
      rw [if_neg (by simpa using hb6), Go.Pa.bnd_assoc] at hr
      refine CX.skip <| PX.thenN <| CX.seq <| CX.region <| LX.pure (Y.move rfl) rfl rfl rfl ?_
      obtain ⟨r5, e5, hok5, hst5⟩ := Go.Pa.bnd_some hr
      refine LX.callP (kinds_p hS hL hln 3 e5) Ph.en26 rfl rfl rfl rfl rfl (fun y => fun _ w ha hw => ⟨ha.defs, .inr ⟨y, rfl, hst5 _ _ hw.1, hw.2.drop (.cons_cons _ (.cons _ ((List.sublist_cons_self _ _).trans (List.sublist_append_right _ _))))⟩⟩) ?_
      rintro ⟨⟨nm, pn⟩, s5⟩
      refine LX.have fun ⟨hr5, hou5, hp5⟩ => ?_
      replace hou5 : s5.out = s1.adv.out := hou5
      have hnd5 : NdsR 3 m1.rs m1.cells s5.out := by rw [hou5]; exact hnd1
      replace hr := hok5 _ _ hr5
      refine LX.world (W' := WA w0 base (PWl bp al L cl s5 m1 (.row g c l.length 3 1 (l.map iv) :: fr))) (fun w hw => by show WA w0 base (PBl bp al L cl s5 m1 :: .row m1.g m1.c s5.out.length 31 5 m1.cells :: (m1.rs ++ (.row g c l.length 3 1 (l.map iv) :: fr))) w; rw [hou5]; exact hw) ?_
      try dsimp only
      refine LX.pure (Y.move rfl) rfl rfl rfl <| LX.pure (Y.extract rfl rfl) rfl rfl rfl <| LX.pure (Y.extract rfl rfl) rfl rfl rfl <| LX.pure (Y.assign rfl) rfl rfl rfl <| LX.pure (Y.assign rfl) rfl rfl rfl <| LX.sub (l' := [(0, _), (3, _), (4, _), (6, _), (7, _), (12, _)]) ⟨rfl, rfl, rfl, rfl, rfl, rfl, trivial⟩ <| LX.next <| PX.thenN <| CX.region <| LX.pure (Y.move rfl) rfl rfl rfl <| LX.pure (Y.move rfl) rfl rfl rfl <| LX.pure (Y.move rfl) rfl rfl rfl <| LX.pure (Y.move rfl) rfl rfl rfl <| LX.pure (Y.move rfl) rfl rfl rfl <| LX.pure (Y.move rfl) rfl rfl rfl <| LX.pure (Y.move rfl) rfl rfl rfl ?_
      rw [Go.Pa.bnd_assoc] at hr
      obtain ⟨hlen, hr⟩ := Go.Pa.node_bnd hr
      try dsimp only at hr
      refine LX.call (node_c (s := s5) (m := m1) (5) t.pos nm none 0 0 [] hlen) Pe.en15 rfl rfl rfl rfl rfl ?_
      intro q
      refine LX.buildSlice (e := 3) (size := 1) rfl rfl (fun _ => by kernel_rfl) rfl (by decide) rfl rfl rfl ?_
      intro gK
      have hndA : NdsR 3 (m1.put q 5 t.pos nm (.slice none 0 0) (m1.rs)).rs (m1.put q 5 t.pos nm (.slice none 0 0) (m1.rs)).cells (s5.nod 5 t.pos nm []).out := put_nil (op := 5) (pos := t.pos) (x := nm) hnd5 (by unfold Go.SX.inI; omega) hin2
      rw [Go.Pa.bnd_assoc] at hr
      obtain ⟨hlen2, hr⟩ := Go.Pa.node_bnd hr
      obtain ⟨hlg, hr⟩ := Go.Pa.grow_bnd hr
      try dsimp only at hr
      refine LX.world (W' := WA w0 base (PBl bp al L cl (s5.nod 5 t.pos nm []) (m1.put q 5 t.pos nm (.slice none 0 0) (m1.rs)) :: ROl (s5.nod 5 t.pos nm []) (m1.put q 5 t.pos nm (.slice none 0 0) (m1.rs)) :: .row (some gK) 1 1 3 1 ([(s5.out.length : Int)].map iv) :: ((m1.put q 5 t.pos nm (.slice none 0 0) (m1.rs)).rs ++ (.row g c l.length 3 1 (l.map iv) :: fr)))) (fun w hw => (show WA w0 base (.row (some gK) 1 1 3 1 ([(s5.out.length : Int)].map iv) :: PWl bp al L cl (s5.nod 5 t.pos nm []) (m1.put q 5 t.pos nm (.slice none 0 0) (m1.rs)) (.row g c l.length 3 1 (l.map iv) :: fr)) w from hw).perm (by (refine perm_cnt fun x => ?_; simp only [PWl, PBl, ROl, z1, z2, z3, z4, z5, z6]; omega))) ?_
      refine LX.call (node_c (s := (s5.nod 5 t.pos nm [])) (m := (m1.put q 5 t.pos nm (.slice none 0 0) (m1.rs))) (46) t.pos nm (some ⟨gK, 0, none⟩) 1 1 [(s5.out.length : Int)] hlen2) Pe.en15 rfl rfl rfl rfl rfl ?_
      intro q2
      refine LX.world (W' := fun w => NdsR 3 (((m1.put q 5 t.pos nm (.slice none 0 0) (m1.rs)).put q2 46 t.pos nm (rv (some gK) 1 1) (.row (some gK) 1 1 3 1 ([(s5.out.length : Int)].map iv) :: m1.rs))).rs (((m1.put q 5 t.pos nm (.slice none 0 0) (m1.rs)).put q2 46 t.pos nm (rv (some gK) 1 1) (.row (some gK) 1 1 3 1 ([(s5.out.length : Int)].map iv) :: m1.rs))).cells (((s5.nod 5 t.pos nm []).nod 46 t.pos nm [(s5.out.length : Int)])).out ∧ WA w0 base (PWl bp al L cl ((s5.nod 5 t.pos nm []).nod 46 t.pos nm [(s5.out.length : Int)]) ((m1.put q 5 t.pos nm (.slice none 0 0) (m1.rs)).put q2 46 t.pos nm (rv (some gK) 1 1) (.row (some gK) 1 1 3 1 ([(s5.out.length : Int)].map iv) :: m1.rs)) (.row g c l.length 3 1 (l.map iv) :: fr)) w) (fun w hw5 => ⟨put_nds (op := 46) (pos := t.pos) (x := nm) hndA hw5 (i := 2) (ks := [(s5.out.length : Int)]) rfl (fun z hz => by cases List.mem_singleton.1 hz; exact (gI.len hlen).inI) (by simp) (by unfold Go.SX.inI; omega) hin2, hw5⟩) <| LX.have fun hndB => LX.buildSlice (e := 3) (size := 1) rfl rfl (fun _ => by kernel_rfl) rfl (by decide) rfl rfl rfl ?_
      intro gT
      refine LX.world (W' := WA w0 base (.row (some gT) 1 1 3 1 [.int .i64 ((s5.nod 5 t.pos nm []).out.length : Int)] :: .row g c l.length 3 1 (l.map iv) :: PWl bp al L cl ((s5.nod 5 t.pos nm []).nod 46 t.pos nm [(s5.out.length : Int)]) ((m1.put q 5 t.pos nm (.slice none 0 0) (m1.rs)).put q2 46 t.pos nm (rv (some gK) 1 1) (.row (some gK) 1 1 3 1 ([(s5.out.length : Int)].map iv) :: m1.rs)) fr)) (fun w hw => (show WA w0 base (.row (some gT) 1 1 3 1 [.int .i64 ((s5.nod 5 t.pos nm []).out.length : Int)] :: PWl bp al L cl ((s5.nod 5 t.pos nm []).nod 46 t.pos nm [(s5.out.length : Int)]) ((m1.put q 5 t.pos nm (.slice none 0 0) (m1.rs)).put q2 46 t.pos nm (rv (some gK) 1 1) (.row (some gK) 1 1 3 1 ([(s5.out.length : Int)].map iv) :: m1.rs)) (.row g c l.length 3 1 (l.map iv) :: fr)) w from hw).perm (by (refine perm_cnt fun x => ?_; simp only [PWl, PBl, ROl, z1, z2, z3, z4, z5, z6]; omega))) ?_
      refine LX.appendT 0 (g := g) (k := l.length) Pk.el29 rfl rfl rfl rfl rfl rfl rfl (by omega) (by omega) rfl rfl rfl ?_
      intro g' cap'
      rw [show l.length + 1 = (l ++ [((s5.nod 5 t.pos nm []).out.length : Int)]).length by simp]
      refine LX.world (W' := WA w0 base (PWl bp al L cl ((s5.nod 5 t.pos nm []).nod 46 t.pos nm [(s5.out.length : Int)]) ((m1.put q 5 t.pos nm (.slice none 0 0) (m1.rs)).put q2 46 t.pos nm (rv (some gK) 1 1) (.row (some gK) 1 1 3 1 ([(s5.out.length : Int)].map iv) :: m1.rs)) (.row g' cap' (l ++ [((s5.nod 5 t.pos nm []).out.length : Int)]).length 3 1 ((l ++ [((s5.nod 5 t.pos nm []).out.length : Int)]).map iv) :: fr))) (fun w hw => ?_) ?_
      · have h1 : WA w0 base (.row g' cap' (l ++ [((s5.nod 5 t.pos nm []).out.length : Int)]).length 3 1 ((l ++ [((s5.nod 5 t.pos nm []).out.length : Int)]).map iv) :: PWl bp al L cl ((s5.nod 5 t.pos nm []).nod 46 t.pos nm [(s5.out.length : Int)]) ((m1.put q 5 t.pos nm (.slice none 0 0) (m1.rs)).put q2 46 t.pos nm (rv (some gK) 1 1) (.row (some gK) 1 1 3 1 ([(s5.out.length : Int)].map iv) :: m1.rs)) fr) w := by rw [← iv_snoc]; exact hw
        exact h1.perm (by (refine perm_cnt fun x => ?_; simp only [PWl, PBl, ROl, z1, z2, z3, z4, z5, z6]; omega))
      refine LX.pure (Y.assign rfl) rfl rfl rfl <| LX.sub (l' := [(0, _), (3, _), (4, _), (6, _)]) ⟨rfl, rfl, rfl, rfl, trivial⟩ <| LX.next <| PX.blockN ?_
      exact PX.again (μ := fun z => z.2.2.2.2) (i := (l, (g, c), s1, m1, j + 1)) ((l ++ [((s5.nod 5 t.pos nm []).out.length : Int)]), (g', cap'), ((s5.nod 5 t.pos nm []).nod 46 t.pos nm [(s5.out.length : Int)]), ((m1.put q 5 t.pos nm (.slice none 0 0) (m1.rs)).put q2 46 t.pos nm (rv (some gK) 1 1) (.row (some gK) 1 1 3 1 ([(s5.out.length : Int)].map iv) :: m1.rs)), j) (by show j < j + 1; omega) ⟨rfl, rfl, rfl, rfl, trivial⟩ (fun w hw => ⟨⟨⟨hr, by show j ≤ n; omega⟩, hndB, gI_snoc hg (gI.len hlen2), by show (l ++ [((s5.nod 5 t.pos nm []).out.length : Int)]).length ≤ 1000002; simp only [List.length_append, List.length_cons, List.length_nil]; omega⟩, hw⟩)
    try simp at hb1
    rw [show isB t1 [[44]] = false from hb1]
    replace hr := hF hb1
    refine CX.world (W' := WA w0 base (PWl bp al L cl s1 m1 (.row g c l.length 3 1 (l.map iv) :: fr))) (fun w hw => hw) ?_
    rw [if_neg Bool.false_ne_true] at hr
    replace hr := Go.Pa.ret_bnd hr
    refine CX.exit <| PX.thenE <| PX.thenE <| PX.blockE ?_
    exact PX.seam (l, (g, c), s1, m1) ⟨rfl, rfl, rfl, rfl, trivial⟩ (fun w hw => ⟨⟨hr, hnd1, hg, hlm⟩, hw⟩)
  clear hr
  rintro ⟨l, ⟨g, c⟩, s3, m3⟩
  refine CX.have fun ⟨hr, hnd3, hg, hlm⟩ => ?_
  replace hlm : l.length ≤ 1000002 := hlm
  replace hg : ∀ x ∈ l, gI x := hg
  try dsimp only at hr ⊢
  refine CX.seq <| CX.seq <| CX.region <| LX.pure (Y.move rfl) rfl rfl rfl <| LX.pure (Y.lenSl rfl Pb.un29 rfl) rfl rfl rfl <| LX.pure (Y.eqN rfl rfl) rfl rfl rfl <| LX.sub (l' := [(0, _), (3, _), (4, _), (6, _), (103, _)]) ⟨rfl, rfl, rfl, rfl, rfl, trivial⟩ <| LX.next <| PX.thenN ?_
  refine CX.cond rfl (fun hb7 => ?_) (fun hb7 => ?_)
  · try simp at hb7
    have hl0 : l = [] := by simpa using hb7
    rw [if_pos hl0] at hr
    obtain ⟨t, ht, hrs⟩ := bad_some hr
    refine CX.region <| LX.pure (Y.move rfl) rfl rfl rfl ?_
    refine LX.callP (bad_p hS hL hln ht) Pd.en23 rfl rfl rfl rfl rfl (fun ax => fun _ w ha hw => ⟨ha.defs, .inr ⟨(t.pos, false, ax), rfl, hrs, hw.drop (.cons_cons _ (.cons _ ((List.sublist_cons_self _ _).trans (List.sublist_append_right _ _))))⟩⟩) (fun x => x.elim)
  try simp at hb7
  rw [if_neg (by simpa using hb7)] at hr
  refine CX.skip <| PX.thenN <| CX.seq <| CX.region <| LX.pure (Y.move rfl) rfl rfl rfl ?_
  obtain ⟨r9, e9, hok9, hst9⟩ := Go.Pa.bnd_some hr
  refine LX.callP (must_p hS hL hln [41] e9) Pf.en41 rfl rfl rfl rfl rfl (fun y => fun _ w ha hw => ⟨ha.defs, .inr ⟨y, rfl, hst9 _ _ hw.1, hw.2.drop (.cons_cons _ (.cons _ ((List.sublist_cons_self _ _).trans (List.sublist_append_right _ _))))⟩⟩) ?_
  rintro ⟨p9, s9⟩
  refine LX.have fun ⟨hr9, hou9, hp9⟩ => ?_
  replace hou9 : s9.out = s3.out := hou9
  have hnd9 : NdsR 3 m3.rs m3.cells s9.out := by rw [hou9]; exact hnd3
  replace hr := hok9 _ _ hr9
  refine LX.world (W' := WA w0 base (PWl bp al L cl s9 m3 (.row g c l.length 3 1 (l.map iv) :: fr))) (fun w hw => by show WA w0 base (PBl bp al L cl s9 m3 :: .row m3.g m3.c s9.out.length 31 5 m3.cells :: (m3.rs ++ (.row g c l.length 3 1 (l.map iv) :: fr))) w; rw [hou9]; exact hw) ?_
  try dsimp only
  obtain ⟨a9, o9, d9, f9, g9⟩ := s9
  obtain ⟨d, hd, hdl, hr⟩ := Go.Pa.outn_bnd hr
  obtain rfl : d9 = d + 1 := hd
  try dsimp only
  refine LX.sub (l' := [(0, _), (3, _), (4, _), (6, _)]) ⟨rfl, rfl, rfl, rfl, trivial⟩ <| LX.next <| PX.thenN <| CX.seq <| CX.region <| LX.pure (Y.move rfl) rfl rfl rfl <| LX.pure (Y.nilCheck rfl) rfl rfl rfl <| LX.pure (Y.fieldAddr0 Pd.fo41_3 rfl) rfl rfl rfl <| LX.pure (Y.ldB 0 Pa.one3 rfl rfl rfl) rfl rfl rfl <| LX.pure (Y.subN rfl rfl (by (simp only []; omega)) (by (simp only []; omega))) rfl rfl rfl <| LX.pure (Y.nilCheck rfl) rfl rfl rfl <| LX.pure (Y.fieldAddr0 Pd.fo41_3 rfl) rfl rfl rfl <| LX.storeB 0 Pb.sz3 rfl rfl rfl rfl rfl rfl rfl rfl <| LX.sub (l' := [(0, _), (3, _), (4, _), (6, _)]) ⟨rfl, rfl, rfl, rfl, trivial⟩ <| LX.next <| PX.thenN <| CX.seq <| CX.region <| LX.pure (Y.move rfl) rfl rfl rfl <| LX.pure (Y.move rfl) rfl rfl rfl <| LX.pure (Y.move rfl) rfl rfl rfl <| LX.pure (Y.move rfl) rfl rfl rfl ?_
  obtain ⟨hlen, hre⟩ := Go.Pa.node_end hr
  refine LX.call (node_c (s := (⟨a9, o9, d, f9, g9⟩ : Go.Pa.St)) (m := m3) (42) pos xm (g.map fun b => ⟨b, 0, none⟩) l.length c l hlen) Pe.en15 rfl rfl rfl rfl rfl ?_
  intro q
  refine LX.pure (Y.assign rfl) rfl rfl rfl <| LX.sub (l' := [(2, _)]) ⟨rfl, trivial⟩ <| LX.next <| PX.thenN <| CX.ret <| PX.ret1 (by simp) Tryd.results47 rfl ?_
  exact fun w hw0 => by
    have hw := (show WA w0 base (PBl bp al L cl ((⟨a9, o9, d, f9, g9⟩ : Go.Pa.St).nod 42 pos xm l) (m3.put q 42 pos xm (rv g l.length c) (m3.rs)) :: ROl ((⟨a9, o9, d, f9, g9⟩ : Go.Pa.St).nod 42 pos xm l) (m3.put q 42 pos xm (rv g l.length c) (m3.rs)) :: (m3.rs ++ (.row g c l.length 3 1 (l.map iv) :: fr))) w from hw0).perm (show List.Perm (PBl bp al L cl ((⟨a9, o9, d, f9, g9⟩ : Go.Pa.St).nod 42 pos xm l) (m3.put q 42 pos xm (rv g l.length c) (m3.rs)) :: ROl ((⟨a9, o9, d, f9, g9⟩ : Go.Pa.St).nod 42 pos xm l) (m3.put q 42 pos xm (rv g l.length c) (m3.rs)) :: .row g c l.length 3 1 (l.map iv) :: (m3.rs ++ fr)) _ by (refine perm_cnt fun x => ?_; simp only [PWl, PBl, ROl, z1, z2, z3, z4, z5, z6]; omega))
    exact .inl ⟨(((⟨a9, o9, d, f9, g9⟩ : Go.Pa.St).out.length : Int), ((⟨a9, o9, d, f9, g9⟩ : Go.Pa.St).nod 42 pos xm l), (m3.put q 42 pos xm (rv g l.length c) (.row g c l.length 3 1 (l.map iv) :: m3.rs))), rfl, ⟨hre, put_nds (op := 42) (pos := pos) (x := xm) hnd9 hw (i := 2) (ks := l) rfl (fun z hz => (hg z hz).inI) (by omega) (by unfold Go.SX.inI; omega) hp0, gI.len hlen⟩, hw⟩
end Go.Proofs.YtfbenelagdcdgaaDoor

namespace Go.Proofs.YtfbenelagdcdgaaDoor
open Go.SX Go.RowKit Go.Tr Go.Lex
namespace Qa_
theorem en14 : Enters Tryd.prog 14 := Enters.of Tryd.func14 (by kernel_rfl) (by kernel_rfl)
end Qa_
open Go.Proofs.YtfbenelagdcdgaaDoor.Env (EnvS errV sentG)
open Go.Pa (Tk Rs bnd ret isB is_ adv bad take must kinds inn outn node nodeAt setPos)
open Go.Ck (NdsR)
theorem block_p {w0 : World} {base : Nat} {aE : Nat → Addr} (hS : EnvS w0 base aE) {bp : Nat} {al : Option Addr} {cl : Nat} {L : List Tk} (hL : SlAt 3 tokA (Lies w0 base) al L) (hln : L.length ≤ 1099511627776) (n : Nat) (hStm : ∀ wh, ∀ j, j ≤ n → FS w0 base aE al cl L bp 14 #[.pointer (some ⟨bp, 0, none⟩), .bool wh] (fun z : Int => .int .i64 z) gI (.statement wh) j) (hSimp : ∀ wh, ∀ j, j ≤ n → FS w0 base aE al cl L bp 25 #[.pointer (some ⟨bp, 0, none⟩), .bool wh] (fun z : Int => .int .i64 z) gI (.simple wh) j) : FI w0 base aE al cl L bp 38 (.block) (n + 1) := by
  intro s m fr r hr hnd
  change (bnd (must L [58]) fun p1 => bnd (inn p1) fun _ => bnd (Go.Pa.tok L) fun t => bnd (if t.kind = 5 then bnd adv fun _ => bnd (kinds L 6) fun _ => bnd (Go.Pa.run L nameB n (.blockGo [])) fun l => bnd adv fun _ => ret l else bnd (Go.Pa.run L nameB n (.simple false)) fun k => bnd (kinds L 5) fun _ => ret [k]) (fun l => bnd outn fun _ => bnd (nodeAt (l.headD 0)) fun x => node 47 x.pos [] l)) s = some r at hr
  refine FnP.of_body (fn := Tryd.f38) [(0, _)] Tryd.func38 rfl Tryd.ntmps38 rfl ⟨rfl, trivial⟩ ?_
  refine CX.seq <| CX.region <| LX.pure (Y.assign rfl) rfl rfl rfl <| LX.sub (l' := [(0, _), (2, _)]) ⟨rfl, rfl, trivial⟩ <| LX.next <| PX.thenN <| CX.seq <| CX.region <| LX.pure (Y.move rfl) rfl rfl rfl <| LX.pure (Y.move rfl) rfl rfl rfl ?_
  obtain ⟨r0, e0, hok0, hst0⟩ := Go.Pa.bnd_some hr
  refine LX.callP (must_p hS hL hln [58] e0) Pf.en41 rfl rfl rfl rfl rfl (fun y => fun _ w ha hw => ⟨ha.defs, .inr ⟨y, rfl, hst0 _ _ hw.1, hw.2.drop (.cons_cons _ (.cons _ (List.sublist_append_right _ _)))⟩⟩) ?_
  rintro ⟨p0, s0⟩
  refine LX.have fun ⟨hr0, hou0, hp0⟩ => ?_
  replace hou0 : s0.out = s.out := hou0
  have hnd0 : NdsR 3 m.rs m.cells s0.out := by rw [hou0]; exact hnd
  replace hr := hok0 _ _ hr0
  refine LX.world (W' := WA w0 base (PWl bp al L cl s0 m fr)) (fun w hw => by show WA w0 base (PBl bp al L cl s0 m :: .row m.g m.c s0.out.length 31 5 m.cells :: (m.rs ++ fr)) w; rw [hou0]; exact hw) ?_
  try dsimp only
  obtain ⟨ra, ea, hoka, hsta⟩ := Go.Pa.bnd_some hr
  refine LX.callP (in_p hS hL hln p0 ea) Pf.en39 rfl rfl rfl rfl rfl (fun y => fun _ w ha hw => ⟨ha.defs, .inr ⟨y, rfl, hsta _ _ hw.1, hw.2.drop (.cons_cons _ (.cons _ (List.sublist_append_right _ _)))⟩⟩) ?_
  rintro ⟨_, sa⟩
  refine LX.have fun ⟨hra, houa, _⟩ => ?_
  replace houa : sa.out = s0.out := houa
  have hnda : NdsR 3 m.rs m.cells sa.out := by rw [houa]; exact hnd0
  replace hr := hoka _ _ hra
  refine LX.world (W' := WA w0 base (PWl bp al L cl sa m fr)) (fun w hw => by show WA w0 base (PBl bp al L cl sa m :: .row m.g m.c sa.out.length 31 5 m.cells :: (m.rs ++ fr)) w; rw [houa]; exact hw) ?_
  try dsimp only
  refine LX.sub (l' := [(0, _), (2, _)]) ⟨rfl, rfl, trivial⟩ <| LX.next <| PX.thenN <| CX.seq <| CX.region <| LX.pure (Y.assign rfl) rfl rfl rfl <| LX.sub (l' := [(0, _), (2, _), (3, _)]) ⟨rfl, rfl, rfl, trivial⟩ <| LX.next <| PX.thenN ?_
  refine CX.seqM (fun z : List Int × (Option Nat × Nat) × Go.Pa.St × Mm => [(0, .pointer (some ⟨bp, 0, none⟩)), (3, rv z.2.1.1 z.1.length z.2.1.2)]) (fun (z : List Int × (Option Nat × Nat) × Go.Pa.St × Mm) w => ((bnd outn fun _ => bnd (nodeAt (z.1.headD 0)) fun x => node 47 x.pos [] z.1) z.2.2.1 = some r ∧ NdsR 3 z.2.2.2.rs z.2.2.2.cells z.2.2.1.out ∧ z.1 ≠ [] ∧ (∀ x ∈ z.1, gI x) ∧ z.1.length ≤ 1000002) ∧ WA w0 base (PWl bp al L cl z.2.2.1 z.2.2.2 (.row z.2.1.1 z.2.1.2 z.1.length 3 1 (z.1.map iv) :: fr)) w) ?_ ?_
  ·
    refine CX.seq <| CX.region <| LX.pure (Y.move rfl) rfl rfl rfl ?_
    obtain ⟨t, ht, hr⟩ := Go.Pa.tok_bnd hr
    have hj : sa.at_ < L.length := (List.getElem?_eq_some_iff.1 ht).1
    refine LX.callQ (kind_q ht (fun w hw => blkL hw (i := 0) rfl) (fun w hw => hL.push hw)) Pa.en13 rfl rfl rfl rfl rfl <| LX.pure (Y.eqI rfl rfl) rfl rfl rfl <| LX.sub (l' := [(0, _), (2, _), (3, _), (10, _)]) ⟨rfl, rfl, rfl, rfl, trivial⟩ <| LX.next <| PX.thenN ?_
    refine CX.cond rfl (fun hb1 => ?_) (fun hb1 => ?_)
    · try simp at hb1
      rw [if_pos hb1, Go.Pa.bnd_assoc] at hr
      replace hr := Go.Pa.adv_bnd hr
      try dsimp only at hr
      rw [Go.Pa.bnd_assoc] at hr
      refine CX.seq <| CX.region <| LX.pure (Y.move rfl) rfl rfl rfl <| LX.pure (Y.nilCheck rfl) rfl rfl rfl <| LX.pure (Y.fieldAddr0 Pa.fo41_1 rfl) rfl rfl rfl <| LX.pure (Y.ldB 0 Pa.one3 rfl rfl rfl) rfl rfl rfl <| LX.pure (Y.addN rfl rfl (by (simp only []; omega))) rfl rfl rfl <| LX.pure (Y.nilCheck rfl) rfl rfl rfl <| LX.pure (Y.fieldAddr0 Pa.fo41_1 rfl) rfl rfl rfl <| LX.storeB 0 Pb.sz3 rfl rfl rfl rfl rfl rfl rfl rfl <| LX.sub (l' := [(0, _), (2, _), (3, _)]) ⟨rfl, rfl, rfl, trivial⟩ <| LX.next <| PX.thenN <| CX.seq <| CX.region <| LX.pure (Y.move rfl) rfl rfl rfl ?_
      obtain ⟨r3, e3, hok3, hst3⟩ := Go.Pa.bnd_some hr
      refine LX.callP (kinds_p hS hL hln 6 e3) Ph.en26 rfl rfl rfl rfl rfl (fun y => fun _ w ha hw => ⟨ha.defs, .inr ⟨y, rfl, hst3 _ _ hw.1, hw.2.drop (.cons_cons _ (.cons _ (List.sublist_append_right _ _)))⟩⟩) ?_
      rintro ⟨⟨x3, y3⟩, s3⟩
      refine LX.have fun ⟨hr3, hou3, hp3⟩ => ?_
      replace hou3 : s3.out = sa.adv.out := hou3
      have hnd3 : NdsR 3 m.rs m.cells s3.out := by rw [hou3]; exact hnda
      replace hr := hok3 _ _ hr3
      refine LX.world (W' := WA w0 base (PWl bp al L cl s3 m fr)) (fun w hw => by show WA w0 base (PBl bp al L cl s3 m :: .row m.g m.c s3.out.length 31 5 m.cells :: (m.rs ++ fr)) w; rw [hou3]; exact hw) ?_
      try dsimp only
      rw [Go.Pa.bnd_assoc] at hr
      refine LX.sub (l' := [(0, _), (2, _), (3, _)]) ⟨rfl, rfl, rfl, trivial⟩ <| LX.next <| PX.thenN <| CX.seq <| CX.block ?_
      refine CX.loop (fun z : List Int × (Option Nat × Nat) × Go.Pa.St × Mm × Nat => [(0, .pointer (some ⟨bp, 0, none⟩)), (3, rv z.2.1.1 z.1.length z.2.1.2)]) (fun (z : List Int × (Option Nat × Nat) × Go.Pa.St × Mm × Nat) w => (((bnd (Go.Pa.run L nameB z.2.2.2.2 (.blockGo z.1)) (fun l => bnd adv fun _ => bnd outn fun _ => bnd (nodeAt (l.headD 0)) fun x => node 47 x.pos [] l)) z.2.2.1 = some r ∧ z.2.2.2.2 ≤ n) ∧ NdsR 3 z.2.2.2.1.rs z.2.2.2.1.cells z.2.2.1.out ∧ (∀ x ∈ z.1, gI x) ∧ z.1.length ≤ 1000002) ∧ WA w0 base (PWl bp al L cl z.2.2.1 z.2.2.2.1 (.row z.2.1.1 z.2.1.2 z.1.length 3 1 (z.1.map iv) :: fr)) w) (fun z => z.2.2.2.2) ([], (none, 0), s3, m, n) ⟨rfl, rfl, trivial⟩ (fun w hw => ⟨⟨⟨hr, Nat.le_refl _⟩, hnd3, (fun z hz => by cases hz), by simp⟩, by
        have h1 := (show WA w0 base (PWl bp al L cl s3 m fr) w from hw).nilRow 3 1
        exact (show WA w0 base (.row none 0 ([] : List Int).length 3 1 (([] : List Int).map iv) :: PWl bp al L cl s3 m fr) w from h1).perm (show List.Perm (PWl bp al L cl s3 m (.row none 0 ([] : List Int).length 3 1 (([] : List Int).map iv) :: fr)) (.row none 0 ([] : List Int).length 3 1 (([] : List Int).map iv) :: PWl bp al L cl s3 m fr) by (refine perm_cnt fun x => ?_; simp only [PWl, PBl, ROl, z1, z2, z3, z4, z5, z6]; omega))⟩) ?_
      clear hr
      rintro ⟨l, ⟨g, c⟩, s1, m1, j⟩
      refine CX.have fun ⟨⟨hr, hjn⟩, hnd1, hg, hlm⟩ => ?_
      replace hlm : l.length ≤ 1000002 := hlm
      replace hr : (bnd (Go.Pa.run L nameB j (.blockGo l)) (fun l => bnd adv fun _ => bnd outn fun _ => bnd (nodeAt (l.headD 0)) fun x => node 47 x.pos [] l)) s1 = some r := hr
      replace hjn : j ≤ n := hjn
      replace hnd1 : NdsR 3 m1.rs m1.cells s1.out := hnd1
      replace hg : ∀ x ∈ l, gI x := hg
      try dsimp only
      obtain ⟨j, rfl⟩ : ∃ i, j = i + 1 := by
        cases j with
        | zero => cases hr
        | succ i => exact ⟨i, rfl⟩
      rw [show Go.Pa.run L nameB (j + 1) (.blockGo l) = (bnd (Go.Pa.tok L) fun t => if l = [] ∨ t.kind ≠ 7 then bnd (Go.Pa.run L nameB j (.statement false)) fun k => Go.Pa.grow l (Go.Pa.run L nameB j (.blockGo (l ++ [k]))) else ret l) from rfl, Go.Pa.bnd_assoc] at hr
      obtain ⟨t1, ht1, hr⟩ := Go.Pa.tok_bnd hr
      have hj1 : s1.at_ < L.length := (List.getElem?_eq_some_iff.1 ht1).1
      refine CX.seq <| CX.seq <| CX.region <| LX.pure (Y.move rfl) rfl rfl rfl <| LX.pure (Y.lenSl rfl Pb.un29 rfl) rfl rfl rfl <| LX.pure (Y.eqN rfl rfl) rfl rfl rfl <| LX.pure (Y.move rfl) rfl rfl rfl <| LX.sub (l' := [(0, _), (3, _), (23, _)]) ⟨rfl, rfl, rfl, trivial⟩ ?_
      apply LX.joinOr 4 27 23 rfl
      · intro hb2
        have hb2p := hb2
        try simp at hb2p
        refine LX.gF rfl rfl rfl hb2 rfl rfl <| LX.gF rfl rfl rfl hb2 rfl rfl <| LX.gF rfl rfl rfl hb2 rfl rfl <| LX.pure (Y.pickT rfl hb2 rfl) rfl rfl rfl ?_
        exact LX.left ⟨rfl, rfl, rfl, rfl, trivial⟩
      · intro hb2
        have hb2p := hb2
        try simp at hb2p
        refine LX.gT rfl rfl rfl hb2 (Y.move rfl) rfl rfl <| LX.callQT rfl rfl rfl hb2 (kind_q ht1 (fun w hw => blkL hw (i := 0) rfl) (fun w hw => hL.push hw)) Pa.en13 rfl rfl rfl rfl <| LX.gT rfl rfl rfl hb2 (Y.neI rfl rfl) rfl rfl <| LX.pure (Y.pickF rfl hb2 rfl) rfl rfl rfl ?_
        exact LX.left ⟨rfl, rfl, rfl, rfl, trivial⟩
      refine LX.sub (l' := [(0, _), (3, _), (27, _)]) ⟨rfl, rfl, rfl, trivial⟩ <| LX.next <| PX.thenN ?_
      refine CX.cond rfl (fun hb3 => ?_) (fun hb3 => ?_)
      · try simp at hb3
        rw [if_pos (by simpa using hb3), Go.Pa.bnd_assoc] at hr
        refine CX.skip <| PX.thenN <| CX.block <| CX.region <| LX.pure (Y.move rfl) rfl rfl rfl <| LX.pure (Y.move rfl) rfl rfl rfl ?_
        obtain ⟨r2, e2, hok2, hst2⟩ := Go.Pa.bnd_some hr
        refine LX.callP ((hStm false) j (by omega) s1 m1 ((.row g c l.length 3 1 (l.map iv) :: fr)) r2 e2 hnd1) Qa_.en14 rfl rfl rfl rfl rfl (fun y => fun _ w ha hw => ⟨ha.defs, .inr ⟨y, rfl, hst2 _ _ hw.1, hw.2.drop (.cons_cons _ (List.sublist_cons_self _ _))⟩⟩) ?_
        rintro ⟨k2, s2, m2⟩
        refine LX.have fun ⟨hr2, hnd2, hk2⟩ => ?_
        replace hr := hok2 _ _ hr2
        try dsimp only
        obtain ⟨hlg, hr⟩ := Go.Pa.grow_bnd hr
        refine LX.buildSlice (e := 3) (size := 1) rfl rfl (fun _ => by kernel_rfl) rfl (by decide) rfl rfl rfl ?_
        intro gT
        refine LX.world (W' := WA w0 base (.row (some gT) 1 1 3 1 [.int .i64 k2] :: .row g c l.length 3 1 (l.map iv) :: PWl bp al L cl s2 m2 fr)) (fun w hw => (show WA w0 base (.row (some gT) 1 1 3 1 [.int .i64 k2] :: PWl bp al L cl s2 m2 (.row g c l.length 3 1 (l.map iv) :: fr)) w from hw).perm (by (refine perm_cnt fun x => ?_; simp only [PWl, PBl, ROl, z1, z2, z3, z4, z5, z6]; omega))) ?_
        refine LX.appendT 0 (g := g) (k := l.length) Pk.el29 rfl rfl rfl rfl rfl rfl rfl (by omega) (by omega) rfl rfl rfl ?_
        intro g' cap'
        rw [show l.length + 1 = (l ++ [k2]).length by simp]
        refine LX.world (W' := WA w0 base (PWl bp al L cl s2 m2 (.row g' cap' (l ++ [k2]).length 3 1 ((l ++ [k2]).map iv) :: fr))) (fun w hw => ?_) ?_
        · have h1 : WA w0 base (.row g' cap' (l ++ [k2]).length 3 1 ((l ++ [k2]).map iv) :: PWl bp al L cl s2 m2 fr) w := by rw [← iv_snoc]; exact hw
          exact h1.perm (by (refine perm_cnt fun x => ?_; simp only [PWl, PBl, ROl, z1, z2, z3, z4, z5, z6]; omega))
        refine LX.pure (Y.assign rfl) rfl rfl rfl <| LX.sub (l' := [(0, _), (3, _)]) ⟨rfl, rfl, trivial⟩ <| LX.next <| PX.blockN ?_
        exact PX.again (μ := fun z => z.2.2.2.2) (i := (l, (g, c), s1, m1, j + 1)) ((l ++ [k2]), (g', cap'), s2, m2, j) (by show j < j + 1; omega) ⟨rfl, rfl, trivial⟩ (fun w hw => ⟨⟨⟨hr, by show j ≤ n; omega⟩, hnd2, gI_snoc hg hk2, by show (l ++ [k2]).length ≤ 1000002; simp only [List.length_append, List.length_cons, List.length_nil]; omega⟩, hw⟩)
      try simp at hb3
      have hl0 : l ≠ [] := hb3.1
      rw [if_neg (by simpa using hb3)] at hr
      replace hr := Go.Pa.ret_bnd hr
      replace hr := Go.Pa.adv_bnd hr
      refine CX.exit <| PX.thenE <| PX.thenE <| PX.blockE <| PX.thenN <| CX.region <| LX.pure (Y.move rfl) rfl rfl rfl <| LX.pure (Y.nilCheck rfl) rfl rfl rfl <| LX.pure (Y.fieldAddr0 Pa.fo41_1 rfl) rfl rfl rfl <| LX.pure (Y.ldB 0 Pa.one3 rfl rfl rfl) rfl rfl rfl <| LX.pure (Y.addN rfl rfl (by (simp only []; omega))) rfl rfl rfl <| LX.pure (Y.nilCheck rfl) rfl rfl rfl <| LX.pure (Y.fieldAddr0 Pa.fo41_1 rfl) rfl rfl rfl <| LX.storeB 0 Pb.sz3 rfl rfl rfl rfl rfl rfl rfl rfl <| LX.sub (l' := [(0, _), (3, _)]) ⟨rfl, rfl, trivial⟩ <| LX.next ?_
      exact PX.seam (l, (g, c), s1.adv, m1) ⟨rfl, rfl, trivial⟩ (fun w hw => ⟨⟨hr, hnd1, hl0, hg, hlm⟩, hw⟩)
    try simp at hb1
    rw [if_neg hb1, Go.Pa.bnd_assoc] at hr
    refine CX.seq <| CX.region <| LX.pure (Y.move rfl) rfl rfl rfl ?_
    obtain ⟨r5, e5, hok5, hst5⟩ := Go.Pa.bnd_some hr
    refine LX.callP ((hSimp false) n (Nat.le_refl _) sa m (fr) r5 e5 hnda) Py_.en25 rfl rfl rfl rfl rfl (fun y => fun _ w ha hw => ⟨ha.defs, .inr ⟨y, rfl, hst5 _ _ hw.1, hw.2⟩⟩) ?_
    rintro ⟨k5, s5, m5⟩
    refine LX.have fun ⟨hr5, hnd5, hk5⟩ => ?_
    replace hr := hok5 _ _ hr5
    try dsimp only
    refine LX.buildSlice (e := 3) (size := 1) rfl rfl (fun _ => by kernel_rfl) rfl (by decide) rfl rfl rfl ?_
    intro gL
    refine LX.world (W' := WA w0 base (PWl bp al L cl s5 m5 (.row (some gL) 1 [k5].length 3 1 ([k5].map iv) :: fr))) (fun w hw => (show WA w0 base (.row (some gL) 1 [k5].length 3 1 ([k5].map iv) :: PWl bp al L cl s5 m5 fr) w from hw).perm (by (refine perm_cnt fun x => ?_; simp only [PWl, PBl, ROl, z1, z2, z3, z4, z5, z6]; omega))) ?_
    refine LX.pure (Y.assign rfl) rfl rfl rfl <| LX.sub (l' := [(0, _), (2, _), (3, _)]) ⟨rfl, rfl, rfl, trivial⟩ <| LX.next <| PX.thenN <| CX.region <| LX.pure (Y.move rfl) rfl rfl rfl ?_
    rw [Go.Pa.bnd_assoc] at hr
    obtain ⟨r6, e6, hok6, hst6⟩ := Go.Pa.bnd_some hr
    refine LX.callP (kinds_p hS hL hln 5 e6) Ph.en26 rfl rfl rfl rfl rfl (fun y => fun _ w ha hw => ⟨ha.defs, .inr ⟨y, rfl, hst6 _ _ hw.1, hw.2.drop (.cons_cons _ (.cons _ ((List.sublist_cons_self _ _).trans (List.sublist_append_right _ _))))⟩⟩) ?_
    rintro ⟨⟨x6, y6⟩, s6⟩
    refine LX.have fun ⟨hr6, hou6, hp6⟩ => ?_
    replace hou6 : s6.out = s5.out := hou6
    have hnd6 : NdsR 3 m5.rs m5.cells s6.out := by rw [hou6]; exact hnd5
    replace hr := hok6 _ _ hr6
    refine LX.world (W' := WA w0 base (PWl bp al L cl s6 m5 (.row (some gL) 1 [k5].length 3 1 ([k5].map iv) :: fr))) (fun w hw => by show WA w0 base (PBl bp al L cl s6 m5 :: .row m5.g m5.c s6.out.length 31 5 m5.cells :: (m5.rs ++ (.row (some gL) 1 [k5].length 3 1 ([k5].map iv) :: fr))) w; rw [hou6]; exact hw) ?_
    try dsimp only
    replace hr := Go.Pa.ret_bnd hr
    refine LX.sub (l' := [(0, _), (2, _), (3, _)]) ⟨rfl, rfl, rfl, trivial⟩ <| LX.next ?_
    exact PX.seam ([k5], (some gL, 1), s6, m5) ⟨rfl, rfl, trivial⟩ (fun w hw => ⟨⟨hr, hnd6, by simp, (fun z hz => by cases List.mem_singleton.1 hz; exact hk5), by simp⟩, hw⟩)
  clear hr
  rintro ⟨l, ⟨g, c⟩, s3, m3⟩
  refine CX.have fun ⟨hr, hnd3, hl0, hg, hlm⟩ => ?_
  replace hlm : l.length ≤ 1000002 := hlm
  replace hg : ∀ x ∈ l, gI x := hg
  replace hl0 : l ≠ [] := hl0
  try dsimp only at hr ⊢
  refine CX.seq <| CX.region ?_
  obtain ⟨a3, o3, d3, f3, g3⟩ := s3
  obtain ⟨d, hd, hdl, hr⟩ := Go.Pa.outn_bnd hr
  obtain rfl : d3 = d + 1 := hd
  try dsimp only
  obtain ⟨x, hx0, hx, hr⟩ := Go.Pa.nodeAt_bnd (k := l.headD 0) hr
  obtain ⟨hxl, hxo, hxp, hxi, hxj⟩ := hnd3.cell hx
  refine LX.pure (Y.move rfl) rfl rfl rfl <| LX.pure (Y.nilCheck rfl) rfl rfl rfl <| LX.pure (Y.fieldAddr0 Pd.fo41_3 rfl) rfl rfl rfl <| LX.pure (Y.ldB 0 Pa.one3 rfl rfl rfl) rfl rfl rfl <| LX.pure (Y.subN rfl rfl (by (simp only []; omega)) (by (simp only []; omega))) rfl rfl rfl <| LX.pure (Y.nilCheck rfl) rfl rfl rfl <| LX.pure (Y.fieldAddr0 Pd.fo41_3 rfl) rfl rfl rfl <| LX.storeB 0 Pb.sz3 rfl rfl rfl rfl rfl rfl rfl rfl <| LX.sub (l' := [(0, _), (3, _)]) ⟨rfl, rfl, trivial⟩ <| LX.next <| PX.thenN <| CX.seq <| CX.regionM [(0, .anywhere), (1, .anywhere), (2, .anywhere), (3, .anywhere), (4, .held), (5, .anywhere), (6, .held), (7, .held), (8, .held), (9, .held), (10, .held), (11, .anywhere), (12, .alone), (13, .anywhere)] rfl (by kernel_rfl) <| MX.lift0 (i := 0) rfl (Y.move rfl) rfl rfl rfl <| MX.lift0 (i := 1) rfl (Y.move rfl) rfl rfl rfl <| MX.lift0 (i := 2) rfl (Y.nilCheck rfl) rfl rfl rfl <| MX.lift0 (i := 3) rfl (Y.fieldAddr0 Pd.fo41_2 rfl) rfl rfl rfl <| MX.lift1 (i := 4) (pend' := []) rfl (fun w hw => by exact hw) (Y.ldB 0 Pd.one23 rfl rfl rfl) rfl rfl rfl (by kernel_rfl) <| MX.lift0 (i := 5) rfl (Y.move rfl) rfl rfl rfl <| MX.lift1 (i := 6) (pend' := [4]) rfl (fun w hw => by exact hw) (Y.idxR1M (i := 0) Pb.un29 Pb.sz3 rfl rfl (List.mem_cons_of_mem _ (List.mem_cons_of_mem _ (List.mem_append_right _ (List.mem_cons_self ..)))) (List.length_pos_iff.2 hl0)) rfl rfl rfl (by kernel_rfl) <| MX.lift1 (i := 7) (pend' := [4]) rfl (fun w hw => by exact hw) (Y.ldRM (v := .int .i64 (l.headD 0)) Pa.one3 rfl (List.mem_cons_of_mem _ (List.mem_cons_of_mem _ (List.mem_append_right _ (List.mem_cons_self ..)))) (iv_head hl0)) rfl rfl rfl (by kernel_rfl) <| MX.lift1 (i := 8) (pend' := []) rfl (fun w hw => by exact hw) (Y.idxRZ 1 (i := (l.headD 0).toNat) Pd.un23 Pl.sz31 rfl rfl (Int.toNat_of_nonneg hx0).symm rfl hxl) rfl rfl rfl (by kernel_rfl) <| MX.lift1 (i := 9) (pend' := []) rfl (fun w hw => by exact hw) (Y.fieldAddr Pl.fo31_2 rfl) rfl rfl rfl (by kernel_rfl) <| MX.lift1 (i := 10) (pend' := []) rfl (fun w hw => by exact hw) (Y.ldR 1 (v := .int .i64 x.pos) Pa.one3 rfl rfl hxp) rfl rfl rfl (by kernel_rfl) <| MX.lift0 (i := 11) rfl (Y.move rfl) rfl rfl rfl <| MX.force (i := 12) rfl ?_
  obtain ⟨hlen, hre⟩ := Go.Pa.node_end hr
  refine LX.call (node_c (s := (⟨a3, o3, d, f3, g3⟩ : Go.Pa.St)) (m := m3) (47) x.pos [] (g.map fun b => ⟨b, 0, none⟩) l.length c l hlen) Pe.en15 rfl rfl rfl rfl rfl ?_
  intro q
  refine LX.nextM [] (by kernel_rfl) (fun h => absurd rfl h) <| MX.lift0 (i := 13) rfl (Y.assign rfl) rfl rfl rfl <| MX.sub (l' := [(2, _)]) ⟨rfl, trivial⟩ <| MX.done <| PX.thenN <| CX.ret <| PX.ret1 (by simp) Tryd.results38 rfl ?_
  exact fun w hw0 => by
    have hw := (show WA w0 base (PBl bp al L cl ((⟨a3, o3, d, f3, g3⟩ : Go.Pa.St).nod 47 x.pos [] l) (m3.put q 47 x.pos [] (rv g l.length c) (m3.rs)) :: ROl ((⟨a3, o3, d, f3, g3⟩ : Go.Pa.St).nod 47 x.pos [] l) (m3.put q 47 x.pos [] (rv g l.length c) (m3.rs)) :: (m3.rs ++ (.row g c l.length 3 1 (l.map iv) :: fr))) w from hw0).perm (show List.Perm (PBl bp al L cl ((⟨a3, o3, d, f3, g3⟩ : Go.Pa.St).nod 47 x.pos [] l) (m3.put q 47 x.pos [] (rv g l.length c) (m3.rs)) :: ROl ((⟨a3, o3, d, f3, g3⟩ : Go.Pa.St).nod 47 x.pos [] l) (m3.put q 47 x.pos [] (rv g l.length c) (m3.rs)) :: .row g c l.length 3 1 (l.map iv) :: (m3.rs ++ fr)) _ by (refine perm_cnt fun x => ?_; simp only [PWl, PBl, ROl, z1, z2, z3, z4, z5, z6]; omega))
    exact .inl ⟨(((⟨a3, o3, d, f3, g3⟩ : Go.Pa.St).out.length : Int), ((⟨a3, o3, d, f3, g3⟩ : Go.Pa.St).nod 47 x.pos [] l), (m3.put q 47 x.pos [] (rv g l.length c) (.row g c l.length 3 1 (l.map iv) :: m3.rs))), rfl, ⟨hre, put_nds (op := 47) (pos := x.pos) (x := []) hnd3 hw (i := 2) (ks := l) rfl (fun z hz => (hg z hz).inI) (by omega) (by unfold Go.SX.inI; omega) hxj, gI.len hlen⟩, hw⟩
end Go.Proofs.YtfbenelagdcdgaaDoor
