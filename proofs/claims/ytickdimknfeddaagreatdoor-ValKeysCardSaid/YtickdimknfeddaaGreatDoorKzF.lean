/-
  Proved here: faults; a Def's Params.
-/
import Derived.Test.YtickdimknfeddaaGreatDoorKzC
set_option linter.unusedSimpArgs false
namespace Go.Proofs.YtickdimknfeddaaGreatDoor
open Go.SX Go.RowKit Go.Vo Go.Ky Go.Proofs.YtickdimknfeddaaGreatDoor.Env Go.Tr
namespace Kud
theorem ag48 : AggT Tryz.prog 48 5 := AggT.of (by kernel_rfl) (by kernel_rfl)
theorem zv48 : ∀ w, (zeroValue 48).run Tryz.prog w = .ok (.agg #[.int .i64 0, .bool false, .int .i64 0, .bool false, .string ⟨#[]⟩]) w := fun w => by kernel_rfl
theorem el128 : Elem Tryz.prog 128 9 1 16 := Elem.of Kua.un128 (z := .string ⟨#[]⟩) (by kernel_rfl) rfl
end Kud
theorem gNone_c {w0 : World} {base : Nat} {fr : List It} : FnC Tryz.prog 36 #[] (WA w0 base fr) (fun _ : Unit => .agg #[.int .i64 0, .bool false, .int .i64 0, .bool false, str []]) (fun _ => WA w0 base fr) := by
  refine FnC.of_body (fn := Tryz.f36) [] Tryz.func36 rfl Tryz.ntmps36 rfl trivial ?_
  refine CX.seq <| CX.region <| LX.alloc rfl Kud.zv48 rfl rfl rfl ?_
  intro b0x
  refine LX.sub (l' := [(0, _)]) ⟨rfl, trivial⟩ <| LX.next <| PX.thenN <| CX.seq <| CX.region <| LX.pure (Y.build (v := .agg #[.int .i64 0, .bool false, .int .i64 0, .bool false, str []]) rfl (fun _ => by kernel_rfl)) rfl rfl rfl <| LX.storeA 0 Kud.ag48 rfl rfl rfl rfl rfl rfl rfl rfl rfl <| LX.sub (l' := [(0, _)]) ⟨rfl, trivial⟩ <| LX.next <| PX.thenN <| CX.ret <| PX.retA (i := 0) (by simp) Tryz.results36 Kud.ag48 rfl rfl rfl ?_
  exact fun w hw => ⟨(), rfl, hw.drop (List.sublist_cons_self _ _)⟩
theorem gBare_c {w0 : World} {base : Nat} {fr : List It} (code : Int) : FnC Tryz.prog 32 #[.int .i64 code] (WA w0 base fr) (fun _ : Unit => .agg #[.int .i64 code, .bool false, .int .i64 0, .bool false, str []]) (fun _ => WA w0 base fr) := by
  refine FnC.of_body (fn := Tryz.f32) [(0, _)] Tryz.func32 rfl Tryz.ntmps32 rfl ⟨rfl, trivial⟩ ?_
  refine CX.seq <| CX.region <| LX.alloc rfl Kud.zv48 rfl rfl rfl ?_
  intro b2x
  refine LX.sub (l' := [(0, _), (2, _)]) ⟨rfl, rfl, trivial⟩ <| LX.next <| PX.thenN <| CX.seq <| CX.region <| LX.pure (Y.move rfl) rfl rfl rfl <| LX.pure (Y.build (v := .agg #[.int .i64 code, .bool false, .int .i64 0, .bool false, str []]) rfl (fun _ => by kernel_rfl)) rfl rfl rfl <| LX.storeA 0 Kud.ag48 rfl rfl rfl rfl rfl rfl rfl rfl rfl <| LX.sub (l' := [(2, _)]) ⟨rfl, trivial⟩ <| LX.next <| PX.thenN <| CX.ret <| PX.retA (i := 0) (by simp) Tryz.results32 Kud.ag48 rfl rfl rfl ?_
  exact fun w hw => ⟨(), rfl, hw.drop (List.sublist_cons_self _ _)⟩
theorem gPlaced_c {w0 : World} {base : Nat} {fr : List It} (code pos : Int) (hc : code ≠ 0) : FnC Tryz.prog 33 #[.int .i64 code, .int .i64 pos] (WA w0 base fr) (fun _ : Unit => .agg #[.int .i64 code, .bool true, .int .i64 pos, .bool false, str []]) (fun _ => WA w0 base fr) := by
  refine FnC.of_body (fn := Tryz.f33) [(0, _), (1, _)] Tryz.func33 rfl Tryz.ntmps33 rfl ⟨rfl, rfl, trivial⟩ ?_
  refine CX.seq <| CX.region <| LX.alloc rfl Kud.zv48 rfl rfl rfl ?_
  intro b4x
  refine LX.sub (l' := [(0, _), (1, _), (4, _)]) ⟨rfl, rfl, rfl, trivial⟩ <| LX.next <| PX.thenN <| CX.seq <| CX.seq <| CX.region <| LX.pure (Y.move rfl) rfl rfl rfl <| LX.pure (Y.eqI rfl rfl) rfl rfl rfl <| LX.sub (l' := [(0, _), (1, _), (4, _), (6, _)]) ⟨rfl, rfl, rfl, rfl, trivial⟩ <| LX.next <| PX.thenN ?_
  refine CX.cond rfl (fun hb1 => ?_) (fun hb1 => ?_)
  · try simp at hb1
    exact absurd hb1 hc
  try simp at hb1
  refine CX.skip <| PX.thenN <| CX.seq <| CX.region <| LX.pure (Y.move rfl) rfl rfl rfl <| LX.pure (Y.move rfl) rfl rfl rfl <| LX.pure (Y.build (v := .agg #[.int .i64 code, .bool true, .int .i64 pos, .bool false, str []]) rfl (fun _ => by kernel_rfl)) rfl rfl rfl <| LX.storeA 0 Kud.ag48 rfl rfl rfl rfl rfl rfl rfl rfl rfl <| LX.sub (l' := [(4, _)]) ⟨rfl, trivial⟩ <| LX.next <| PX.thenN <| CX.ret <| PX.retA (i := 0) (by simp) Tryz.results33 Kud.ag48 rfl rfl rfl ?_
  exact fun w hw => ⟨(), rfl, hw.drop (List.sublist_cons_self _ _)⟩
theorem params6_0 {w0 : World} {base : Nat} {al : Option Addr} (cl : Nat) {l : List Nd} (hB : ∀ (k : Nat) x, l[k]? = some x → x.kids.length ≤ 302 ∧ x.s.length ≤ 302) (h3 : l.length ≤ 302) {x : Nd} {ak : Option Addr} (ck : Nat) (hxb : x.kids.length ≤ 302) (hr : ∀ q ∈ x.kids, 0 ≤ q ∧ q < (l.length : Int))  (hl : SlAt 5 ndA (Lies w0 base) al l) (hka : SlAt 1 intA (Lies w0 base) ak x.kids) : FnC Tryz.prog 80 #[.slice al l.length cl, .agg [.int .i64 x.op, .int .i64 x.n, .int .i64 x.pos, str x.s, .slice ak x.kids.length ck].toArray] (WA w0 base []) (fun b : Bool => .bool b) (fun _ => WA w0 base []) := by
  refine FnC.of_body (fn := Tryz.f80) [(0, _), (1, _)] Tryz.func80 rfl Tryz.ntmps80 rfl ⟨rfl, rfl, trivial⟩ ?_
  refine CX.seq <| CX.region <| LX.box rfl rfl rfl rfl rfl ?_
  intro bx3
  refine LX.pure (Y.assign rfl) rfl rfl rfl <| LX.sub (l' := [(0, _), (3, _), (4, _)]) ⟨rfl, rfl, rfl, trivial⟩ <| LX.next <| PX.thenN <| CX.seq <| CX.region <| LX.pure (Y.assign rfl) rfl rfl rfl <| LX.sub (l' := [(0, _), (3, _), (4, _), (5, _)]) ⟨rfl, rfl, rfl, rfl, trivial⟩ <| LX.next <| PX.thenN <| CX.seq <| CX.region <| LX.pure (Y.assign rfl) rfl rfl rfl <| LX.sub (l' := [(0, _), (3, _), (4, _), (5, _), (6, _)]) ⟨rfl, rfl, rfl, rfl, rfl, trivial⟩ <| LX.next <| PX.thenN <| CX.seq <| CX.seq <| CX.region <| LX.pure (Y.assign rfl) rfl rfl rfl <| LX.sub (l' := [(0, _), (3, _), (4, _), (5, _), (6, _), (7, _)]) ⟨rfl, rfl, rfl, rfl, rfl, rfl, trivial⟩ <| LX.next <| PX.thenN <| CX.block <| CX.loop (fun s : Nat × List T × Bool × Option Nat × Nat => [(0, .slice al l.length cl), (3, .pointer (some ⟨bx3, 0, none⟩)), (5, rv s.2.2.2.1 s.2.1.length s.2.2.2.2), (6, .bool s.2.2.1), (7, .int .i64 (s.1 : Int))]) (fun (s : Nat × List T × Bool × Option Nat × Nat) w => (s.1 ≤ x.kids.length ∧ s.2.1.length = s.1) ∧ WA w0 base [.row s.2.2.2.1 s.2.2.2.2 s.2.1.length 9 1 (s.2.1.map str), blk bx3 [.int .i64 x.op, .int .i64 x.n, .int .i64 x.pos, str x.s, .slice ak x.kids.length ck] 53] w) (fun s => x.kids.length - s.1) (0, [], false, none, 0) ⟨rfl, rfl, rfl, rfl, rfl, trivial⟩ (fun w hw => ⟨⟨Nat.zero_le _, rfl⟩, hw.nilRow 9 1⟩) ?_
  rintro ⟨j, ns, given, g, cap⟩
  refine CX.have fun ⟨hj0, hns⟩ => ?_
  try dsimp only at hj0 hns ⊢
  refine CX.seq <| CX.seq <| CX.region <| LX.pure (Y.move rfl) rfl rfl rfl <| LX.pure (Y.addN rfl rfl (by (simp only []; omega))) rfl rfl rfl <| LX.pure (Y.fieldAddr0 Kq.fo53_4 rfl) rfl rfl rfl <| LX.pure (Y.ldB 1 Kq.one51 rfl rfl rfl) rfl rfl rfl <| LX.pure (Y.lenSl rfl Kq.un51 rfl) rfl rfl rfl <| LX.pure (Y.ltN rfl rfl) rfl rfl rfl <| LX.sub (l' := [(0, _), (3, _), (5, _), (6, _), (7, _), (14, _)]) ⟨rfl, rfl, rfl, rfl, rfl, rfl, trivial⟩ <| LX.next <| PX.thenN ?_
  refine CX.cond rfl (fun hb1 => ?_) (fun hb1 => ?_)
  · try simp at hb1
    have hj1 : j < x.kids.length := by omega
    obtain ⟨a1, hav1, hL1, _⟩ := hka.int_at (j := j) (by omega)
    have hr1 := hr _ (getD_mem (j := j) (ks := x.kids) (by omega))
    obtain ⟨k1, hkz1⟩ : ∃ k : Nat, x.kids.getD j 0 = (k : Int) := ⟨(x.kids.getD j 0).toNat, by omega⟩
    obtain ⟨y1, hy1⟩ : ∃ y, l[k1]? = some y := ⟨_, List.getElem?_eq_getElem (by omega)⟩
    obtain ⟨b1, bk1, bc1, hbv1, hbL1, hbc1, hba1⟩ := nd_of hl hy1
    refine CX.skip <| PX.thenN <| CX.seq <| CX.block <| CX.seq <| CX.region <| LX.pure (Y.move rfl) rfl rfl rfl <| LX.pure (Y.fieldAddr0 Kq.fo53_4 rfl) rfl rfl rfl <| LX.pure (Y.ldB 1 Kq.one51 rfl rfl rfl) rfl rfl rfl <| LX.pure (Y.move rfl) rfl rfl rfl <| LX.pure (Y.idxZ Kq.un51 Kc.sz3 rfl rfl hav1 (j := j) rfl (by omega)) rfl rfl rfl <| LX.pure (show Y _ _ _ _ _ (.int .i64 (k1 : Int)) from by rw [← hkz1]; exact Y.ldO1 Kc.one3 rfl hL1) rfl rfl rfl <| LX.pure (Y.idxZ Kq.un22 Kq.sz53 rfl rfl hbv1 (j := k1) rfl (by omega)) rfl rfl rfl <| LX.pure (Y.ldAO (cs := [.int .i64 y1.op, .int .i64 y1.n, .int .i64 y1.pos, str y1.s, .slice bk1 y1.kids.length bc1]) Kq.ag53 rfl hbL1 rfl) rfl rfl rfl <| LX.alloc rfl Kr_.zv53 rfl rfl rfl ?_
    intro bx8
    refine LX.storeA 0 Kq.ag53 rfl rfl rfl rfl rfl rfl rfl rfl rfl <| LX.sub (l' := [(0, _), (3, _), (5, _), (6, _), (7, _), (8, _)]) ⟨rfl, rfl, rfl, rfl, rfl, rfl, trivial⟩ <| LX.next <| PX.thenN <| CX.seq <| CX.seq <| CX.region <| LX.pure (Y.move rfl) rfl rfl rfl <| LX.pure (Y.fieldAddr0 Kr_.fo53_3 rfl) rfl rfl rfl <| LX.pure (Y.ldB 0 Kh.one9 rfl rfl rfl) rfl rfl rfl <| LX.call (among4_w cap (ss := ns) (by omega) y1.s (fun w hw => row_at hw (j := 1) rfl rfl (by decide) (fun i z h => map_A h))) Kua.en105 rfl rfl rfl rfl rfl ?_
    intro z4
    refine LX.pure (Y.geI rfl rfl) rfl rfl rfl <| LX.pure (Y.move rfl) rfl rfl rfl ?_
    refine LX.caseB (s := 30) rfl (fun hb2 => ?_) (fun hb2 => ?_)
    ·
      refine LX.gF rfl rfl rfl hb2 rfl rfl <| LX.gF rfl rfl rfl hb2 rfl rfl <| LX.gU rfl rfl rfl rfl rfl <| LX.gU rfl rfl rfl rfl rfl <| LX.gU rfl rfl rfl rfl rfl <| LX.gU rfl rfl rfl rfl rfl <| LX.gF rfl rfl rfl hb2 rfl rfl <| LX.pure (Y.pickT rfl hb2 rfl) rfl rfl rfl <| LX.sub (l' := [(0, _), (3, _), (5, _), (6, _), (7, _), (8, _), (38, _)]) ⟨rfl, rfl, rfl, rfl, rfl, rfl, rfl, trivial⟩ <| LX.next <| PX.thenN ?_
      refine CX.cond rfl (fun hb3 => ?_) (fun hb3 => ?_)
      · try simp at hb3
        refine CX.seq <| CX.region <| LX.pure (Y.assign rfl) rfl rfl rfl <| LX.sub (l' := [(0, _), (3, _), (4, _), (5, _), (6, _), (7, _), (8, _)]) ⟨rfl, rfl, rfl, rfl, rfl, rfl, rfl, trivial⟩ <| LX.next <| PX.thenN <| CX.ret <| PX.thenR <| PX.blockR <| PX.thenR <| PX.thenR <| PX.blockR <| PX.thenR <| PX.ret1 (by simp) Tryz.results80 rfl ?_
        exact fun w hw => ⟨_, rfl, hw.drop (List.nil_sublist _)⟩
      try simp at hb3
      done
    have hb2p := hb2
    try simp at hb2p
    refine LX.gT rfl rfl rfl hb2 (Y.move rfl) rfl rfl <| LX.gT rfl rfl rfl hb2 (Y.move rfl) rfl rfl ?_
    refine LX.caseB (s := 32) rfl (fun hb4 => ?_) (fun hb4 => ?_)
    ·
      refine LX.gT rfl rfl rfl hb4 (Y.fieldAddr0 Kq.fo53_4 rfl) rfl rfl <| LX.gT rfl rfl rfl hb4 (Y.ldB 0 Kq.one51 rfl rfl rfl) rfl rfl <| LX.gT rfl rfl rfl hb4 (Y.lenSl rfl Kq.un51 rfl) rfl rfl <| LX.gT rfl rfl rfl hb4 (Y.eqN rfl rfl) rfl rfl <| LX.gT rfl rfl rfl hb2 (Y.pickT rfl hb4 rfl) rfl rfl <| LX.pure (Y.pickF rfl hb2 rfl) rfl rfl rfl <| LX.sub (l' := [(0, _), (3, _), (5, _), (6, _), (7, _), (8, _), (38, _)]) ⟨rfl, rfl, rfl, rfl, rfl, rfl, rfl, trivial⟩ <| LX.next <| PX.thenN ?_
      refine CX.cond rfl (fun hb5 => ?_) (fun hb5 => ?_)
      · try simp at hb5
        refine CX.seq <| CX.region <| LX.pure (Y.assign rfl) rfl rfl rfl <| LX.sub (l' := [(0, _), (3, _), (4, _), (5, _), (6, _), (7, _), (8, _)]) ⟨rfl, rfl, rfl, rfl, rfl, rfl, rfl, trivial⟩ <| LX.next <| PX.thenN <| CX.ret <| PX.thenR <| PX.blockR <| PX.thenR <| PX.thenR <| PX.blockR <| PX.thenR <| PX.ret1 (by simp) Tryz.results80 rfl ?_
        exact fun w hw => ⟨_, rfl, hw.drop (List.nil_sublist _)⟩
      try simp at hb5
      refine CX.skip <| PX.thenN <| CX.seq <| CX.region <| LX.pure (Y.move rfl) rfl rfl rfl <| LX.pure (Y.fieldAddr0 Kr_.fo53_3 rfl) rfl rfl rfl <| LX.pure (Y.ldB 0 Kh.one9 rfl rfl rfl) rfl rfl rfl <| LX.buildSlice (e := 9) (size := 1) rfl rfl (fun _ => by kernel_rfl) rfl (by decide) rfl rfl rfl ?_
      intro gt41
      refine LX.appendRows 2 0 Kud.el128 rfl rfl rfl rfl rfl rfl rfl (by omega) (by omega) rfl rfl rfl ?_
      intro g2 cap2
      refine LX.pure (Y.assign rfl) rfl rfl rfl <| LX.sub (l' := [(0, _), (3, _), (5, _), (6, _), (7, _), (8, _)]) ⟨rfl, rfl, rfl, rfl, rfl, rfl, trivial⟩ <| LX.next <| PX.thenN <| CX.region <| LX.pure (Y.fieldAddr0 Kq.fo53_4 rfl) rfl rfl rfl <| LX.pure (Y.ldB 1 Kq.one51 rfl rfl rfl) rfl rfl rfl <| LX.pure (Y.lenSl rfl Kq.un51 rfl) rfl rfl rfl <| LX.pure (Y.gtN rfl rfl) rfl rfl rfl <| LX.pure (Y.assign rfl) rfl rfl rfl <| LX.sub (l' := [(0, _), (3, _), (5, _), (6, _), (7, _)]) ⟨rfl, rfl, rfl, rfl, rfl, trivial⟩ <| LX.next <| PX.blockN <| PX.thenN <| CX.region <| LX.pure (Y.move rfl) rfl rfl rfl <| LX.pure (Y.addN rfl rfl (by (simp only []; omega))) rfl rfl rfl <| LX.pure (Y.assign rfl) rfl rfl rfl <| LX.sub (l' := [(0, _), (3, _), (5, _), (6, _), (7, _)]) ⟨rfl, rfl, rfl, rfl, rfl, trivial⟩ <| LX.next ?_
      exact PX.again (μ := fun s => x.kids.length - s.1) (i := (j, ns, given, g, cap)) (j + 1, ns ++ [y1.s], _, g2, cap2) (by show x.kids.length - (j + 1) < x.kids.length - j; omega) ⟨rfl, rfl, by show _ = some (rv g2 (ns ++ [y1.s]).length cap2); rw [List.length_append]; rfl, rfl, rfl, trivial⟩ (fun w hw => ⟨⟨by show j + 1 ≤ x.kids.length; omega, by show (ns ++ [y1.s]).length = j + 1; rw [List.length_append, hns]; rfl⟩, by have h1 := hw.drop (.cons _ (.cons _ (List.Sublist.refl _))); show WA w0 base [.row g2 cap2 (ns ++ [y1.s]).length 9 1 ((ns ++ [y1.s]).map str), blk bx3 [.int .i64 x.op, .int .i64 x.n, .int .i64 x.pos, str x.s, .slice ak x.kids.length ck] 53] w; rw [List.length_append, List.map_append]; exact h1⟩)
    refine LX.gF rfl rfl rfl hb4 rfl rfl <| LX.gF rfl rfl rfl hb4 rfl rfl <| LX.gF rfl rfl rfl hb4 rfl rfl <| LX.gF rfl rfl rfl hb4 rfl rfl <| LX.gT rfl rfl rfl hb2 (Y.pickF rfl hb4 rfl) rfl rfl <| LX.pure (Y.pickF rfl hb2 rfl) rfl rfl rfl <| LX.sub (l' := [(0, _), (3, _), (5, _), (6, _), (7, _), (8, _), (38, _)]) ⟨rfl, rfl, rfl, rfl, rfl, rfl, rfl, trivial⟩ <| LX.next <| PX.thenN ?_
    refine CX.cond rfl (fun hb6 => ?_) (fun hb6 => ?_)
    · try simp at hb6
      done
    try simp at hb6
    refine CX.skip <| PX.thenN <| CX.seq <| CX.region <| LX.pure (Y.move rfl) rfl rfl rfl <| LX.pure (Y.fieldAddr0 Kr_.fo53_3 rfl) rfl rfl rfl <| LX.pure (Y.ldB 0 Kh.one9 rfl rfl rfl) rfl rfl rfl <| LX.buildSlice (e := 9) (size := 1) rfl rfl (fun _ => by kernel_rfl) rfl (by decide) rfl rfl rfl ?_
    intro gt57
    refine LX.appendRows 2 0 Kud.el128 rfl rfl rfl rfl rfl rfl rfl (by omega) (by omega) rfl rfl rfl ?_
    intro g2 cap2
    refine LX.pure (Y.assign rfl) rfl rfl rfl <| LX.sub (l' := [(0, _), (3, _), (5, _), (6, _), (7, _), (8, _)]) ⟨rfl, rfl, rfl, rfl, rfl, rfl, trivial⟩ <| LX.next <| PX.thenN <| CX.region <| LX.pure (Y.fieldAddr0 Kq.fo53_4 rfl) rfl rfl rfl <| LX.pure (Y.ldB 1 Kq.one51 rfl rfl rfl) rfl rfl rfl <| LX.pure (Y.lenSl rfl Kq.un51 rfl) rfl rfl rfl <| LX.pure (Y.gtN rfl rfl) rfl rfl rfl <| LX.pure (Y.assign rfl) rfl rfl rfl <| LX.sub (l' := [(0, _), (3, _), (5, _), (6, _), (7, _)]) ⟨rfl, rfl, rfl, rfl, rfl, trivial⟩ <| LX.next <| PX.blockN <| PX.thenN <| CX.region <| LX.pure (Y.move rfl) rfl rfl rfl <| LX.pure (Y.addN rfl rfl (by (simp only []; omega))) rfl rfl rfl <| LX.pure (Y.assign rfl) rfl rfl rfl <| LX.sub (l' := [(0, _), (3, _), (5, _), (6, _), (7, _)]) ⟨rfl, rfl, rfl, rfl, rfl, trivial⟩ <| LX.next ?_
    exact PX.again (μ := fun s => x.kids.length - s.1) (i := (j, ns, given, g, cap)) (j + 1, ns ++ [y1.s], _, g2, cap2) (by show x.kids.length - (j + 1) < x.kids.length - j; omega) ⟨rfl, rfl, by show _ = some (rv g2 (ns ++ [y1.s]).length cap2); rw [List.length_append]; rfl, rfl, rfl, trivial⟩ (fun w hw => ⟨⟨by show j + 1 ≤ x.kids.length; omega, by show (ns ++ [y1.s]).length = j + 1; rw [List.length_append, hns]; rfl⟩, by have h1 := hw.drop (.cons _ (.cons _ (List.Sublist.refl _))); show WA w0 base [.row g2 cap2 (ns ++ [y1.s]).length 9 1 ((ns ++ [y1.s]).map str), blk bx3 [.int .i64 x.op, .int .i64 x.n, .int .i64 x.pos, str x.s, .slice ak x.kids.length ck] 53] w; rw [List.length_append, List.map_append]; exact h1⟩)
  try simp at hb1
  refine CX.exit <| PX.thenE <| PX.thenE <| PX.blockE <| PX.thenN <| CX.seq <| CX.region <| LX.pure (Y.assign rfl) rfl rfl rfl <| LX.sub (l' := [(4, _)]) ⟨rfl, trivial⟩ <| LX.next <| PX.thenN <| CX.ret <| PX.ret1 (by simp) Tryz.results80 rfl ?_
  exact fun w hw => ⟨_, rfl, hw.drop (List.nil_sublist _)⟩
theorem params6_w {W : World → Prop} [Stab W] {al : Option Addr} (cl : Nat) {l : List Nd} (hB : ∀ (k : Nat) x, l[k]? = some x → x.kids.length ≤ 302 ∧ x.s.length ≤ 302) (h3 : l.length ≤ 302) {x : Nd} {ak : Option Addr} (ck : Nat) (hxb : x.kids.length ≤ 302) (hr : ∀ q ∈ x.kids, 0 ≤ q ∧ q < (l.length : Int))  (hl : ∀ w, W w → SlAt 5 ndA (Lies w w.heap.size) al l) (hka : ∀ w, W w → SlAt 1 intA (Lies w w.heap.size) ak x.kids) : FnC Tryz.prog 80 #[.slice al l.length cl, .agg [.int .i64 x.op, .int .i64 x.n, .int .i64 x.pos, str x.s, .slice ak x.kids.length ck].toArray] W (fun b : Bool => .bool b) (fun _ => W) := FnC.re fun w hw => params6_0 cl hB h3 ck hxb hr (hl w hw) (hka w hw)
end Go.Proofs.YtickdimknfeddaaGreatDoor

namespace Go.Proofs.YtickdimknfeddaaGreatDoor
open Go.SX Go.RowKit Go.Vo Go.Ky Go.Proofs.YtickdimknfeddaaGreatDoor.Env Go.Tr
namespace Kue
theorem en35 : Enters Tryz.prog 35 := Enters.of Tryz.func35 (by kernel_rfl) (by kernel_rfl)
theorem en80 : Enters Tryz.prog 80 := Enters.of Tryz.func80 (by kernel_rfl) (by kernel_rfl)
end Kue
structure Ok6 (l : List Nd) (i : Nat) : Prop where
  kid : ∀ (k : Nat) x, k < i → l[k]? = some x → ∀ q ∈ x.kids, 0 ≤ q ∧ q < (k : Int)
  df : ∀ (k : Nat) x, k < i → l[k]? = some x → x.op = 45 → 1 ≤ x.kids.length
  fr : ∀ (k : Nat) x, k < i → l[k]? = some x → x.op = 44 → x.kids.length = 3
theorem Ok6.zero (l : List Nd) : Ok6 l 0 := ⟨fun k x h => absurd h (Nat.not_lt_zero k), fun k x h => absurd h (Nat.not_lt_zero k), fun k x h => absurd h (Nat.not_lt_zero k)⟩
theorem Ok6.next {l : List Nd} {i : Nat} (h : Ok6 l i) {x : Nd} (hx : l[i]? = some x) (h1 : ∀ q ∈ x.kids, 0 ≤ q ∧ q < (i : Int)) (h2 : x.op = 45 → 1 ≤ x.kids.length) (h3 : x.op = 44 → x.kids.length = 3) : Ok6 l (i + 1) := by
  refine ⟨fun k y hk hy => ?_, fun k y hk hy => ?_, fun k y hk hy => ?_⟩
  all_goals
    rcases Nat.lt_or_ge k i with hi | hi
    · first | exact h.kid k y hi hy | exact h.df k y hi hy | exact h.fr k y hi hy
    obtain rfl : k = i := by omega
    rw [hx] at hy
    cases hy
    assumption
theorem inside_s {w0 : World} {base : Nat} {al : Option Addr} (cl : Nat) {l : List Nd} (hB : ∀ (k : Nat) x, l[k]? = some x → x.kids.length ≤ 302 ∧ x.s.length ≤ 302) (h3 : l.length ≤ 302) {i : Nat} (hO : Ok6 l (i + 1)) (hi : i < l.length) (hl : SlAt 5 ndA (Lies w0 base) al l) (ih : ∀ k, k < i → ∀ (tp df lp : Bool) {w0 : World} {base : Nat} (_hl : SlAt 5 ndA (Lies w0 base) al l), FnC Tryz.prog 35 #[.slice al l.length cl, .int .i64 (k : Int), .bool tp, .bool df, .bool lp] (WA w0 base []) (fun b : Bool => .bool b) (fun _ => WA w0 base [])) (tp df lp : Bool) : FnC Tryz.prog 35 #[.slice al l.length cl, .int .i64 (i : Int), .bool tp, .bool df, .bool lp] (WA w0 base []) (fun b : Bool => .bool b) (fun _ => WA w0 base []) := by
  obtain ⟨x, hx⟩ : ∃ x, l[i]? = some x := ⟨_, List.getElem?_eq_getElem (by omega)⟩
  obtain ⟨a, ak, ck, hav, hL, hkc, hka⟩ := nd_of hl hx
  have hb302 := hB i x hx
  have hK := hO.kid i x (by omega) hx
  have ihw : ∀ k, k < i → ∀ (tp df lp : Bool) {W : World → Prop} [Stab W] (_hl : ∀ w, W w → SlAt 5 ndA (Lies w w.heap.size) al l), FnC Tryz.prog 35 #[.slice al l.length cl, .int .i64 (k : Int), .bool tp, .bool df, .bool lp] W (fun b : Bool => .bool b) (fun _ => W) := fun k hk a b c _ _ h => FnC.re fun w hw => ih k hk a b c (h w hw)
  refine FnC.of_body (fn := Tryz.f35) [(0, _), (1, _), (2, _), (3, _), (4, _)] Tryz.func35 rfl Tryz.ntmps35 rfl ⟨rfl, rfl, rfl, rfl, rfl, trivial⟩ ?_
  refine CX.seq <| CX.region <| LX.pure (Y.assign rfl) rfl rfl rfl <| LX.sub (l' := [(0, _), (1, _), (2, _), (3, _), (4, _), (10, _)]) ⟨rfl, rfl, rfl, rfl, rfl, rfl, trivial⟩ <| LX.next <| PX.thenN <| CX.seq <| CX.region <| LX.pure (Y.move rfl) rfl rfl rfl <| LX.pure (Y.move rfl) rfl rfl rfl <| LX.pure (Y.idxZ Kq.un22 Kq.sz53 rfl rfl hav (j := i) rfl (by omega)) rfl rfl rfl <| LX.pure (Y.ldAO (cs := [.int .i64 x.op, .int .i64 x.n, .int .i64 x.pos, str x.s, .slice ak x.kids.length ck]) Kq.ag53 rfl hL rfl) rfl rfl rfl <| LX.alloc rfl Kr_.zv53 rfl rfl rfl ?_
  intro bx11
  refine LX.storeA 0 Kq.ag53 rfl rfl rfl rfl rfl rfl rfl rfl rfl <| LX.sub (l' := [(0, _), (2, _), (3, _), (4, _), (10, _), (11, _)]) ⟨rfl, rfl, rfl, rfl, rfl, rfl, trivial⟩ <| LX.next <| PX.thenN <| CX.seq <| CX.seq <| CX.region <| LX.pure (Y.assign rfl) rfl rfl rfl <| LX.sub (l' := [(0, _), (2, _), (3, _), (4, _), (10, _), (11, _), (12, _)]) ⟨rfl, rfl, rfl, rfl, rfl, rfl, rfl, trivial⟩ <| LX.next <| PX.thenN <| CX.block <| CX.loop (fun j : Nat => [(0, .slice al l.length cl), (2, .bool tp), (3, .bool df), (4, .bool lp), (11, .pointer (some ⟨bx11, 0, none⟩)), (12, .int .i64 (j : Int))]) (fun (j : Nat) w => j ≤ x.kids.length ∧ WA w0 base [blk bx11 [.int .i64 x.op, .int .i64 x.n, .int .i64 x.pos, str x.s, .slice ak x.kids.length ck] 53] w) (fun j => x.kids.length - j) 0 ⟨rfl, rfl, rfl, rfl, rfl, rfl, trivial⟩ (fun w hw => ⟨Nat.zero_le _, hw⟩) ?_
  intro j
  refine CX.have fun hj0 => ?_
  replace hj0 : j ≤ x.kids.length := hj0
  refine CX.seq <| CX.seq <| CX.region <| LX.pure (Y.move rfl) rfl rfl rfl <| LX.pure (Y.fieldAddr0 Kq.fo53_4 rfl) rfl rfl rfl <| LX.pure (Y.ldB 0 Kq.one51 rfl rfl rfl) rfl rfl rfl <| LX.pure (Y.lenSl rfl Kq.un51 rfl) rfl rfl rfl <| LX.pure (Y.ltN rfl rfl) rfl rfl rfl <| LX.sub (l' := [(0, _), (2, _), (3, _), (4, _), (11, _), (12, _), (24, _)]) ⟨rfl, rfl, rfl, rfl, rfl, rfl, rfl, trivial⟩ <| LX.next <| PX.thenN ?_
  refine CX.cond rfl (fun hb1 => ?_) (fun hb1 => ?_)
  · try simp at hb1
    have hj1 : j < x.kids.length := by omega
    obtain ⟨a1, hav1, hL1, _⟩ := hka.int_at (j := j) (by omega)
    have hr1 := hK _ (getD_mem (j := j) (ks := x.kids) (by omega))
    obtain ⟨k1, hkz1⟩ : ∃ k : Nat, x.kids.getD j 0 = (k : Int) := ⟨(x.kids.getD j 0).toNat, by omega⟩
    obtain ⟨y1, hy1⟩ : ∃ y, l[k1]? = some y := ⟨_, List.getElem?_eq_getElem (by omega)⟩
    obtain ⟨b1, bk1, bc1, hbv1, hbL1, hbc1, hba1⟩ := nd_of hl hy1
    have hb1y := hB k1 y1 hy1
    have hK1 := hO.kid k1 y1 (by omega) hy1
    refine CX.skip <| PX.thenN <| CX.seq <| CX.block <| CX.seq <| CX.region <| LX.pure (Y.move rfl) rfl rfl rfl <| LX.pure (Y.fieldAddr0 Kq.fo53_4 rfl) rfl rfl rfl <| LX.pure (Y.ldB 0 Kq.one51 rfl rfl rfl) rfl rfl rfl <| LX.pure (Y.move rfl) rfl rfl rfl <| LX.pure (Y.idxZ Kq.un51 Kc.sz3 rfl rfl hav1 (j := j) rfl (by omega)) rfl rfl rfl <| LX.pure (show Y _ _ _ _ _ (.int .i64 (k1 : Int)) from by rw [← hkz1]; exact Y.ldO1 Kc.one3 rfl hL1) rfl rfl rfl <| LX.pure (Y.idxZ Kq.un22 Kq.sz53 rfl rfl hbv1 (j := k1) rfl (by omega)) rfl rfl rfl <| LX.pure (Y.ldAO (cs := [.int .i64 y1.op, .int .i64 y1.n, .int .i64 y1.pos, str y1.s, .slice bk1 y1.kids.length bc1]) Kq.ag53 rfl hbL1 rfl) rfl rfl rfl <| LX.alloc rfl Kr_.zv53 rfl rfl rfl ?_
    intro bx13
    refine LX.storeA 0 Kq.ag53 rfl rfl rfl rfl rfl rfl rfl rfl rfl <| LX.sub (l' := [(0, _), (2, _), (3, _), (4, _), (11, _), (12, _), (13, _)]) ⟨rfl, rfl, rfl, rfl, rfl, rfl, rfl, trivial⟩ <| LX.next <| PX.thenN <| CX.seq <| CX.region <| LX.pure (Y.assign rfl) rfl rfl rfl <| LX.sub (l' := [(0, _), (2, _), (3, _), (4, _), (11, _), (12, _), (13, _), (14, _)]) ⟨rfl, rfl, rfl, rfl, rfl, rfl, rfl, rfl, trivial⟩ <| LX.next <| PX.thenN <| CX.seq <| CX.seq <| CX.region <| LX.pure (Y.fieldAddr0 Kq.fo53_0 rfl) rfl rfl rfl <| LX.pure (Y.ldB 0 Kc.one3 rfl rfl rfl) rfl rfl rfl <| LX.sub (l' := [(0, _), (2, _), (3, _), (4, _), (11, _), (12, _), (13, _), (14, _), (36, _)]) ⟨rfl, rfl, rfl, rfl, rfl, rfl, rfl, rfl, rfl, trivial⟩ <| LX.next <| PX.thenN <| CX.block <| CX.sub (l' := [(0, _), (2, _), (3, _), (4, _), (11, _), (12, _), (13, _), (14, _), (36, _)]) ⟨rfl, rfl, rfl, rfl, rfl, rfl, rfl, rfl, rfl, trivial⟩ ?_
    apply CX.seqSw 37
    ·
      refine CX.seq <| CX.region <| LX.pure (Y.eqI rfl rfl) rfl rfl rfl <| LX.pure (Y.assign rfl) rfl rfl rfl <| LX.next <| PX.thenN ?_
      apply CX.swOr
      · rfl
      · exact ⟨rfl, rfl, rfl, rfl, rfl, rfl, rfl, rfl, rfl, rfl, trivial⟩
      intro hb2
      try simp at hb2
      refine CX.region <| LX.pure (Y.eqI rfl rfl) rfl rfl rfl <| LX.pure (Y.assign rfl) rfl rfl rfl <| LX.next ?_
      exact PX.sw ⟨rfl, rfl, rfl, rfl, rfl, rfl, rfl, rfl, rfl, rfl, trivial⟩
    refine CX.cond rfl (fun hb3 => ?_) (fun hb3 => ?_)
    · try simp at hb3
      refine CX.region <| LX.pure (Y.move rfl) rfl rfl rfl <| LX.pure (Y.assign rfl) rfl rfl rfl <| LX.sub (l' := [(0, _), (2, _), (3, _), (4, _), (11, _), (12, _), (14, _)]) ⟨rfl, rfl, rfl, rfl, rfl, rfl, rfl, trivial⟩ <| LX.next <| PX.blockN <| PX.thenN <| CX.seq <| CX.region <| LX.pure (Y.move rfl) rfl rfl rfl <| LX.pure (Y.not rfl) rfl rfl rfl <| LX.sub (l' := [(0, _), (2, _), (3, _), (4, _), (11, _), (12, _), (98, _)]) ⟨rfl, rfl, rfl, rfl, rfl, rfl, rfl, trivial⟩ <| LX.next <| PX.thenN ?_
      refine CX.cond rfl (fun hb4 => ?_) (fun hb4 => ?_)
      · try simp at hb4
        refine CX.seq <| CX.region <| LX.pure (Y.assign rfl) rfl rfl rfl <| LX.sub (l' := [(0, _), (2, _), (3, _), (4, _), (10, _), (11, _), (12, _)]) ⟨rfl, rfl, rfl, rfl, rfl, rfl, rfl, trivial⟩ <| LX.next <| PX.thenN <| CX.ret <| PX.blockR <| PX.thenR <| PX.thenR <| PX.blockR <| PX.thenR <| PX.ret1 (by simp) Tryz.results35 rfl ?_
        exact fun w hw => ⟨_, rfl, hw.drop (List.nil_sublist _)⟩
      try simp at hb4
      refine CX.skip <| PX.blockN <| PX.thenN <| CX.region <| LX.pure (Y.move rfl) rfl rfl rfl <| LX.pure (Y.addN rfl rfl (by (simp only []; omega))) rfl rfl rfl <| LX.pure (Y.assign rfl) rfl rfl rfl <| LX.sub (l' := [(0, _), (2, _), (3, _), (4, _), (11, _), (12, _)]) ⟨rfl, rfl, rfl, rfl, rfl, rfl, trivial⟩ <| LX.next ?_
      exact PX.again (μ := (fun j => x.kids.length - j)) (i := j) (j + 1) (by show x.kids.length - (j + 1) < x.kids.length - j; omega) ⟨rfl, rfl, rfl, rfl, rfl, rfl, trivial⟩ (fun w hw => ⟨by show j + 1 ≤ x.kids.length; omega, hw.drop (List.sublist_cons_self _ _)⟩)
    try simp at hb3
    refine CX.seq <| CX.region <| LX.pure (Y.eqI rfl rfl) rfl rfl rfl <| LX.pure (Y.assign rfl) rfl rfl rfl <| LX.sub (l' := [(0, _), (2, _), (3, _), (4, _), (11, _), (12, _), (13, _), (14, _), (36, _), (41, _)]) ⟨rfl, rfl, rfl, rfl, rfl, rfl, rfl, rfl, rfl, rfl, trivial⟩ <| LX.next <| PX.thenN ?_
    refine CX.cond rfl (fun hb5 => ?_) (fun hb5 => ?_)
    · try simp at hb5
      refine CX.region <| LX.pure (Y.move rfl) rfl rfl rfl <| LX.pure (Y.assign rfl) rfl rfl rfl <| LX.sub (l' := [(0, _), (2, _), (3, _), (4, _), (11, _), (12, _), (14, _)]) ⟨rfl, rfl, rfl, rfl, rfl, rfl, rfl, trivial⟩ <| LX.next <| PX.blockN <| PX.thenN <| CX.seq <| CX.region <| LX.pure (Y.move rfl) rfl rfl rfl <| LX.pure (Y.not rfl) rfl rfl rfl <| LX.sub (l' := [(0, _), (2, _), (3, _), (4, _), (11, _), (12, _), (98, _)]) ⟨rfl, rfl, rfl, rfl, rfl, rfl, rfl, trivial⟩ <| LX.next <| PX.thenN ?_
      refine CX.cond rfl (fun hb6 => ?_) (fun hb6 => ?_)
      · try simp at hb6
        refine CX.seq <| CX.region <| LX.pure (Y.assign rfl) rfl rfl rfl <| LX.sub (l' := [(0, _), (2, _), (3, _), (4, _), (10, _), (11, _), (12, _)]) ⟨rfl, rfl, rfl, rfl, rfl, rfl, rfl, trivial⟩ <| LX.next <| PX.thenN <| CX.ret <| PX.blockR <| PX.thenR <| PX.thenR <| PX.blockR <| PX.thenR <| PX.ret1 (by simp) Tryz.results35 rfl ?_
        exact fun w hw => ⟨_, rfl, hw.drop (List.nil_sublist _)⟩
      try simp at hb6
      refine CX.skip <| PX.blockN <| PX.thenN <| CX.region <| LX.pure (Y.move rfl) rfl rfl rfl <| LX.pure (Y.addN rfl rfl (by (simp only []; omega))) rfl rfl rfl <| LX.pure (Y.assign rfl) rfl rfl rfl <| LX.sub (l' := [(0, _), (2, _), (3, _), (4, _), (11, _), (12, _)]) ⟨rfl, rfl, rfl, rfl, rfl, rfl, trivial⟩ <| LX.next ?_
      exact PX.again (μ := (fun j => x.kids.length - j)) (i := j) (j + 1) (by show x.kids.length - (j + 1) < x.kids.length - j; omega) ⟨rfl, rfl, rfl, rfl, rfl, rfl, trivial⟩ (fun w hw => ⟨by show j + 1 ≤ x.kids.length; omega, hw.drop (List.sublist_cons_self _ _)⟩)
    try simp at hb5
    refine CX.seq <| CX.region <| LX.pure (Y.eqI rfl rfl) rfl rfl rfl <| LX.pure (Y.assign rfl) rfl rfl rfl <| LX.sub (l' := [(0, _), (2, _), (3, _), (4, _), (11, _), (12, _), (13, _), (14, _), (36, _), (44, _)]) ⟨rfl, rfl, rfl, rfl, rfl, rfl, rfl, rfl, rfl, rfl, trivial⟩ <| LX.next <| PX.thenN ?_
    refine CX.cond rfl (fun hb7 => ?_) (fun hb7 => ?_)
    · try simp at hb7
      refine CX.region <| LX.pure (Y.move rfl) rfl rfl rfl <| LX.pure (Y.assign rfl) rfl rfl rfl <| LX.sub (l' := [(0, _), (2, _), (3, _), (4, _), (11, _), (12, _), (14, _)]) ⟨rfl, rfl, rfl, rfl, rfl, rfl, rfl, trivial⟩ <| LX.next <| PX.blockN <| PX.thenN <| CX.seq <| CX.region <| LX.pure (Y.move rfl) rfl rfl rfl <| LX.pure (Y.not rfl) rfl rfl rfl <| LX.sub (l' := [(0, _), (2, _), (3, _), (4, _), (11, _), (12, _), (98, _)]) ⟨rfl, rfl, rfl, rfl, rfl, rfl, rfl, trivial⟩ <| LX.next <| PX.thenN ?_
      refine CX.cond rfl (fun hb8 => ?_) (fun hb8 => ?_)
      · try simp at hb8
        refine CX.seq <| CX.region <| LX.pure (Y.assign rfl) rfl rfl rfl <| LX.sub (l' := [(0, _), (2, _), (3, _), (4, _), (10, _), (11, _), (12, _)]) ⟨rfl, rfl, rfl, rfl, rfl, rfl, rfl, trivial⟩ <| LX.next <| PX.thenN <| CX.ret <| PX.blockR <| PX.thenR <| PX.thenR <| PX.blockR <| PX.thenR <| PX.ret1 (by simp) Tryz.results35 rfl ?_
        exact fun w hw => ⟨_, rfl, hw.drop (List.nil_sublist _)⟩
      try simp at hb8
      refine CX.skip <| PX.blockN <| PX.thenN <| CX.region <| LX.pure (Y.move rfl) rfl rfl rfl <| LX.pure (Y.addN rfl rfl (by (simp only []; omega))) rfl rfl rfl <| LX.pure (Y.assign rfl) rfl rfl rfl <| LX.sub (l' := [(0, _), (2, _), (3, _), (4, _), (11, _), (12, _)]) ⟨rfl, rfl, rfl, rfl, rfl, rfl, trivial⟩ <| LX.next ?_
      exact PX.again (μ := (fun j => x.kids.length - j)) (i := j) (j + 1) (by show x.kids.length - (j + 1) < x.kids.length - j; omega) ⟨rfl, rfl, rfl, rfl, rfl, rfl, trivial⟩ (fun w hw => ⟨by show j + 1 ≤ x.kids.length; omega, hw.drop (List.sublist_cons_self _ _)⟩)
    try simp at hb7
    refine CX.seq <| CX.region <| LX.pure (Y.eqI rfl rfl) rfl rfl rfl <| LX.pure (Y.assign rfl) rfl rfl rfl <| LX.sub (l' := [(0, _), (2, _), (3, _), (4, _), (11, _), (12, _), (13, _), (14, _), (36, _), (47, _)]) ⟨rfl, rfl, rfl, rfl, rfl, rfl, rfl, rfl, rfl, rfl, trivial⟩ <| LX.next <| PX.thenN ?_
    refine CX.cond rfl (fun hb9 => ?_) (fun hb9 => ?_)
    · try simp at hb9
      refine CX.region <| LX.pure (Y.move rfl) rfl rfl rfl <| LX.pure (Y.move rfl) rfl rfl rfl ?_
      refine LX.caseB (s := 50) rfl (fun hb10 => ?_) (fun hb10 => ?_)
      ·
        have hb10p := hb10
        try simp at hb10p
        refine LX.gT rfl rfl rfl hb10 (Y.move rfl) rfl rfl <| LX.gT rfl rfl rfl hb10 (Y.ldAggB (vs := [.int .i64 y1.op, .int .i64 y1.n, .int .i64 y1.pos, str y1.s, .slice bk1 y1.kids.length bc1]) 0 Kq.ag53 rfl rfl rfl rfl) rfl rfl <| LX.callT rfl rfl rfl hb10 (params6_w cl hB h3 bc1 (x := y1) (by omega) (fun q hq => by have := hK1 q hq; omega) (fun w hw => hl.push hw) (fun w hw => hba1.push hw)) Kue.en80 rfl rfl rfl rfl ?_
        intro b6
        refine LX.pure (Y.pickT rfl hb10 rfl) rfl rfl rfl <| LX.pure (Y.move rfl) rfl rfl rfl ?_
        refine LX.caseB (s := 55) rfl (fun hb11 => ?_) (fun hb11 => ?_)
        ·
          have hb11p := hb11
          try simp at hb11p
          refine LX.gT rfl rfl rfl hb11 (Y.move rfl) rfl rfl <| LX.gT rfl rfl rfl hb11 (Y.fieldAddr0 Kq.fo53_4 rfl) rfl rfl <| LX.gT rfl rfl rfl hb11 (Y.ldB 0 Kq.one51 rfl rfl rfl) rfl rfl <| LX.gT rfl rfl rfl hb11 (Y.fieldAddr0 Kq.fo53_4 rfl) rfl rfl <| LX.gT rfl rfl rfl hb11 (Y.ldB 0 Kq.one51 rfl rfl rfl) rfl rfl <| LX.gT rfl rfl rfl hb11 (Y.lenSl rfl Kq.un51 rfl) rfl rfl <| LX.gT rfl rfl rfl hb11 (Y.sub rfl rfl (by omega)) rfl rfl ?_
          have hd1 := hO.df k1 y1 (by omega) hy1 (by assumption)
          obtain ⟨a2, hav2, hL2, _⟩ := hba1.int_at (j := (y1.kids.length - 1)) (by omega)
          have hr2 := hK1 _ (getD_mem (j := (y1.kids.length - 1)) (ks := y1.kids) (by omega))
          obtain ⟨k2, hkz2⟩ : ∃ k : Nat, y1.kids.getD (y1.kids.length - 1) 0 = (k : Int) := ⟨(y1.kids.getD (y1.kids.length - 1) 0).toNat, by omega⟩
          refine LX.gT rfl rfl rfl hb11 (Y.idxZ Kq.un51 Kc.sz3 rfl rfl hav2 (j := y1.kids.length - 1) (by omega) (by omega)) rfl rfl <| LX.gT rfl rfl rfl hb11 (show Y _ _ _ _ _ (.int .i64 (k2 : Int)) from by rw [← hkz2]; exact Y.ldO1 Kc.one3 rfl hL2) rfl rfl <| LX.callT rfl rfl rfl hb11 (ihw _ (by omega) _ _ _ (fun w hw => hl.push hw)) Kue.en35 rfl rfl rfl rfl ?_
          intro b7
          refine LX.pure (Y.pickT rfl hb11 rfl) rfl rfl rfl <| LX.pure (Y.assign rfl) rfl rfl rfl <| LX.sub (l' := [(0, _), (2, _), (3, _), (4, _), (11, _), (12, _), (14, _)]) ⟨rfl, rfl, rfl, rfl, rfl, rfl, rfl, trivial⟩ <| LX.next <| PX.blockN <| PX.thenN <| CX.seq <| CX.region <| LX.pure (Y.move rfl) rfl rfl rfl <| LX.pure (Y.not rfl) rfl rfl rfl <| LX.sub (l' := [(0, _), (2, _), (3, _), (4, _), (11, _), (12, _), (98, _)]) ⟨rfl, rfl, rfl, rfl, rfl, rfl, rfl, trivial⟩ <| LX.next <| PX.thenN ?_
          refine CX.cond rfl (fun hb12 => ?_) (fun hb12 => ?_)
          · try simp at hb12
            refine CX.seq <| CX.region <| LX.pure (Y.assign rfl) rfl rfl rfl <| LX.sub (l' := [(0, _), (2, _), (3, _), (4, _), (10, _), (11, _), (12, _)]) ⟨rfl, rfl, rfl, rfl, rfl, rfl, rfl, trivial⟩ <| LX.next <| PX.thenN <| CX.ret <| PX.blockR <| PX.thenR <| PX.thenR <| PX.blockR <| PX.thenR <| PX.ret1 (by simp) Tryz.results35 rfl ?_
            exact fun w hw => ⟨_, rfl, hw.drop (List.nil_sublist _)⟩
          try simp at hb12
          refine CX.skip <| PX.blockN <| PX.thenN <| CX.region <| LX.pure (Y.move rfl) rfl rfl rfl <| LX.pure (Y.addN rfl rfl (by (simp only []; omega))) rfl rfl rfl <| LX.pure (Y.assign rfl) rfl rfl rfl <| LX.sub (l' := [(0, _), (2, _), (3, _), (4, _), (11, _), (12, _)]) ⟨rfl, rfl, rfl, rfl, rfl, rfl, trivial⟩ <| LX.next ?_
          exact PX.again (μ := (fun j => x.kids.length - j)) (i := j) (j + 1) (by show x.kids.length - (j + 1) < x.kids.length - j; omega) ⟨rfl, rfl, rfl, rfl, rfl, rfl, trivial⟩ (fun w hw => ⟨by show j + 1 ≤ x.kids.length; omega, hw.drop (List.sublist_cons_self _ _)⟩)
        refine LX.gF rfl rfl rfl hb11 rfl rfl <| LX.gF rfl rfl rfl hb11 rfl rfl <| LX.gF rfl rfl rfl hb11 rfl rfl <| LX.gF rfl rfl rfl hb11 rfl rfl <| LX.gF rfl rfl rfl hb11 rfl rfl <| LX.gF rfl rfl rfl hb11 rfl rfl <| LX.gF rfl rfl rfl hb11 rfl rfl <| LX.gF rfl rfl rfl hb11 rfl rfl <| LX.gF rfl rfl rfl hb11 rfl rfl <| LX.gF rfl rfl rfl hb11 rfl rfl <| LX.pure (Y.pickF rfl hb11 rfl) rfl rfl rfl <| LX.pure (Y.assign rfl) rfl rfl rfl <| LX.sub (l' := [(0, _), (2, _), (3, _), (4, _), (11, _), (12, _), (14, _)]) ⟨rfl, rfl, rfl, rfl, rfl, rfl, rfl, trivial⟩ <| LX.next <| PX.blockN <| PX.thenN <| CX.seq <| CX.region <| LX.pure (Y.move rfl) rfl rfl rfl <| LX.pure (Y.not rfl) rfl rfl rfl <| LX.sub (l' := [(0, _), (2, _), (3, _), (4, _), (11, _), (12, _), (98, _)]) ⟨rfl, rfl, rfl, rfl, rfl, rfl, rfl, trivial⟩ <| LX.next <| PX.thenN ?_
        refine CX.cond rfl (fun hb13 => ?_) (fun hb13 => ?_)
        · try simp at hb13
          refine CX.seq <| CX.region <| LX.pure (Y.assign rfl) rfl rfl rfl <| LX.sub (l' := [(0, _), (2, _), (3, _), (4, _), (10, _), (11, _), (12, _)]) ⟨rfl, rfl, rfl, rfl, rfl, rfl, rfl, trivial⟩ <| LX.next <| PX.thenN <| CX.ret <| PX.blockR <| PX.thenR <| PX.thenR <| PX.blockR <| PX.thenR <| PX.ret1 (by simp) Tryz.results35 rfl ?_
          exact fun w hw => ⟨_, rfl, hw.drop (List.nil_sublist _)⟩
        try simp at hb13
        done
      have hb10p := hb10
      try simp at hb10p
      refine LX.gF rfl rfl rfl hb10 rfl rfl <| LX.gF rfl rfl rfl hb10 rfl rfl <| LX.gF rfl rfl rfl hb10 rfl rfl <| LX.pure (Y.pickF rfl hb10 rfl) rfl rfl rfl <| LX.pure (Y.move rfl) rfl rfl rfl ?_
      refine LX.caseB (s := 55) rfl (fun hb14 => ?_) (fun hb14 => ?_)
      ·
        (exfalso; simp_all; done)
      refine LX.gF rfl rfl rfl hb14 rfl rfl <| LX.gF rfl rfl rfl hb14 rfl rfl <| LX.gF rfl rfl rfl hb14 rfl rfl <| LX.gF rfl rfl rfl hb14 rfl rfl <| LX.gF rfl rfl rfl hb14 rfl rfl <| LX.gF rfl rfl rfl hb14 rfl rfl <| LX.gF rfl rfl rfl hb14 rfl rfl <| LX.gF rfl rfl rfl hb14 rfl rfl <| LX.gF rfl rfl rfl hb14 rfl rfl <| LX.gF rfl rfl rfl hb14 rfl rfl <| LX.pure (Y.pickF rfl hb14 rfl) rfl rfl rfl <| LX.pure (Y.assign rfl) rfl rfl rfl <| LX.sub (l' := [(0, _), (2, _), (3, _), (4, _), (11, _), (12, _), (14, _)]) ⟨rfl, rfl, rfl, rfl, rfl, rfl, rfl, trivial⟩ <| LX.next <| PX.blockN <| PX.thenN <| CX.seq <| CX.region <| LX.pure (Y.move rfl) rfl rfl rfl <| LX.pure (Y.not rfl) rfl rfl rfl <| LX.sub (l' := [(0, _), (2, _), (3, _), (4, _), (11, _), (12, _), (98, _)]) ⟨rfl, rfl, rfl, rfl, rfl, rfl, rfl, trivial⟩ <| LX.next <| PX.thenN ?_
      refine CX.cond rfl (fun hb15 => ?_) (fun hb15 => ?_)
      · try simp at hb15
        refine CX.seq <| CX.region <| LX.pure (Y.assign rfl) rfl rfl rfl <| LX.sub (l' := [(0, _), (2, _), (3, _), (4, _), (10, _), (11, _), (12, _)]) ⟨rfl, rfl, rfl, rfl, rfl, rfl, rfl, trivial⟩ <| LX.next <| PX.thenN <| CX.ret <| PX.blockR <| PX.thenR <| PX.thenR <| PX.blockR <| PX.thenR <| PX.ret1 (by simp) Tryz.results35 rfl ?_
        exact fun w hw => ⟨_, rfl, hw.drop (List.nil_sublist _)⟩
      try simp at hb15
      done
    try simp at hb9
    refine CX.seq <| CX.region <| LX.pure (Y.eqI rfl rfl) rfl rfl rfl <| LX.pure (Y.assign rfl) rfl rfl rfl <| LX.sub (l' := [(0, _), (2, _), (3, _), (4, _), (11, _), (12, _), (13, _), (14, _), (36, _), (67, _)]) ⟨rfl, rfl, rfl, rfl, rfl, rfl, rfl, rfl, rfl, rfl, trivial⟩ <| LX.next <| PX.thenN ?_
    refine CX.cond rfl (fun hb16 => ?_) (fun hb16 => ?_)
    · try simp at hb16
      refine CX.seq <| CX.region <| LX.pure (Y.assign rfl) rfl rfl rfl <| LX.sub (l' := [(0, _), (2, _), (3, _), (4, _), (11, _), (12, _), (13, _), (14, _), (15, _)]) ⟨rfl, rfl, rfl, rfl, rfl, rfl, rfl, rfl, rfl, trivial⟩ <| LX.next <| PX.thenN <| CX.block <| CX.loop (fun s : Nat × Bool => [(0, .slice al l.length cl), (2, .bool tp), (3, .bool df), (4, .bool lp), (11, .pointer (some ⟨bx11, 0, none⟩)), (12, .int .i64 (j : Int)), (13, .pointer (some ⟨bx13, 0, none⟩)), (14, .bool s.2), (15, .int .i64 (s.1 : Int))]) (fun (s : Nat × Bool) w => s.1 ≤ y1.kids.length + 1 ∧ WA w0 base [blk bx13 [.int .i64 y1.op, .int .i64 y1.n, .int .i64 y1.pos, str y1.s, .slice bk1 y1.kids.length bc1] 53, blk bx11 [.int .i64 x.op, .int .i64 x.n, .int .i64 x.pos, str x.s, .slice ak x.kids.length ck] 53] w) (fun s => y1.kids.length + 1 - s.1) (1, true) ⟨rfl, rfl, rfl, rfl, rfl, rfl, rfl, rfl, rfl, trivial⟩ (fun w hw => ⟨by show 1 ≤ y1.kids.length + 1; omega, hw⟩) ?_
      rintro ⟨q, ok2⟩
      refine CX.have fun hq0 => ?_
      replace hq0 : q ≤ y1.kids.length + 1 := hq0
      try dsimp only
      refine CX.seq <| CX.seq <| CX.region <| LX.pure (Y.move rfl) rfl rfl rfl <| LX.pure (Y.fieldAddr0 Kq.fo53_4 rfl) rfl rfl rfl <| LX.pure (Y.ldB 0 Kq.one51 rfl rfl rfl) rfl rfl rfl <| LX.pure (Y.lenSl rfl Kq.un51 rfl) rfl rfl rfl <| LX.pure (Y.ltN rfl rfl) rfl rfl rfl <| LX.sub (l' := [(0, _), (2, _), (3, _), (4, _), (11, _), (12, _), (13, _), (14, _), (15, _), (73, _)]) ⟨rfl, rfl, rfl, rfl, rfl, rfl, rfl, rfl, rfl, rfl, trivial⟩ <| LX.next <| PX.thenN ?_
      refine CX.cond rfl (fun hb17 => ?_) (fun hb17 => ?_)
      · try simp at hb17
        refine CX.skip <| PX.thenN <| CX.seq <| CX.block <| CX.region <| LX.pure (Y.move rfl) rfl rfl rfl <| LX.pure (Y.move rfl) rfl rfl rfl ?_
        refine LX.caseB (s := 77) rfl (fun hb18 => ?_) (fun hb18 => ?_)
        ·
          have hb18p := hb18
          try simp at hb18p
          refine LX.gT rfl rfl rfl hb18 (Y.move rfl) rfl rfl <| LX.gT rfl rfl rfl hb18 (Y.fieldAddr0 Kq.fo53_4 rfl) rfl rfl <| LX.gT rfl rfl rfl hb18 (Y.ldB 0 Kq.one51 rfl rfl rfl) rfl rfl <| LX.gT rfl rfl rfl hb18 (Y.move rfl) rfl rfl ?_
          obtain ⟨a3, hav3, hL3, _⟩ := hba1.int_at (j := q) (by omega)
          have hr3 := hK1 _ (getD_mem (j := q) (ks := y1.kids) (by omega))
          obtain ⟨k3, hkz3⟩ : ∃ k : Nat, y1.kids.getD q 0 = (k : Int) := ⟨(y1.kids.getD q 0).toNat, by omega⟩
          refine LX.gT rfl rfl rfl hb18 (Y.idxZ Kq.un51 Kc.sz3 rfl rfl hav3 (j := q) rfl (by omega)) rfl rfl <| LX.gT rfl rfl rfl hb18 (show Y _ _ _ _ _ (.int .i64 (k3 : Int)) from by rw [← hkz3]; exact Y.ldO1 Kc.one3 rfl hL3) rfl rfl <| LX.gT rfl rfl rfl hb18 (Y.move rfl) rfl rfl <| LX.gT rfl rfl rfl hb18 (Y.move rfl) rfl rfl <| LX.callT rfl rfl rfl hb18 (ihw _ (by omega) _ _ _ (fun w hw => hl.push hw)) Kue.en35 rfl rfl rfl rfl ?_
          intro b7
          refine LX.pure (Y.pickT rfl hb18 rfl) rfl rfl rfl <| LX.pure (Y.assign rfl) rfl rfl rfl <| LX.sub (l' := [(0, _), (2, _), (3, _), (4, _), (11, _), (12, _), (13, _), (14, _), (15, _)]) ⟨rfl, rfl, rfl, rfl, rfl, rfl, rfl, rfl, rfl, trivial⟩ <| LX.next <| PX.blockN <| PX.thenN <| CX.region <| LX.pure (Y.move rfl) rfl rfl rfl <| LX.pure (Y.addN rfl rfl (by (simp only []; omega))) rfl rfl rfl <| LX.pure (Y.assign rfl) rfl rfl rfl <| LX.sub (l' := [(0, _), (2, _), (3, _), (4, _), (11, _), (12, _), (13, _), (14, _), (15, _)]) ⟨rfl, rfl, rfl, rfl, rfl, rfl, rfl, rfl, rfl, trivial⟩ <| LX.next ?_
          exact PX.again (μ := fun s => y1.kids.length + 1 - s.1) (i := (q, ok2)) (q + 1, _) (by show y1.kids.length + 1 - (q + 1) < y1.kids.length + 1 - q; omega) ⟨rfl, rfl, rfl, rfl, rfl, rfl, rfl, rfl, rfl, trivial⟩ (fun w hw => ⟨by show q + 1 ≤ y1.kids.length + 1; omega, hw⟩)
        have hb18p := hb18
        try simp at hb18p
        refine LX.gF rfl rfl rfl hb18 rfl rfl <| LX.gF rfl rfl rfl hb18 rfl rfl <| LX.gF rfl rfl rfl hb18 rfl rfl <| LX.gF rfl rfl rfl hb18 rfl rfl <| LX.gF rfl rfl rfl hb18 rfl rfl <| LX.gF rfl rfl rfl hb18 rfl rfl <| LX.gF rfl rfl rfl hb18 rfl rfl <| LX.gF rfl rfl rfl hb18 rfl rfl <| LX.gF rfl rfl rfl hb18 rfl rfl <| LX.pure (Y.pickF rfl hb18 rfl) rfl rfl rfl <| LX.pure (Y.assign rfl) rfl rfl rfl <| LX.sub (l' := [(0, _), (2, _), (3, _), (4, _), (11, _), (12, _), (13, _), (14, _), (15, _)]) ⟨rfl, rfl, rfl, rfl, rfl, rfl, rfl, rfl, rfl, trivial⟩ <| LX.next <| PX.blockN <| PX.thenN <| CX.region <| LX.pure (Y.move rfl) rfl rfl rfl <| LX.pure (Y.addN rfl rfl (by (simp only []; omega))) rfl rfl rfl <| LX.pure (Y.assign rfl) rfl rfl rfl <| LX.sub (l' := [(0, _), (2, _), (3, _), (4, _), (11, _), (12, _), (13, _), (14, _), (15, _)]) ⟨rfl, rfl, rfl, rfl, rfl, rfl, rfl, rfl, rfl, trivial⟩ <| LX.next ?_
        exact PX.again (μ := fun s => y1.kids.length + 1 - s.1) (i := (q, ok2)) (q + 1, _) (by show y1.kids.length + 1 - (q + 1) < y1.kids.length + 1 - q; omega) ⟨rfl, rfl, rfl, rfl, rfl, rfl, rfl, rfl, rfl, trivial⟩ (fun w hw => ⟨by show q + 1 ≤ y1.kids.length + 1; omega, hw⟩)
      try simp at hb17
      refine CX.exit <| PX.thenE <| PX.thenE <| PX.blockE <| PX.blockN <| PX.thenN <| CX.seq <| CX.region <| LX.pure (Y.move rfl) rfl rfl rfl <| LX.pure (Y.not rfl) rfl rfl rfl <| LX.sub (l' := [(0, _), (2, _), (3, _), (4, _), (11, _), (12, _), (98, _)]) ⟨rfl, rfl, rfl, rfl, rfl, rfl, rfl, trivial⟩ <| LX.next <| PX.thenN ?_
      refine CX.cond rfl (fun hb19 => ?_) (fun hb19 => ?_)
      · try simp at hb19
        refine CX.seq <| CX.region <| LX.pure (Y.assign rfl) rfl rfl rfl <| LX.sub (l' := [(0, _), (2, _), (3, _), (4, _), (10, _), (11, _), (12, _)]) ⟨rfl, rfl, rfl, rfl, rfl, rfl, rfl, trivial⟩ <| LX.next <| PX.thenN <| CX.ret <| PX.blockR <| PX.thenR <| PX.thenR <| PX.blockR <| PX.thenR <| PX.ret1 (by simp) Tryz.results35 rfl ?_
        exact fun w hw => ⟨_, rfl, hw.drop (List.nil_sublist _)⟩
      try simp at hb19
      refine CX.skip <| PX.blockN <| PX.thenN <| CX.region <| LX.pure (Y.move rfl) rfl rfl rfl <| LX.pure (Y.addN rfl rfl (by (simp only []; omega))) rfl rfl rfl <| LX.pure (Y.assign rfl) rfl rfl rfl <| LX.sub (l' := [(0, _), (2, _), (3, _), (4, _), (11, _), (12, _)]) ⟨rfl, rfl, rfl, rfl, rfl, rfl, trivial⟩ <| LX.next ?_
      exact PX.again (μ := (fun j => x.kids.length - j)) (i := j) (j + 1) (by show x.kids.length - (j + 1) < x.kids.length - j; omega) ⟨rfl, rfl, rfl, rfl, rfl, rfl, trivial⟩ (fun w hw => ⟨by show j + 1 ≤ x.kids.length; omega, hw.drop (List.sublist_cons_self _ _)⟩)
    try simp at hb16
    refine CX.seq <| CX.region <| LX.pure (Y.eqI rfl rfl) rfl rfl rfl <| LX.pure (Y.assign rfl) rfl rfl rfl <| LX.sub (l' := [(0, _), (2, _), (3, _), (4, _), (11, _), (12, _), (13, _), (14, _), (88, _)]) ⟨rfl, rfl, rfl, rfl, rfl, rfl, rfl, rfl, rfl, trivial⟩ <| LX.next <| PX.thenN ?_
    refine CX.cond rfl (fun hb20 => ?_) (fun hb20 => ?_)
    · try simp at hb20
      refine CX.region <| LX.pure (Y.move rfl) rfl rfl rfl <| LX.pure (Y.fieldAddr0 Kq.fo53_4 rfl) rfl rfl rfl <| LX.pure (Y.ldB 0 Kq.one51 rfl rfl rfl) rfl rfl rfl ?_
      have hd3 := hO.fr k1 y1 (by omega) hy1 (by assumption)
      obtain ⟨a4, hav4, hL4, _⟩ := hba1.int_at (j := 2) (by omega)
      have hr4 := hK1 _ (getD_mem (j := 2) (ks := y1.kids) (by omega))
      obtain ⟨k4, hkz4⟩ : ∃ k : Nat, y1.kids.getD 2 0 = (k : Int) := ⟨(y1.kids.getD 2 0).toNat, by omega⟩
      refine LX.pure (Y.idxZ Kq.un51 Kc.sz3 rfl rfl hav4 (j := 2) rfl (by omega)) rfl rfl rfl <| LX.pure (show Y _ _ _ _ _ (.int .i64 (k4 : Int)) from by rw [← hkz4]; exact Y.ldO1 Kc.one3 rfl hL4) rfl rfl rfl <| LX.pure (Y.move rfl) rfl rfl rfl <| LX.call (ihw _ (by omega) _ _ _ (fun w hw => hl.push hw)) Kue.en35 rfl rfl rfl rfl rfl ?_
      intro b7
      refine LX.pure (Y.assign rfl) rfl rfl rfl <| LX.sub (l' := [(0, _), (2, _), (3, _), (4, _), (11, _), (12, _), (14, _)]) ⟨rfl, rfl, rfl, rfl, rfl, rfl, rfl, trivial⟩ <| LX.next <| PX.blockN <| PX.thenN <| CX.seq <| CX.region <| LX.pure (Y.move rfl) rfl rfl rfl <| LX.pure (Y.not rfl) rfl rfl rfl <| LX.sub (l' := [(0, _), (2, _), (3, _), (4, _), (11, _), (12, _), (98, _)]) ⟨rfl, rfl, rfl, rfl, rfl, rfl, rfl, trivial⟩ <| LX.next <| PX.thenN ?_
      refine CX.cond rfl (fun hb21 => ?_) (fun hb21 => ?_)
      · try simp at hb21
        refine CX.seq <| CX.region <| LX.pure (Y.assign rfl) rfl rfl rfl <| LX.sub (l' := [(0, _), (2, _), (3, _), (4, _), (10, _), (11, _), (12, _)]) ⟨rfl, rfl, rfl, rfl, rfl, rfl, rfl, trivial⟩ <| LX.next <| PX.thenN <| CX.ret <| PX.blockR <| PX.thenR <| PX.thenR <| PX.blockR <| PX.thenR <| PX.ret1 (by simp) Tryz.results35 rfl ?_
        exact fun w hw => ⟨_, rfl, hw.drop (List.nil_sublist _)⟩
      try simp at hb21
      refine CX.skip <| PX.blockN <| PX.thenN <| CX.region <| LX.pure (Y.move rfl) rfl rfl rfl <| LX.pure (Y.addN rfl rfl (by (simp only []; omega))) rfl rfl rfl <| LX.pure (Y.assign rfl) rfl rfl rfl <| LX.sub (l' := [(0, _), (2, _), (3, _), (4, _), (11, _), (12, _)]) ⟨rfl, rfl, rfl, rfl, rfl, rfl, trivial⟩ <| LX.next ?_
      exact PX.again (μ := (fun j => x.kids.length - j)) (i := j) (j + 1) (by show x.kids.length - (j + 1) < x.kids.length - j; omega) ⟨rfl, rfl, rfl, rfl, rfl, rfl, trivial⟩ (fun w hw => ⟨by show j + 1 ≤ x.kids.length; omega, hw.drop (List.sublist_cons_self _ _)⟩)
    try simp at hb20
    refine CX.skip <| PX.blockN <| PX.thenN <| CX.seq <| CX.region <| LX.pure (Y.move rfl) rfl rfl rfl <| LX.pure (Y.not rfl) rfl rfl rfl <| LX.sub (l' := [(0, _), (2, _), (3, _), (4, _), (11, _), (12, _), (98, _)]) ⟨rfl, rfl, rfl, rfl, rfl, rfl, rfl, trivial⟩ <| LX.next <| PX.thenN ?_
    refine CX.cond rfl (fun hb22 => ?_) (fun hb22 => ?_)
    · try simp at hb22
      done
    try simp at hb22
    refine CX.skip <| PX.blockN <| PX.thenN <| CX.region <| LX.pure (Y.move rfl) rfl rfl rfl <| LX.pure (Y.addN rfl rfl (by (simp only []; omega))) rfl rfl rfl <| LX.pure (Y.assign rfl) rfl rfl rfl <| LX.sub (l' := [(0, _), (2, _), (3, _), (4, _), (11, _), (12, _)]) ⟨rfl, rfl, rfl, rfl, rfl, rfl, trivial⟩ <| LX.next ?_
    exact PX.again (μ := (fun j => x.kids.length - j)) (i := j) (j + 1) (by show x.kids.length - (j + 1) < x.kids.length - j; omega) ⟨rfl, rfl, rfl, rfl, rfl, rfl, trivial⟩ (fun w hw => ⟨by show j + 1 ≤ x.kids.length; omega, hw.drop (List.sublist_cons_self _ _)⟩)
  try simp at hb1
  refine CX.exit <| PX.thenE <| PX.thenE <| PX.blockE <| PX.thenN <| CX.seq <| CX.region <| LX.pure (Y.assign rfl) rfl rfl rfl <| LX.sub (l' := [(10, _)]) ⟨rfl, trivial⟩ <| LX.next <| PX.thenN <| CX.ret <| PX.ret1 (by simp) Tryz.results35 rfl ?_
  exact fun w hw => ⟨_, rfl, hw.drop (List.nil_sublist _)⟩
theorem inside_0 {al : Option Addr} (cl : Nat) {l : List Nd} (hB : ∀ (k : Nat) x, l[k]? = some x → x.kids.length ≤ 302 ∧ x.s.length ≤ 302) (h3 : l.length ≤ 302) (i : Nat) (hO : Ok6 l (i + 1)) (hi : i < l.length) : ∀ (tp df lp : Bool) {w0 : World} {base : Nat} (_hl : SlAt 5 ndA (Lies w0 base) al l), FnC Tryz.prog 35 #[.slice al l.length cl, .int .i64 (i : Int), .bool tp, .bool df, .bool lp] (WA w0 base []) (fun b : Bool => .bool b) (fun _ => WA w0 base []) := by
  induction i using Nat.strongRecOn with
  | _ i ih =>
    intro tp df lp w0 base hl
    exact inside_s cl hB h3 hO hi hl (fun k hk tp df lp w0 base hl => ih k hk ⟨fun q x hq => hO.kid q x (by omega), fun q x hq => hO.df q x (by omega), fun q x hq => hO.fr q x (by omega)⟩ (by omega) tp df lp hl) tp df lp
theorem inside_w {W : World → Prop} [Stab W] {al : Option Addr} (cl : Nat) {l : List Nd} (hB : ∀ (k : Nat) x, l[k]? = some x → x.kids.length ≤ 302 ∧ x.s.length ≤ 302) (h3 : l.length ≤ 302) (i : Nat) (hO : Ok6 l (i + 1)) (hi : i < l.length) (tp df lp : Bool) (hl : ∀ w, W w → SlAt 5 ndA (Lies w w.heap.size) al l) : FnC Tryz.prog 35 #[.slice al l.length cl, .int .i64 (i : Int), .bool tp, .bool df, .bool lp] W (fun b : Bool => .bool b) (fun _ => W) := FnC.re fun w hw => inside_0 cl hB h3 i hO hi tp df lp (hl w hw)
end Go.Proofs.YtickdimknfeddaaGreatDoor

namespace Go.Proofs.YtickdimknfeddaaGreatDoor
open Go.SX Go.RowKit Go.Vo Go.Ky Go.Proofs.YtickdimknfeddaaGreatDoor.Env Go.Tr
namespace Kuf
theorem en32 : Enters Tryz.prog 32 := Enters.of Tryz.func32 (by kernel_rfl) (by kernel_rfl)
theorem en33 : Enters Tryz.prog 33 := Enters.of Tryz.func33 (by kernel_rfl) (by kernel_rfl)
theorem en34 : Enters Tryz.prog 34 := Enters.of Tryz.func34 (by kernel_rfl) (by kernel_rfl)
theorem en36 : Enters Tryz.prog 36 := Enters.of Tryz.func36 (by kernel_rfl) (by kernel_rfl)
theorem fa53_1 : FieldOffA Tryz.prog 53 1 1 := fun a w => by kernel_rfl
theorem fo53_1 : FieldOff Tryz.prog 53 1 1 := fun b o w => by kernel_rfl
theorem sz4 : SizeIs Tryz.prog 4 1 := fun w => by kernel_rfl
theorem un82 : Tryz.prog.underlying 82 = some (.slice 4) := by kernel_rfl
theorem el82 : Elem Tryz.prog 82 4 1 1 := Elem.of un82 (z := .bool false) (by kernel_rfl) rfl
end Kuf
theorem valid6_0 {w0 : World} {base : Nat} {al : Option Addr} (cl : Nat) {l : List Nd} (hB : ∀ (k : Nat) x, l[k]? = some x → x.kids.length ≤ 302 ∧ x.s.length ≤ 302) (h3 : l.length ≤ 302)  (hl : SlAt 5 ndA (Lies w0 base) al l) : FnC Tryz.prog 20 #[.slice al l.length cl] (WA w0 base []) (fun b : Int × Bool × Int => .agg #[.int .i64 b.1, .bool b.2.1, .int .i64 b.2.2, .bool false, str []]) (fun b w => (b.1 = 0 → Ok6 l l.length) ∧ WA w0 base [] w) := by
  refine FnC.of_body (fn := Tryz.f20) [(0, _)] Tryz.func20 rfl Tryz.ntmps20 rfl ⟨rfl, trivial⟩ ?_
  refine CX.seq <| CX.region <| LX.alloc rfl Kud.zv48 rfl rfl rfl ?_
  intro b2x
  refine LX.sub (l' := [(0, _), (2, _)]) ⟨rfl, rfl, trivial⟩ <| LX.next <| PX.thenN <| CX.seq <| CX.seq <| CX.region <| LX.pure (Y.move rfl) rfl rfl rfl <| LX.pure (Y.lenSl rfl Kq.un22 rfl) rfl rfl rfl <| LX.pure (Y.gtN rfl rfl) rfl rfl rfl <| LX.sub (l' := [(0, _), (2, _), (12, _)]) ⟨rfl, rfl, rfl, trivial⟩ <| LX.next <| PX.thenN ?_
  refine CX.cond rfl (fun hb1 => ?_) (fun hb1 => ?_)
  · try simp at hb1
    refine CX.seq <| CX.region <| LX.call (gBare_c _) Kuf.en32 rfl rfl rfl rfl rfl ?_
    intro _
    refine LX.storeA 0 Kud.ag48 rfl rfl rfl rfl rfl rfl rfl rfl rfl <| LX.sub (l' := [(0, _), (2, _)]) ⟨rfl, rfl, trivial⟩ <| LX.next <| PX.thenN <| CX.ret <| PX.thenR <| PX.retA (i := 0) (by simp) Tryz.results20 Kud.ag48 rfl rfl rfl ?_
    exact fun w hw => ⟨(110, false, 0), rfl, (fun h => absurd h (by decide)), hw.drop (List.nil_sublist _)⟩
  try simp at hb1
  refine CX.skip <| PX.thenN <| CX.seq <| CX.region <| LX.pure (Y.move rfl) rfl rfl rfl <| LX.pure (Y.lenSl rfl Kq.un22 rfl) rfl rfl rfl <| LX.pure (Y.sub rfl rfl (by omega)) rfl rfl rfl <| LX.pure (Y.assign rfl) rfl rfl rfl <| LX.sub (l' := [(0, _), (2, _), (3, _)]) ⟨rfl, rfl, rfl, trivial⟩ <| LX.next <| PX.thenN <| CX.seq <| CX.seq <| CX.region <| LX.pure (Y.move rfl) rfl rfl rfl <| LX.pure (Y.ltI rfl rfl) rfl rfl rfl <| LX.sub (l' := [(0, _), (2, _), (3, _), (18, _)]) ⟨rfl, rfl, rfl, rfl, trivial⟩ <| LX.next <| PX.thenN ?_
  refine CX.cond rfl (fun hb2 => ?_) (fun hb2 => ?_)
  · try simp at hb2
    refine CX.seq <| CX.region <| LX.call (gPlaced_c _ _ (by decide)) Kuf.en33 rfl rfl rfl rfl rfl ?_
    intro _
    refine LX.storeA 0 Kud.ag48 rfl rfl rfl rfl rfl rfl rfl rfl rfl <| LX.sub (l' := [(0, _), (2, _), (3, _)]) ⟨rfl, rfl, rfl, trivial⟩ <| LX.next <| PX.thenN <| CX.ret <| PX.thenR <| PX.retA (i := 0) (by simp) Tryz.results20 Kud.ag48 rfl rfl rfl ?_
    exact fun w hw => ⟨(113, true, 0), rfl, (fun h => absurd (show (113 : Int) = 0 from h) (by decide)), hw.drop (List.nil_sublist _)⟩
  try simp at hb2
  refine CX.skip <| PX.thenN <| CX.seq <| CX.region <| LX.pure (Y.move rfl) rfl rfl rfl <| LX.pure (Y.lenSl rfl Kq.un22 rfl) rfl rfl rfl <| LX.makeN (z := .bool false) Kuf.el82 (by kernel_rfl) rfl rfl rfl (by omega) (by omega) rfl rfl rfl ?_
  intro gb
  rw [made_bv]
  refine LX.pure (Y.assign rfl) rfl rfl rfl <| LX.sub (l' := [(0, _), (2, _), (3, _), (4, _)]) ⟨rfl, rfl, rfl, rfl, trivial⟩ <| LX.next <| PX.thenN <| CX.seq <| CX.seq <| CX.region <| LX.pure (Y.assign rfl) rfl rfl rfl <| LX.sub (l' := [(0, _), (2, _), (3, _), (4, _), (5, _)]) ⟨rfl, rfl, rfl, rfl, rfl, trivial⟩ <| LX.next <| PX.thenN <| CX.block <| CX.loop (fun s : Nat × List Bool => [(0, .slice al l.length cl), (2, .pointer (some ⟨b2x, 0, none⟩)), (3, .int .i64 ((l.length : Int) - 1)), (4, rv (some gb) l.length l.length), (5, .int .i64 (s.1 : Int))]) (fun (s : Nat × List Bool) w => (s.1 ≤ l.length ∧ s.2.length = l.length ∧ Ok6 l s.1) ∧ WA w0 base [.row (some gb) l.length l.length 4 1 (s.2.map bv), blk b2x [.int .i64 0, .bool false, .int .i64 0, .bool false, str []] 48] w) (fun s => l.length - s.1) (0, List.replicate l.length false) ⟨rfl, rfl, rfl, rfl, rfl, trivial⟩ (fun w hw => ⟨⟨Nat.zero_le _, List.length_replicate .., Ok6.zero l⟩, hw⟩) ?_
  rintro ⟨i, u⟩
  refine CX.have fun ⟨hi0, hul, hok⟩ => ?_
  try dsimp only at hi0 hul hok ⊢
  refine CX.seq <| CX.seq <| CX.region <| LX.pure (Y.move rfl) rfl rfl rfl <| LX.pure (Y.move rfl) rfl rfl rfl <| LX.pure (Y.leI rfl rfl) rfl rfl rfl <| LX.sub (l' := [(0, _), (2, _), (3, _), (4, _), (5, _), (25, _)]) ⟨rfl, rfl, rfl, rfl, rfl, rfl, trivial⟩ <| LX.next <| PX.thenN ?_
  refine CX.cond rfl (fun hb3 => ?_) (fun hb3 => ?_)
  · try simp at hb3
    have hi : i < l.length := by omega
    obtain ⟨x, hx⟩ : ∃ x, l[i]? = some x := ⟨_, List.getElem?_eq_getElem (by omega)⟩
    obtain ⟨a, ak, ck, hav, hL, hkc, hka⟩ := nd_of hl hx
    have hb302 := hB i x hx
    refine CX.skip <| PX.thenN <| CX.seq <| CX.block <| CX.seq <| CX.seq <| CX.region <| LX.pure (Y.assign rfl) rfl rfl rfl <| LX.sub (l' := [(0, _), (2, _), (3, _), (4, _), (5, _), (6, _)]) ⟨rfl, rfl, rfl, rfl, rfl, rfl, trivial⟩ <| LX.next <| PX.thenN <| CX.block <| CX.loop (fun s : Nat × List Bool => [(0, .slice al l.length cl), (2, .pointer (some ⟨b2x, 0, none⟩)), (3, .int .i64 ((l.length : Int) - 1)), (4, rv (some gb) l.length l.length), (5, .int .i64 (i : Int)), (6, .int .i64 (s.1 : Int))]) (fun (s : Nat × List Bool) w => (s.1 ≤ x.kids.length ∧ s.2.length = l.length ∧ ∀ q, q < s.1 → 0 ≤ x.kids.getD q 0 ∧ x.kids.getD q 0 < (i : Int)) ∧ WA w0 base [.row (some gb) l.length l.length 4 1 (s.2.map bv), blk b2x [.int .i64 0, .bool false, .int .i64 0, .bool false, str []] 48] w) (fun s => x.kids.length - s.1) (0, u) ⟨rfl, rfl, rfl, rfl, rfl, rfl, trivial⟩ (fun w hw => ⟨⟨Nat.zero_le _, hul, fun q h => absurd h (Nat.not_lt_zero q)⟩, hw⟩) ?_
    rintro ⟨j, v⟩
    refine CX.have fun ⟨hj0, hvl, hkr⟩ => ?_
    try dsimp only at hj0 hvl hkr ⊢
    refine CX.seq <| CX.seq <| CX.region <| LX.pure (Y.move rfl) rfl rfl rfl <| LX.pure (Y.move rfl) rfl rfl rfl <| LX.pure (Y.move rfl) rfl rfl rfl <| LX.pure (Y.idxZ Kq.un22 Kq.sz53 rfl rfl hav (j := i) rfl (by omega)) rfl rfl rfl <| LX.pure (Y.fieldA Kq.fa53_4 rfl) rfl rfl rfl <| LX.pure (Y.ldFO (v := .slice ak x.kids.length ck) Kq.one51 rfl hL rfl) rfl rfl rfl <| LX.pure (Y.lenSl rfl Kq.un51 rfl) rfl rfl rfl <| LX.pure (Y.ltN rfl rfl) rfl rfl rfl <| LX.sub (l' := [(0, _), (2, _), (3, _), (4, _), (5, _), (6, _), (35, _)]) ⟨rfl, rfl, rfl, rfl, rfl, rfl, rfl, trivial⟩ <| LX.next <| PX.thenN ?_
    refine CX.cond rfl (fun hb4 => ?_) (fun hb4 => ?_)
    · try simp at hb4
      have hj1 : j < x.kids.length := by omega
      refine CX.skip <| PX.thenN <| CX.seq <| CX.block <| CX.seq <| CX.region <| LX.pure (Y.move rfl) rfl rfl rfl <| LX.pure (Y.move rfl) rfl rfl rfl <| LX.pure (Y.idxZ Kq.un22 Kq.sz53 rfl rfl hav (j := i) rfl (by omega)) rfl rfl rfl <| LX.pure (Y.fieldA Kq.fa53_4 rfl) rfl rfl rfl <| LX.pure (Y.ldFO (v := .slice ak x.kids.length ck) Kq.one51 rfl hL rfl) rfl rfl rfl <| LX.pure (Y.move rfl) rfl rfl rfl ?_
      obtain ⟨a1, hav1, hL1, hin1⟩ := hka.int_at (j := j) hj1
      generalize hkj : x.kids.getD j 0 = kz at hL1 hin1
      refine LX.pure (Y.idxZ Kq.un51 Kc.sz3 rfl rfl hav1 (j := j) rfl (by omega)) rfl rfl rfl <| LX.pure (Y.ldO1 Kc.one3 rfl hL1) rfl rfl rfl <| LX.pure (Y.assign rfl) rfl rfl rfl <| LX.sub (l' := [(0, _), (2, _), (3, _), (4, _), (5, _), (6, _), (7, _)]) ⟨rfl, rfl, rfl, rfl, rfl, rfl, rfl, trivial⟩ <| LX.next <| PX.thenN <| CX.seq <| CX.seq <| CX.region <| LX.pure (Y.move rfl) rfl rfl rfl <| LX.pure (Y.ltI rfl rfl) rfl rfl rfl <| LX.pure (Y.move rfl) rfl rfl rfl ?_
      refine LX.caseB (s := 48) rfl (fun hb5 => ?_) (fun hb5 => ?_)
      ·
        have hb5p := hb5
        try simp at hb5p
        refine LX.gF rfl rfl rfl hb5 rfl rfl <| LX.gF rfl rfl rfl hb5 rfl rfl <| LX.gF rfl rfl rfl hb5 rfl rfl <| LX.pure (Y.pickT rfl hb5 rfl) rfl rfl rfl <| LX.pure (Y.move rfl) rfl rfl rfl ?_
        refine LX.caseB (s := 53) rfl (fun hb6 => ?_) (fun hb6 => ?_)
        ·
          refine LX.gF rfl rfl rfl hb6 rfl rfl <| LX.gF rfl rfl rfl hb6 rfl rfl <| LX.gF rfl rfl rfl hb6 rfl rfl <| LX.gF rfl rfl rfl hb6 rfl rfl <| LX.pure (Y.pickT rfl hb6 rfl) rfl rfl rfl <| LX.sub (l' := [(0, _), (2, _), (3, _), (4, _), (5, _), (6, _), (7, _), (58, _)]) ⟨rfl, rfl, rfl, rfl, rfl, rfl, rfl, rfl, trivial⟩ <| LX.next <| PX.thenN ?_
          refine CX.cond rfl (fun hb7 => ?_) (fun hb7 => ?_)
          · try simp at hb7
            refine CX.seq <| CX.region <| LX.pure (Y.move rfl) rfl rfl rfl <| LX.call (gPlaced_c _ _ (by decide)) Kuf.en33 rfl rfl rfl rfl rfl ?_
            intro _
            refine LX.storeA 1 Kud.ag48 rfl rfl rfl rfl rfl rfl rfl rfl rfl <| LX.sub (l' := [(0, _), (2, _), (3, _), (4, _), (5, _), (6, _), (7, _)]) ⟨rfl, rfl, rfl, rfl, rfl, rfl, rfl, trivial⟩ <| LX.next <| PX.thenN <| CX.ret <| PX.thenR <| PX.blockR <| PX.thenR <| PX.thenR <| PX.blockR <| PX.thenR <| PX.blockR <| PX.thenR <| PX.thenR <| PX.blockR <| PX.thenR <| PX.retA (i := 1) (by simp) Tryz.results20 Kud.ag48 rfl rfl rfl ?_
            exact fun w hw => ⟨(113, true, (i : Int)), rfl, (fun h => absurd (show (113 : Int) = 0 from h) (by decide)), hw.drop (List.nil_sublist _)⟩
          try simp at hb7
          done
        (exfalso; simp_all; done)
      have hb5p := hb5
      try simp at hb5p
      refine LX.gT rfl rfl rfl hb5 (Y.move rfl) rfl rfl <| LX.gT rfl rfl rfl hb5 (Y.move rfl) rfl rfl <| LX.gT rfl rfl rfl hb5 (Y.geI rfl rfl) rfl rfl <| LX.pure (Y.pickF rfl hb5 rfl) rfl rfl rfl <| LX.pure (Y.move rfl) rfl rfl rfl ?_
      refine LX.caseB (s := 53) rfl (fun hb8 => ?_) (fun hb8 => ?_)
      ·
        refine LX.gF rfl rfl rfl hb8 rfl rfl <| LX.gF rfl rfl rfl hb8 rfl rfl <| LX.gF rfl rfl rfl hb8 rfl rfl <| LX.gF rfl rfl rfl hb8 rfl rfl <| LX.pure (Y.pickT rfl hb8 rfl) rfl rfl rfl <| LX.sub (l' := [(0, _), (2, _), (3, _), (4, _), (5, _), (6, _), (7, _), (58, _)]) ⟨rfl, rfl, rfl, rfl, rfl, rfl, rfl, rfl, trivial⟩ <| LX.next <| PX.thenN ?_
        refine CX.cond rfl (fun hb9 => ?_) (fun hb9 => ?_)
        · try simp at hb9
          refine CX.seq <| CX.region <| LX.pure (Y.move rfl) rfl rfl rfl <| LX.call (gPlaced_c _ _ (by decide)) Kuf.en33 rfl rfl rfl rfl rfl ?_
          intro _
          refine LX.storeA 1 Kud.ag48 rfl rfl rfl rfl rfl rfl rfl rfl rfl <| LX.sub (l' := [(0, _), (2, _), (3, _), (4, _), (5, _), (6, _), (7, _)]) ⟨rfl, rfl, rfl, rfl, rfl, rfl, rfl, trivial⟩ <| LX.next <| PX.thenN <| CX.ret <| PX.thenR <| PX.blockR <| PX.thenR <| PX.thenR <| PX.blockR <| PX.thenR <| PX.blockR <| PX.thenR <| PX.thenR <| PX.blockR <| PX.thenR <| PX.retA (i := 1) (by simp) Tryz.results20 Kud.ag48 rfl rfl rfl ?_
          exact fun w hw => ⟨(113, true, (i : Int)), rfl, (fun h => absurd (show (113 : Int) = 0 from h) (by decide)), hw.drop (List.nil_sublist _)⟩
        try simp at hb9
        done
      have hb8p := hb8
      try simp at hb8p
      refine LX.gT rfl rfl rfl hb8 (Y.move rfl) rfl rfl <| LX.gT rfl rfl rfl hb8 (Y.move rfl) rfl rfl ?_
      have hkz : kz = ((kz.toNat : Nat) : Int) := by omega
      have hkn2 : kz.toNat < l.length := by omega
      obtain ⟨vb, hvb⟩ : ∃ vb, v[kz.toNat]? = some vb := ⟨_, List.getElem?_eq_getElem (by omega)⟩
      refine LX.gT rfl rfl rfl hb8 (Y.idxRZ 0 (i := kz.toNat) Kuf.un82 Kuf.sz4 rfl rfl hkz rfl hkn2) rfl rfl <| LX.gT rfl rfl rfl hb8 (Y.ldR 0 (v := .bool vb) Ka.one4 rfl rfl (bv_at hvb)) rfl rfl <| LX.pure (Y.pickF rfl hb8 rfl) rfl rfl rfl <| LX.sub (l' := [(0, _), (2, _), (3, _), (4, _), (5, _), (6, _), (7, _), (58, _)]) ⟨rfl, rfl, rfl, rfl, rfl, rfl, rfl, rfl, trivial⟩ <| LX.next <| PX.thenN ?_
      refine CX.cond rfl (fun hb10 => ?_) (fun hb10 => ?_)
      · try simp at hb10
        refine CX.seq <| CX.region <| LX.pure (Y.move rfl) rfl rfl rfl <| LX.call (gPlaced_c _ _ (by decide)) Kuf.en33 rfl rfl rfl rfl rfl ?_
        intro _
        refine LX.storeA 1 Kud.ag48 rfl rfl rfl rfl rfl rfl rfl rfl rfl <| LX.sub (l' := [(0, _), (2, _), (3, _), (4, _), (5, _), (6, _), (7, _)]) ⟨rfl, rfl, rfl, rfl, rfl, rfl, rfl, trivial⟩ <| LX.next <| PX.thenN <| CX.ret <| PX.thenR <| PX.blockR <| PX.thenR <| PX.thenR <| PX.blockR <| PX.thenR <| PX.blockR <| PX.thenR <| PX.thenR <| PX.blockR <| PX.thenR <| PX.retA (i := 1) (by simp) Tryz.results20 Kud.ag48 rfl rfl rfl ?_
        exact fun w hw => ⟨(113, true, (i : Int)), rfl, (fun h => absurd (show (113 : Int) = 0 from h) (by decide)), hw.drop (List.nil_sublist _)⟩
      try simp at hb10
      refine CX.skip <| PX.thenN <| CX.region <| LX.pure (Y.move rfl) rfl rfl rfl <| LX.pure (Y.move rfl) rfl rfl rfl <| LX.pure (Y.idxRZ 0 (i := kz.toNat) Kuf.un82 Kuf.sz4 rfl rfl hkz rfl hkn2) rfl rfl rfl <| LX.storeR 0 Kuf.sz4 rfl rfl rfl rfl rfl (by rw [List.length_map]; omega) rfl rfl <| LX.sub (l' := [(0, _), (2, _), (3, _), (4, _), (5, _), (6, _)]) ⟨rfl, rfl, rfl, rfl, rfl, rfl, trivial⟩ <| LX.next <| PX.blockN <| PX.thenN <| CX.region <| LX.pure (Y.move rfl) rfl rfl rfl <| LX.pure (Y.addN rfl rfl (by (simp only []; omega))) rfl rfl rfl <| LX.pure (Y.assign rfl) rfl rfl rfl <| LX.sub (l' := [(0, _), (2, _), (3, _), (4, _), (5, _), (6, _)]) ⟨rfl, rfl, rfl, rfl, rfl, rfl, trivial⟩ <| LX.next ?_
      exact PX.again (μ := fun s => x.kids.length - s.1) (i := (j, v)) (j + 1, v.set kz.toNat true) (by show x.kids.length - (j + 1) < x.kids.length - j; omega) ⟨rfl, rfl, rfl, rfl, rfl, rfl, trivial⟩ (fun w hw => ⟨⟨by show j + 1 ≤ x.kids.length; omega, by show (v.set _ true).length = _; rw [List.length_set]; exact hvl, fun q hq => by
        have hq2 : q < j + 1 := hq
        by_cases e : q = j
        · subst e; rw [hkj]; omega
        · exact hkr q (by omega)⟩, by have h1 := hw; rw [Nat.mul_one] at h1; rw [← bv_set]; exact h1⟩)
    try simp at hb4
    have hje : j = x.kids.length := by omega
    have hKi : ∀ q ∈ x.kids, 0 ≤ q ∧ q < (i : Int) := fun q hq => by
      obtain ⟨n9, hn9⟩ := List.mem_iff_getElem?.1 hq
      have h8 := hkr n9 (by have := (List.getElem?_eq_some_iff.1 hn9).1; omega)
      rw [List.getD_eq_getElem?_getD, hn9] at h8
      exact h8
    have hAi : ∀ (k : Nat) y, k ≤ i → l[k]? = some y → ∀ q ∈ y.kids, 0 ≤ q ∧ q < (k : Int) := fun k y hk hy => by
      rcases Nat.lt_or_ge k i with h8 | h8
      · exact hok.kid k y h8 hy
      obtain rfl : k = i := by omega
      rw [hx] at hy; cases hy
      exact hKi
    refine CX.exit <| PX.thenE <| PX.thenE <| PX.blockE <| PX.thenN <| CX.seq <| CX.region <| LX.pure (Y.move rfl) rfl rfl rfl <| LX.pure (Y.move rfl) rfl rfl rfl <| LX.pure (Y.idxZ Kq.un22 Kq.sz53 rfl rfl hav (j := i) rfl (by omega)) rfl rfl rfl <| LX.pure (Y.fieldA Kuf.fa53_1 rfl) rfl rfl rfl <| LX.pure (Y.ldFO (v := .int .i64 x.n) Kc.one3 rfl hL rfl) rfl rfl rfl <| LX.pure (Y.neI rfl rfl) rfl rfl rfl <| LX.pure (Y.move rfl) rfl rfl rfl ?_
    refine LX.caseB (s := 70) rfl (fun hb11 => ?_) (fun hb11 => ?_)
    ·
      refine LX.gF rfl rfl rfl hb11 rfl rfl <| LX.gF rfl rfl rfl hb11 rfl rfl <| LX.gF rfl rfl rfl hb11 rfl rfl <| LX.gF rfl rfl rfl hb11 rfl rfl <| LX.pure (Y.pickT rfl hb11 rfl) rfl rfl rfl <| LX.sub (l' := [(0, _), (2, _), (3, _), (4, _), (5, _), (75, _)]) ⟨rfl, rfl, rfl, rfl, rfl, rfl, trivial⟩ <| LX.next <| PX.thenN ?_
      refine CX.cond rfl (fun hb12 => ?_) (fun hb12 => ?_)
      · try simp at hb12
        refine CX.seq <| CX.region <| LX.pure (Y.move rfl) rfl rfl rfl <| LX.call (gPlaced_c _ _ (by decide)) Kuf.en33 rfl rfl rfl rfl rfl ?_
        intro _
        refine LX.storeA 1 Kud.ag48 rfl rfl rfl rfl rfl rfl rfl rfl rfl <| LX.sub (l' := [(0, _), (2, _), (3, _), (4, _), (5, _)]) ⟨rfl, rfl, rfl, rfl, rfl, trivial⟩ <| LX.next <| PX.thenN <| CX.ret <| PX.blockR <| PX.thenR <| PX.thenR <| PX.blockR <| PX.thenR <| PX.retA (i := 1) (by simp) Tryz.results20 Kud.ag48 rfl rfl rfl ?_
        exact fun w hw => ⟨(113, true, (i : Int)), rfl, (fun h => absurd (show (113 : Int) = 0 from h) (by decide)), hw.drop (List.nil_sublist _)⟩
      try simp at hb12
      done
    have hb11p := hb11
    try simp at hb11p
    refine LX.gT rfl rfl rfl hb11 (Y.move rfl) rfl rfl <| LX.gT rfl rfl rfl hb11 (Y.move rfl) rfl rfl <| LX.callT rfl rfl rfl hb11 (shape_w cl hB h3 (i := i) hAi hi (fun w hw => hl.push hw)) Kuf.en34 rfl rfl rfl rfl ?_
    intro b73
    refine LX.have fun hsh => ?_
    rw [show l.getD i ⟨0, 0, 0, [], []⟩ = x by rw [List.getD_eq_getElem?_getD, hx]; rfl] at hsh
    try dsimp only at hsh ⊢
    refine LX.gT rfl rfl rfl hb11 (Y.not rfl) rfl rfl <| LX.pure (Y.pickF rfl hb11 rfl) rfl rfl rfl <| LX.sub (l' := [(0, _), (2, _), (3, _), (4, _), (5, _), (75, _)]) ⟨rfl, rfl, rfl, rfl, rfl, rfl, trivial⟩ <| LX.next <| PX.thenN ?_
    refine CX.cond rfl (fun hb13 => ?_) (fun hb13 => ?_)
    · try simp at hb13
      refine CX.seq <| CX.region <| LX.pure (Y.move rfl) rfl rfl rfl <| LX.call (gPlaced_c _ _ (by decide)) Kuf.en33 rfl rfl rfl rfl rfl ?_
      intro _
      refine LX.storeA 1 Kud.ag48 rfl rfl rfl rfl rfl rfl rfl rfl rfl <| LX.sub (l' := [(0, _), (2, _), (3, _), (4, _), (5, _)]) ⟨rfl, rfl, rfl, rfl, rfl, trivial⟩ <| LX.next <| PX.thenN <| CX.ret <| PX.blockR <| PX.thenR <| PX.thenR <| PX.blockR <| PX.thenR <| PX.retA (i := 1) (by simp) Tryz.results20 Kud.ag48 rfl rfl rfl ?_
      exact fun w hw => ⟨(113, true, (i : Int)), rfl, (fun h => absurd (show (113 : Int) = 0 from h) (by decide)), hw.drop (List.nil_sublist _)⟩
    try simp at hb13
    refine CX.skip <| PX.blockN <| PX.thenN <| CX.region <| LX.pure (Y.move rfl) rfl rfl rfl <| LX.pure (Y.addN rfl rfl (by (simp only []; omega))) rfl rfl rfl <| LX.pure (Y.assign rfl) rfl rfl rfl <| LX.sub (l' := [(0, _), (2, _), (3, _), (4, _), (5, _)]) ⟨rfl, rfl, rfl, rfl, rfl, trivial⟩ <| LX.next ?_
    have h73 : b73 = true := by assumption
    exact PX.again (μ := fun s => l.length - s.1) (i := (i, u)) (i + 1, v) (by show l.length - (i + 1) < l.length - i; omega) ⟨rfl, rfl, rfl, rfl, rfl, trivial⟩ (fun w hw => ⟨⟨by show i + 1 ≤ l.length; omega, hvl, hok.next hx hKi (hsh h73).1 (hsh h73).2⟩, hw⟩)
  try simp at hb3
  have hie : i = l.length := by omega
  subst hie
  refine CX.exit <| PX.thenE <| PX.thenE <| PX.blockE <| PX.thenN <| CX.seq <| CX.region <| LX.pure (Y.move rfl) rfl rfl rfl <| LX.call (gPlaced_c _ _ (by decide)) Kuf.en33 rfl rfl rfl rfl rfl ?_
  intro _
  refine LX.alloc rfl Kud.zv48 rfl rfl rfl ?_
  intro b8x
  refine LX.storeA 0 Kud.ag48 rfl rfl rfl rfl rfl rfl rfl rfl rfl <| LX.sub (l' := [(0, _), (2, _), (3, _), (4, _), (8, _)]) ⟨rfl, rfl, rfl, rfl, rfl, trivial⟩ <| LX.next <| PX.thenN <| CX.seq <| CX.seq <| CX.region <| LX.pure (Y.move rfl) rfl rfl rfl <| LX.pure (Y.move rfl) rfl rfl rfl ?_
  obtain ⟨x9, hx9⟩ : ∃ x, l[l.length - 1]? = some x := ⟨_, List.getElem?_eq_getElem (by omega)⟩
  obtain ⟨a9, ak9, ck9, hav9, hL9, hkc9, hka9⟩ := nd_of hl hx9
  refine LX.pure (Y.idxZ Kq.un22 Kq.sz53 rfl rfl hav9 (j := l.length - 1) (by omega) (by omega)) rfl rfl rfl <| LX.pure (Y.fieldA Kq.fa53_0 rfl) rfl rfl rfl <| LX.pure (Y.ldFO (v := .int .i64 x9.op) Kc.one3 rfl hL9 rfl) rfl rfl rfl <| LX.pure (Y.neI rfl rfl) rfl rfl rfl <| LX.sub (l' := [(0, _), (2, _), (3, _), (4, _), (8, _), (85, _)]) ⟨rfl, rfl, rfl, rfl, rfl, rfl, trivial⟩ <| LX.next <| PX.thenN ?_
  refine CX.cond rfl (fun hb14 => ?_) (fun hb14 => ?_)
  · try simp at hb14
    refine CX.seq <| CX.region <| LX.pure (Y.ldAggB 0 Kud.ag48 rfl rfl rfl rfl) rfl rfl rfl <| LX.storeA 2 Kud.ag48 rfl rfl rfl rfl rfl rfl rfl rfl rfl <| LX.sub (l' := [(0, _), (2, _), (3, _), (4, _), (8, _)]) ⟨rfl, rfl, rfl, rfl, rfl, trivial⟩ <| LX.next <| PX.thenN <| CX.ret <| PX.thenR <| PX.retA (i := 2) (by simp) Tryz.results20 Kud.ag48 rfl rfl rfl ?_
    exact fun w hw => ⟨(113, true, (l.length : Int) - 1), rfl, (fun h => absurd (show (113 : Int) = 0 from h) (by decide)), hw.drop (List.nil_sublist _)⟩
  try simp at hb14
  refine CX.skip <| PX.thenN <| CX.seq <| CX.seq <| CX.region <| LX.pure (Y.assign rfl) rfl rfl rfl <| LX.sub (l' := [(0, _), (2, _), (3, _), (4, _), (8, _), (9, _)]) ⟨rfl, rfl, rfl, rfl, rfl, rfl, trivial⟩ <| LX.next <| PX.thenN <| CX.block <| CX.loop (fun j : Nat => [(0, .slice al l.length cl), (2, .pointer (some ⟨b2x, 0, none⟩)), (3, .int .i64 ((l.length : Int) - 1)), (4, rv (some gb) l.length l.length), (8, .pointer (some ⟨b8x, 0, none⟩)), (9, .int .i64 (j : Int))]) (fun (j : Nat) w => j ≤ l.length ∧ WA w0 base [blk b8x [.int .i64 113, .bool true, .int .i64 ((l.length : Int) - 1), .bool false, str []] 48, .row (some gb) l.length l.length 4 1 (u.map bv), blk b2x [.int .i64 0, .bool false, .int .i64 0, .bool false, str []] 48] w) (fun j => l.length - j) 0 ⟨rfl, rfl, rfl, rfl, rfl, rfl, trivial⟩ (fun w hw => ⟨Nat.zero_le _, hw⟩) ?_
  intro j
  refine CX.have fun hj0 => ?_
  replace hj0 : j ≤ l.length := hj0
  refine CX.seq <| CX.seq <| CX.region <| LX.pure (Y.move rfl) rfl rfl rfl <| LX.pure (Y.move rfl) rfl rfl rfl <| LX.pure (Y.ltI rfl rfl) rfl rfl rfl <| LX.sub (l' := [(0, _), (2, _), (3, _), (4, _), (8, _), (9, _), (89, _)]) ⟨rfl, rfl, rfl, rfl, rfl, rfl, rfl, trivial⟩ <| LX.next <| PX.thenN ?_
  refine CX.cond rfl (fun hb15 => ?_) (fun hb15 => ?_)
  · try simp at hb15
    refine CX.skip <| PX.thenN <| CX.seq <| CX.block <| CX.seq <| CX.region <| LX.pure (Y.move rfl) rfl rfl rfl <| LX.pure (Y.move rfl) rfl rfl rfl ?_
    obtain ⟨vb, hvb⟩ : ∃ vb, u[j]? = some vb := ⟨_, List.getElem?_eq_getElem (by omega)⟩
    refine LX.pure (Y.idxRZ 1 (i := j) Kuf.un82 Kuf.sz4 rfl rfl rfl rfl (by omega)) rfl rfl rfl <| LX.pure (Y.ldR 1 (v := .bool vb) Ka.one4 rfl rfl (bv_at hvb)) rfl rfl rfl <| LX.pure (Y.not rfl) rfl rfl rfl <| LX.sub (l' := [(0, _), (2, _), (3, _), (4, _), (8, _), (9, _), (96, _)]) ⟨rfl, rfl, rfl, rfl, rfl, rfl, rfl, trivial⟩ <| LX.next <| PX.thenN ?_
    refine CX.cond rfl (fun hb16 => ?_) (fun hb16 => ?_)
    · try simp at hb16
      refine CX.seq <| CX.region <| LX.pure (Y.ldAggB 0 Kud.ag48 rfl rfl rfl rfl) rfl rfl rfl <| LX.storeA 2 Kud.ag48 rfl rfl rfl rfl rfl rfl rfl rfl rfl <| LX.sub (l' := [(0, _), (2, _), (3, _), (4, _), (8, _), (9, _)]) ⟨rfl, rfl, rfl, rfl, rfl, rfl, trivial⟩ <| LX.next <| PX.thenN <| CX.ret <| PX.blockR <| PX.thenR <| PX.thenR <| PX.blockR <| PX.thenR <| PX.retA (i := 2) (by simp) Tryz.results20 Kud.ag48 rfl rfl rfl ?_
      exact fun w hw => ⟨(113, true, (l.length : Int) - 1), rfl, (fun h => absurd (show (113 : Int) = 0 from h) (by decide)), hw.drop (List.nil_sublist _)⟩
    try simp at hb16
    refine CX.skip <| PX.blockN <| PX.thenN <| CX.region <| LX.pure (Y.move rfl) rfl rfl rfl <| LX.pure (Y.addN rfl rfl (by (simp only []; omega))) rfl rfl rfl <| LX.pure (Y.assign rfl) rfl rfl rfl <| LX.sub (l' := [(0, _), (2, _), (3, _), (4, _), (8, _), (9, _)]) ⟨rfl, rfl, rfl, rfl, rfl, rfl, trivial⟩ <| LX.next ?_
    exact PX.again (μ := (fun j => l.length - j)) (i := j) (j + 1) (by show l.length - (j + 1) < l.length - j; omega) ⟨rfl, rfl, rfl, rfl, rfl, rfl, trivial⟩ (fun w hw => ⟨by show j + 1 ≤ l.length; omega, hw⟩)
  try simp at hb15
  refine CX.exit <| PX.thenE <| PX.thenE <| PX.blockE <| PX.thenN <| CX.seq <| CX.seq <| CX.region <| LX.pure (Y.move rfl) rfl rfl rfl ?_
  have ej9 : (l.length : Int) - 1 = ((l.length - 1 : Nat) : Int) := by omega
  refine LX.pure (Y.move (v := .int .i64 ((l.length - 1 : Nat) : Int)) (congrArg (fun z => some (Value.int .i64 z)) ej9)) rfl rfl rfl <| LX.call (inside_w cl hB h3 (l.length - 1) (by rw [show l.length - 1 + 1 = l.length by omega]; exact hok) (by omega) true false false (fun w hw => hl.push hw)) Kue.en35 rfl rfl rfl rfl rfl ?_
  intro b9
  refine LX.pure (Y.not rfl) rfl rfl rfl <| LX.sub (l' := [(2, _), (8, _), (101, _)]) ⟨rfl, rfl, rfl, trivial⟩ <| LX.next <| PX.thenN ?_
  refine CX.cond rfl (fun hb17 => ?_) (fun hb17 => ?_)
  · try simp at hb17
    refine CX.seq <| CX.region <| LX.pure (Y.ldAggB 0 Kud.ag48 rfl rfl rfl rfl) rfl rfl rfl <| LX.storeA 2 Kud.ag48 rfl rfl rfl rfl rfl rfl rfl rfl rfl <| LX.sub (l' := [(2, _)]) ⟨rfl, trivial⟩ <| LX.next <| PX.thenN <| CX.ret <| PX.thenR <| PX.retA (i := 2) (by simp) Tryz.results20 Kud.ag48 rfl rfl rfl ?_
    exact fun w hw => ⟨(113, true, (l.length : Int) - 1), rfl, (fun h => absurd (show (113 : Int) = 0 from h) (by decide)), hw.drop (List.nil_sublist _)⟩
  try simp at hb17
  refine CX.skip <| PX.thenN <| CX.seq <| CX.region <| LX.call (gNone_c) Kuf.en36 rfl rfl rfl rfl rfl ?_
  intro _
  refine LX.storeA 2 Kud.ag48 rfl rfl rfl rfl rfl rfl rfl rfl rfl <| LX.sub (l' := [(2, _)]) ⟨rfl, trivial⟩ <| LX.next <| PX.thenN <| CX.ret <| PX.retA (i := 2) (by simp) Tryz.results20 Kud.ag48 rfl rfl rfl ?_
  exact fun w hw => ⟨(0, false, 0), rfl, (fun _ => hok), hw.drop (List.nil_sublist _)⟩
theorem valid6_w {W : World → Prop} [Stab W] {al : Option Addr} (cl : Nat) {l : List Nd} (hB : ∀ (k : Nat) x, l[k]? = some x → x.kids.length ≤ 302 ∧ x.s.length ≤ 302) (h3 : l.length ≤ 302)  (hl : ∀ w, W w → SlAt 5 ndA (Lies w w.heap.size) al l) : FnC Tryz.prog 20 #[.slice al l.length cl] W (fun b : Int × Bool × Int => .agg #[.int .i64 b.1, .bool b.2.1, .int .i64 b.2.2, .bool false, str []]) (fun b w => (b.1 = 0 → Ok6 l l.length) ∧ W w) := FnC.reO fun w hw => valid6_0 cl hB h3 (hl w hw)
end Go.Proofs.YtickdimknfeddaaGreatDoor
