/-
  Proved here: looks at nodes and their kids.
-/
import Derived.Test.YtfbenelagdcdgaaGreatDoorTrP
import Derived.Test.YtfbenelagdcdgaaGreatDoorProg
namespace Go.Proofs.YtfbenelagdcdgaaGreatDoor
open Go.SX Go.RowKit Go.Tr
namespace Ft
theorem ag32 : AggT Tryz.prog 32 5 := AggT.of (by kernel_rfl) (by kernel_rfl)
theorem en167 : Enters Tryz.prog 167 := Enters.of Tryz.func167 (by kernel_rfl) (by kernel_rfl)
theorem en169 : Enters Tryz.prog 169 := Enters.of Tryz.func169 (by kernel_rfl) (by kernel_rfl)
theorem en175 : Enters Tryz.prog 175 := Enters.of Tryz.func175 (by kernel_rfl) (by kernel_rfl)
theorem en233 : Enters Tryz.prog 233 := Enters.of Tryz.func233 (by kernel_rfl) (by kernel_rfl)
theorem fa32_0 : FieldOffA Tryz.prog 32 0 0 := fun a w => by kernel_rfl
theorem fa89_0 : FieldOffA Tryz.prog 89 0 0 := fun a w => by kernel_rfl
theorem fo32_0 : FieldOff Tryz.prog 32 0 0 := fun b o w => by kernel_rfl
theorem fo89_0 : FieldOff Tryz.prog 89 0 0 := fun b o w => by kernel_rfl
theorem one23 : One Tryz.prog 23 := fun w => by kernel_rfl
theorem one3 : One Tryz.prog 3 := fun w => by kernel_rfl
theorem sz3 : SizeIs Tryz.prog 3 1 := fun w => by kernel_rfl
theorem sz32 : SizeIs Tryz.prog 32 5 := fun w => by kernel_rfl
theorem un23 : Tryz.prog.underlying 23 = some (.slice 32) := by kernel_rfl
theorem un30 : Tryz.prog.underlying 30 = some (.slice 3) := by kernel_rfl
end Ft
theorem expr_c {w0 : World} {base : Nat} {fr : List It} (op : Int) : FnC Tryz.prog 169 #[.int .i64 op] (WA w0 base fr) (fun _ : Unit => .bool (exprB op)) (fun _ => WA w0 base fr) := by
  refine FnC.of_body (fn := Tryz.f169) [(0, _)] Tryz.func169 rfl Tryz.ntmps169 rfl ⟨rfl, trivial⟩ ?_
  refine CX.seq <| CX.region <| LX.pure (Y.assign rfl) rfl rfl rfl <| LX.sub (l' := [(0, _), (2, _)]) ⟨rfl, rfl, trivial⟩ <| LX.next <| PX.thenN <| CX.seq <| CX.region <| LX.pure (Y.move rfl) rfl rfl rfl <| LX.pure (Y.geI rfl rfl) rfl rfl rfl <| LX.pure (Y.move rfl) rfl rfl rfl <| LX.sub (l' := [(0, _), (2, _), (5, _)]) ⟨rfl, rfl, rfl, trivial⟩ ?_
  apply LX.joinAnd 3 8 5 rfl
  · intro hb1
    have hb1p := hb1
    try simp at hb1p
    refine LX.gT rfl rfl rfl hb1 (Y.move rfl) rfl rfl <| LX.gT rfl rfl rfl hb1 (Y.leI rfl rfl) rfl rfl <| LX.pure (Y.pickT rfl hb1 rfl) rfl rfl rfl ?_
    exact LX.left ⟨rfl, rfl, rfl, rfl, trivial⟩
  · intro hb1
    have hb1p := hb1
    try simp at hb1p
    refine LX.gF rfl rfl rfl hb1 rfl rfl <| LX.gF rfl rfl rfl hb1 rfl rfl <| LX.pure (Y.pickF rfl hb1 rfl) rfl rfl rfl ?_
    exact LX.left ⟨rfl, rfl, rfl, rfl, trivial⟩
  refine LX.pure (Y.move rfl) rfl rfl rfl <| LX.sub (l' := [(0, _), (2, _), (9, _)]) ⟨rfl, rfl, rfl, trivial⟩ ?_
  apply LX.joinAnd 3 12 9 rfl
  · intro hb2
    have hb2p := hb2
    try simp at hb2p
    refine LX.gT rfl rfl rfl hb2 (Y.move rfl) rfl rfl <| LX.gT rfl rfl rfl hb2 (Y.neI rfl rfl) rfl rfl <| LX.pure (Y.pickT rfl hb2 rfl) rfl rfl rfl ?_
    exact LX.left ⟨rfl, rfl, rfl, rfl, trivial⟩
  · intro hb2
    have hb2p := hb2
    try simp at hb2p
    refine LX.gF rfl rfl rfl hb2 rfl rfl <| LX.gF rfl rfl rfl hb2 rfl rfl <| LX.pure (Y.pickF rfl hb2 rfl) rfl rfl rfl ?_
    exact LX.left ⟨rfl, rfl, rfl, rfl, trivial⟩
  refine LX.pure (Y.move rfl) rfl rfl rfl <| LX.sub (l' := [(0, _), (2, _), (13, _)]) ⟨rfl, rfl, rfl, trivial⟩ ?_
  apply LX.joinAnd 3 16 13 rfl
  · intro hb3
    have hb3p := hb3
    try simp at hb3p
    refine LX.gT rfl rfl rfl hb3 (Y.move rfl) rfl rfl <| LX.gT rfl rfl rfl hb3 (Y.neI rfl rfl) rfl rfl <| LX.pure (Y.pickT rfl hb3 rfl) rfl rfl rfl ?_
    exact LX.left ⟨rfl, rfl, rfl, rfl, trivial⟩
  · intro hb3
    have hb3p := hb3
    try simp at hb3p
    refine LX.gF rfl rfl rfl hb3 rfl rfl <| LX.gF rfl rfl rfl hb3 rfl rfl <| LX.pure (Y.pickF rfl hb3 rfl) rfl rfl rfl ?_
    exact LX.left ⟨rfl, rfl, rfl, rfl, trivial⟩
  refine LX.pure (Y.assign rfl) rfl rfl rfl <| LX.sub (l' := [(2, _)]) ⟨rfl, trivial⟩ <| LX.next <| PX.thenN <| CX.ret <| PX.ret1 (by simp) Tryz.results169 rfl ?_
  exact fun w hw => ⟨(), congrArg (fun z => Ending.returned (Value.bool z)) (by unfold exprB; rfl), hw⟩
theorem expr_q {W : World → Prop} [Stab W] (op : Int) : FnQ Tryz.prog 169 #[.int .i64 op] W (.bool (exprB op)) := FnC.quiet fun w _ => expr_c op
theorem stmt_c {w0 : World} {base : Nat} {fr : List It} (op : Int) : FnC Tryz.prog 175 #[.int .i64 op] (WA w0 base fr) (fun _ : Unit => .bool (stmtB op)) (fun _ => WA w0 base fr) := by
  refine FnC.of_body (fn := Tryz.f175) [(0, _)] Tryz.func175 rfl Tryz.ntmps175 rfl ⟨rfl, trivial⟩ ?_
  refine CX.seq <| CX.region <| LX.pure (Y.assign rfl) rfl rfl rfl <| LX.sub (l' := [(0, _), (2, _)]) ⟨rfl, rfl, trivial⟩ <| LX.next <| PX.thenN <| CX.seq <| CX.region <| LX.pure (Y.move rfl) rfl rfl rfl <| LX.pure (Y.geI rfl rfl) rfl rfl rfl <| LX.pure (Y.move rfl) rfl rfl rfl <| LX.sub (l' := [(0, _), (2, _), (5, _)]) ⟨rfl, rfl, rfl, trivial⟩ ?_
  apply LX.joinAnd 3 8 5 rfl
  · intro hb1
    have hb1p := hb1
    try simp at hb1p
    refine LX.gT rfl rfl rfl hb1 (Y.move rfl) rfl rfl <| LX.gT rfl rfl rfl hb1 (Y.leI rfl rfl) rfl rfl <| LX.pure (Y.pickT rfl hb1 rfl) rfl rfl rfl ?_
    exact LX.left ⟨rfl, rfl, rfl, rfl, trivial⟩
  · intro hb1
    have hb1p := hb1
    try simp at hb1p
    refine LX.gF rfl rfl rfl hb1 rfl rfl <| LX.gF rfl rfl rfl hb1 rfl rfl <| LX.pure (Y.pickF rfl hb1 rfl) rfl rfl rfl ?_
    exact LX.left ⟨rfl, rfl, rfl, rfl, trivial⟩
  refine LX.pure (Y.assign rfl) rfl rfl rfl <| LX.sub (l' := [(2, _)]) ⟨rfl, trivial⟩ <| LX.next <| PX.thenN <| CX.ret <| PX.ret1 (by simp) Tryz.results175 rfl ?_
  exact fun w hw => ⟨(), congrArg (fun z => Ending.returned (Value.bool z)) (by unfold stmtB; rfl), hw⟩
theorem stmt_q {W : World → Prop} [Stab W] (op : Int) : FnQ Tryz.prog 175 #[.int .i64 op] W (.bool (stmtB op)) := FnC.quiet fun w _ => stmt_c op
theorem op_c {w0 : World} {base : Nat} {bq : Nat} {al : Option Addr} {cl : Nat} {uv : Value} {l : List Nd} (kz z : Int) (h0 : 0 ≤ kz ∧ kz < l.length) (hq : Cq w0 base bq al cl uv l ndA) : FnC Tryz.prog 173 #[.pointer (some ⟨bq, 0, none⟩), .int .i64 kz, .int .i64 z] (WA w0 base []) (fun _ : Unit => .bool (decide ((nd l kz).op = z))) (fun _ => WA w0 base []) := by
  obtain ⟨k, rfl⟩ : ∃ k : Nat, kz = (k : Int) := ⟨kz.toNat, by omega⟩
  have hkl : k < l.length := by omega
  obtain ⟨x, hx⟩ : ∃ x, l[k]? = some x := ⟨_, List.getElem?_eq_getElem hkl⟩
  obtain ⟨a, cs, hav, hcl, hL, vk, rfl, hks, hin⟩ := hq.nodes k x hx
  rw [nd_at hx]
  refine FnC.of_body (fn := Tryz.f173) [(0, _), (1, _), (2, _)] Tryz.func173 rfl Tryz.ntmps173 rfl ⟨rfl, rfl, rfl, trivial⟩ ?_
  refine CX.seq <| CX.region <| LX.pure (Y.assign rfl) rfl rfl rfl <| LX.sub (l' := [(0, _), (1, _), (2, _), (6, _)]) ⟨rfl, rfl, rfl, rfl, trivial⟩ <| LX.next <| PX.thenN <| CX.seq <| CX.region <| LX.pure (Y.move rfl) rfl rfl rfl <| LX.pure (Y.nilCheck rfl) rfl rfl rfl <| LX.pure (Y.fieldAddr0 Ft.fo89_0 rfl) rfl rfl rfl <| LX.pure (Y.ldB0 Ft.one23 rfl hq.blk rfl) rfl rfl rfl <| LX.pure (Y.move rfl) rfl rfl rfl <| LX.pure (Y.idxZ Ft.un23 Ft.sz32 rfl rfl hav (j := k) rfl hkl) rfl rfl rfl <| LX.pure (Y.fieldA Ft.fa32_0 rfl) rfl rfl rfl <| LX.pure (Y.ldFO Ft.one3 rfl hL rfl) rfl rfl rfl <| LX.pure (Y.move rfl) rfl rfl rfl <| LX.pure (Y.eqI rfl rfl) rfl rfl rfl <| LX.pure (Y.assign rfl) rfl rfl rfl <| LX.sub (l' := [(6, _)]) ⟨rfl, trivial⟩ <| LX.next <| PX.thenN <| CX.ret <| PX.ret1 (by simp) Tryz.results173 rfl ?_
  exact fun w hw => ⟨(), rfl, hw⟩
theorem op_q {W : World → Prop} [Stab W] {bq : Nat} {al : Option Addr} {cl : Nat} {uv : Value} {l : List Nd} (kz z : Int) (h0 : 0 ≤ kz ∧ kz < l.length) (hq : ∀ w, W w → Cq w w.heap.size bq al cl uv l ndA) : FnQ Tryz.prog 173 #[.pointer (some ⟨bq, 0, none⟩), .int .i64 kz, .int .i64 z] W (.bool (decide ((nd l kz).op = z))) := FnC.quiet fun w hw => op_c kz z h0 (hq w hw)
theorem exprs1_c {w0 : World} {base : Nat} {x : Nd} {cs : List Value}  (hx : ndA (Lies w0 base) cs x) : FnC Tryz.prog 233 #[.agg cs.toArray] (WA w0 base []) (fun _ : Unit => .bool (exprB x.op)) (fun _ => WA w0 base []) := by
  obtain ⟨vk, rfl, hks, hin⟩ := hx
  obtain ⟨ak, ck, rfl, ⟨hkn, hkc⟩, hka⟩ := hks.sl
  refine FnC.of_body (fn := Tryz.f233) [(0, _)] Tryz.func233 rfl Tryz.ntmps233 rfl ⟨rfl, trivial⟩ ?_
  refine CX.seq <| CX.region <| LX.box rfl rfl rfl rfl rfl ?_
  intro bx0
  refine LX.pure (Y.assign rfl) rfl rfl rfl <| LX.sub (l' := [(1, _), (2, _)]) ⟨rfl, rfl, trivial⟩ <| LX.next <| PX.thenN <| CX.seq <| CX.region <| LX.pure (Y.fieldAddr0 Ft.fo32_0 rfl) rfl rfl rfl <| LX.pure (Y.ldB 0 Ft.one3 rfl rfl rfl) rfl rfl rfl <| LX.callQ (expr_q _) Ft.en169 rfl rfl rfl rfl rfl <| LX.pure (Y.assign rfl) rfl rfl rfl <| LX.sub (l' := [(2, _)]) ⟨rfl, trivial⟩ <| LX.next <| PX.thenN <| CX.ret <| PX.ret1 (by simp) Tryz.results233 rfl ?_
  exact fun w hw => ⟨(), rfl, hw.drop (List.sublist_cons_self _ _)⟩
theorem exprs1_q {W : World → Prop} [Stab W] {x : Nd} {cs : List Value}  (hx : ∀ w, W w → ndA (Lies w w.heap.size) cs x) : FnQ Tryz.prog 233 #[.agg cs.toArray] W (.bool (exprB x.op)) := FnC.quiet fun w hw => exprs1_c  (hx w hw)
theorem kids1_c {w0 : World} {base : Nat} {x : Nd} {cs : List Value}  (hx : ndA (Lies w0 base) cs x) : FnC Tryz.prog 168 #[.agg cs.toArray] (WA w0 base []) (fun _ : Unit => .bool (exprB x.op || decide (x.op = 15))) (fun _ => WA w0 base []) := by
  obtain ⟨vk, rfl, hks, hin⟩ := hx
  obtain ⟨ak, ck, rfl, ⟨hkn, hkc⟩, hka⟩ := hks.sl
  refine FnC.of_body (fn := Tryz.f168) [(0, _)] Tryz.func168 rfl Tryz.ntmps168 rfl ⟨rfl, trivial⟩ ?_
  refine CX.seq <| CX.region <| LX.box rfl rfl rfl rfl rfl ?_
  intro bx0
  refine LX.pure (Y.assign rfl) rfl rfl rfl <| LX.sub (l' := [(1, _), (2, _)]) ⟨rfl, rfl, trivial⟩ <| LX.next <| PX.thenN <| CX.seq <| CX.region <| LX.pure (Y.fieldAddr0 Ft.fo32_0 rfl) rfl rfl rfl <| LX.pure (Y.ldB 0 Ft.one3 rfl rfl rfl) rfl rfl rfl <| LX.callQ (expr_q _) Ft.en169 rfl rfl rfl rfl rfl <| LX.pure (Y.move rfl) rfl rfl rfl <| LX.sub (l' := [(1, _), (2, _), (6, _)]) ⟨rfl, rfl, rfl, trivial⟩ ?_
  apply LX.joinOr 4 10 6 rfl
  · intro hb1
    have hb1p := hb1
    try simp at hb1p
    refine LX.gF rfl rfl rfl hb1 rfl rfl <| LX.gF rfl rfl rfl hb1 rfl rfl <| LX.gF rfl rfl rfl hb1 rfl rfl <| LX.pure (Y.pickT rfl hb1 rfl) rfl rfl rfl ?_
    exact LX.left ⟨rfl, rfl, rfl, rfl, trivial⟩
  · intro hb1
    have hb1p := hb1
    try simp at hb1p
    refine LX.gT rfl rfl rfl hb1 (Y.fieldAddr0 Ft.fo32_0 rfl) rfl rfl <| LX.gT rfl rfl rfl hb1 (Y.ldB 0 Ft.one3 rfl rfl rfl) rfl rfl <| LX.gT rfl rfl rfl hb1 (Y.eqI rfl rfl) rfl rfl <| LX.pure (Y.pickF rfl hb1 rfl) rfl rfl rfl ?_
    exact LX.left ⟨rfl, rfl, rfl, rfl, trivial⟩
  refine LX.pure (Y.assign rfl) rfl rfl rfl <| LX.sub (l' := [(2, _)]) ⟨rfl, trivial⟩ <| LX.next <| PX.thenN <| CX.ret <| PX.ret1 (by simp) Tryz.results168 rfl ?_
  exact fun w hw => ⟨(), rfl, hw.drop (List.sublist_cons_self _ _)⟩
theorem kids1_q {W : World → Prop} [Stab W] {x : Nd} {cs : List Value}  (hx : ∀ w, W w → ndA (Lies w w.heap.size) cs x) : FnQ Tryz.prog 168 #[.agg cs.toArray] W (.bool (exprB x.op || decide (x.op = 15))) := FnC.quiet fun w hw => kids1_c  (hx w hw)
theorem kids2_c {w0 : World} {base : Nat} {x : Nd} {cs : List Value}  (hx : ndA (Lies w0 base) cs x) : FnC Tryz.prog 172 #[.agg cs.toArray] (WA w0 base []) (fun _ : Unit => .bool (decide (x.op = 46))) (fun _ => WA w0 base []) := by
  obtain ⟨vk, rfl, hks, hin⟩ := hx
  obtain ⟨ak, ck, rfl, ⟨hkn, hkc⟩, hka⟩ := hks.sl
  refine FnC.of_body (fn := Tryz.f172) [(0, _)] Tryz.func172 rfl Tryz.ntmps172 rfl ⟨rfl, trivial⟩ ?_
  refine CX.seq <| CX.region <| LX.box rfl rfl rfl rfl rfl ?_
  intro bx0
  refine LX.pure (Y.assign rfl) rfl rfl rfl <| LX.sub (l' := [(1, _), (2, _)]) ⟨rfl, rfl, trivial⟩ <| LX.next <| PX.thenN <| CX.seq <| CX.region <| LX.pure (Y.fieldAddr0 Ft.fo32_0 rfl) rfl rfl rfl <| LX.pure (Y.ldB 0 Ft.one3 rfl rfl rfl) rfl rfl rfl <| LX.pure (Y.eqI rfl rfl) rfl rfl rfl <| LX.pure (Y.assign rfl) rfl rfl rfl <| LX.sub (l' := [(2, _)]) ⟨rfl, trivial⟩ <| LX.next <| PX.thenN <| CX.ret <| PX.ret1 (by simp) Tryz.results172 rfl ?_
  exact fun w hw => ⟨(), rfl, hw.drop (List.sublist_cons_self _ _)⟩
theorem kids2_q {W : World → Prop} [Stab W] {x : Nd} {cs : List Value}  (hx : ∀ w, W w → ndA (Lies w w.heap.size) cs x) : FnQ Tryz.prog 172 #[.agg cs.toArray] W (.bool (decide (x.op = 46))) := FnC.quiet fun w hw => kids2_c  (hx w hw)
theorem kids3_c {w0 : World} {base : Nat} {x : Nd} {cs : List Value}  (hx : ndA (Lies w0 base) cs x) : FnC Tryz.prog 174 #[.agg cs.toArray] (WA w0 base []) (fun _ : Unit => .bool (stmtB x.op)) (fun _ => WA w0 base []) := by
  obtain ⟨vk, rfl, hks, hin⟩ := hx
  obtain ⟨ak, ck, rfl, ⟨hkn, hkc⟩, hka⟩ := hks.sl
  refine FnC.of_body (fn := Tryz.f174) [(0, _)] Tryz.func174 rfl Tryz.ntmps174 rfl ⟨rfl, trivial⟩ ?_
  refine CX.seq <| CX.region <| LX.box rfl rfl rfl rfl rfl ?_
  intro bx0
  refine LX.pure (Y.assign rfl) rfl rfl rfl <| LX.sub (l' := [(1, _), (2, _)]) ⟨rfl, rfl, trivial⟩ <| LX.next <| PX.thenN <| CX.seq <| CX.region <| LX.pure (Y.fieldAddr0 Ft.fo32_0 rfl) rfl rfl rfl <| LX.pure (Y.ldB 0 Ft.one3 rfl rfl rfl) rfl rfl rfl <| LX.callQ (stmt_q _) Ft.en175 rfl rfl rfl rfl rfl <| LX.pure (Y.assign rfl) rfl rfl rfl <| LX.sub (l' := [(2, _)]) ⟨rfl, trivial⟩ <| LX.next <| PX.thenN <| CX.ret <| PX.ret1 (by simp) Tryz.results174 rfl ?_
  exact fun w hw => ⟨(), rfl, hw.drop (List.sublist_cons_self _ _)⟩
theorem kids3_q {W : World → Prop} [Stab W] {x : Nd} {cs : List Value}  (hx : ∀ w, W w → ndA (Lies w w.heap.size) cs x) : FnQ Tryz.prog 174 #[.agg cs.toArray] W (.bool (stmtB x.op)) := FnC.quiet fun w hw => kids3_c  (hx w hw)
theorem more1_c {w0 : World} {base : Nat} {x : Nd} {cs : List Value}  (hx : ndA (Lies w0 base) cs x) : FnC Tryz.prog 234 #[.agg cs.toArray] (WA w0 base []) (fun _ : Unit => .bool (decide (x.op = 47))) (fun _ => WA w0 base []) := by
  obtain ⟨vk, rfl, hks, hin⟩ := hx
  obtain ⟨ak, ck, rfl, ⟨hkn, hkc⟩, hka⟩ := hks.sl
  refine FnC.of_body (fn := Tryz.f234) [(0, _)] Tryz.func234 rfl Tryz.ntmps234 rfl ⟨rfl, trivial⟩ ?_
  refine CX.seq <| CX.region <| LX.box rfl rfl rfl rfl rfl ?_
  intro bx0
  refine LX.pure (Y.assign rfl) rfl rfl rfl <| LX.sub (l' := [(1, _), (2, _)]) ⟨rfl, rfl, trivial⟩ <| LX.next <| PX.thenN <| CX.seq <| CX.region <| LX.pure (Y.fieldAddr0 Ft.fo32_0 rfl) rfl rfl rfl <| LX.pure (Y.ldB 0 Ft.one3 rfl rfl rfl) rfl rfl rfl <| LX.pure (Y.eqI rfl rfl) rfl rfl rfl <| LX.pure (Y.assign rfl) rfl rfl rfl <| LX.sub (l' := [(2, _)]) ⟨rfl, trivial⟩ <| LX.next <| PX.thenN <| CX.ret <| PX.ret1 (by simp) Tryz.results234 rfl ?_
  exact fun w hw => ⟨(), rfl, hw.drop (List.sublist_cons_self _ _)⟩
theorem more1_q {W : World → Prop} [Stab W] {x : Nd} {cs : List Value}  (hx : ∀ w, W w → ndA (Lies w w.heap.size) cs x) : FnQ Tryz.prog 234 #[.agg cs.toArray] W (.bool (decide (x.op = 47))) := FnC.quiet fun w hw => more1_c  (hx w hw)
theorem all_c {w0 : World} {base : Nat} {bq : Nat} {al : Option Addr} {cl : Nat} {uv : Value} {l : List Nd} (i : Nat) (hi : i ≤ l.length) {ak : Option Addr} (ck : Nat) {ks : List Int} (hkn : ks.length ≤ 9223372036854775807) (hr : ∀ k ∈ ks, 0 ≤ k ∧ k < (i : Int)) (g : FuncId) (fst : Array Value) (Bf : Nd → Bool)  (hq : Cq w0 base bq al cl uv l ndA) (hk : SlAt 1 intA (Lies w0 base) ak ks) (hg : ClosOk w0 base Tryz.prog g fst l i Bf ndA) : FnC Tryz.prog 167 #[.pointer (some ⟨bq, 0, none⟩), .slice ak ks.length ck, .func (.func g) fst #[]] (WA w0 base []) (fun _ : Unit => .bool (allB l Bf ks)) (fun _ => WA w0 base []) := by
  refine FnC.of_body (fn := Tryz.f167) [(0, _), (1, _), (2, _)] Tryz.func167 rfl Tryz.ntmps167 rfl ⟨rfl, rfl, rfl, trivial⟩ ?_
  refine CX.seq <| CX.region <| LX.pure (Y.assign rfl) rfl rfl rfl <| LX.sub (l' := [(0, _), (1, _), (2, _), (6, _)]) ⟨rfl, rfl, rfl, rfl, trivial⟩ <| LX.next <| PX.thenN <| CX.seq <| CX.seq <| CX.region <| LX.pure (Y.move rfl) rfl rfl rfl <| LX.pure (Y.lenSl rfl Ft.un30 rfl) rfl rfl rfl <| LX.pure (Y.move rfl) rfl rfl rfl <| LX.sub (l' := [(0, _), (2, _), (6, _), (9, _), (10, _), (11, _)]) ⟨rfl, rfl, rfl, rfl, rfl, rfl, trivial⟩ <| LX.next <| PX.thenN <| CX.block <| CX.loop (fun j : Nat => [(0, .pointer (some ⟨bq, 0, none⟩)), (2, .func (.func g) fst #[]), (9, .slice ak ks.length ck), (10, .int .i64 (ks.length : Int)), (11, .int .i64 (j : Int))]) (fun (j : Nat) w => (j ≤ ks.length ∧ allB l Bf (ks.drop j) = allB l Bf ks) ∧ WA w0 base [] w) (fun j => ks.length - j) 0 ⟨rfl, rfl, rfl, rfl, rfl, trivial⟩ (fun w hw => ⟨⟨Nat.zero_le _, rfl⟩, hw⟩) ?_
  intro j
  refine CX.have fun ⟨hj0, hall⟩ => ?_
  try dsimp only at hj0 hall ⊢
  refine CX.seq <| CX.region <| LX.pure (Y.ltN rfl rfl) rfl rfl rfl <| LX.sub (l' := [(0, _), (2, _), (9, _), (10, _), (11, _), (12, _)]) ⟨rfl, rfl, rfl, rfl, rfl, rfl, trivial⟩ <| LX.next <| PX.thenN <| CX.seq ?_
  refine CX.cond rfl (fun hb1 => ?_) (fun hb1 => ?_)
  · try simp at hb1
    have hj : j < ks.length := by omega
    obtain ⟨a0, hav0, hL0, hin0⟩ := hk.int_at hj
    have hrj := hr _ (getD_mem hj)
    obtain ⟨k, hkz⟩ : ∃ k : Nat, ks.getD j 0 = (k : Int) := ⟨(ks.getD j 0).toNat, by omega⟩
    have hkl : k < l.length := by omega
    obtain ⟨x, hx⟩ : ∃ x, l[k]? = some x := ⟨_, List.getElem?_eq_getElem hkl⟩
    obtain ⟨a, cs, hav, hcl, hL, hnx⟩ := hq.nodes k x hx
    have hnd : nd l (ks.getD j 0) = x := by rw [hkz]; exact nd_at hx
    refine CX.skip <| PX.thenN <| CX.seq <| CX.block <| CX.seq <| CX.region <| LX.pure (Y.idxZ Ft.un30 Ft.sz3 rfl rfl hav0 (j := j) rfl hj) rfl rfl rfl <| LX.pure (Y.ldO1 Ft.one3 rfl hL0) rfl rfl rfl <| LX.pure (Y.assign rfl) rfl rfl rfl <| LX.sub (l' := [(0, _), (2, _), (8, _), (9, _), (10, _), (11, _)]) ⟨rfl, rfl, rfl, rfl, rfl, rfl, trivial⟩ <| LX.next <| PX.thenN <| CX.seq <| CX.region <| LX.pure (Y.move rfl) rfl rfl rfl <| LX.pure (Y.move rfl) rfl rfl rfl <| LX.pure (Y.nilCheck rfl) rfl rfl rfl <| LX.pure (Y.fieldAddr0 Ft.fo89_0 rfl) rfl rfl rfl <| LX.pure (Y.ldB0 Ft.one23 rfl hq.blk rfl) rfl rfl rfl <| LX.pure (Y.move rfl) rfl rfl rfl <| LX.pure (Y.idxZ Ft.un23 Ft.sz32 rfl rfl hav (j := k) hkz hkl) rfl rfl rfl <| LX.pure (Y.ldAO (cs := cs) Ft.ag32 rfl hL hcl) rfl rfl rfl <| LX.callV (FnQ.toC (hg.does _ k x cs hx (by omega) hnx)) hg.ent rfl rfl rfl rfl rfl rfl ?_
    intro _
    refine LX.pure (Y.not rfl) rfl rfl rfl <| LX.sub (l' := [(0, _), (2, _), (9, _), (10, _), (11, _), (24, _)]) ⟨rfl, rfl, rfl, rfl, rfl, rfl, trivial⟩ <| LX.next <| PX.thenN ?_
    refine CX.cond rfl (fun hb2 => ?_) (fun hb2 => ?_)
    · try simp at hb2
      refine CX.seq <| CX.region <| LX.pure (Y.assign rfl) rfl rfl rfl <| LX.sub (l' := [(0, _), (2, _), (6, _), (9, _), (10, _), (11, _)]) ⟨rfl, rfl, rfl, rfl, rfl, rfl, trivial⟩ <| LX.next <| PX.thenN <| CX.ret <| PX.blockR <| PX.thenR <| PX.thenR <| PX.blockR <| PX.thenR <| PX.ret1 (by simp) Tryz.results167 rfl ?_
      exact fun w hw => ⟨(), by rw [← hall, allB_drop hj, hnd, show Bf x = false by assumption]; rfl, hw⟩
    try simp at hb2
    refine CX.skip <| PX.blockN <| PX.thenN <| CX.region <| LX.pure (Y.addN rfl rfl (by (simp only []; omega))) rfl rfl rfl <| LX.pure (Y.move rfl) rfl rfl rfl <| LX.sub (l' := [(0, _), (2, _), (9, _), (10, _), (11, _)]) ⟨rfl, rfl, rfl, rfl, rfl, trivial⟩ <| LX.next ?_
    exact PX.again (μ := fun j => ks.length - j) (i := j) (j + 1) (by show ks.length - (j + 1) < ks.length - j; omega) ⟨rfl, rfl, rfl, rfl, rfl, trivial⟩ (fun w hw => ⟨⟨by omega, by rw [← hall, allB_drop hj, hnd, show Bf x = true by assumption]; rfl⟩, hw⟩)
  try simp at hb1
  have hje : j = ks.length := by omega
  refine CX.exit <| PX.thenE <| PX.thenE <| PX.blockE <| PX.thenN <| CX.seq <| CX.region <| LX.pure (Y.assign rfl) rfl rfl rfl <| LX.sub (l' := [(6, _)]) ⟨rfl, trivial⟩ <| LX.next <| PX.thenN <| CX.ret <| PX.ret1 (by simp) Tryz.results167 rfl ?_
  exact fun w hw => ⟨(), by rw [← hall, drop_end hje]; rfl, hw⟩
theorem all_q {W : World → Prop} [Stab W] {bq : Nat} {al : Option Addr} {cl : Nat} {uv : Value} {l : List Nd} (i : Nat) (hi : i ≤ l.length) {ak : Option Addr} (ck : Nat) {ks : List Int} (hkn : ks.length ≤ 9223372036854775807) (hr : ∀ k ∈ ks, 0 ≤ k ∧ k < (i : Int)) (g : FuncId) (fst : Array Value) (Bf : Nd → Bool)  (hq : ∀ w, W w → Cq w w.heap.size bq al cl uv l ndA) (hk : ∀ w, W w → SlAt 1 intA (Lies w w.heap.size) ak ks) (hg : ∀ w, W w → ClosOk w w.heap.size Tryz.prog g fst l i Bf ndA) : FnQ Tryz.prog 167 #[.pointer (some ⟨bq, 0, none⟩), .slice ak ks.length ck, .func (.func g) fst #[]] W (.bool (allB l Bf ks)) := FnC.quiet fun w hw => all_c i hi ck hkn hr g fst Bf (hq w hw) (hk w hw) (hg w hw)
theorem exprs_c {w0 : World} {base : Nat} {bq : Nat} {al : Option Addr} {cl : Nat} {uv : Value} {l : List Nd} (i : Nat) (hi : i ≤ l.length) {ak : Option Addr} (ck : Nat) {ks : List Int} (hkn : ks.length ≤ 9223372036854775807) (hr : ∀ k ∈ ks, 0 ≤ k ∧ k < (i : Int)) (lo hi2 : Int)  (hq : Cq w0 base bq al cl uv l ndA) (hk : SlAt 1 intA (Lies w0 base) ak ks) : FnC Tryz.prog 165 #[.pointer (some ⟨bq, 0, none⟩), .slice ak ks.length ck, .int .i64 lo, .int .i64 hi2] (WA w0 base []) (fun _ : Unit => .bool (exprs l ks lo hi2)) (fun _ => WA w0 base []) := by
  refine FnC.of_body (fn := Tryz.f165) [(0, _), (1, _), (2, _), (3, _)] Tryz.func165 rfl Tryz.ntmps165 rfl ⟨rfl, rfl, rfl, rfl, trivial⟩ ?_
  refine CX.seq <| CX.region <| LX.pure (Y.assign rfl) rfl rfl rfl <| LX.sub (l' := [(0, _), (1, _), (2, _), (3, _), (8, _)]) ⟨rfl, rfl, rfl, rfl, rfl, trivial⟩ <| LX.next <| PX.thenN <| CX.seq <| CX.region <| LX.pure (Y.move rfl) rfl rfl rfl <| LX.pure (Y.lenSl rfl Ft.un30 rfl) rfl rfl rfl <| LX.pure (Y.move rfl) rfl rfl rfl <| LX.pure (Y.geI rfl rfl) rfl rfl rfl <| LX.pure (Y.move rfl) rfl rfl rfl <| LX.sub (l' := [(0, _), (1, _), (3, _), (8, _), (13, _)]) ⟨rfl, rfl, rfl, rfl, rfl, trivial⟩ ?_
  apply LX.joinAnd 5 18 13 rfl
  · intro hb1
    have hb1p := hb1
    try simp at hb1p
    refine LX.gT rfl rfl rfl hb1 (Y.move rfl) rfl rfl <| LX.gT rfl rfl rfl hb1 (Y.lenSl rfl Ft.un30 rfl) rfl rfl <| LX.gT rfl rfl rfl hb1 (Y.move rfl) rfl rfl <| LX.gT rfl rfl rfl hb1 (Y.leI rfl rfl) rfl rfl <| LX.pure (Y.pickT rfl hb1 rfl) rfl rfl rfl ?_
    exact LX.left ⟨rfl, rfl, rfl, rfl, rfl, rfl, trivial⟩
  · intro hb1
    have hb1p := hb1
    try simp at hb1p
    refine LX.gF rfl rfl rfl hb1 rfl rfl <| LX.gF rfl rfl rfl hb1 rfl rfl <| LX.gF rfl rfl rfl hb1 rfl rfl <| LX.gF rfl rfl rfl hb1 rfl rfl <| LX.pure (Y.pickF rfl hb1 rfl) rfl rfl rfl ?_
    exact LX.left ⟨rfl, rfl, rfl, rfl, rfl, rfl, trivial⟩
  refine LX.pure (Y.move rfl) rfl rfl rfl <| LX.sub (l' := [(0, _), (1, _), (8, _), (19, _)]) ⟨rfl, rfl, rfl, rfl, trivial⟩ ?_
  apply LX.joinAnd 4 23 19 rfl
  · intro hb2
    have hb2p := hb2
    try simp at hb2p
    refine LX.gT rfl rfl rfl hb2 (Y.move rfl) rfl rfl <| LX.gT rfl rfl rfl hb2 (Y.move rfl) rfl rfl <| LX.callQT rfl rfl rfl hb2 (all_q i hi ck hkn hr _ #[] (fun x => exprB x.op) (fun w hw => hq.push hw) (fun w hw => hk.push hw) (fun w hw => ⟨Ft.en233, fun its k x cs hx hi hn => exprs1_q (fun w hw => Kept.mono (fun _ _ h => h.push hw) hn)⟩)) Ft.en167 rfl rfl rfl rfl <| LX.pure (Y.pickT rfl hb2 rfl) rfl rfl rfl ?_
    exact LX.left ⟨rfl, rfl, rfl, rfl, rfl, trivial⟩
  · intro hb2
    have hb2p := hb2
    try simp at hb2p
    refine LX.gF rfl rfl rfl hb2 rfl rfl <| LX.gF rfl rfl rfl hb2 rfl rfl <| LX.gF rfl rfl rfl hb2 rfl rfl <| LX.pure (Y.pickF rfl hb2 rfl) rfl rfl rfl ?_
    exact LX.left ⟨rfl, rfl, rfl, rfl, rfl, trivial⟩
  refine LX.pure (Y.assign rfl) rfl rfl rfl <| LX.sub (l' := [(8, _)]) ⟨rfl, trivial⟩ <| LX.next <| PX.thenN <| CX.ret <| PX.ret1 (by simp) Tryz.results165 rfl ?_
  exact fun w hw => ⟨(), rfl, hw⟩
theorem exprs_q {W : World → Prop} [Stab W] {bq : Nat} {al : Option Addr} {cl : Nat} {uv : Value} {l : List Nd} (i : Nat) (hi : i ≤ l.length) {ak : Option Addr} (ck : Nat) {ks : List Int} (hkn : ks.length ≤ 9223372036854775807) (hr : ∀ k ∈ ks, 0 ≤ k ∧ k < (i : Int)) (lo hi2 : Int)  (hq : ∀ w, W w → Cq w w.heap.size bq al cl uv l ndA) (hk : ∀ w, W w → SlAt 1 intA (Lies w w.heap.size) ak ks) : FnQ Tryz.prog 165 #[.pointer (some ⟨bq, 0, none⟩), .slice ak ks.length ck, .int .i64 lo, .int .i64 hi2] W (.bool (exprs l ks lo hi2)) := FnC.quiet fun w hw => exprs_c i hi ck hkn hr lo hi2 (hq w hw) (hk w hw)
end Go.Proofs.YtfbenelagdcdgaaGreatDoor
