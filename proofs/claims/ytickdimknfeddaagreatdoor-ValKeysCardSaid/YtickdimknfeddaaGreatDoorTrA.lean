/-
  Proved here: looks at nodes and their kids.
-/
import Derived.Test.YtickdimknfeddaaGreatDoorTrP
import Derived.Test.YtickdimknfeddaaGreatDoorProg
set_option linter.unusedSimpArgs false
namespace Go.Proofs.YtickdimknfeddaaGreatDoor
open Go.SX Go.RowKit Go.Tr
namespace Ft
theorem ag53 : AggT Tryz.prog 53 5 := AggT.of (by kernel_rfl) (by kernel_rfl)
theorem en114 : Enters Tryz.prog 114 := Enters.of Tryz.func114 (by kernel_rfl) (by kernel_rfl)
theorem en116 : Enters Tryz.prog 116 := Enters.of Tryz.func116 (by kernel_rfl) (by kernel_rfl)
theorem en122 : Enters Tryz.prog 122 := Enters.of Tryz.func122 (by kernel_rfl) (by kernel_rfl)
theorem en141 : Enters Tryz.prog 141 := Enters.of Tryz.func141 (by kernel_rfl) (by kernel_rfl)
theorem fa53_0 : FieldOffA Tryz.prog 53 0 0 := fun a w => by kernel_rfl
theorem fa88_0 : FieldOffA Tryz.prog 88 0 0 := fun a w => by kernel_rfl
theorem fo53_0 : FieldOff Tryz.prog 53 0 0 := fun b o w => by kernel_rfl
theorem fo88_0 : FieldOff Tryz.prog 88 0 0 := fun b o w => by kernel_rfl
theorem one22 : One Tryz.prog 22 := fun w => by kernel_rfl
theorem one3 : One Tryz.prog 3 := fun w => by kernel_rfl
theorem sz3 : SizeIs Tryz.prog 3 1 := fun w => by kernel_rfl
theorem sz53 : SizeIs Tryz.prog 53 5 := fun w => by kernel_rfl
theorem un22 : Tryz.prog.underlying 22 = some (.slice 53) := by kernel_rfl
theorem un51 : Tryz.prog.underlying 51 = some (.slice 3) := by kernel_rfl
end Ft
theorem expr_c {w0 : World} {base : Nat} {fr : List It} (op : Int) : FnC Tryz.prog 116 #[.int .i64 op] (WA w0 base fr) (fun _ : Unit => .bool (exprB op)) (fun _ => WA w0 base fr) := by
  refine FnC.of_body (fn := Tryz.f116) [(0, _)] Tryz.func116 rfl Tryz.ntmps116 rfl ⟨rfl, trivial⟩ ?_
  refine CX.seq <| CX.region <| LX.pure (Y.assign rfl) rfl rfl rfl <| LX.sub (l' := [(0, _), (2, _)]) ⟨rfl, rfl, trivial⟩ <| LX.next <| PX.thenN <| CX.seq <| CX.region <| LX.pure (Y.move rfl) rfl rfl rfl <| LX.pure (Y.geI rfl rfl) rfl rfl rfl <| LX.pure (Y.move rfl) rfl rfl rfl <| LX.sub (l' := [(0, _), (2, _), (5, _)]) ⟨rfl, rfl, rfl, trivial⟩ ?_
  apply LX.joinAnd 3 8 5 rfl
  · intro hb1
    refine LX.gT rfl rfl rfl hb1 (Y.move rfl) rfl rfl <| LX.gT rfl rfl rfl hb1 (Y.leI rfl rfl) rfl rfl <| LX.pure (Y.pickT rfl hb1 rfl) rfl rfl rfl ?_
    exact LX.left ⟨rfl, rfl, rfl, rfl, trivial⟩
  · intro hb1
    refine LX.gF rfl rfl rfl hb1 rfl rfl <| LX.gF rfl rfl rfl hb1 rfl rfl <| LX.pure (Y.pickF rfl hb1 rfl) rfl rfl rfl ?_
    exact LX.left ⟨rfl, rfl, rfl, rfl, trivial⟩
  refine LX.pure (Y.move rfl) rfl rfl rfl <| LX.sub (l' := [(0, _), (2, _), (9, _)]) ⟨rfl, rfl, rfl, trivial⟩ ?_
  apply LX.joinAnd 3 12 9 rfl
  · intro hb2
    refine LX.gT rfl rfl rfl hb2 (Y.move rfl) rfl rfl <| LX.gT rfl rfl rfl hb2 (Y.neI rfl rfl) rfl rfl <| LX.pure (Y.pickT rfl hb2 rfl) rfl rfl rfl ?_
    exact LX.left ⟨rfl, rfl, rfl, rfl, trivial⟩
  · intro hb2
    refine LX.gF rfl rfl rfl hb2 rfl rfl <| LX.gF rfl rfl rfl hb2 rfl rfl <| LX.pure (Y.pickF rfl hb2 rfl) rfl rfl rfl ?_
    exact LX.left ⟨rfl, rfl, rfl, rfl, trivial⟩
  refine LX.pure (Y.move rfl) rfl rfl rfl <| LX.sub (l' := [(0, _), (2, _), (13, _)]) ⟨rfl, rfl, rfl, trivial⟩ ?_
  apply LX.joinAnd 3 16 13 rfl
  · intro hb3
    refine LX.gT rfl rfl rfl hb3 (Y.move rfl) rfl rfl <| LX.gT rfl rfl rfl hb3 (Y.neI rfl rfl) rfl rfl <| LX.pure (Y.pickT rfl hb3 rfl) rfl rfl rfl ?_
    exact LX.left ⟨rfl, rfl, rfl, rfl, trivial⟩
  · intro hb3
    refine LX.gF rfl rfl rfl hb3 rfl rfl <| LX.gF rfl rfl rfl hb3 rfl rfl <| LX.pure (Y.pickF rfl hb3 rfl) rfl rfl rfl ?_
    exact LX.left ⟨rfl, rfl, rfl, rfl, trivial⟩
  refine LX.pure (Y.assign rfl) rfl rfl rfl <| LX.sub (l' := [(2, _)]) ⟨rfl, trivial⟩ <| LX.next <| PX.thenN <| CX.ret <| PX.ret1 (by simp) Tryz.results116 rfl ?_
  exact fun w hw => ⟨(), congrArg (fun z => Ending.returned (Value.bool z)) (by unfold exprB; rfl), hw⟩
theorem expr_q {W : World → Prop} [Stab W] (op : Int) : FnQ Tryz.prog 116 #[.int .i64 op] W (.bool (exprB op)) := FnC.quiet fun w _ => expr_c op
theorem stmt_c {w0 : World} {base : Nat} {fr : List It} (op : Int) : FnC Tryz.prog 122 #[.int .i64 op] (WA w0 base fr) (fun _ : Unit => .bool (stmtB op)) (fun _ => WA w0 base fr) := by
  refine FnC.of_body (fn := Tryz.f122) [(0, _)] Tryz.func122 rfl Tryz.ntmps122 rfl ⟨rfl, trivial⟩ ?_
  refine CX.seq <| CX.region <| LX.pure (Y.assign rfl) rfl rfl rfl <| LX.sub (l' := [(0, _), (2, _)]) ⟨rfl, rfl, trivial⟩ <| LX.next <| PX.thenN <| CX.seq <| CX.region <| LX.pure (Y.move rfl) rfl rfl rfl <| LX.pure (Y.geI rfl rfl) rfl rfl rfl <| LX.pure (Y.move rfl) rfl rfl rfl <| LX.sub (l' := [(0, _), (2, _), (5, _)]) ⟨rfl, rfl, rfl, trivial⟩ ?_
  apply LX.joinAnd 3 8 5 rfl
  · intro hb1
    refine LX.gT rfl rfl rfl hb1 (Y.move rfl) rfl rfl <| LX.gT rfl rfl rfl hb1 (Y.leI rfl rfl) rfl rfl <| LX.pure (Y.pickT rfl hb1 rfl) rfl rfl rfl ?_
    exact LX.left ⟨rfl, rfl, rfl, rfl, trivial⟩
  · intro hb1
    refine LX.gF rfl rfl rfl hb1 rfl rfl <| LX.gF rfl rfl rfl hb1 rfl rfl <| LX.pure (Y.pickF rfl hb1 rfl) rfl rfl rfl ?_
    exact LX.left ⟨rfl, rfl, rfl, rfl, trivial⟩
  refine LX.pure (Y.assign rfl) rfl rfl rfl <| LX.sub (l' := [(2, _)]) ⟨rfl, trivial⟩ <| LX.next <| PX.thenN <| CX.ret <| PX.ret1 (by simp) Tryz.results122 rfl ?_
  exact fun w hw => ⟨(), congrArg (fun z => Ending.returned (Value.bool z)) (by unfold stmtB; rfl), hw⟩
theorem stmt_q {W : World → Prop} [Stab W] (op : Int) : FnQ Tryz.prog 122 #[.int .i64 op] W (.bool (stmtB op)) := FnC.quiet fun w _ => stmt_c op
theorem op_c {w0 : World} {base : Nat} {bq : Nat} {al : Option Addr} {cl : Nat} {uv : Value} {l : List Nd} (kz z : Int) (h0 : 0 ≤ kz ∧ kz < l.length) (hq : Cq w0 base bq al cl uv l ndA) : FnC Tryz.prog 120 #[.pointer (some ⟨bq, 0, none⟩), .int .i64 kz, .int .i64 z] (WA w0 base []) (fun _ : Unit => .bool (decide ((nd l kz).op = z))) (fun _ => WA w0 base []) := by
  obtain ⟨k, rfl⟩ : ∃ k : Nat, kz = (k : Int) := ⟨kz.toNat, by omega⟩
  have hkl : k < l.length := by omega
  obtain ⟨x, hx⟩ : ∃ x, l[k]? = some x := ⟨_, List.getElem?_eq_getElem hkl⟩
  obtain ⟨a, cs, hav, hcl, hL, vk, rfl, hks, hin⟩ := hq.nodes k x hx
  rw [nd_at hx]
  refine FnC.of_body (fn := Tryz.f120) [(0, _), (1, _), (2, _)] Tryz.func120 rfl Tryz.ntmps120 rfl ⟨rfl, rfl, rfl, trivial⟩ ?_
  refine CX.seq <| CX.region <| LX.pure (Y.assign rfl) rfl rfl rfl <| LX.sub (l' := [(0, _), (1, _), (2, _), (6, _)]) ⟨rfl, rfl, rfl, rfl, trivial⟩ <| LX.next <| PX.thenN <| CX.seq <| CX.region <| LX.pure (Y.move rfl) rfl rfl rfl <| LX.pure (Y.nilCheck rfl) rfl rfl rfl <| LX.pure (Y.fieldAddr0 Ft.fo88_0 rfl) rfl rfl rfl <| LX.pure (Y.ldB0 Ft.one22 rfl hq.blk rfl) rfl rfl rfl <| LX.pure (Y.move rfl) rfl rfl rfl <| LX.pure (Y.idxZ Ft.un22 Ft.sz53 rfl rfl hav (j := k) rfl hkl) rfl rfl rfl <| LX.pure (Y.fieldA Ft.fa53_0 rfl) rfl rfl rfl <| LX.pure (Y.ldFO Ft.one3 rfl hL rfl) rfl rfl rfl <| LX.pure (Y.move rfl) rfl rfl rfl <| LX.pure (Y.eqI rfl rfl) rfl rfl rfl <| LX.pure (Y.assign rfl) rfl rfl rfl <| LX.sub (l' := [(6, _)]) ⟨rfl, trivial⟩ <| LX.next <| PX.thenN <| CX.ret <| PX.ret1 (by simp) Tryz.results120 rfl ?_
  exact fun w hw => ⟨(), rfl, hw⟩
theorem op_q {W : World → Prop} [Stab W] {bq : Nat} {al : Option Addr} {cl : Nat} {uv : Value} {l : List Nd} (kz z : Int) (h0 : 0 ≤ kz ∧ kz < l.length) (hq : ∀ w, W w → Cq w w.heap.size bq al cl uv l ndA) : FnQ Tryz.prog 120 #[.pointer (some ⟨bq, 0, none⟩), .int .i64 kz, .int .i64 z] W (.bool (decide ((nd l kz).op = z))) := FnC.quiet fun w hw => op_c kz z h0 (hq w hw)
theorem exprs1_c {w0 : World} {base : Nat} {x : Nd} {cs : List Value}  (hx : ndA (Lies w0 base) cs x) : FnC Tryz.prog 141 #[.agg cs.toArray] (WA w0 base []) (fun _ : Unit => .bool (exprB x.op)) (fun _ => WA w0 base []) := by
  obtain ⟨vk, rfl, hks, hin⟩ := hx
  obtain ⟨ak, ck, rfl, ⟨hkn, hkc⟩, hka⟩ := hks.sl
  refine FnC.of_body (fn := Tryz.f141) [(0, _)] Tryz.func141 rfl Tryz.ntmps141 rfl ⟨rfl, trivial⟩ ?_
  refine CX.seq <| CX.region <| LX.box rfl rfl rfl rfl rfl ?_
  intro bx0
  refine LX.pure (Y.assign rfl) rfl rfl rfl <| LX.sub (l' := [(1, _), (2, _)]) ⟨rfl, rfl, trivial⟩ <| LX.next <| PX.thenN <| CX.seq <| CX.region <| LX.pure (Y.fieldAddr0 Ft.fo53_0 rfl) rfl rfl rfl <| LX.pure (Y.ldB 0 Ft.one3 rfl rfl rfl) rfl rfl rfl <| LX.callQ (expr_q _) Ft.en116 rfl rfl rfl rfl rfl <| LX.pure (Y.assign rfl) rfl rfl rfl <| LX.sub (l' := [(2, _)]) ⟨rfl, trivial⟩ <| LX.next <| PX.thenN <| CX.ret <| PX.ret1 (by simp) Tryz.results141 rfl ?_
  exact fun w hw => ⟨(), rfl, hw.drop (List.sublist_cons_self _ _)⟩
theorem exprs1_q {W : World → Prop} [Stab W] {x : Nd} {cs : List Value}  (hx : ∀ w, W w → ndA (Lies w w.heap.size) cs x) : FnQ Tryz.prog 141 #[.agg cs.toArray] W (.bool (exprB x.op)) := FnC.quiet fun w hw => exprs1_c  (hx w hw)
theorem kids1_c {w0 : World} {base : Nat} {x : Nd} {cs : List Value}  (hx : ndA (Lies w0 base) cs x) : FnC Tryz.prog 115 #[.agg cs.toArray] (WA w0 base []) (fun _ : Unit => .bool (exprB x.op || decide (x.op = 15))) (fun _ => WA w0 base []) := by
  obtain ⟨vk, rfl, hks, hin⟩ := hx
  obtain ⟨ak, ck, rfl, ⟨hkn, hkc⟩, hka⟩ := hks.sl
  refine FnC.of_body (fn := Tryz.f115) [(0, _)] Tryz.func115 rfl Tryz.ntmps115 rfl ⟨rfl, trivial⟩ ?_
  refine CX.seq <| CX.region <| LX.box rfl rfl rfl rfl rfl ?_
  intro bx0
  refine LX.pure (Y.assign rfl) rfl rfl rfl <| LX.sub (l' := [(1, _), (2, _)]) ⟨rfl, rfl, trivial⟩ <| LX.next <| PX.thenN <| CX.seq <| CX.region <| LX.pure (Y.fieldAddr0 Ft.fo53_0 rfl) rfl rfl rfl <| LX.pure (Y.ldB 0 Ft.one3 rfl rfl rfl) rfl rfl rfl <| LX.callQ (expr_q _) Ft.en116 rfl rfl rfl rfl rfl <| LX.pure (Y.move rfl) rfl rfl rfl <| LX.sub (l' := [(1, _), (2, _), (6, _)]) ⟨rfl, rfl, rfl, trivial⟩ ?_
  apply LX.joinOr 4 10 6 rfl
  · intro hb1
    refine LX.gF rfl rfl rfl hb1 rfl rfl <| LX.gF rfl rfl rfl hb1 rfl rfl <| LX.gF rfl rfl rfl hb1 rfl rfl <| LX.pure (Y.pickT rfl hb1 rfl) rfl rfl rfl ?_
    exact LX.left ⟨rfl, rfl, rfl, rfl, trivial⟩
  · intro hb1
    refine LX.gT rfl rfl rfl hb1 (Y.fieldAddr0 Ft.fo53_0 rfl) rfl rfl <| LX.gT rfl rfl rfl hb1 (Y.ldB 0 Ft.one3 rfl rfl rfl) rfl rfl <| LX.gT rfl rfl rfl hb1 (Y.eqI rfl rfl) rfl rfl <| LX.pure (Y.pickF rfl hb1 rfl) rfl rfl rfl ?_
    exact LX.left ⟨rfl, rfl, rfl, rfl, trivial⟩
  refine LX.pure (Y.assign rfl) rfl rfl rfl <| LX.sub (l' := [(2, _)]) ⟨rfl, trivial⟩ <| LX.next <| PX.thenN <| CX.ret <| PX.ret1 (by simp) Tryz.results115 rfl ?_
  exact fun w hw => ⟨(), rfl, hw.drop (List.sublist_cons_self _ _)⟩
theorem kids1_q {W : World → Prop} [Stab W] {x : Nd} {cs : List Value}  (hx : ∀ w, W w → ndA (Lies w w.heap.size) cs x) : FnQ Tryz.prog 115 #[.agg cs.toArray] W (.bool (exprB x.op || decide (x.op = 15))) := FnC.quiet fun w hw => kids1_c  (hx w hw)
theorem kids2_c {w0 : World} {base : Nat} {x : Nd} {cs : List Value}  (hx : ndA (Lies w0 base) cs x) : FnC Tryz.prog 119 #[.agg cs.toArray] (WA w0 base []) (fun _ : Unit => .bool (decide (x.op = 46))) (fun _ => WA w0 base []) := by
  obtain ⟨vk, rfl, hks, hin⟩ := hx
  obtain ⟨ak, ck, rfl, ⟨hkn, hkc⟩, hka⟩ := hks.sl
  refine FnC.of_body (fn := Tryz.f119) [(0, _)] Tryz.func119 rfl Tryz.ntmps119 rfl ⟨rfl, trivial⟩ ?_
  refine CX.seq <| CX.region <| LX.box rfl rfl rfl rfl rfl ?_
  intro bx0
  refine LX.pure (Y.assign rfl) rfl rfl rfl <| LX.sub (l' := [(1, _), (2, _)]) ⟨rfl, rfl, trivial⟩ <| LX.next <| PX.thenN <| CX.seq <| CX.region <| LX.pure (Y.fieldAddr0 Ft.fo53_0 rfl) rfl rfl rfl <| LX.pure (Y.ldB 0 Ft.one3 rfl rfl rfl) rfl rfl rfl <| LX.pure (Y.eqI rfl rfl) rfl rfl rfl <| LX.pure (Y.assign rfl) rfl rfl rfl <| LX.sub (l' := [(2, _)]) ⟨rfl, trivial⟩ <| LX.next <| PX.thenN <| CX.ret <| PX.ret1 (by simp) Tryz.results119 rfl ?_
  exact fun w hw => ⟨(), rfl, hw.drop (List.sublist_cons_self _ _)⟩
theorem kids2_q {W : World → Prop} [Stab W] {x : Nd} {cs : List Value}  (hx : ∀ w, W w → ndA (Lies w w.heap.size) cs x) : FnQ Tryz.prog 119 #[.agg cs.toArray] W (.bool (decide (x.op = 46))) := FnC.quiet fun w hw => kids2_c  (hx w hw)
theorem kids3_c {w0 : World} {base : Nat} {x : Nd} {cs : List Value}  (hx : ndA (Lies w0 base) cs x) : FnC Tryz.prog 121 #[.agg cs.toArray] (WA w0 base []) (fun _ : Unit => .bool (stmtB x.op)) (fun _ => WA w0 base []) := by
  obtain ⟨vk, rfl, hks, hin⟩ := hx
  obtain ⟨ak, ck, rfl, ⟨hkn, hkc⟩, hka⟩ := hks.sl
  refine FnC.of_body (fn := Tryz.f121) [(0, _)] Tryz.func121 rfl Tryz.ntmps121 rfl ⟨rfl, trivial⟩ ?_
  refine CX.seq <| CX.region <| LX.box rfl rfl rfl rfl rfl ?_
  intro bx0
  refine LX.pure (Y.assign rfl) rfl rfl rfl <| LX.sub (l' := [(1, _), (2, _)]) ⟨rfl, rfl, trivial⟩ <| LX.next <| PX.thenN <| CX.seq <| CX.region <| LX.pure (Y.fieldAddr0 Ft.fo53_0 rfl) rfl rfl rfl <| LX.pure (Y.ldB 0 Ft.one3 rfl rfl rfl) rfl rfl rfl <| LX.callQ (stmt_q _) Ft.en122 rfl rfl rfl rfl rfl <| LX.pure (Y.assign rfl) rfl rfl rfl <| LX.sub (l' := [(2, _)]) ⟨rfl, trivial⟩ <| LX.next <| PX.thenN <| CX.ret <| PX.ret1 (by simp) Tryz.results121 rfl ?_
  exact fun w hw => ⟨(), rfl, hw.drop (List.sublist_cons_self _ _)⟩
theorem kids3_q {W : World → Prop} [Stab W] {x : Nd} {cs : List Value}  (hx : ∀ w, W w → ndA (Lies w w.heap.size) cs x) : FnQ Tryz.prog 121 #[.agg cs.toArray] W (.bool (stmtB x.op)) := FnC.quiet fun w hw => kids3_c  (hx w hw)
theorem more1_c {w0 : World} {base : Nat} {x : Nd} {cs : List Value}  (hx : ndA (Lies w0 base) cs x) : FnC Tryz.prog 142 #[.agg cs.toArray] (WA w0 base []) (fun _ : Unit => .bool (decide (x.op = 47))) (fun _ => WA w0 base []) := by
  obtain ⟨vk, rfl, hks, hin⟩ := hx
  obtain ⟨ak, ck, rfl, ⟨hkn, hkc⟩, hka⟩ := hks.sl
  refine FnC.of_body (fn := Tryz.f142) [(0, _)] Tryz.func142 rfl Tryz.ntmps142 rfl ⟨rfl, trivial⟩ ?_
  refine CX.seq <| CX.region <| LX.box rfl rfl rfl rfl rfl ?_
  intro bx0
  refine LX.pure (Y.assign rfl) rfl rfl rfl <| LX.sub (l' := [(1, _), (2, _)]) ⟨rfl, rfl, trivial⟩ <| LX.next <| PX.thenN <| CX.seq <| CX.region <| LX.pure (Y.fieldAddr0 Ft.fo53_0 rfl) rfl rfl rfl <| LX.pure (Y.ldB 0 Ft.one3 rfl rfl rfl) rfl rfl rfl <| LX.pure (Y.eqI rfl rfl) rfl rfl rfl <| LX.pure (Y.assign rfl) rfl rfl rfl <| LX.sub (l' := [(2, _)]) ⟨rfl, trivial⟩ <| LX.next <| PX.thenN <| CX.ret <| PX.ret1 (by simp) Tryz.results142 rfl ?_
  exact fun w hw => ⟨(), rfl, hw.drop (List.sublist_cons_self _ _)⟩
theorem more1_q {W : World → Prop} [Stab W] {x : Nd} {cs : List Value}  (hx : ∀ w, W w → ndA (Lies w w.heap.size) cs x) : FnQ Tryz.prog 142 #[.agg cs.toArray] W (.bool (decide (x.op = 47))) := FnC.quiet fun w hw => more1_c  (hx w hw)
theorem all_c {w0 : World} {base : Nat} {bq : Nat} {al : Option Addr} {cl : Nat} {uv : Value} {l : List Nd} (i : Nat) (hi : i ≤ l.length) {ak : Option Addr} (ck : Nat) {ks : List Int} (hkn : ks.length ≤ 9223372036854775807) (hr : ∀ k ∈ ks, 0 ≤ k ∧ k < (i : Int)) (g : FuncId) (fst : Array Value) (Bf : Nd → Bool)  (hq : Cq w0 base bq al cl uv l ndA) (hk : SlAt 1 intA (Lies w0 base) ak ks) (hg : ClosOk w0 base Tryz.prog g fst l i Bf ndA) : FnC Tryz.prog 114 #[.pointer (some ⟨bq, 0, none⟩), .slice ak ks.length ck, .func (.func g) fst #[]] (WA w0 base []) (fun _ : Unit => .bool (allB l Bf ks)) (fun _ => WA w0 base []) := by
  refine FnC.of_body (fn := Tryz.f114) [(0, _), (1, _), (2, _)] Tryz.func114 rfl Tryz.ntmps114 rfl ⟨rfl, rfl, rfl, trivial⟩ ?_
  refine CX.seq <| CX.region <| LX.pure (Y.assign rfl) rfl rfl rfl <| LX.sub (l' := [(0, _), (1, _), (2, _), (6, _)]) ⟨rfl, rfl, rfl, rfl, trivial⟩ <| LX.next <| PX.thenN <| CX.seq <| CX.seq <| CX.region <| LX.pure (Y.move rfl) rfl rfl rfl <| LX.pure (Y.lenSl rfl Ft.un51 rfl) rfl rfl rfl <| LX.pure (Y.move rfl) rfl rfl rfl <| LX.sub (l' := [(0, _), (2, _), (6, _), (9, _), (10, _), (11, _)]) ⟨rfl, rfl, rfl, rfl, rfl, rfl, trivial⟩ <| LX.next <| PX.thenN <| CX.block <| CX.loop (fun j : Nat => [(0, .pointer (some ⟨bq, 0, none⟩)), (2, .func (.func g) fst #[]), (9, .slice ak ks.length ck), (10, .int .i64 (ks.length : Int)), (11, .int .i64 (j : Int))]) (fun (j : Nat) w => (j ≤ ks.length ∧ allB l Bf (ks.drop j) = allB l Bf ks) ∧ WA w0 base [] w) (fun j => ks.length - j) 0 ⟨rfl, rfl, rfl, rfl, rfl, trivial⟩ (fun w hw => ⟨⟨Nat.zero_le _, rfl⟩, hw⟩) ?_
  intro j
  refine CX.have fun ⟨hj0, hall⟩ => ?_
  try dsimp only at hj0 hall ⊢
  refine CX.seq <| CX.region <| LX.pure (Y.ltN rfl rfl) rfl rfl rfl <| LX.sub (l' := [(0, _), (2, _), (9, _), (10, _), (11, _), (12, _)]) ⟨rfl, rfl, rfl, rfl, rfl, rfl, trivial⟩ <| LX.next <| PX.thenN <| CX.seq ?_
  refine CX.cond rfl (fun hb1 => ?_) (fun hb1 => ?_)
  · try simp at hb1
    have hj : j < ks.length := by omega
    obtain ⟨a0, hav0, hL0, hin0⟩ := hk.int_at hj
    have hrj := hr _ (getD_mem hj)
    obtain ⟨k, hkz⟩ : ∃ k : Nat, ks.getD j 0 = (k : Int) := ⟨(ks.getD j 0).toNat, by omega⟩
    have hkl : k < l.length := by omega
    obtain ⟨x, hx⟩ : ∃ x, l[k]? = some x := ⟨_, List.getElem?_eq_getElem hkl⟩
    obtain ⟨a, cs, hav, hcl, hL, hnx⟩ := hq.nodes k x hx
    have hnd : nd l (ks.getD j 0) = x := by rw [hkz]; exact nd_at hx
    refine CX.skip <| PX.thenN <| CX.seq <| CX.block <| CX.seq <| CX.region <| LX.pure (Y.idxZ Ft.un51 Ft.sz3 rfl rfl hav0 (j := j) rfl hj) rfl rfl rfl <| LX.pure (Y.ldO1 Ft.one3 rfl hL0) rfl rfl rfl <| LX.pure (Y.assign rfl) rfl rfl rfl <| LX.sub (l' := [(0, _), (2, _), (8, _), (9, _), (10, _), (11, _)]) ⟨rfl, rfl, rfl, rfl, rfl, rfl, trivial⟩ <| LX.next <| PX.thenN <| CX.seq <| CX.region <| LX.pure (Y.move rfl) rfl rfl rfl <| LX.pure (Y.move rfl) rfl rfl rfl <| LX.pure (Y.nilCheck rfl) rfl rfl rfl <| LX.pure (Y.fieldAddr0 Ft.fo88_0 rfl) rfl rfl rfl <| LX.pure (Y.ldB0 Ft.one22 rfl hq.blk rfl) rfl rfl rfl <| LX.pure (Y.move rfl) rfl rfl rfl <| LX.pure (Y.idxZ Ft.un22 Ft.sz53 rfl rfl hav (j := k) hkz hkl) rfl rfl rfl <| LX.pure (Y.ldAO (cs := cs) Ft.ag53 rfl hL hcl) rfl rfl rfl <| LX.callV (FnQ.toC (hg.does _ k x cs hx (by omega) hnx)) hg.ent rfl rfl rfl rfl rfl rfl ?_
    intro _
    refine LX.pure (Y.not rfl) rfl rfl rfl <| LX.sub (l' := [(0, _), (2, _), (9, _), (10, _), (11, _), (24, _)]) ⟨rfl, rfl, rfl, rfl, rfl, rfl, trivial⟩ <| LX.next <| PX.thenN ?_
    refine CX.cond rfl (fun hb2 => ?_) (fun hb2 => ?_)
    · try simp at hb2
      refine CX.seq <| CX.region <| LX.pure (Y.assign rfl) rfl rfl rfl <| LX.sub (l' := [(0, _), (2, _), (6, _), (9, _), (10, _), (11, _)]) ⟨rfl, rfl, rfl, rfl, rfl, rfl, trivial⟩ <| LX.next <| PX.thenN <| CX.ret <| PX.blockR <| PX.thenR <| PX.thenR <| PX.blockR <| PX.thenR <| PX.ret1 (by simp) Tryz.results114 rfl ?_
      exact fun w hw => ⟨(), by rw [← hall, allB_drop hj, hnd, show Bf x = false by assumption]; rfl, hw⟩
    try simp at hb2
    refine CX.skip <| PX.blockN <| PX.thenN <| CX.region <| LX.pure (Y.addN rfl rfl (by (simp only []; omega))) rfl rfl rfl <| LX.pure (Y.move rfl) rfl rfl rfl <| LX.sub (l' := [(0, _), (2, _), (9, _), (10, _), (11, _)]) ⟨rfl, rfl, rfl, rfl, rfl, trivial⟩ <| LX.next ?_
    exact PX.again (μ := fun j => ks.length - j) (i := j) (j + 1) (by show ks.length - (j + 1) < ks.length - j; omega) ⟨rfl, rfl, rfl, rfl, rfl, trivial⟩ (fun w hw => ⟨⟨by omega, by rw [← hall, allB_drop hj, hnd, show Bf x = true by assumption]; rfl⟩, hw⟩)
  try simp at hb1
  have hje : j = ks.length := by omega
  refine CX.exit <| PX.thenE <| PX.thenE <| PX.blockE <| PX.thenN <| CX.seq <| CX.region <| LX.pure (Y.assign rfl) rfl rfl rfl <| LX.sub (l' := [(6, _)]) ⟨rfl, trivial⟩ <| LX.next <| PX.thenN <| CX.ret <| PX.ret1 (by simp) Tryz.results114 rfl ?_
  exact fun w hw => ⟨(), by rw [← hall, drop_end hje]; rfl, hw⟩
theorem all_q {W : World → Prop} [Stab W] {bq : Nat} {al : Option Addr} {cl : Nat} {uv : Value} {l : List Nd} (i : Nat) (hi : i ≤ l.length) {ak : Option Addr} (ck : Nat) {ks : List Int} (hkn : ks.length ≤ 9223372036854775807) (hr : ∀ k ∈ ks, 0 ≤ k ∧ k < (i : Int)) (g : FuncId) (fst : Array Value) (Bf : Nd → Bool)  (hq : ∀ w, W w → Cq w w.heap.size bq al cl uv l ndA) (hk : ∀ w, W w → SlAt 1 intA (Lies w w.heap.size) ak ks) (hg : ∀ w, W w → ClosOk w w.heap.size Tryz.prog g fst l i Bf ndA) : FnQ Tryz.prog 114 #[.pointer (some ⟨bq, 0, none⟩), .slice ak ks.length ck, .func (.func g) fst #[]] W (.bool (allB l Bf ks)) := FnC.quiet fun w hw => all_c i hi ck hkn hr g fst Bf (hq w hw) (hk w hw) (hg w hw)
theorem exprs_c {w0 : World} {base : Nat} {bq : Nat} {al : Option Addr} {cl : Nat} {uv : Value} {l : List Nd} (i : Nat) (hi : i ≤ l.length) {ak : Option Addr} (ck : Nat) {ks : List Int} (hkn : ks.length ≤ 9223372036854775807) (hr : ∀ k ∈ ks, 0 ≤ k ∧ k < (i : Int)) (lo hi2 : Int)  (hq : Cq w0 base bq al cl uv l ndA) (hk : SlAt 1 intA (Lies w0 base) ak ks) : FnC Tryz.prog 112 #[.pointer (some ⟨bq, 0, none⟩), .slice ak ks.length ck, .int .i64 lo, .int .i64 hi2] (WA w0 base []) (fun _ : Unit => .bool (exprs l ks lo hi2)) (fun _ => WA w0 base []) := by
  refine FnC.of_body (fn := Tryz.f112) [(0, _), (1, _), (2, _), (3, _)] Tryz.func112 rfl Tryz.ntmps112 rfl ⟨rfl, rfl, rfl, rfl, trivial⟩ ?_
  refine CX.seq <| CX.region <| LX.pure (Y.assign rfl) rfl rfl rfl <| LX.sub (l' := [(0, _), (1, _), (2, _), (3, _), (8, _)]) ⟨rfl, rfl, rfl, rfl, rfl, trivial⟩ <| LX.next <| PX.thenN <| CX.seq <| CX.region <| LX.pure (Y.move rfl) rfl rfl rfl <| LX.pure (Y.lenSl rfl Ft.un51 rfl) rfl rfl rfl <| LX.pure (Y.move rfl) rfl rfl rfl <| LX.pure (Y.geI rfl rfl) rfl rfl rfl <| LX.pure (Y.move rfl) rfl rfl rfl <| LX.sub (l' := [(0, _), (1, _), (3, _), (8, _), (13, _)]) ⟨rfl, rfl, rfl, rfl, rfl, trivial⟩ ?_
  apply LX.joinAnd 5 18 13 rfl
  · intro hb1
    refine LX.gT rfl rfl rfl hb1 (Y.move rfl) rfl rfl <| LX.gT rfl rfl rfl hb1 (Y.lenSl rfl Ft.un51 rfl) rfl rfl <| LX.gT rfl rfl rfl hb1 (Y.move rfl) rfl rfl <| LX.gT rfl rfl rfl hb1 (Y.leI rfl rfl) rfl rfl <| LX.pure (Y.pickT rfl hb1 rfl) rfl rfl rfl ?_
    exact LX.left ⟨rfl, rfl, rfl, rfl, rfl, rfl, trivial⟩
  · intro hb1
    refine LX.gF rfl rfl rfl hb1 rfl rfl <| LX.gF rfl rfl rfl hb1 rfl rfl <| LX.gF rfl rfl rfl hb1 rfl rfl <| LX.gF rfl rfl rfl hb1 rfl rfl <| LX.pure (Y.pickF rfl hb1 rfl) rfl rfl rfl ?_
    exact LX.left ⟨rfl, rfl, rfl, rfl, rfl, rfl, trivial⟩
  refine LX.pure (Y.move rfl) rfl rfl rfl <| LX.sub (l' := [(0, _), (1, _), (8, _), (19, _)]) ⟨rfl, rfl, rfl, rfl, trivial⟩ ?_
  apply LX.joinAnd 4 23 19 rfl
  · intro hb2
    refine LX.gT rfl rfl rfl hb2 (Y.move rfl) rfl rfl <| LX.gT rfl rfl rfl hb2 (Y.move rfl) rfl rfl <| LX.callQT rfl rfl rfl hb2 (all_q i hi ck hkn hr _ #[] (fun x => exprB x.op) (fun w hw => hq.push hw) (fun w hw => hk.push hw) (fun w hw => ⟨Ft.en141, fun its k x cs hx hi hn => exprs1_q (fun w hw => Kept.mono (fun _ _ h => h.push hw) hn)⟩)) Ft.en114 rfl rfl rfl rfl <| LX.pure (Y.pickT rfl hb2 rfl) rfl rfl rfl ?_
    exact LX.left ⟨rfl, rfl, rfl, rfl, rfl, trivial⟩
  · intro hb2
    refine LX.gF rfl rfl rfl hb2 rfl rfl <| LX.gF rfl rfl rfl hb2 rfl rfl <| LX.gF rfl rfl rfl hb2 rfl rfl <| LX.pure (Y.pickF rfl hb2 rfl) rfl rfl rfl ?_
    exact LX.left ⟨rfl, rfl, rfl, rfl, rfl, trivial⟩
  refine LX.pure (Y.assign rfl) rfl rfl rfl <| LX.sub (l' := [(8, _)]) ⟨rfl, trivial⟩ <| LX.next <| PX.thenN <| CX.ret <| PX.ret1 (by simp) Tryz.results112 rfl ?_
  exact fun w hw => ⟨(), rfl, hw⟩
theorem exprs_q {W : World → Prop} [Stab W] {bq : Nat} {al : Option Addr} {cl : Nat} {uv : Value} {l : List Nd} (i : Nat) (hi : i ≤ l.length) {ak : Option Addr} (ck : Nat) {ks : List Int} (hkn : ks.length ≤ 9223372036854775807) (hr : ∀ k ∈ ks, 0 ≤ k ∧ k < (i : Int)) (lo hi2 : Int)  (hq : ∀ w, W w → Cq w w.heap.size bq al cl uv l ndA) (hk : ∀ w, W w → SlAt 1 intA (Lies w w.heap.size) ak ks) : FnQ Tryz.prog 112 #[.pointer (some ⟨bq, 0, none⟩), .slice ak ks.length ck, .int .i64 lo, .int .i64 hi2] W (.bool (exprs l ks lo hi2)) := FnC.quiet fun w hw => exprs_c i hi ck hkn hr lo hi2 (hq w hw) (hk w hw)
end Go.Proofs.YtickdimknfeddaaGreatDoor

namespace Go.Proofs.YtickdimknfeddaaGreatDoor
open Go.SX Go.RowKit Go.Tr
namespace Fu
theorem en117 : Enters Tryz.prog 117 := Enters.of Tryz.func117 (by kernel_rfl) (by kernel_rfl)
theorem en120 : Enters Tryz.prog 120 := Enters.of Tryz.func120 (by kernel_rfl) (by kernel_rfl)
theorem fa53_4 : FieldOffA Tryz.prog 53 4 4 := fun a w => by kernel_rfl
theorem fo53_4 : FieldOff Tryz.prog 53 4 4 := fun b o w => by kernel_rfl
theorem one51 : One Tryz.prog 51 := fun w => by kernel_rfl
theorem zv53 : ∀ w, (zeroValue 53).run Tryz.prog w = .ok (.agg #[.int .i64 0, .int .i64 0, .int .i64 0, .string ⟨#[]⟩, .slice none 0 0]) w := fun w => by kernel_rfl
end Fu
theorem loaded_c {w0 : World} {base : Nat} {bq : Nat} {al : Option Addr} {cl : Nat} {uv : Value} {l : List Nd} (i : Nat) (hi : i ≤ l.length) {x : Nd} {cs : List Value} (hr : ∀ k ∈ x.kids, 0 ≤ k ∧ k < (i : Int))  (hq : Cq w0 base bq al cl uv l ndA) (hx : ndA (Lies w0 base) cs x) : FnC Tryz.prog 118 #[.pointer (some ⟨bq, 0, none⟩), .agg cs.toArray] (WA w0 base []) (fun _ : Unit => .bool (loadedB l x)) (fun _ => WA w0 base []) := by
  obtain ⟨vk, rfl, hks, hin⟩ := hx
  obtain ⟨ak, ck, rfl, ⟨hkn, hkc⟩, hka⟩ := hks.sl
  refine FnC.of_body (fn := Tryz.f118) [(0, _), (1, _)] Tryz.func118 rfl Tryz.ntmps118 rfl ⟨rfl, rfl, trivial⟩ ?_
  refine CX.seq <| CX.region <| LX.box rfl rfl rfl rfl rfl ?_
  intro bx0
  refine LX.pure (Y.assign rfl) rfl rfl rfl <| LX.sub (l' := [(0, _), (3, _), (4, _)]) ⟨rfl, rfl, rfl, trivial⟩ <| LX.next <| PX.thenN <| CX.seq <| CX.region <| LX.pure (Y.fieldAddr0 Ft.fo53_0 rfl) rfl rfl rfl <| LX.pure (Y.ldB 0 Ft.one3 rfl rfl rfl) rfl rfl rfl <| LX.pure (Y.eqI rfl rfl) rfl rfl rfl <| LX.pure (Y.move rfl) rfl rfl rfl <| LX.sub (l' := [(0, _), (3, _), (4, _), (8, _)]) ⟨rfl, rfl, rfl, rfl, trivial⟩ ?_
  apply LX.joinAnd 5 13 8 rfl
  · intro hb1
    refine LX.gT rfl rfl rfl hb1 (Y.fieldAddr0 Fu.fo53_4 rfl) rfl rfl <| LX.gT rfl rfl rfl hb1 (Y.ldB 0 Fu.one51 rfl rfl rfl) rfl rfl <| LX.gT rfl rfl rfl hb1 (Y.lenSl rfl Ft.un51 rfl) rfl rfl <| LX.gT rfl rfl rfl hb1 (Y.eqN rfl rfl) rfl rfl <| LX.pure (Y.pickT rfl hb1 rfl) rfl rfl rfl ?_
    exact LX.left ⟨rfl, rfl, rfl, rfl, rfl, trivial⟩
  · intro hb1
    refine LX.gF rfl rfl rfl hb1 rfl rfl <| LX.gF rfl rfl rfl hb1 rfl rfl <| LX.gF rfl rfl rfl hb1 rfl rfl <| LX.gF rfl rfl rfl hb1 rfl rfl <| LX.pure (Y.pickF rfl hb1 rfl) rfl rfl rfl ?_
    exact LX.left ⟨rfl, rfl, rfl, rfl, rfl, trivial⟩
  refine LX.pure (Y.move rfl) rfl rfl rfl <| LX.sub (l' := [(0, _), (3, _), (4, _), (14, _)]) ⟨rfl, rfl, rfl, rfl, trivial⟩ ?_
  apply LX.joinAnd 7 21 14 rfl
  · intro hb2
    have hb2p := hb2
    try simp at hb2p
    refine LX.gT rfl rfl rfl hb2 (Y.move rfl) rfl rfl <| LX.gT rfl rfl rfl hb2 (Y.fieldAddr0 Fu.fo53_4 rfl) rfl rfl <| LX.gT rfl rfl rfl hb2 (Y.ldB 0 Fu.one51 rfl rfl rfl) rfl rfl ?_
    obtain ⟨a0, hav0, hL0, _⟩ := hka.int_at (j := 0) (by omega)
    have hr0 := hr _ (getD_mem (j := 0) (by omega))
    refine LX.gT rfl rfl rfl hb2 (Y.idxZ Ft.un51 Ft.sz3 rfl rfl hav0 (j := 0) rfl (by omega)) rfl rfl <| LX.gT rfl rfl rfl hb2 (Y.ldO1 (v := .int .i64 (x.kids.getD 0 0)) Ft.one3 rfl hL0) rfl rfl <| LX.callQT rfl rfl rfl hb2 (op_q _ _ (⟨hr0.1, by omega⟩) (fun w hw => hq.push hw)) Fu.en120 rfl rfl rfl rfl <| LX.pure (Y.pickT rfl hb2 rfl) rfl rfl rfl ?_
    exact LX.left ⟨rfl, rfl, rfl, rfl, rfl, trivial⟩
  · intro hb2
    refine LX.gF rfl rfl rfl hb2 rfl rfl <| LX.gF rfl rfl rfl hb2 rfl rfl <| LX.gF rfl rfl rfl hb2 rfl rfl <| LX.gF rfl rfl rfl hb2 rfl rfl <| LX.gF rfl rfl rfl hb2 rfl rfl <| LX.gF rfl rfl rfl hb2 rfl rfl <| LX.pure (Y.pickF rfl hb2 rfl) rfl rfl rfl ?_
    exact LX.left ⟨rfl, rfl, rfl, rfl, rfl, trivial⟩
  refine LX.pure (Y.assign rfl) rfl rfl rfl <| LX.sub (l' := [(4, _)]) ⟨rfl, trivial⟩ <| LX.next <| PX.thenN <| CX.ret <| PX.ret1 (by simp) Tryz.results118 rfl ?_
  exact fun w hw => ⟨(), rfl, hw.drop (List.sublist_cons_self _ _)⟩
theorem loaded_q {W : World → Prop} [Stab W] {bq : Nat} {al : Option Addr} {cl : Nat} {uv : Value} {l : List Nd} (i : Nat) (hi : i ≤ l.length) {x : Nd} {cs : List Value} (hr : ∀ k ∈ x.kids, 0 ≤ k ∧ k < (i : Int))  (hq : ∀ w, W w → Cq w w.heap.size bq al cl uv l ndA) (hx : ∀ w, W w → ndA (Lies w w.heap.size) cs x) : FnQ Tryz.prog 118 #[.pointer (some ⟨bq, 0, none⟩), .agg cs.toArray] W (.bool (loadedB l x)) := FnC.quiet fun w hw => loaded_c i hi hr (hq w hw) (hx w hw)
theorem target_s {w0 : World} {base : Nat} {bq : Nat} {al : Option Addr} {cl : Nat} {uv : Value} {l : List Nd} (n i : Nat) (hA : Ahead l i) (ih : ∀ its (kz : Int), 0 ≤ kz → kz < i → kz < n → FnQ Tryz.prog 117 #[.pointer (some ⟨bq, 0, none⟩), .int .i64 kz] (WA w0 base its) (.bool (target l n kz))) (kz : Int) (h0 : 0 ≤ kz ∧ kz < l.length) (hn : kz < i ∧ kz < (n : Int) + 1) (hq : Cq w0 base bq al cl uv l ndA) : FnC Tryz.prog 117 #[.pointer (some ⟨bq, 0, none⟩), .int .i64 kz] (WA w0 base []) (fun _ : Unit => .bool (target l (n + 1) kz)) (fun _ => WA w0 base []) := by
  obtain ⟨k, rfl⟩ : ∃ k : Nat, kz = (k : Int) := ⟨kz.toNat, by omega⟩
  have hkl : k < l.length := by omega
  obtain ⟨x, hx⟩ : ∃ x, l[k]? = some x := ⟨_, List.getElem?_eq_getElem hkl⟩
  obtain ⟨a, cs, hav, hcl, hL, vk, rfl, hks, hin⟩ := hq.nodes k x hx
  obtain ⟨ak, ck, rfl, ⟨hkn, hkc⟩, hka⟩ := hks.sl
  have hAk := hA k x (by omega) hx
  refine FnC.of_body (fn := Tryz.f117) [(0, _), (1, _)] Tryz.func117 rfl Tryz.ntmps117 rfl ⟨rfl, rfl, trivial⟩ ?_
  refine CX.seq <| CX.region <| LX.pure (Y.assign rfl) rfl rfl rfl <| LX.sub (l' := [(0, _), (1, _), (4, _)]) ⟨rfl, rfl, rfl, trivial⟩ <| LX.next <| PX.thenN <| CX.seq <| CX.region <| LX.pure (Y.move rfl) rfl rfl rfl <| LX.pure (Y.nilCheck rfl) rfl rfl rfl <| LX.pure (Y.fieldAddr0 Ft.fo88_0 rfl) rfl rfl rfl <| LX.pure (Y.ldB0 Ft.one22 rfl hq.blk rfl) rfl rfl rfl <| LX.pure (Y.move rfl) rfl rfl rfl <| LX.pure (Y.idxZ Ft.un22 Ft.sz53 rfl rfl hav (j := k) rfl hkl) rfl rfl rfl <| LX.pure (Y.ldAO (cs := [.int .i64 x.op, .int .i64 x.n, .int .i64 x.pos, str x.s, .slice ak x.kids.length ck]) Ft.ag53 rfl hL rfl) rfl rfl rfl <| LX.alloc rfl Fu.zv53 rfl rfl rfl ?_
  intro bt
  refine LX.storeA 0 Ft.ag53 rfl rfl rfl rfl rfl rfl rfl rfl rfl <| LX.sub (l' := [(0, _), (4, _), (5, _)]) ⟨rfl, rfl, rfl, trivial⟩ <| LX.next <| PX.thenN <| CX.seq <| CX.seq <| CX.region <| LX.pure (Y.fieldAddr0 Ft.fo53_0 rfl) rfl rfl rfl <| LX.pure (Y.ldB 0 Ft.one3 rfl rfl rfl) rfl rfl rfl <| LX.pure (Y.neI rfl rfl) rfl rfl rfl <| LX.sub (l' := [(0, _), (4, _), (5, _), (17, _)]) ⟨rfl, rfl, rfl, rfl, trivial⟩ <| LX.next <| PX.thenN ?_
  refine CX.cond rfl (fun hb1 => ?_) (fun hb1 => ?_)
  · try simp at hb1
    refine CX.seq <| CX.region <| LX.pure (Y.fieldAddr0 Ft.fo53_0 rfl) rfl rfl rfl <| LX.pure (Y.ldB 0 Ft.one3 rfl rfl rfl) rfl rfl rfl <| LX.pure (Y.eqI rfl rfl) rfl rfl rfl <| LX.pure (Y.move rfl) rfl rfl rfl <| LX.sub (l' := [(0, _), (4, _), (5, _), (21, _)]) ⟨rfl, rfl, rfl, rfl, trivial⟩ ?_
    apply LX.joinOr 4 25 21 rfl
    · intro hb2
      refine LX.gF rfl rfl rfl hb2 rfl rfl <| LX.gF rfl rfl rfl hb2 rfl rfl <| LX.gF rfl rfl rfl hb2 rfl rfl <| LX.pure (Y.pickT rfl hb2 rfl) rfl rfl rfl ?_
      exact LX.left ⟨rfl, rfl, rfl, rfl, rfl, trivial⟩
    · intro hb2
      refine LX.gT rfl rfl rfl hb2 (Y.fieldAddr0 Ft.fo53_0 rfl) rfl rfl <| LX.gT rfl rfl rfl hb2 (Y.ldB 0 Ft.one3 rfl rfl rfl) rfl rfl <| LX.gT rfl rfl rfl hb2 (Y.eqI rfl rfl) rfl rfl <| LX.pure (Y.pickF rfl hb2 rfl) rfl rfl rfl ?_
      exact LX.left ⟨rfl, rfl, rfl, rfl, rfl, trivial⟩
    refine LX.pure (Y.assign rfl) rfl rfl rfl <| LX.sub (l' := [(0, _), (4, _), (5, _)]) ⟨rfl, rfl, rfl, trivial⟩ <| LX.next <| PX.thenN <| CX.ret <| PX.thenR <| PX.ret1 (by simp) Tryz.results117 rfl ?_
    exact fun w hw => ⟨(), by rw [show target l (n + 1) (k : Int) = _ from target_1 hx, if_pos hb1], hw.drop (List.sublist_cons_self _ _)⟩
  try simp at hb1
  refine CX.skip <| PX.thenN <| CX.seq <| CX.seq <| CX.region <| LX.pure (Y.fieldAddr0 Fu.fo53_4 rfl) rfl rfl rfl <| LX.pure (Y.ldB 0 Fu.one51 rfl rfl rfl) rfl rfl rfl <| LX.pure (Y.lenSl rfl Ft.un51 rfl) rfl rfl rfl <| LX.pure (Y.move rfl) rfl rfl rfl <| LX.sub (l' := [(0, _), (4, _), (5, _), (27, _), (28, _), (29, _)]) ⟨rfl, rfl, rfl, rfl, rfl, rfl, trivial⟩ <| LX.next <| PX.thenN <| CX.block <| CX.loop (fun j : Nat => [(0, .pointer (some ⟨bq, 0, none⟩)), (5, .pointer (some ⟨bt, 0, none⟩)), (27, .slice ak x.kids.length ck), (28, .int .i64 (x.kids.length : Int)), (29, .int .i64 (j : Int))]) (fun (j : Nat) w => (j ≤ x.kids.length ∧ (x.kids.drop j).all (target l n) = x.kids.all (target l n)) ∧ WA w0 base [blk bt [.int .i64 x.op, .int .i64 x.n, .int .i64 x.pos, str x.s, .slice ak x.kids.length ck] 53] w) (fun j => x.kids.length - j) 0 ⟨rfl, rfl, rfl, rfl, rfl, trivial⟩ (fun w hw => ⟨⟨Nat.zero_le _, rfl⟩, hw⟩) ?_
  intro j
  refine CX.have fun ⟨hj0, hall⟩ => ?_
  try dsimp only at hj0 hall ⊢
  refine CX.seq <| CX.region <| LX.pure (Y.ltN rfl rfl) rfl rfl rfl <| LX.sub (l' := [(0, _), (5, _), (27, _), (28, _), (29, _), (30, _)]) ⟨rfl, rfl, rfl, rfl, rfl, rfl, trivial⟩ <| LX.next <| PX.thenN <| CX.seq ?_
  refine CX.cond rfl (fun hb3 => ?_) (fun hb3 => ?_)
  · try simp at hb3
    have hj : j < x.kids.length := by omega
    obtain ⟨a0, hav0, hL0, hin0⟩ := hka.int_at hj
    have hrj := hAk _ (getD_mem hj)
    refine CX.skip <| PX.thenN <| CX.seq <| CX.block <| CX.seq <| CX.region <| LX.pure (Y.idxZ Ft.un51 Ft.sz3 rfl rfl hav0 (j := j) rfl hj) rfl rfl rfl <| LX.pure (Y.ldO1 Ft.one3 rfl hL0) rfl rfl rfl <| LX.pure (Y.assign rfl) rfl rfl rfl <| LX.sub (l' := [(0, _), (5, _), (7, _), (27, _), (28, _), (29, _)]) ⟨rfl, rfl, rfl, rfl, rfl, rfl, trivial⟩ <| LX.next <| PX.thenN <| CX.seq <| CX.region <| LX.pure (Y.move rfl) rfl rfl rfl <| LX.pure (Y.move rfl) rfl rfl rfl <| LX.callQ (ih _ _ (by omega) (by omega) (by omega)) Fu.en117 rfl rfl rfl rfl rfl <| LX.pure (Y.not rfl) rfl rfl rfl <| LX.sub (l' := [(0, _), (5, _), (27, _), (28, _), (29, _), (36, _)]) ⟨rfl, rfl, rfl, rfl, rfl, rfl, trivial⟩ <| LX.next <| PX.thenN ?_
    refine CX.cond rfl (fun hb4 => ?_) (fun hb4 => ?_)
    · try simp at hb4
      refine CX.seq <| CX.region <| LX.pure (Y.assign rfl) rfl rfl rfl <| LX.sub (l' := [(0, _), (4, _), (5, _), (27, _), (28, _), (29, _)]) ⟨rfl, rfl, rfl, rfl, rfl, rfl, trivial⟩ <| LX.next <| PX.thenN <| CX.ret <| PX.blockR <| PX.thenR <| PX.thenR <| PX.blockR <| PX.thenR <| PX.ret1 (by simp) Tryz.results117 rfl ?_
      exact fun w hw => ⟨(), by rw [show target l (n + 1) (k : Int) = _ from target_1 hx, if_neg (by omega), ← hall, all_drop hj, show target l n (x.kids.getD j 0) = false by assumption]; rfl, hw.drop (List.sublist_cons_self _ _)⟩
    try simp at hb4
    refine CX.skip <| PX.blockN <| PX.thenN <| CX.region <| LX.pure (Y.addN rfl rfl (by (simp only []; omega))) rfl rfl rfl <| LX.pure (Y.move rfl) rfl rfl rfl <| LX.sub (l' := [(0, _), (5, _), (27, _), (28, _), (29, _)]) ⟨rfl, rfl, rfl, rfl, rfl, trivial⟩ <| LX.next ?_
    exact PX.again (μ := fun j => x.kids.length - j) (i := j) (j + 1) (by show x.kids.length - (j + 1) < x.kids.length - j; omega) ⟨rfl, rfl, rfl, rfl, rfl, trivial⟩ (fun w hw => ⟨⟨by omega, by rw [← hall, all_drop hj, show target l n (x.kids.getD j 0) = true by assumption]; rfl⟩, hw⟩)
  try simp at hb3
  have hje : j = x.kids.length := by omega
  refine CX.exit <| PX.thenE <| PX.thenE <| PX.blockE <| PX.thenN <| CX.seq <| CX.region <| LX.pure (Y.fieldAddr0 Fu.fo53_4 rfl) rfl rfl rfl <| LX.pure (Y.ldB 0 Fu.one51 rfl rfl rfl) rfl rfl rfl <| LX.pure (Y.lenSl rfl Ft.un51 rfl) rfl rfl rfl <| LX.pure (Y.gtN rfl rfl) rfl rfl rfl <| LX.pure (Y.assign rfl) rfl rfl rfl <| LX.sub (l' := [(4, _)]) ⟨rfl, trivial⟩ <| LX.next <| PX.thenN <| CX.ret <| PX.ret1 (by simp) Tryz.results117 rfl ?_
  exact fun w hw => ⟨(), by rw [show target l (n + 1) (k : Int) = _ from target_1 hx, if_neg (by omega), ← hall, drop_end hje]; simp, hw.drop (List.sublist_cons_self _ _)⟩
theorem target_q {bq : Nat} {al : Option Addr} {cl : Nat} {uv : Value} {l : List Nd} (i : Nat) (hA : Ahead l i) (hi : i ≤ l.length) : ∀ (n : Nat) {W : World → Prop} [Stab W] (kz : Int) (_h0 : 0 ≤ kz) (_h1 : kz < i) (_h2 : kz < n) (_hq : ∀ w, W w → Cq w w.heap.size bq al cl uv l ndA), FnQ Tryz.prog 117 #[.pointer (some ⟨bq, 0, none⟩), .int .i64 kz] W (.bool (target l n kz))
  | 0, _, _, kz, h0, _, h2, _ => absurd h2 (by omega)
  | n + 1, W, _, kz, h0, h1, h2, hq => FnC.quiet fun w hw => target_s n i hA (fun its kj hj0 hlt hjn => target_q i hA hi n kj hj0 hlt hjn (fun w' hw' => (hq w hw).push hw')) kz ⟨h0, by omega⟩ ⟨h1, by omega⟩ (hq w hw)
end Go.Proofs.YtickdimknfeddaaGreatDoor

namespace Go.Proofs.YtickdimknfeddaaGreatDoor
open Go.SX Go.RowKit Go.Tr
namespace Fv

end Fv
theorem call_c {w0 : World} {base : Nat} {bq : Nat} {al : Option Addr} {cl : Nat} {uv : Value} {l : List Nd} (i : Nat) (hi : i ≤ l.length) {ak : Option Addr} (ck : Nat) {ks : List Int} (hkn : ks.length ≤ 9223372036854775807) (hr : ∀ k ∈ ks, 0 ≤ k ∧ k < (i : Int))  (hq : Cq w0 base bq al cl uv l ndA) (hk : SlAt 1 intA (Lies w0 base) ak ks) : FnC Tryz.prog 113 #[.pointer (some ⟨bq, 0, none⟩), .slice ak ks.length ck] (WA w0 base []) (fun _ : Unit => .bool (callGo l ks false true)) (fun _ => WA w0 base []) := by
  refine FnC.of_body (fn := Tryz.f113) [(0, _), (1, _)] Tryz.func113 rfl Tryz.ntmps113 rfl ⟨rfl, rfl, trivial⟩ ?_
  refine CX.seq <| CX.region <| LX.pure (Y.assign rfl) rfl rfl rfl <| LX.sub (l' := [(0, _), (1, _), (4, _)]) ⟨rfl, rfl, rfl, trivial⟩ <| LX.next <| PX.thenN <| CX.seq <| CX.region <| LX.pure (Y.assign rfl) rfl rfl rfl <| LX.sub (l' := [(0, _), (1, _), (4, _), (5, _)]) ⟨rfl, rfl, rfl, rfl, trivial⟩ <| LX.next <| PX.thenN <| CX.seq <| CX.seq <| CX.region <| LX.pure (Y.move rfl) rfl rfl rfl <| LX.pure (Y.lenSl rfl Ft.un51 rfl) rfl rfl rfl <| LX.pure (Y.move rfl) rfl rfl rfl <| LX.sub (l' := [(0, _), (4, _), (5, _), (8, _), (9, _), (10, _)]) ⟨rfl, rfl, rfl, rfl, rfl, rfl, trivial⟩ <| LX.next <| PX.thenN <| CX.block <| CX.loop (fun s : Nat × Bool => [(0, .pointer (some ⟨bq, 0, none⟩)), (5, .bool s.2), (8, .slice ak ks.length ck), (9, .int .i64 (ks.length : Int)), (10, .int .i64 (s.1 : Int))]) (fun (s : Nat × Bool) w => (s.1 ≤ ks.length ∧ callGo l (ks.drop s.1) s.2 (decide (s.1 = 0)) = callGo l ks false true) ∧ WA w0 base [] w) (fun s => ks.length - s.1) (0, false) ⟨rfl, rfl, rfl, rfl, rfl, trivial⟩ (fun w hw => ⟨⟨Nat.zero_le _, rfl⟩, hw⟩) ?_
  rintro ⟨j, named⟩
  refine CX.have fun ⟨hj0, hgo⟩ => ?_
  try dsimp only at hj0 hgo ⊢
  refine CX.seq <| CX.region <| LX.pure (Y.ltN rfl rfl) rfl rfl rfl <| LX.sub (l' := [(0, _), (5, _), (8, _), (9, _), (10, _), (11, _)]) ⟨rfl, rfl, rfl, rfl, rfl, rfl, trivial⟩ <| LX.next <| PX.thenN <| CX.seq ?_
  refine CX.cond rfl (fun hb1 => ?_) (fun hb1 => ?_)
  · try simp at hb1
    have hj : j < ks.length := by omega
    obtain ⟨a0, hav0, hL0, hin0⟩ := hk.int_at hj
    have hrj := hr _ (getD_mem hj)
    obtain ⟨k, hkz⟩ : ∃ k : Nat, ks.getD j 0 = (k : Int) := ⟨(ks.getD j 0).toNat, by omega⟩
    have hkl : k < l.length := by omega
    obtain ⟨x, hx⟩ : ∃ x, l[k]? = some x := ⟨_, List.getElem?_eq_getElem hkl⟩
    obtain ⟨a, cs, hav, hcl, hL, hnx⟩ := hq.nodes k x hx
    have hnd : nd l (ks.getD j 0) = x := by rw [hkz]; exact nd_at hx
    refine CX.skip <| PX.thenN <| CX.seq <| CX.block <| CX.seq <| CX.region <| LX.pure (Y.move rfl) rfl rfl rfl <| LX.pure (Y.idxZ Ft.un51 Ft.sz3 rfl rfl hav0 (j := j) rfl hj) rfl rfl rfl <| LX.pure (Y.ldO1 Ft.one3 rfl hL0) rfl rfl rfl <| LX.pure (Y.assign rfl) rfl rfl rfl <| LX.pure (Y.assign rfl) rfl rfl rfl <| LX.sub (l' := [(0, _), (5, _), (6, _), (7, _), (8, _), (9, _), (10, _)]) ⟨rfl, rfl, rfl, rfl, rfl, rfl, rfl, trivial⟩ <| LX.next <| PX.thenN <| CX.seq <| CX.seq <| CX.region <| LX.pure (Y.move rfl) rfl rfl rfl <| LX.pure (Y.move rfl) rfl rfl rfl <| LX.callQ (op_q _ _ (⟨hrj.1, by omega⟩) (fun w hw => hq.push hw)) Fu.en120 rfl rfl rfl rfl rfl <| LX.sub (l' := [(0, _), (5, _), (6, _), (7, _), (8, _), (9, _), (10, _), (17, _)]) ⟨rfl, rfl, rfl, rfl, rfl, rfl, rfl, rfl, trivial⟩ <| LX.next <| PX.thenN ?_
    refine CX.cond rfl (fun hb2 => ?_) (fun hb2 => ?_)
    · try simp at hb2
      have hop : (nd l (ks.getD j 0)).op = 11 := by assumption
      refine CX.seq <| CX.region <| LX.pure (Y.assign rfl) rfl rfl rfl <| LX.sub (l' := [(0, _), (5, _), (6, _), (7, _), (8, _), (9, _), (10, _)]) ⟨rfl, rfl, rfl, rfl, rfl, rfl, rfl, trivial⟩ <| LX.next <| PX.thenN <| CX.seq <| CX.seq <| CX.region <| LX.pure (Y.move rfl) rfl rfl rfl <| LX.pure (Y.eqN rfl rfl) rfl rfl rfl <| LX.sub (l' := [(0, _), (5, _), (7, _), (8, _), (9, _), (10, _), (19, _)]) ⟨rfl, rfl, rfl, rfl, rfl, rfl, rfl, trivial⟩ <| LX.next <| PX.thenN ?_
      refine CX.cond rfl (fun hb3 => ?_) (fun hb3 => ?_)
      · try simp at hb3
        refine CX.seq <| CX.region <| LX.pure (Y.assign rfl) rfl rfl rfl <| LX.sub (l' := [(0, _), (4, _), (5, _), (7, _), (8, _), (9, _), (10, _)]) ⟨rfl, rfl, rfl, rfl, rfl, rfl, rfl, trivial⟩ <| LX.next <| PX.thenN <| CX.ret <| PX.thenR <| PX.thenR <| PX.blockR <| PX.thenR <| PX.thenR <| PX.blockR <| PX.thenR <| PX.ret1 (by simp) Tryz.results113 rfl ?_
        exact fun w hw => ⟨(), by rw [← hgo, drop_getD hj, callGo, if_pos hop, if_pos (by simp; omega)], hw⟩
      try simp at hb3
      refine CX.skip <| PX.thenN <| CX.exit <| PX.thenE <| PX.blockE <| PX.thenN <| CX.region <| LX.pure (Y.addN rfl rfl (by (simp only []; omega))) rfl rfl rfl <| LX.pure (Y.move rfl) rfl rfl rfl <| LX.sub (l' := [(0, _), (5, _), (8, _), (9, _), (10, _)]) ⟨rfl, rfl, rfl, rfl, rfl, trivial⟩ <| LX.next ?_
      exact PX.again (μ := fun s => ks.length - s.1) (i := (j, named)) (j + 1, true) (by show ks.length - (j + 1) < ks.length - j; omega) ⟨rfl, rfl, rfl, rfl, rfl, trivial⟩ (fun w hw => ⟨⟨by show j + 1 ≤ ks.length; omega, by show callGo l (ks.drop (j + 1)) true (decide (j + 1 = 0)) = _; rw [decide_eq_false (by omega), ← hgo, drop_getD hj, callGo, if_pos hop, if_neg (by simp; omega)]⟩, hw⟩)
    try simp at hb2
    have hop : ¬(nd l (ks.getD j 0)).op = 11 := by assumption
    refine CX.skip <| PX.thenN <| CX.seq <| CX.region <| LX.pure (Y.move rfl) rfl rfl rfl <| LX.pure (Y.move rfl) rfl rfl rfl <| LX.sub (l' := [(0, _), (5, _), (7, _), (8, _), (9, _), (10, _), (21, _)]) ⟨rfl, rfl, rfl, rfl, rfl, rfl, rfl, trivial⟩ ?_
    apply LX.joinOr 11 32 21 rfl
    · intro hb4
      refine LX.gF rfl rfl rfl hb4 rfl rfl <| LX.gF rfl rfl rfl hb4 rfl rfl <| LX.gF rfl rfl rfl hb4 rfl rfl <| LX.gF rfl rfl rfl hb4 rfl rfl <| LX.gF rfl rfl rfl hb4 rfl rfl <| LX.gF rfl rfl rfl hb4 rfl rfl <| LX.gF rfl rfl rfl hb4 rfl rfl <| LX.gF rfl rfl rfl hb4 rfl rfl <| LX.gF rfl rfl rfl hb4 rfl rfl <| LX.gF rfl rfl rfl hb4 rfl rfl <| LX.pure (Y.pickT rfl hb4 rfl) rfl rfl rfl ?_
      exact LX.left ⟨rfl, rfl, rfl, rfl, rfl, rfl, rfl, rfl, trivial⟩
    · intro hb4
      refine LX.gT rfl rfl rfl hb4 (Y.move rfl) rfl rfl <| LX.gT rfl rfl rfl hb4 (Y.nilCheck rfl) rfl rfl <| LX.gT rfl rfl rfl hb4 (Y.fieldAddr0 Ft.fo88_0 rfl) rfl rfl <| LX.gT rfl rfl rfl hb4 (Y.ldB0 Ft.one22 rfl hq.blk rfl) rfl rfl <| LX.gT rfl rfl rfl hb4 (Y.move rfl) rfl rfl <| LX.gT rfl rfl rfl hb4 (Y.idxZ Ft.un22 Ft.sz53 rfl rfl hav (j := k) hkz hkl) rfl rfl <| LX.gT rfl rfl rfl hb4 (Y.fieldA Ft.fa53_0 rfl) rfl rfl <| LX.gT rfl rfl rfl hb4 (Y.ldFO (v := .int .i64 x.op) Ft.one3 rfl hL (by obtain ⟨_, rfl, _⟩ := hnx; rfl)) rfl rfl <| LX.callQT rfl rfl rfl hb4 (expr_q _) Ft.en116 rfl rfl rfl rfl <| LX.gT rfl rfl rfl hb4 (Y.not rfl) rfl rfl <| LX.pure (Y.pickF rfl hb4 rfl) rfl rfl rfl ?_
      exact LX.left ⟨rfl, rfl, rfl, rfl, rfl, rfl, rfl, rfl, trivial⟩
    refine LX.sub (l' := [(0, _), (5, _), (8, _), (9, _), (10, _), (32, _)]) ⟨rfl, rfl, rfl, rfl, rfl, rfl, trivial⟩ <| LX.next <| PX.thenN ?_
    refine CX.cond rfl (fun hb5 => ?_) (fun hb5 => ?_)
    · try simp at hb5
      have hne : (named || !exprB (nd l (ks.getD j 0)).op) = true := by rw [hnd]; simpa using hb5
      refine CX.seq <| CX.region <| LX.pure (Y.assign rfl) rfl rfl rfl <| LX.sub (l' := [(0, _), (4, _), (5, _), (8, _), (9, _), (10, _)]) ⟨rfl, rfl, rfl, rfl, rfl, rfl, trivial⟩ <| LX.next <| PX.thenN <| CX.ret <| PX.blockR <| PX.thenR <| PX.thenR <| PX.blockR <| PX.thenR <| PX.ret1 (by simp) Tryz.results113 rfl ?_
      exact fun w hw => ⟨(), by rw [← hgo, drop_getD hj, callGo, if_neg hop, if_pos hne], hw⟩
    try simp at hb5
    have hne : ¬(named || !exprB (nd l (ks.getD j 0)).op) = true := by rw [hnd]; simpa using hb5
    refine CX.skip <| PX.blockN <| PX.thenN <| CX.region <| LX.pure (Y.addN rfl rfl (by (simp only []; omega))) rfl rfl rfl <| LX.pure (Y.move rfl) rfl rfl rfl <| LX.sub (l' := [(0, _), (5, _), (8, _), (9, _), (10, _)]) ⟨rfl, rfl, rfl, rfl, rfl, trivial⟩ <| LX.next ?_
    exact PX.again (μ := fun s => ks.length - s.1) (i := (j, named)) (j + 1, named) (by show ks.length - (j + 1) < ks.length - j; omega) ⟨rfl, rfl, rfl, rfl, rfl, trivial⟩ (fun w hw => ⟨⟨by show j + 1 ≤ ks.length; omega, by show callGo l (ks.drop (j + 1)) named (decide (j + 1 = 0)) = _; rw [decide_eq_false (by omega), ← hgo, drop_getD hj, callGo, if_neg hop, if_neg hne]⟩, hw⟩)
  try simp at hb1
  have hje : j = ks.length := by omega
  refine CX.exit <| PX.thenE <| PX.thenE <| PX.blockE <| PX.thenN <| CX.seq <| CX.region <| LX.pure (Y.assign rfl) rfl rfl rfl <| LX.sub (l' := [(4, _)]) ⟨rfl, trivial⟩ <| LX.next <| PX.thenN <| CX.ret <| PX.ret1 (by simp) Tryz.results113 rfl ?_
  exact fun w hw => ⟨(), by rw [← hgo, drop_end hje]; rfl, hw⟩
theorem call_q {W : World → Prop} [Stab W] {bq : Nat} {al : Option Addr} {cl : Nat} {uv : Value} {l : List Nd} (i : Nat) (hi : i ≤ l.length) {ak : Option Addr} (ck : Nat) {ks : List Int} (hkn : ks.length ≤ 9223372036854775807) (hr : ∀ k ∈ ks, 0 ≤ k ∧ k < (i : Int))  (hq : ∀ w, W w → Cq w w.heap.size bq al cl uv l ndA) (hk : ∀ w, W w → SlAt 1 intA (Lies w w.heap.size) ak ks) : FnQ Tryz.prog 113 #[.pointer (some ⟨bq, 0, none⟩), .slice ak ks.length ck] W (.bool (callGo l ks false true)) := FnC.quiet fun w hw => call_c i hi ck hkn hr (hq w hw) (hk w hw)
end Go.Proofs.YtickdimknfeddaaGreatDoor

namespace Go.Proofs.YtickdimknfeddaaGreatDoor
open Go.SX Go.RowKit Go.Tr
namespace Fw
theorem en112 : Enters Tryz.prog 112 := Enters.of Tryz.func112 (by kernel_rfl) (by kernel_rfl)
theorem en113 : Enters Tryz.prog 113 := Enters.of Tryz.func113 (by kernel_rfl) (by kernel_rfl)
theorem en115 : Enters Tryz.prog 115 := Enters.of Tryz.func115 (by kernel_rfl) (by kernel_rfl)
theorem en118 : Enters Tryz.prog 118 := Enters.of Tryz.func118 (by kernel_rfl) (by kernel_rfl)
theorem en119 : Enters Tryz.prog 119 := Enters.of Tryz.func119 (by kernel_rfl) (by kernel_rfl)
theorem en121 : Enters Tryz.prog 121 := Enters.of Tryz.func121 (by kernel_rfl) (by kernel_rfl)
theorem en123 : Enters Tryz.prog 123 := Enters.of Tryz.func123 (by kernel_rfl) (by kernel_rfl)
theorem en142 : Enters Tryz.prog 142 := Enters.of Tryz.func142 (by kernel_rfl) (by kernel_rfl)
end Fw
theorem more_c {w0 : World} {base : Nat} {bq : Nat} {al : Option Addr} {cl : Nat} {uv : Value} {l : List Nd} (i : Nat) (hi : i ≤ l.length) (hA : Ahead l i) (n : Nat) (hni : i ≤ n) {ak : Option Addr} (ck : Nat) {ks : List Int} (hkn : ks.length ≤ 9223372036854775807) (hr : ∀ k ∈ ks, 0 ≤ k ∧ k < (i : Int)) (hkc : ks.length ≤ ck) (op : Int)  (hq : Cq w0 base bq al cl uv l ndA) (hk : SlAt 1 intA (Lies w0 base) ak ks) : FnC Tryz.prog 123 #[.pointer (some ⟨bq, 0, none⟩), .int .i64 op, .slice ak ks.length ck] (WA w0 base []) (fun _ : Unit => .bool (more l n op ks)) (fun _ => WA w0 base []) := by
  refine FnC.of_body (fn := Tryz.f123) [(0, _), (1, _), (2, _)] Tryz.func123 rfl Tryz.ntmps123 rfl ⟨rfl, rfl, rfl, trivial⟩ ?_
  refine CX.seq <| CX.region <| LX.pure (Y.assign rfl) rfl rfl rfl <| LX.sub (l' := [(0, _), (1, _), (2, _), (6, _)]) ⟨rfl, rfl, rfl, rfl, trivial⟩ <| LX.next <| PX.thenN <| CX.seq <| CX.seq <| CX.region <| LX.pure (Y.move rfl) rfl rfl rfl <| LX.sub (l' := [(0, _), (1, _), (2, _), (6, _), (8, _)]) ⟨rfl, rfl, rfl, rfl, rfl, trivial⟩ <| LX.next <| PX.thenN <| CX.block <| CX.seq <| CX.region <| LX.pure (Y.eqI rfl rfl) rfl rfl rfl <| LX.pure (Y.assign rfl) rfl rfl rfl <| LX.sub (l' := [(0, _), (1, _), (2, _), (6, _), (8, _), (9, _)]) ⟨rfl, rfl, rfl, rfl, rfl, rfl, trivial⟩ <| LX.next <| PX.thenN ?_
  refine CX.cond rfl (fun hb1 => ?_) (fun hb1 => ?_)
  · try simp at hb1
    refine CX.seq <| CX.region <| LX.pure (Y.move rfl) rfl rfl rfl <| LX.pure (Y.lenSl rfl Ft.un51 rfl) rfl rfl rfl <| LX.pure (Y.eqN rfl rfl) rfl rfl rfl <| LX.pure (Y.move rfl) rfl rfl rfl <| LX.sub (l' := [(0, _), (1, _), (2, _), (6, _), (14, _)]) ⟨rfl, rfl, rfl, rfl, rfl, trivial⟩ ?_
    apply LX.joinAnd 6 20 14 rfl
    · intro hb2
      have hb2p := hb2
      try simp at hb2p
      refine LX.gT rfl rfl rfl hb2 (Y.move rfl) rfl rfl <| LX.gT rfl rfl rfl hb2 (Y.move rfl) rfl rfl ?_
      obtain ⟨a0, hav0, hL0, _⟩ := hk.int_at (j := 0) (by omega)
      have hr0 := hr _ (getD_mem (j := 0) (by omega))
      refine LX.gT rfl rfl rfl hb2 (Y.idxZ Ft.un51 Ft.sz3 rfl rfl hav0 (j := 0) rfl (by omega)) rfl rfl <| LX.gT rfl rfl rfl hb2 (Y.ldO1 (v := .int .i64 (ks.getD 0 0)) Ft.one3 rfl hL0) rfl rfl <| LX.callQT rfl rfl rfl hb2 (target_q i hA hi n _ hr0.1 hr0.2 (by omega) (fun w hw => hq.push hw)) Fu.en117 rfl rfl rfl rfl <| LX.pure (Y.pickT rfl hb2 rfl) rfl rfl rfl ?_
      exact LX.left ⟨rfl, rfl, rfl, rfl, rfl, rfl, trivial⟩
    · intro hb2
      refine LX.gF rfl rfl rfl hb2 rfl rfl <| LX.gF rfl rfl rfl hb2 rfl rfl <| LX.gF rfl rfl rfl hb2 rfl rfl <| LX.gF rfl rfl rfl hb2 rfl rfl <| LX.gF rfl rfl rfl hb2 rfl rfl <| LX.pure (Y.pickF rfl hb2 rfl) rfl rfl rfl ?_
      exact LX.left ⟨rfl, rfl, rfl, rfl, rfl, rfl, trivial⟩
    refine LX.pure (Y.move rfl) rfl rfl rfl <| LX.sub (l' := [(0, _), (1, _), (2, _), (6, _), (21, _)]) ⟨rfl, rfl, rfl, rfl, rfl, trivial⟩ ?_
    apply LX.joinAnd 5 26 21 rfl
    · intro hb3
      have hb3p := hb3
      try simp at hb3p
      refine LX.gT rfl rfl rfl hb3 (Y.move rfl) rfl rfl <| LX.gT rfl rfl rfl hb3 (Y.move rfl) rfl rfl <| LX.gT rfl rfl rfl hb3 (Y.cutLoT (b := 1) (m := (ks.drop 1).length) Ft.un51 Ft.sz3 rfl rfl (by omega) (by rw [List.length_drop])) rfl rfl <| LX.callQT rfl rfl rfl hb3 (exprs_q i hi (ck - 1) (by rw [List.length_drop]; omega) (fun q hq2 => hr q (List.mem_of_mem_drop hq2)) _ _ (fun w hw => hq.push hw) (fun w hw => (hk.dropV hkc 1).push hw)) Fw.en112 rfl rfl rfl rfl <| LX.pure (Y.pickT rfl hb3 rfl) rfl rfl rfl ?_
      exact LX.left ⟨rfl, rfl, rfl, rfl, rfl, rfl, trivial⟩
    · intro hb3
      refine LX.gF rfl rfl rfl hb3 rfl rfl <| LX.gF rfl rfl rfl hb3 rfl rfl <| LX.gF rfl rfl rfl hb3 rfl rfl <| LX.gF rfl rfl rfl hb3 rfl rfl <| LX.pure (Y.pickF rfl hb3 rfl) rfl rfl rfl ?_
      exact LX.left ⟨rfl, rfl, rfl, rfl, rfl, rfl, trivial⟩
    refine LX.pure (Y.assign rfl) rfl rfl rfl <| LX.sub (l' := [(0, _), (1, _), (2, _), (6, _)]) ⟨rfl, rfl, rfl, rfl, trivial⟩ <| LX.next <| PX.thenN <| CX.ret <| PX.blockR <| PX.thenR <| PX.ret1 (by simp) Tryz.results123 rfl ?_
    exact fun w hw => ⟨(), congrArg (fun z => Ending.returned (Value.bool z)) (by
      unfold more
      repeat (rw [if_pos (by omega)])
      try rfl), hw⟩
  try simp at hb1
  refine CX.seq <| CX.region <| LX.pure (Y.eqI rfl rfl) rfl rfl rfl <| LX.pure (Y.assign rfl) rfl rfl rfl <| LX.sub (l' := [(0, _), (1, _), (2, _), (6, _), (8, _), (27, _)]) ⟨rfl, rfl, rfl, rfl, rfl, rfl, trivial⟩ <| LX.next <| PX.thenN ?_
  refine CX.cond rfl (fun hb4 => ?_) (fun hb4 => ?_)
  · try simp at hb4
    refine CX.seq <| CX.region <| LX.pure (Y.move rfl) rfl rfl rfl <| LX.pure (Y.lenSl rfl Ft.un51 rfl) rfl rfl rfl <| LX.pure (Y.eqN rfl rfl) rfl rfl rfl <| LX.pure (Y.move rfl) rfl rfl rfl <| LX.sub (l' := [(0, _), (1, _), (2, _), (6, _), (32, _)]) ⟨rfl, rfl, rfl, rfl, rfl, trivial⟩ ?_
    apply LX.joinAnd 13 45 32 rfl
    · intro hb5
      have hb5p := hb5
      try simp at hb5p
      refine LX.gT rfl rfl rfl hb5 (Y.move rfl) rfl rfl <| LX.gT rfl rfl rfl hb5 (Y.move rfl) rfl rfl ?_
      obtain ⟨a0, hav0, hL0, _⟩ := hk.int_at (j := 0) (by omega)
      have hr0 := hr _ (getD_mem (j := 0) (by omega))
      refine LX.gT rfl rfl rfl hb5 (Y.idxZ Ft.un51 Ft.sz3 rfl rfl hav0 (j := 0) rfl (by omega)) rfl rfl <| LX.gT rfl rfl rfl hb5 (Y.ldO1 (v := .int .i64 (ks.getD 0 0)) Ft.one3 rfl hL0) rfl rfl <| LX.callQT rfl rfl rfl hb5 (op_q _ _ ⟨hr0.1, by omega⟩ (fun w hw => hq.push hw)) Fu.en120 rfl rfl rfl rfl <| LX.gT rfl rfl rfl hb5 (Y.move rfl) rfl rfl <| LX.sub (l' := [(0, _), (1, _), (2, _), (6, _), (32, _), (38, _)]) ⟨rfl, rfl, rfl, rfl, rfl, rfl, trivial⟩ ?_
      apply LX.joinOr 6 44 38 rfl
      · intro hb6
        refine LX.gF rfl rfl rfl hb6 rfl rfl <| LX.gF rfl rfl rfl hb6 rfl rfl <| LX.gF rfl rfl rfl hb6 rfl rfl <| LX.gF rfl rfl rfl hb6 rfl rfl <| LX.gF rfl rfl rfl hb6 rfl rfl <| LX.gT rfl rfl rfl hb5 (Y.pickT rfl hb6 rfl) rfl rfl ?_
        exact LX.left ⟨rfl, rfl, rfl, rfl, rfl, rfl, rfl, trivial⟩
      · intro hb6
        have hb6p := hb6
        try simp at hb6p
        refine LX.gT rfl rfl rfl hb6 (Y.move rfl) rfl rfl <| LX.gT rfl rfl rfl hb6 (Y.move rfl) rfl rfl ?_
        obtain ⟨a0, hav0, hL0, _⟩ := hk.int_at (j := 0) (by omega)
        have hr0 := hr _ (getD_mem (j := 0) (by omega))
        refine LX.gT rfl rfl rfl hb6 (Y.idxZ Ft.un51 Ft.sz3 rfl rfl hav0 (j := 0) rfl (by omega)) rfl rfl <| LX.gT rfl rfl rfl hb6 (Y.ldO1 (v := .int .i64 (ks.getD 0 0)) Ft.one3 rfl hL0) rfl rfl <| LX.callQT rfl rfl rfl hb6 (op_q _ _ ⟨hr0.1, by omega⟩ (fun w hw => hq.push hw)) Fu.en120 rfl rfl rfl rfl <| LX.gT rfl rfl rfl hb5 (Y.pickF rfl hb6 rfl) rfl rfl ?_
        exact LX.left ⟨rfl, rfl, rfl, rfl, rfl, rfl, rfl, trivial⟩
      refine LX.pure (Y.pickT rfl hb5 rfl) rfl rfl rfl ?_
      exact LX.left ⟨rfl, rfl, rfl, rfl, rfl, rfl, trivial⟩
    · intro hb5
      refine LX.gF rfl rfl rfl hb5 rfl rfl <| LX.gF rfl rfl rfl hb5 rfl rfl <| LX.gF rfl rfl rfl hb5 rfl rfl <| LX.gF rfl rfl rfl hb5 rfl rfl <| LX.gF rfl rfl rfl hb5 rfl rfl <| LX.gF rfl rfl rfl hb5 rfl rfl <| LX.gU rfl rfl rfl rfl rfl <| LX.gU rfl rfl rfl rfl rfl <| LX.gU rfl rfl rfl rfl rfl <| LX.gU rfl rfl rfl rfl rfl <| LX.gU rfl rfl rfl rfl rfl <| LX.gF rfl rfl rfl hb5 rfl rfl <| LX.pure (Y.pickF rfl hb5 rfl) rfl rfl rfl ?_
      exact LX.left ⟨rfl, rfl, rfl, rfl, rfl, rfl, trivial⟩
    refine LX.pure (Y.move rfl) rfl rfl rfl <| LX.sub (l' := [(0, _), (1, _), (2, _), (6, _), (46, _)]) ⟨rfl, rfl, rfl, rfl, rfl, trivial⟩ ?_
    apply LX.joinAnd 5 51 46 rfl
    · intro hb7
      have hb7p := hb7
      try simp at hb7p
      refine LX.gT rfl rfl rfl hb7 (Y.move rfl) rfl rfl <| LX.gT rfl rfl rfl hb7 (Y.move rfl) rfl rfl <| LX.gT rfl rfl rfl hb7 (Y.cutLoT (b := 1) (m := (ks.drop 1).length) Ft.un51 Ft.sz3 rfl rfl (by omega) (by rw [List.length_drop])) rfl rfl <| LX.callQT rfl rfl rfl hb7 (exprs_q i hi (ck - 1) (by rw [List.length_drop]; omega) (fun q hq2 => hr q (List.mem_of_mem_drop hq2)) _ _ (fun w hw => hq.push hw) (fun w hw => (hk.dropV hkc 1).push hw)) Fw.en112 rfl rfl rfl rfl <| LX.pure (Y.pickT rfl hb7 rfl) rfl rfl rfl ?_
      exact LX.left ⟨rfl, rfl, rfl, rfl, rfl, rfl, trivial⟩
    · intro hb7
      refine LX.gF rfl rfl rfl hb7 rfl rfl <| LX.gF rfl rfl rfl hb7 rfl rfl <| LX.gF rfl rfl rfl hb7 rfl rfl <| LX.gF rfl rfl rfl hb7 rfl rfl <| LX.pure (Y.pickF rfl hb7 rfl) rfl rfl rfl ?_
      exact LX.left ⟨rfl, rfl, rfl, rfl, rfl, rfl, trivial⟩
    refine LX.pure (Y.assign rfl) rfl rfl rfl <| LX.sub (l' := [(0, _), (1, _), (2, _), (6, _)]) ⟨rfl, rfl, rfl, rfl, trivial⟩ <| LX.next <| PX.thenN <| CX.ret <| PX.blockR <| PX.thenR <| PX.ret1 (by simp) Tryz.results123 rfl ?_
    exact fun w hw => ⟨(), congrArg (fun z => Ending.returned (Value.bool z)) (by
      unfold more
      repeat (first | rw [if_pos (by omega)] | rw [if_neg (by omega)])
      try rfl), hw⟩
  try simp at hb4
  refine CX.seq <| CX.region <| LX.pure (Y.eqI rfl rfl) rfl rfl rfl <| LX.pure (Y.assign rfl) rfl rfl rfl <| LX.sub (l' := [(0, _), (1, _), (2, _), (6, _), (8, _), (52, _)]) ⟨rfl, rfl, rfl, rfl, rfl, rfl, trivial⟩ <| LX.next <| PX.thenN ?_
  refine CX.cond rfl (fun hb8 => ?_) (fun hb8 => ?_)
  · try simp at hb8
    refine CX.seq <| CX.region <| LX.pure (Y.move rfl) rfl rfl rfl <| LX.pure (Y.lenSl rfl Ft.un51 rfl) rfl rfl rfl <| LX.pure (Y.eqN rfl rfl) rfl rfl rfl <| LX.pure (Y.move rfl) rfl rfl rfl <| LX.sub (l' := [(0, _), (1, _), (2, _), (6, _), (57, _)]) ⟨rfl, rfl, rfl, rfl, rfl, trivial⟩ ?_
    apply LX.joinOr 4 61 57 rfl
    · intro hb9
      refine LX.gF rfl rfl rfl hb9 rfl rfl <| LX.gF rfl rfl rfl hb9 rfl rfl <| LX.gF rfl rfl rfl hb9 rfl rfl <| LX.pure (Y.pickT rfl hb9 rfl) rfl rfl rfl ?_
      exact LX.left ⟨rfl, rfl, rfl, rfl, rfl, rfl, trivial⟩
    · intro hb9
      refine LX.gT rfl rfl rfl hb9 (Y.move rfl) rfl rfl <| LX.gT rfl rfl rfl hb9 (Y.lenSl rfl Ft.un51 rfl) rfl rfl <| LX.gT rfl rfl rfl hb9 (Y.eqN rfl rfl) rfl rfl <| LX.pure (Y.pickF rfl hb9 rfl) rfl rfl rfl ?_
      exact LX.left ⟨rfl, rfl, rfl, rfl, rfl, rfl, trivial⟩
    refine LX.pure (Y.move rfl) rfl rfl rfl <| LX.sub (l' := [(0, _), (1, _), (2, _), (6, _), (62, _)]) ⟨rfl, rfl, rfl, rfl, rfl, trivial⟩ ?_
    apply LX.joinAnd 5 67 62 rfl
    · intro hb10
      have hb10p := hb10
      try simp at hb10p
      refine LX.gT rfl rfl rfl hb10 (Y.move rfl) rfl rfl <| LX.gT rfl rfl rfl hb10 (Y.move rfl) rfl rfl <| LX.gT rfl rfl rfl hb10 (Y.cutHiT (b := 1) (m := (ks.take (1)).length) Ft.un51 Ft.sz3 rfl rfl (by omega) (by rw [List.length_take]; omega)) rfl rfl <| LX.callQT rfl rfl rfl hb10 (exprs_q i hi ck (by rw [List.length_take]; omega) (fun q hq2 => hr q (List.mem_of_mem_take hq2)) _ _ (fun w hw => hq.push hw) (fun w hw => (hk.take (1)).push hw)) Fw.en112 rfl rfl rfl rfl <| LX.pure (Y.pickT rfl hb10 rfl) rfl rfl rfl ?_
      exact LX.left ⟨rfl, rfl, rfl, rfl, rfl, rfl, trivial⟩
    · intro hb10
      refine LX.gF rfl rfl rfl hb10 rfl rfl <| LX.gF rfl rfl rfl hb10 rfl rfl <| LX.gF rfl rfl rfl hb10 rfl rfl <| LX.gF rfl rfl rfl hb10 rfl rfl <| LX.pure (Y.pickF rfl hb10 rfl) rfl rfl rfl ?_
      exact LX.left ⟨rfl, rfl, rfl, rfl, rfl, rfl, trivial⟩
    refine LX.pure (Y.move rfl) rfl rfl rfl <| LX.sub (l' := [(0, _), (1, _), (2, _), (6, _), (68, _)]) ⟨rfl, rfl, rfl, rfl, rfl, trivial⟩ ?_
    apply LX.joinAnd 5 73 68 rfl
    · intro hb11
      have hb11p := hb11
      try simp at hb11p
      refine LX.gT rfl rfl rfl hb11 (Y.move rfl) rfl rfl <| LX.gT rfl rfl rfl hb11 (Y.move rfl) rfl rfl <| LX.gT rfl rfl rfl hb11 (Y.cutLoT (b := 1) (m := (ks.drop 1).length) Ft.un51 Ft.sz3 rfl rfl (by omega) (by rw [List.length_drop])) rfl rfl <| LX.callQT rfl rfl rfl hb11 (all_q i hi (ck - 1) (by rw [List.length_drop]; omega) (fun q hq2 => hr q (List.mem_of_mem_drop hq2)) _ #[] (fun x => decide (x.op = 47)) (fun w hw => hq.push hw) (fun w hw => (hk.dropV hkc 1).push hw) (fun w hw => ⟨Fw.en142, fun its k x cs hx hi hn => more1_q (fun w hw => Kept.mono (fun _ _ h => h.push hw) hn)⟩)) Ft.en114 rfl rfl rfl rfl <| LX.pure (Y.pickT rfl hb11 rfl) rfl rfl rfl ?_
      exact LX.left ⟨rfl, rfl, rfl, rfl, rfl, rfl, trivial⟩
    · intro hb11
      refine LX.gF rfl rfl rfl hb11 rfl rfl <| LX.gF rfl rfl rfl hb11 rfl rfl <| LX.gF rfl rfl rfl hb11 rfl rfl <| LX.gF rfl rfl rfl hb11 rfl rfl <| LX.pure (Y.pickF rfl hb11 rfl) rfl rfl rfl ?_
      exact LX.left ⟨rfl, rfl, rfl, rfl, rfl, rfl, trivial⟩
    refine LX.pure (Y.assign rfl) rfl rfl rfl <| LX.sub (l' := [(0, _), (1, _), (2, _), (6, _)]) ⟨rfl, rfl, rfl, rfl, trivial⟩ <| LX.next <| PX.thenN <| CX.ret <| PX.blockR <| PX.thenR <| PX.ret1 (by simp) Tryz.results123 rfl ?_
    exact fun w hw => ⟨(), congrArg (fun z => Ending.returned (Value.bool z)) (by
      unfold more
      repeat (first | rw [if_pos (by omega)] | rw [if_neg (by omega)])
      try rfl), hw⟩
  try simp at hb8
  refine CX.seq <| CX.region <| LX.pure (Y.eqI rfl rfl) rfl rfl rfl <| LX.pure (Y.assign rfl) rfl rfl rfl <| LX.sub (l' := [(0, _), (1, _), (2, _), (6, _), (74, _)]) ⟨rfl, rfl, rfl, rfl, rfl, trivial⟩ <| LX.next <| PX.thenN ?_
  refine CX.cond rfl (fun hb12 => ?_) (fun hb12 => ?_)
  · try simp at hb12
    refine CX.seq <| CX.region <| LX.pure (Y.move rfl) rfl rfl rfl <| LX.pure (Y.lenSl rfl Ft.un51 rfl) rfl rfl rfl <| LX.pure (Y.eqN rfl rfl) rfl rfl rfl <| LX.pure (Y.move rfl) rfl rfl rfl <| LX.sub (l' := [(0, _), (1, _), (2, _), (6, _), (79, _)]) ⟨rfl, rfl, rfl, rfl, rfl, trivial⟩ ?_
    apply LX.joinAnd 6 85 79 rfl
    · intro hb13
      have hb13p := hb13
      try simp at hb13p
      refine LX.gT rfl rfl rfl hb13 (Y.move rfl) rfl rfl <| LX.gT rfl rfl rfl hb13 (Y.move rfl) rfl rfl ?_
      obtain ⟨a0, hav0, hL0, _⟩ := hk.int_at (j := 0) (by omega)
      have hr0 := hr _ (getD_mem (j := 0) (by omega))
      refine LX.gT rfl rfl rfl hb13 (Y.idxZ Ft.un51 Ft.sz3 rfl rfl hav0 (j := 0) rfl (by omega)) rfl rfl <| LX.gT rfl rfl rfl hb13 (Y.ldO1 (v := .int .i64 (ks.getD 0 0)) Ft.one3 rfl hL0) rfl rfl <| LX.callQT rfl rfl rfl hb13 (target_q i hA hi n _ hr0.1 hr0.2 (by omega) (fun w hw => hq.push hw)) Fu.en117 rfl rfl rfl rfl <| LX.pure (Y.pickT rfl hb13 rfl) rfl rfl rfl ?_
      exact LX.left ⟨rfl, rfl, rfl, rfl, rfl, rfl, trivial⟩
    · intro hb13
      refine LX.gF rfl rfl rfl hb13 rfl rfl <| LX.gF rfl rfl rfl hb13 rfl rfl <| LX.gF rfl rfl rfl hb13 rfl rfl <| LX.gF rfl rfl rfl hb13 rfl rfl <| LX.gF rfl rfl rfl hb13 rfl rfl <| LX.pure (Y.pickF rfl hb13 rfl) rfl rfl rfl ?_
      exact LX.left ⟨rfl, rfl, rfl, rfl, rfl, rfl, trivial⟩
    refine LX.pure (Y.move rfl) rfl rfl rfl <| LX.sub (l' := [(0, _), (1, _), (2, _), (6, _), (86, _)]) ⟨rfl, rfl, rfl, rfl, rfl, trivial⟩ ?_
    apply LX.joinAnd 5 91 86 rfl
    · intro hb14
      have hb14p := hb14
      try simp at hb14p
      refine LX.gT rfl rfl rfl hb14 (Y.move rfl) rfl rfl <| LX.gT rfl rfl rfl hb14 (Y.move rfl) rfl rfl <| LX.gT rfl rfl rfl hb14 (Y.cutBothT (a' := 1) (b := 2) (m := ((ks.take 2).drop 1).length) Ft.un51 Ft.sz3 rfl rfl rfl (by omega) (by omega) (by rw [List.length_drop, List.length_take]; omega)) rfl rfl <| LX.callQT rfl rfl rfl hb14 (exprs_q i hi (ck - 1) (by rw [List.length_drop, List.length_take]; omega) (fun q hq2 => hr q (List.mem_of_mem_take (List.mem_of_mem_drop hq2))) _ _ (fun w hw => hq.push hw) (fun w hw => ((hk.take 2).dropV (c := ck) (by rw [List.length_take]; omega) 1).push hw)) Fw.en112 rfl rfl rfl rfl <| LX.pure (Y.pickT rfl hb14 rfl) rfl rfl rfl ?_
      exact LX.left ⟨rfl, rfl, rfl, rfl, rfl, rfl, trivial⟩
    · intro hb14
      refine LX.gF rfl rfl rfl hb14 rfl rfl <| LX.gF rfl rfl rfl hb14 rfl rfl <| LX.gF rfl rfl rfl hb14 rfl rfl <| LX.gF rfl rfl rfl hb14 rfl rfl <| LX.pure (Y.pickF rfl hb14 rfl) rfl rfl rfl ?_
      exact LX.left ⟨rfl, rfl, rfl, rfl, rfl, rfl, trivial⟩
    refine LX.pure (Y.move rfl) rfl rfl rfl <| LX.sub (l' := [(0, _), (1, _), (2, _), (6, _), (92, _)]) ⟨rfl, rfl, rfl, rfl, rfl, trivial⟩ ?_
    apply LX.joinAnd 6 98 92 rfl
    · intro hb15
      have hb15p := hb15
      try simp at hb15p
      refine LX.gT rfl rfl rfl hb15 (Y.move rfl) rfl rfl <| LX.gT rfl rfl rfl hb15 (Y.move rfl) rfl rfl ?_
      obtain ⟨a0, hav0, hL0, _⟩ := hk.int_at (j := 2) (by omega)
      have hr0 := hr _ (getD_mem (j := 2) (by omega))
      refine LX.gT rfl rfl rfl hb15 (Y.idxZ Ft.un51 Ft.sz3 rfl rfl hav0 (j := 2) rfl (by omega)) rfl rfl <| LX.gT rfl rfl rfl hb15 (Y.ldO1 (v := .int .i64 (ks.getD 2 0)) Ft.one3 rfl hL0) rfl rfl <| LX.callQT rfl rfl rfl hb15 (op_q _ _ ⟨hr0.1, by omega⟩ (fun w hw => hq.push hw)) Fu.en120 rfl rfl rfl rfl <| LX.pure (Y.pickT rfl hb15 rfl) rfl rfl rfl ?_
      exact LX.left ⟨rfl, rfl, rfl, rfl, rfl, rfl, trivial⟩
    · intro hb15
      refine LX.gF rfl rfl rfl hb15 rfl rfl <| LX.gF rfl rfl rfl hb15 rfl rfl <| LX.gF rfl rfl rfl hb15 rfl rfl <| LX.gF rfl rfl rfl hb15 rfl rfl <| LX.gF rfl rfl rfl hb15 rfl rfl <| LX.pure (Y.pickF rfl hb15 rfl) rfl rfl rfl ?_
      exact LX.left ⟨rfl, rfl, rfl, rfl, rfl, rfl, trivial⟩
    refine LX.pure (Y.assign rfl) rfl rfl rfl <| LX.sub (l' := [(0, _), (1, _), (2, _), (6, _)]) ⟨rfl, rfl, rfl, rfl, trivial⟩ <| LX.next <| PX.thenN <| CX.ret <| PX.blockR <| PX.thenR <| PX.ret1 (by simp) Tryz.results123 rfl ?_
    exact fun w hw => ⟨(), congrArg (fun z => Ending.returned (Value.bool z)) (by
      unfold more
      repeat (first | rw [if_pos (by omega)] | rw [if_neg (by omega)])
      try rfl), hw⟩
  try simp at hb12
  refine CX.skip <| PX.blockN <| PX.thenN <| CX.seq <| CX.region <| LX.pure (Y.move rfl) rfl rfl rfl <| LX.pure (Y.eqI rfl rfl) rfl rfl rfl <| LX.pure (Y.move rfl) rfl rfl rfl <| LX.sub (l' := [(0, _), (1, _), (2, _), (6, _), (101, _)]) ⟨rfl, rfl, rfl, rfl, rfl, trivial⟩ ?_
  apply LX.joinOr 3 104 101 rfl
  · intro hb16
    refine LX.gF rfl rfl rfl hb16 rfl rfl <| LX.gF rfl rfl rfl hb16 rfl rfl <| LX.pure (Y.pickT rfl hb16 rfl) rfl rfl rfl ?_
    exact LX.left ⟨rfl, rfl, rfl, rfl, rfl, rfl, trivial⟩
  · intro hb16
    refine LX.gT rfl rfl rfl hb16 (Y.move rfl) rfl rfl <| LX.gT rfl rfl rfl hb16 (Y.eqI rfl rfl) rfl rfl <| LX.pure (Y.pickF rfl hb16 rfl) rfl rfl rfl ?_
    exact LX.left ⟨rfl, rfl, rfl, rfl, rfl, rfl, trivial⟩
  refine LX.pure (Y.move rfl) rfl rfl rfl <| LX.sub (l' := [(0, _), (1, _), (2, _), (6, _), (105, _)]) ⟨rfl, rfl, rfl, rfl, rfl, trivial⟩ ?_
  apply LX.joinOr 3 108 105 rfl
  · intro hb17
    refine LX.gF rfl rfl rfl hb17 rfl rfl <| LX.gF rfl rfl rfl hb17 rfl rfl <| LX.pure (Y.pickT rfl hb17 rfl) rfl rfl rfl ?_
    exact LX.left ⟨rfl, rfl, rfl, rfl, rfl, rfl, trivial⟩
  · intro hb17
    refine LX.gT rfl rfl rfl hb17 (Y.move rfl) rfl rfl <| LX.gT rfl rfl rfl hb17 (Y.eqI rfl rfl) rfl rfl <| LX.pure (Y.pickF rfl hb17 rfl) rfl rfl rfl ?_
    exact LX.left ⟨rfl, rfl, rfl, rfl, rfl, rfl, trivial⟩
  refine LX.pure (Y.move rfl) rfl rfl rfl <| LX.sub (l' := [(0, _), (1, _), (2, _), (6, _), (109, _)]) ⟨rfl, rfl, rfl, rfl, rfl, trivial⟩ ?_
  apply LX.joinOr 7 116 109 rfl
  · intro hb18
    refine LX.gF rfl rfl rfl hb18 rfl rfl <| LX.gF rfl rfl rfl hb18 rfl rfl <| LX.gF rfl rfl rfl hb18 rfl rfl <| LX.gU rfl rfl rfl rfl rfl <| LX.gU rfl rfl rfl rfl rfl <| LX.gF rfl rfl rfl hb18 rfl rfl <| LX.pure (Y.pickT rfl hb18 rfl) rfl rfl rfl ?_
    exact LX.left ⟨rfl, rfl, rfl, rfl, rfl, rfl, trivial⟩
  · intro hb18
    refine LX.gT rfl rfl rfl hb18 (Y.move rfl) rfl rfl <| LX.gT rfl rfl rfl hb18 (Y.geI rfl rfl) rfl rfl <| LX.gT rfl rfl rfl hb18 (Y.move rfl) rfl rfl <| LX.sub (l' := [(0, _), (1, _), (2, _), (6, _), (109, _), (112, _)]) ⟨rfl, rfl, rfl, rfl, rfl, rfl, trivial⟩ ?_
    apply LX.joinAnd 3 115 112 rfl
    · intro hb19
      refine LX.gT rfl rfl rfl hb19 (Y.move rfl) rfl rfl <| LX.gT rfl rfl rfl hb19 (Y.leI rfl rfl) rfl rfl <| LX.gT rfl rfl rfl hb18 (Y.pickT rfl hb19 rfl) rfl rfl ?_
      exact LX.left ⟨rfl, rfl, rfl, rfl, rfl, rfl, rfl, trivial⟩
    · intro hb19
      refine LX.gF rfl rfl rfl hb19 rfl rfl <| LX.gF rfl rfl rfl hb19 rfl rfl <| LX.gT rfl rfl rfl hb18 (Y.pickF rfl hb19 rfl) rfl rfl ?_
      exact LX.left ⟨rfl, rfl, rfl, rfl, rfl, rfl, rfl, trivial⟩
    refine LX.pure (Y.pickF rfl hb18 rfl) rfl rfl rfl ?_
    exact LX.left ⟨rfl, rfl, rfl, rfl, rfl, rfl, trivial⟩
  refine LX.pure (Y.assign rfl) rfl rfl rfl <| LX.sub (l' := [(0, _), (2, _), (6, _), (7, _)]) ⟨rfl, rfl, rfl, rfl, trivial⟩ <| LX.next <| PX.thenN <| CX.seq <| CX.region <| LX.pure (Y.move rfl) rfl rfl rfl <| LX.pure (Y.move rfl) rfl rfl rfl <| LX.sub (l' := [(0, _), (2, _), (6, _), (118, _)]) ⟨rfl, rfl, rfl, rfl, trivial⟩ ?_
  apply LX.joinAnd 4 122 118 rfl
  · intro hb20
    refine LX.gT rfl rfl rfl hb20 (Y.move rfl) rfl rfl <| LX.gT rfl rfl rfl hb20 (Y.move rfl) rfl rfl <| LX.callQT rfl rfl rfl hb20 (exprs_q i hi ck hkn hr _ _ (fun w hw => hq.push hw) (fun w hw => hk.push hw)) Fw.en112 rfl rfl rfl rfl <| LX.pure (Y.pickT rfl hb20 rfl) rfl rfl rfl ?_
    exact LX.left ⟨rfl, rfl, rfl, rfl, rfl, trivial⟩
  · intro hb20
    refine LX.gF rfl rfl rfl hb20 rfl rfl <| LX.gF rfl rfl rfl hb20 rfl rfl <| LX.gF rfl rfl rfl hb20 rfl rfl <| LX.pure (Y.pickF rfl hb20 rfl) rfl rfl rfl ?_
    exact LX.left ⟨rfl, rfl, rfl, rfl, rfl, trivial⟩
  refine LX.pure (Y.assign rfl) rfl rfl rfl <| LX.sub (l' := [(6, _)]) ⟨rfl, trivial⟩ <| LX.next <| PX.thenN <| CX.ret <| PX.ret1 (by simp) Tryz.results123 rfl ?_
  exact fun w hw => ⟨(), congrArg (fun z => Ending.returned (Value.bool z)) (by
    unfold more
    repeat (rw [if_neg (by omega)])
    try rfl), hw⟩
theorem more_q {W : World → Prop} [Stab W] {bq : Nat} {al : Option Addr} {cl : Nat} {uv : Value} {l : List Nd} (i : Nat) (hi : i ≤ l.length) (hA : Ahead l i) (n : Nat) (hni : i ≤ n) {ak : Option Addr} (ck : Nat) {ks : List Int} (hkn : ks.length ≤ 9223372036854775807) (hr : ∀ k ∈ ks, 0 ≤ k ∧ k < (i : Int)) (hkc : ks.length ≤ ck) (op : Int)  (hq : ∀ w, W w → Cq w w.heap.size bq al cl uv l ndA) (hk : ∀ w, W w → SlAt 1 intA (Lies w w.heap.size) ak ks) : FnQ Tryz.prog 123 #[.pointer (some ⟨bq, 0, none⟩), .int .i64 op, .slice ak ks.length ck] W (.bool (more l n op ks)) := FnC.quiet fun w hw => more_c i hi hA n hni ck hkn hr hkc op (hq w hw) (hk w hw)
theorem kids_c {w0 : World} {base : Nat} {bq : Nat} {al : Option Addr} {cl : Nat} {uv : Value} {l : List Nd} (i : Nat) (hi : i ≤ l.length) (hA : Ahead l i) (n : Nat) (hni : i ≤ n) {x : Nd} {cs : List Value} (hr : ∀ k ∈ x.kids, 0 ≤ k ∧ k < (i : Int))  (hq : Cq w0 base bq al cl uv l ndA) (hx : ndA (Lies w0 base) cs x) : FnC Tryz.prog 83 #[.pointer (some ⟨bq, 0, none⟩), .agg cs.toArray] (WA w0 base []) (fun _ : Unit => .bool (kidsB l n x)) (fun _ => WA w0 base []) := by
  obtain ⟨vk, rfl, hks, hin⟩ := hx
  obtain ⟨ak, ck, rfl, ⟨hkn, hkc⟩, hka⟩ := hks.sl
  refine FnC.of_body (fn := Tryz.f83) [(0, _), (1, _)] Tryz.func83 rfl Tryz.ntmps83 rfl ⟨rfl, rfl, trivial⟩ ?_
  refine CX.seq <| CX.region <| LX.box rfl rfl rfl rfl rfl ?_
  intro bx0
  refine LX.pure (Y.assign rfl) rfl rfl rfl <| LX.sub (l' := [(0, _), (3, _), (4, _)]) ⟨rfl, rfl, rfl, trivial⟩ <| LX.next <| PX.thenN <| CX.seq <| CX.region <| LX.pure (Y.fieldAddr0 Fu.fo53_4 rfl) rfl rfl rfl <| LX.pure (Y.ldB 0 Fu.one51 rfl rfl rfl) rfl rfl rfl <| LX.pure (Y.assign rfl) rfl rfl rfl <| LX.sub (l' := [(0, _), (3, _), (4, _), (5, _)]) ⟨rfl, rfl, rfl, rfl, trivial⟩ <| LX.next <| PX.thenN <| CX.seq <| CX.seq <| CX.region <| LX.pure (Y.fieldAddr0 Ft.fo53_0 rfl) rfl rfl rfl <| LX.pure (Y.ldB 0 Ft.one3 rfl rfl rfl) rfl rfl rfl <| LX.sub (l' := [(0, _), (3, _), (4, _), (5, _), (9, _)]) ⟨rfl, rfl, rfl, rfl, rfl, trivial⟩ <| LX.next <| PX.thenN <| CX.block <| CX.sub (l' := [(0, _), (3, _), (4, _), (5, _), (9, _)]) ⟨rfl, rfl, rfl, rfl, rfl, trivial⟩ ?_
  apply CX.seqSw 10
  ·
    refine CX.seq <| CX.region <| LX.pure (Y.eqI rfl rfl) rfl rfl rfl <| LX.pure (Y.assign rfl) rfl rfl rfl <| LX.next <| PX.thenN ?_
    apply CX.swOr
    · rfl
    · exact ⟨rfl, rfl, rfl, rfl, rfl, rfl, trivial⟩
    intro hb1
    try simp at hb1
    refine CX.seq <| CX.region <| LX.pure (Y.eqI rfl rfl) rfl rfl rfl <| LX.pure (Y.assign rfl) rfl rfl rfl <| LX.next <| PX.thenN ?_
    apply CX.swOr
    · rfl
    · exact ⟨rfl, rfl, rfl, rfl, rfl, rfl, trivial⟩
    intro hb2
    try simp at hb2
    refine CX.seq <| CX.region <| LX.pure (Y.eqI rfl rfl) rfl rfl rfl <| LX.pure (Y.assign rfl) rfl rfl rfl <| LX.next <| PX.thenN ?_
    apply CX.swOr
    · rfl
    · exact ⟨rfl, rfl, rfl, rfl, rfl, rfl, trivial⟩
    intro hb3
    try simp at hb3
    refine CX.seq <| CX.region <| LX.pure (Y.eqI rfl rfl) rfl rfl rfl <| LX.pure (Y.assign rfl) rfl rfl rfl <| LX.next <| PX.thenN ?_
    apply CX.swOr
    · rfl
    · exact ⟨rfl, rfl, rfl, rfl, rfl, rfl, trivial⟩
    intro hb4
    try simp at hb4
    refine CX.seq <| CX.region <| LX.pure (Y.eqI rfl rfl) rfl rfl rfl <| LX.pure (Y.assign rfl) rfl rfl rfl <| LX.next <| PX.thenN ?_
    apply CX.swOr
    · rfl
    · exact ⟨rfl, rfl, rfl, rfl, rfl, rfl, trivial⟩
    intro hb5
    try simp at hb5
    refine CX.seq <| CX.region <| LX.pure (Y.eqI rfl rfl) rfl rfl rfl <| LX.pure (Y.assign rfl) rfl rfl rfl <| LX.next <| PX.thenN ?_
    apply CX.swOr
    · rfl
    · exact ⟨rfl, rfl, rfl, rfl, rfl, rfl, trivial⟩
    intro hb6
    try simp at hb6
    refine CX.seq <| CX.region <| LX.pure (Y.eqI rfl rfl) rfl rfl rfl <| LX.pure (Y.assign rfl) rfl rfl rfl <| LX.next <| PX.thenN ?_
    apply CX.swOr
    · rfl
    · exact ⟨rfl, rfl, rfl, rfl, rfl, rfl, trivial⟩
    intro hb7
    try simp at hb7
    refine CX.seq <| CX.region <| LX.pure (Y.eqI rfl rfl) rfl rfl rfl <| LX.pure (Y.assign rfl) rfl rfl rfl <| LX.next <| PX.thenN ?_
    apply CX.swOr
    · rfl
    · exact ⟨rfl, rfl, rfl, rfl, rfl, rfl, trivial⟩
    intro hb8
    try simp at hb8
    refine CX.seq <| CX.region <| LX.pure (Y.eqI rfl rfl) rfl rfl rfl <| LX.pure (Y.assign rfl) rfl rfl rfl <| LX.next <| PX.thenN ?_
    apply CX.swOr
    · rfl
    · exact ⟨rfl, rfl, rfl, rfl, rfl, rfl, trivial⟩
    intro hb9
    try simp at hb9
    refine CX.region <| LX.pure (Y.eqI rfl rfl) rfl rfl rfl <| LX.pure (Y.assign rfl) rfl rfl rfl <| LX.next ?_
    exact PX.sw ⟨rfl, rfl, rfl, rfl, rfl, rfl, trivial⟩
  refine CX.cond rfl (fun hb10 => ?_) (fun hb10 => ?_)
  · try simp at hb10
    refine CX.seq <| CX.region <| LX.pure (Y.move rfl) rfl rfl rfl <| LX.pure (Y.lenSl rfl Ft.un51 rfl) rfl rfl rfl <| LX.pure (Y.eqN rfl rfl) rfl rfl rfl <| LX.pure (Y.assign rfl) rfl rfl rfl <| LX.sub (l' := [(0, _), (3, _), (4, _), (5, _)]) ⟨rfl, rfl, rfl, rfl, trivial⟩ <| LX.next <| PX.thenN <| CX.ret <| PX.blockR <| PX.thenR <| PX.ret1 (by simp) Tryz.results83 rfl ?_
    exact fun w hw => ⟨(), congrArg (fun z => Ending.returned (Value.bool z)) (by
      unfold kidsB
      repeat (rw [if_pos (by omega)])
      try rfl), hw.drop (List.sublist_cons_self _ _)⟩
  try simp at hb10
  refine CX.sub (l' := [(0, _), (3, _), (4, _), (5, _), (9, _)]) ⟨rfl, rfl, rfl, rfl, rfl, trivial⟩ ?_
  apply CX.seqSw 24
  ·
    refine CX.seq <| CX.region <| LX.pure (Y.eqI rfl rfl) rfl rfl rfl <| LX.pure (Y.assign rfl) rfl rfl rfl <| LX.next <| PX.thenN ?_
    apply CX.swOr
    · rfl
    · exact ⟨rfl, rfl, rfl, rfl, rfl, rfl, trivial⟩
    intro hb11
    try simp at hb11
    refine CX.region <| LX.pure (Y.eqI rfl rfl) rfl rfl rfl <| LX.pure (Y.assign rfl) rfl rfl rfl <| LX.next ?_
    exact PX.sw ⟨rfl, rfl, rfl, rfl, rfl, rfl, trivial⟩
  refine CX.cond rfl (fun hb12 => ?_) (fun hb12 => ?_)
  · try simp at hb12
    refine CX.seq <| CX.region <| LX.pure (Y.move rfl) rfl rfl rfl <| LX.pure (Y.move rfl) rfl rfl rfl <| LX.callQ (exprs_q i hi ck hkn hr _ _ (fun w hw => hq.push hw) (fun w hw => hka.push hw)) Fw.en112 rfl rfl rfl rfl rfl <| LX.pure (Y.assign rfl) rfl rfl rfl <| LX.sub (l' := [(0, _), (3, _), (4, _), (5, _)]) ⟨rfl, rfl, rfl, rfl, trivial⟩ <| LX.next <| PX.thenN <| CX.ret <| PX.blockR <| PX.thenR <| PX.ret1 (by simp) Tryz.results83 rfl ?_
    exact fun w hw => ⟨(), congrArg (fun z => Ending.returned (Value.bool z)) (by
      unfold kidsB
      repeat (first | rw [if_pos (by omega)] | rw [if_neg (by omega)])
      try rfl), hw.drop (List.sublist_cons_self _ _)⟩
  try simp at hb12
  refine CX.seq <| CX.region <| LX.pure (Y.eqI rfl rfl) rfl rfl rfl <| LX.pure (Y.assign rfl) rfl rfl rfl <| LX.sub (l' := [(0, _), (3, _), (4, _), (5, _), (9, _), (30, _)]) ⟨rfl, rfl, rfl, rfl, rfl, rfl, trivial⟩ <| LX.next <| PX.thenN ?_
  refine CX.cond rfl (fun hb13 => ?_) (fun hb13 => ?_)
  · try simp at hb13
    refine CX.seq <| CX.region <| LX.pure (Y.move rfl) rfl rfl rfl <| LX.pure (Y.lenSl rfl Ft.un51 rfl) rfl rfl rfl <| LX.pure (Y.remN rfl rfl (by (simp only []; omega))) rfl rfl rfl <| LX.pure (Y.eqN rfl rfl) rfl rfl rfl <| LX.pure (Y.move rfl) rfl rfl rfl <| LX.sub (l' := [(0, _), (3, _), (4, _), (5, _), (36, _)]) ⟨rfl, rfl, rfl, rfl, rfl, trivial⟩ ?_
    apply LX.joinAnd 4 40 36 rfl
    · intro hb14
      refine LX.gT rfl rfl rfl hb14 (Y.move rfl) rfl rfl <| LX.gT rfl rfl rfl hb14 (Y.move rfl) rfl rfl <| LX.callQT rfl rfl rfl hb14 (exprs_q i hi ck hkn hr _ _ (fun w hw => hq.push hw) (fun w hw => hka.push hw)) Fw.en112 rfl rfl rfl rfl <| LX.pure (Y.pickT rfl hb14 rfl) rfl rfl rfl ?_
      exact LX.left ⟨rfl, rfl, rfl, rfl, rfl, rfl, trivial⟩
    · intro hb14
      refine LX.gF rfl rfl rfl hb14 rfl rfl <| LX.gF rfl rfl rfl hb14 rfl rfl <| LX.gF rfl rfl rfl hb14 rfl rfl <| LX.pure (Y.pickF rfl hb14 rfl) rfl rfl rfl ?_
      exact LX.left ⟨rfl, rfl, rfl, rfl, rfl, rfl, trivial⟩
    refine LX.pure (Y.assign rfl) rfl rfl rfl <| LX.sub (l' := [(0, _), (3, _), (4, _), (5, _)]) ⟨rfl, rfl, rfl, rfl, trivial⟩ <| LX.next <| PX.thenN <| CX.ret <| PX.blockR <| PX.thenR <| PX.ret1 (by simp) Tryz.results83 rfl ?_
    exact fun w hw => ⟨(), congrArg (fun z => Ending.returned (Value.bool z)) (by
      unfold kidsB
      repeat (first | rw [if_pos (by omega)] | rw [if_neg (by omega)])
      try rfl), hw.drop (List.sublist_cons_self _ _)⟩
  try simp at hb13
  refine CX.sub (l' := [(0, _), (3, _), (4, _), (5, _), (9, _)]) ⟨rfl, rfl, rfl, rfl, rfl, trivial⟩ ?_
  apply CX.seqSw 41
  ·
    refine CX.seq <| CX.region <| LX.pure (Y.eqI rfl rfl) rfl rfl rfl <| LX.pure (Y.assign rfl) rfl rfl rfl <| LX.next <| PX.thenN ?_
    apply CX.swOr
    · rfl
    · exact ⟨rfl, rfl, rfl, rfl, rfl, rfl, trivial⟩
    intro hb15
    try simp at hb15
    refine CX.seq <| CX.region <| LX.pure (Y.eqI rfl rfl) rfl rfl rfl <| LX.pure (Y.assign rfl) rfl rfl rfl <| LX.next <| PX.thenN ?_
    apply CX.swOr
    · rfl
    · exact ⟨rfl, rfl, rfl, rfl, rfl, rfl, trivial⟩
    intro hb16
    try simp at hb16
    refine CX.seq <| CX.region <| LX.pure (Y.eqI rfl rfl) rfl rfl rfl <| LX.pure (Y.assign rfl) rfl rfl rfl <| LX.next <| PX.thenN ?_
    apply CX.swOr
    · rfl
    · exact ⟨rfl, rfl, rfl, rfl, rfl, rfl, trivial⟩
    intro hb17
    try simp at hb17
    refine CX.seq <| CX.region <| LX.pure (Y.eqI rfl rfl) rfl rfl rfl <| LX.pure (Y.assign rfl) rfl rfl rfl <| LX.next <| PX.thenN ?_
    apply CX.swOr
    · rfl
    · exact ⟨rfl, rfl, rfl, rfl, rfl, rfl, trivial⟩
    intro hb18
    try simp at hb18
    refine CX.region <| LX.pure (Y.eqI rfl rfl) rfl rfl rfl <| LX.pure (Y.assign rfl) rfl rfl rfl <| LX.next ?_
    exact PX.sw ⟨rfl, rfl, rfl, rfl, rfl, rfl, trivial⟩
  refine CX.cond rfl (fun hb19 => ?_) (fun hb19 => ?_)
  · try simp at hb19
    refine CX.seq <| CX.region <| LX.pure (Y.move rfl) rfl rfl rfl <| LX.pure (Y.move rfl) rfl rfl rfl <| LX.callQ (exprs_q i hi ck hkn hr _ _ (fun w hw => hq.push hw) (fun w hw => hka.push hw)) Fw.en112 rfl rfl rfl rfl rfl <| LX.pure (Y.assign rfl) rfl rfl rfl <| LX.sub (l' := [(0, _), (3, _), (4, _), (5, _)]) ⟨rfl, rfl, rfl, rfl, trivial⟩ <| LX.next <| PX.thenN <| CX.ret <| PX.blockR <| PX.thenR <| PX.ret1 (by simp) Tryz.results83 rfl ?_
    exact fun w hw => ⟨(), congrArg (fun z => Ending.returned (Value.bool z)) (by
      unfold kidsB
      repeat (first | rw [if_pos (by omega)] | rw [if_neg (by omega)])
      try rfl), hw.drop (List.sublist_cons_self _ _)⟩
  try simp at hb19
  refine CX.seq <| CX.region <| LX.pure (Y.eqI rfl rfl) rfl rfl rfl <| LX.pure (Y.assign rfl) rfl rfl rfl <| LX.sub (l' := [(0, _), (3, _), (4, _), (5, _), (9, _), (50, _)]) ⟨rfl, rfl, rfl, rfl, rfl, rfl, trivial⟩ <| LX.next <| PX.thenN ?_
  refine CX.cond rfl (fun hb20 => ?_) (fun hb20 => ?_)
  · try simp at hb20
    refine CX.seq <| CX.region <| LX.pure (Y.move rfl) rfl rfl rfl <| LX.pure (Y.move rfl) rfl rfl rfl <| LX.callQ (exprs_q i hi ck hkn hr _ _ (fun w hw => hq.push hw) (fun w hw => hka.push hw)) Fw.en112 rfl rfl rfl rfl rfl <| LX.pure (Y.assign rfl) rfl rfl rfl <| LX.sub (l' := [(0, _), (3, _), (4, _), (5, _)]) ⟨rfl, rfl, rfl, rfl, trivial⟩ <| LX.next <| PX.thenN <| CX.ret <| PX.blockR <| PX.thenR <| PX.ret1 (by simp) Tryz.results83 rfl ?_
    exact fun w hw => ⟨(), congrArg (fun z => Ending.returned (Value.bool z)) (by
      unfold kidsB
      repeat (first | rw [if_pos (by omega)] | rw [if_neg (by omega)])
      try rfl), hw.drop (List.sublist_cons_self _ _)⟩
  try simp at hb20
  refine CX.sub (l' := [(0, _), (3, _), (4, _), (5, _), (9, _)]) ⟨rfl, rfl, rfl, rfl, rfl, trivial⟩ ?_
  apply CX.seqSw 55
  ·
    refine CX.seq <| CX.region <| LX.pure (Y.eqI rfl rfl) rfl rfl rfl <| LX.pure (Y.assign rfl) rfl rfl rfl <| LX.next <| PX.thenN ?_
    apply CX.swOr
    · rfl
    · exact ⟨rfl, rfl, rfl, rfl, rfl, rfl, trivial⟩
    intro hb21
    try simp at hb21
    refine CX.region <| LX.pure (Y.eqI rfl rfl) rfl rfl rfl <| LX.pure (Y.assign rfl) rfl rfl rfl <| LX.next ?_
    exact PX.sw ⟨rfl, rfl, rfl, rfl, rfl, rfl, trivial⟩
  refine CX.cond rfl (fun hb22 => ?_) (fun hb22 => ?_)
  · try simp at hb22
    refine CX.seq <| CX.region <| LX.pure (Y.move rfl) rfl rfl rfl <| LX.pure (Y.move rfl) rfl rfl rfl <| LX.callQ (exprs_q i hi ck hkn hr _ _ (fun w hw => hq.push hw) (fun w hw => hka.push hw)) Fw.en112 rfl rfl rfl rfl rfl <| LX.pure (Y.assign rfl) rfl rfl rfl <| LX.sub (l' := [(0, _), (3, _), (4, _), (5, _)]) ⟨rfl, rfl, rfl, rfl, trivial⟩ <| LX.next <| PX.thenN <| CX.ret <| PX.blockR <| PX.thenR <| PX.ret1 (by simp) Tryz.results83 rfl ?_
    exact fun w hw => ⟨(), congrArg (fun z => Ending.returned (Value.bool z)) (by
      unfold kidsB
      repeat (first | rw [if_pos (by omega)] | rw [if_neg (by omega)])
      try rfl), hw.drop (List.sublist_cons_self _ _)⟩
  try simp at hb22
  refine CX.seq <| CX.region <| LX.pure (Y.eqI rfl rfl) rfl rfl rfl <| LX.pure (Y.assign rfl) rfl rfl rfl <| LX.sub (l' := [(0, _), (3, _), (4, _), (5, _), (9, _), (61, _)]) ⟨rfl, rfl, rfl, rfl, rfl, rfl, trivial⟩ <| LX.next <| PX.thenN ?_
  refine CX.cond rfl (fun hb23 => ?_) (fun hb23 => ?_)
  · try simp at hb23
    refine CX.seq <| CX.region <| LX.pure (Y.move rfl) rfl rfl rfl <| LX.pure (Y.lenSl rfl Ft.un51 rfl) rfl rfl rfl <| LX.pure (Y.gtN rfl rfl) rfl rfl rfl <| LX.pure (Y.move rfl) rfl rfl rfl <| LX.sub (l' := [(0, _), (3, _), (4, _), (5, _), (66, _)]) ⟨rfl, rfl, rfl, rfl, rfl, trivial⟩ ?_
    apply LX.joinAnd 4 70 66 rfl
    · intro hb24
      refine LX.gT rfl rfl rfl hb24 (Y.move rfl) rfl rfl <| LX.gT rfl rfl rfl hb24 (Y.move rfl) rfl rfl <| LX.callQT rfl rfl rfl hb24 (call_q i hi ck hkn hr (fun w hw => hq.push hw) (fun w hw => hka.push hw)) Fw.en113 rfl rfl rfl rfl <| LX.pure (Y.pickT rfl hb24 rfl) rfl rfl rfl ?_
      exact LX.left ⟨rfl, rfl, rfl, rfl, rfl, rfl, trivial⟩
    · intro hb24
      refine LX.gF rfl rfl rfl hb24 rfl rfl <| LX.gF rfl rfl rfl hb24 rfl rfl <| LX.gF rfl rfl rfl hb24 rfl rfl <| LX.pure (Y.pickF rfl hb24 rfl) rfl rfl rfl ?_
      exact LX.left ⟨rfl, rfl, rfl, rfl, rfl, rfl, trivial⟩
    refine LX.pure (Y.assign rfl) rfl rfl rfl <| LX.sub (l' := [(0, _), (3, _), (4, _), (5, _)]) ⟨rfl, rfl, rfl, rfl, trivial⟩ <| LX.next <| PX.thenN <| CX.ret <| PX.blockR <| PX.thenR <| PX.ret1 (by simp) Tryz.results83 rfl ?_
    exact fun w hw => ⟨(), congrArg (fun z => Ending.returned (Value.bool z)) (by
      unfold kidsB
      repeat (first | rw [if_pos (by omega)] | rw [if_neg (by omega)])
      try rfl), hw.drop (List.sublist_cons_self _ _)⟩
  try simp at hb23
  refine CX.seq <| CX.region <| LX.pure (Y.eqI rfl rfl) rfl rfl rfl <| LX.pure (Y.assign rfl) rfl rfl rfl <| LX.sub (l' := [(0, _), (3, _), (4, _), (5, _), (9, _), (71, _)]) ⟨rfl, rfl, rfl, rfl, rfl, rfl, trivial⟩ <| LX.next <| PX.thenN ?_
  refine CX.cond rfl (fun hb25 => ?_) (fun hb25 => ?_)
  · try simp at hb25
    refine CX.seq <| CX.region <| LX.pure (Y.move rfl) rfl rfl rfl <| LX.pure (Y.lenSl rfl Ft.un51 rfl) rfl rfl rfl <| LX.pure (Y.eqN rfl rfl) rfl rfl rfl <| LX.pure (Y.move rfl) rfl rfl rfl <| LX.sub (l' := [(0, _), (3, _), (4, _), (5, _), (76, _)]) ⟨rfl, rfl, rfl, rfl, rfl, trivial⟩ ?_
    apply LX.joinAnd 5 81 76 rfl
    · intro hb26
      have hb26p := hb26
      try simp at hb26p
      refine LX.gT rfl rfl rfl hb26 (Y.move rfl) rfl rfl <| LX.gT rfl rfl rfl hb26 (Y.move rfl) rfl rfl <| LX.gT rfl rfl rfl hb26 (Y.cutHiT (b := 1) (m := (x.kids.take (1)).length) Ft.un51 Ft.sz3 rfl rfl (by omega) (by rw [List.length_take]; omega)) rfl rfl <| LX.callQT rfl rfl rfl hb26 (exprs_q i hi ck (by rw [List.length_take]; omega) (fun q hq2 => hr q (List.mem_of_mem_take hq2)) _ _ (fun w hw => hq.push hw) (fun w hw => (hka.take (1)).push hw)) Fw.en112 rfl rfl rfl rfl <| LX.pure (Y.pickT rfl hb26 rfl) rfl rfl rfl ?_
      exact LX.left ⟨rfl, rfl, rfl, rfl, rfl, rfl, trivial⟩
    · intro hb26
      refine LX.gF rfl rfl rfl hb26 rfl rfl <| LX.gF rfl rfl rfl hb26 rfl rfl <| LX.gF rfl rfl rfl hb26 rfl rfl <| LX.gF rfl rfl rfl hb26 rfl rfl <| LX.pure (Y.pickF rfl hb26 rfl) rfl rfl rfl ?_
      exact LX.left ⟨rfl, rfl, rfl, rfl, rfl, rfl, trivial⟩
    refine LX.pure (Y.move rfl) rfl rfl rfl <| LX.sub (l' := [(0, _), (3, _), (4, _), (5, _), (82, _)]) ⟨rfl, rfl, rfl, rfl, rfl, trivial⟩ ?_
    apply LX.joinAnd 5 87 82 rfl
    · intro hb27
      have hb27p := hb27
      try simp at hb27p
      refine LX.gT rfl rfl rfl hb27 (Y.move rfl) rfl rfl <| LX.gT rfl rfl rfl hb27 (Y.move rfl) rfl rfl <| LX.gT rfl rfl rfl hb27 (Y.cutLoT (b := 1) (m := (x.kids.drop 1).length) Ft.un51 Ft.sz3 rfl rfl (by omega) (by rw [List.length_drop])) rfl rfl <| LX.callQT rfl rfl rfl hb27 (all_q i hi (ck - 1) (by rw [List.length_drop]; omega) (fun q hq2 => hr q (List.mem_of_mem_drop hq2)) _ #[] (fun x => exprB x.op || decide (x.op = 15)) (fun w hw => hq.push hw) (fun w hw => (hka.dropV hkc 1).push hw) (fun w hw => ⟨Fw.en115, fun its k x cs hx hi hn => kids1_q (fun w hw => Kept.mono (fun _ _ h => h.push hw) hn)⟩)) Ft.en114 rfl rfl rfl rfl <| LX.pure (Y.pickT rfl hb27 rfl) rfl rfl rfl ?_
      exact LX.left ⟨rfl, rfl, rfl, rfl, rfl, rfl, trivial⟩
    · intro hb27
      refine LX.gF rfl rfl rfl hb27 rfl rfl <| LX.gF rfl rfl rfl hb27 rfl rfl <| LX.gF rfl rfl rfl hb27 rfl rfl <| LX.gF rfl rfl rfl hb27 rfl rfl <| LX.pure (Y.pickF rfl hb27 rfl) rfl rfl rfl ?_
      exact LX.left ⟨rfl, rfl, rfl, rfl, rfl, rfl, trivial⟩
    refine LX.pure (Y.assign rfl) rfl rfl rfl <| LX.sub (l' := [(0, _), (3, _), (4, _), (5, _)]) ⟨rfl, rfl, rfl, rfl, trivial⟩ <| LX.next <| PX.thenN <| CX.ret <| PX.blockR <| PX.thenR <| PX.ret1 (by simp) Tryz.results83 rfl ?_
    exact fun w hw => ⟨(), congrArg (fun z => Ending.returned (Value.bool z)) (by
      unfold kidsB
      repeat (first | rw [if_pos (by omega)] | rw [if_neg (by omega)])
      try rfl), hw.drop (List.sublist_cons_self _ _)⟩
  try simp at hb25
  refine CX.seq <| CX.region <| LX.pure (Y.eqI rfl rfl) rfl rfl rfl <| LX.pure (Y.assign rfl) rfl rfl rfl <| LX.sub (l' := [(0, _), (3, _), (4, _), (5, _), (9, _), (88, _)]) ⟨rfl, rfl, rfl, rfl, rfl, rfl, trivial⟩ <| LX.next <| PX.thenN ?_
  refine CX.cond rfl (fun hb28 => ?_) (fun hb28 => ?_)
  · try simp at hb28
    refine CX.seq <| CX.region <| LX.pure (Y.move rfl) rfl rfl rfl <| LX.pure (Y.lenSl rfl Ft.un51 rfl) rfl rfl rfl <| LX.pure (Y.eqN rfl rfl) rfl rfl rfl <| LX.pure (Y.move rfl) rfl rfl rfl <| LX.sub (l' := [(0, _), (3, _), (4, _), (5, _), (93, _)]) ⟨rfl, rfl, rfl, rfl, rfl, trivial⟩ ?_
    apply LX.joinOr 4 97 93 rfl
    · intro hb29
      refine LX.gF rfl rfl rfl hb29 rfl rfl <| LX.gF rfl rfl rfl hb29 rfl rfl <| LX.gF rfl rfl rfl hb29 rfl rfl <| LX.pure (Y.pickT rfl hb29 rfl) rfl rfl rfl ?_
      exact LX.left ⟨rfl, rfl, rfl, rfl, rfl, rfl, trivial⟩
    · intro hb29
      refine LX.gT rfl rfl rfl hb29 (Y.move rfl) rfl rfl <| LX.gT rfl rfl rfl hb29 (Y.lenSl rfl Ft.un51 rfl) rfl rfl <| LX.gT rfl rfl rfl hb29 (Y.eqN rfl rfl) rfl rfl <| LX.pure (Y.pickF rfl hb29 rfl) rfl rfl rfl ?_
      exact LX.left ⟨rfl, rfl, rfl, rfl, rfl, rfl, trivial⟩
    refine LX.pure (Y.move rfl) rfl rfl rfl <| LX.sub (l' := [(0, _), (3, _), (4, _), (5, _), (98, _)]) ⟨rfl, rfl, rfl, rfl, rfl, trivial⟩ ?_
    apply LX.joinAnd 6 104 98 rfl
    · intro hb30
      have hb30p := hb30
      try simp at hb30p
      refine LX.gT rfl rfl rfl hb30 (Y.move rfl) rfl rfl <| LX.gT rfl rfl rfl hb30 (Y.move rfl) rfl rfl ?_
      obtain ⟨a0, hav0, hL0, _⟩ := hka.int_at (j := 1) (by omega)
      have hr0 := hr _ (getD_mem (j := 1) (by omega))
      refine LX.gT rfl rfl rfl hb30 (Y.idxZ Ft.un51 Ft.sz3 rfl rfl hav0 (j := 1) rfl (by omega)) rfl rfl <| LX.gT rfl rfl rfl hb30 (Y.ldO1 (v := .int .i64 (x.kids.getD 1 0)) Ft.one3 rfl hL0) rfl rfl <| LX.callQT rfl rfl rfl hb30 (target_q i hA hi n _ hr0.1 hr0.2 (by omega) (fun w hw => hq.push hw)) Fu.en117 rfl rfl rfl rfl <| LX.pure (Y.pickT rfl hb30 rfl) rfl rfl rfl ?_
      exact LX.left ⟨rfl, rfl, rfl, rfl, rfl, rfl, trivial⟩
    · intro hb30
      refine LX.gF rfl rfl rfl hb30 rfl rfl <| LX.gF rfl rfl rfl hb30 rfl rfl <| LX.gF rfl rfl rfl hb30 rfl rfl <| LX.gF rfl rfl rfl hb30 rfl rfl <| LX.gF rfl rfl rfl hb30 rfl rfl <| LX.pure (Y.pickF rfl hb30 rfl) rfl rfl rfl ?_
      exact LX.left ⟨rfl, rfl, rfl, rfl, rfl, rfl, trivial⟩
    refine LX.pure (Y.move rfl) rfl rfl rfl <| LX.sub (l' := [(0, _), (3, _), (4, _), (5, _), (105, _)]) ⟨rfl, rfl, rfl, rfl, rfl, trivial⟩ ?_
    apply LX.joinAnd 4 109 105 rfl
    · intro hb31
      refine LX.gT rfl rfl rfl hb31 (Y.move rfl) rfl rfl <| LX.gT rfl rfl rfl hb31 (Y.move rfl) rfl rfl <| LX.callQT rfl rfl rfl hb31 (exprs_q i hi ck hkn hr _ _ (fun w hw => hq.push hw) (fun w hw => hka.push hw)) Fw.en112 rfl rfl rfl rfl <| LX.pure (Y.pickT rfl hb31 rfl) rfl rfl rfl ?_
      exact LX.left ⟨rfl, rfl, rfl, rfl, rfl, rfl, trivial⟩
    · intro hb31
      refine LX.gF rfl rfl rfl hb31 rfl rfl <| LX.gF rfl rfl rfl hb31 rfl rfl <| LX.gF rfl rfl rfl hb31 rfl rfl <| LX.pure (Y.pickF rfl hb31 rfl) rfl rfl rfl ?_
      exact LX.left ⟨rfl, rfl, rfl, rfl, rfl, rfl, trivial⟩
    refine LX.pure (Y.assign rfl) rfl rfl rfl <| LX.sub (l' := [(0, _), (3, _), (4, _), (5, _)]) ⟨rfl, rfl, rfl, rfl, trivial⟩ <| LX.next <| PX.thenN <| CX.ret <| PX.blockR <| PX.thenR <| PX.ret1 (by simp) Tryz.results83 rfl ?_
    exact fun w hw => ⟨(), congrArg (fun z => Ending.returned (Value.bool z)) (by
      unfold kidsB
      repeat (first | rw [if_pos (by omega)] | rw [if_neg (by omega)])
      try rfl), hw.drop (List.sublist_cons_self _ _)⟩
  try simp at hb28
  refine CX.seq <| CX.region <| LX.pure (Y.eqI rfl rfl) rfl rfl rfl <| LX.pure (Y.assign rfl) rfl rfl rfl <| LX.sub (l' := [(0, _), (3, _), (4, _), (5, _), (9, _), (110, _)]) ⟨rfl, rfl, rfl, rfl, rfl, rfl, trivial⟩ <| LX.next <| PX.thenN ?_
  refine CX.cond rfl (fun hb32 => ?_) (fun hb32 => ?_)
  · try simp at hb32
    refine CX.seq <| CX.region <| LX.pure (Y.move rfl) rfl rfl rfl <| LX.pure (Y.lenSl rfl Ft.un51 rfl) rfl rfl rfl <| LX.pure (Y.gtN rfl rfl) rfl rfl rfl <| LX.pure (Y.move rfl) rfl rfl rfl <| LX.sub (l' := [(0, _), (3, _), (4, _), (5, _), (115, _)]) ⟨rfl, rfl, rfl, rfl, rfl, trivial⟩ ?_
    apply LX.joinAnd 6 121 115 rfl
    · intro hb33
      have hb33p := hb33
      try simp at hb33p
      refine LX.gT rfl rfl rfl hb33 (Y.move rfl) rfl rfl <| LX.gT rfl rfl rfl hb33 (Y.move rfl) rfl rfl <| LX.gT rfl rfl rfl hb33 (Y.move rfl) rfl rfl <| LX.gT rfl rfl rfl hb33 (Y.mkFunc rfl rfl) rfl rfl <| LX.callQT rfl rfl rfl hb33 (all_q i hi ck hkn hr _ #[.pointer (some ⟨bq, 0, none⟩)] (loadedB l) (fun w hw => hq.push hw) (fun w hw => hka.push hw) (fun w9 hw9 => ⟨Fw.en118, fun its k y cs hx2 hi2 hn => loaded_q i hi (fun q hq2 => by have := hA _ _ hi2 hx2 q hq2; omega) (fun w hw => ((hq.push hw9).push hw)) (fun w hw => Kept.mono (fun _ _ h => h.push hw) hn)⟩)) Ft.en114 rfl rfl rfl rfl <| LX.pure (Y.pickT rfl hb33 rfl) rfl rfl rfl ?_
      exact LX.left ⟨rfl, rfl, rfl, rfl, rfl, rfl, trivial⟩
    · intro hb33
      refine LX.gF rfl rfl rfl hb33 rfl rfl <| LX.gF rfl rfl rfl hb33 rfl rfl <| LX.gF rfl rfl rfl hb33 rfl rfl <| LX.gF rfl rfl rfl hb33 rfl rfl <| LX.gF rfl rfl rfl hb33 rfl rfl <| LX.pure (Y.pickF rfl hb33 rfl) rfl rfl rfl ?_
      exact LX.left ⟨rfl, rfl, rfl, rfl, rfl, rfl, trivial⟩
    refine LX.pure (Y.assign rfl) rfl rfl rfl <| LX.sub (l' := [(0, _), (3, _), (4, _), (5, _)]) ⟨rfl, rfl, rfl, rfl, trivial⟩ <| LX.next <| PX.thenN <| CX.ret <| PX.blockR <| PX.thenR <| PX.ret1 (by simp) Tryz.results83 rfl ?_
    exact fun w hw => ⟨(), congrArg (fun z => Ending.returned (Value.bool z)) (by
      unfold kidsB
      repeat (first | rw [if_pos (by omega)] | rw [if_neg (by omega)])
      try rfl), hw.drop (List.sublist_cons_self _ _)⟩
  try simp at hb32
  refine CX.seq <| CX.region <| LX.pure (Y.eqI rfl rfl) rfl rfl rfl <| LX.pure (Y.assign rfl) rfl rfl rfl <| LX.sub (l' := [(0, _), (3, _), (4, _), (5, _), (9, _), (122, _)]) ⟨rfl, rfl, rfl, rfl, rfl, rfl, trivial⟩ <| LX.next <| PX.thenN ?_
  refine CX.cond rfl (fun hb34 => ?_) (fun hb34 => ?_)
  · try simp at hb34
    refine CX.seq <| CX.region <| LX.pure (Y.move rfl) rfl rfl rfl <| LX.pure (Y.lenSl rfl Ft.un51 rfl) rfl rfl rfl <| LX.pure (Y.gtN rfl rfl) rfl rfl rfl <| LX.pure (Y.move rfl) rfl rfl rfl <| LX.sub (l' := [(0, _), (3, _), (4, _), (5, _), (127, _)]) ⟨rfl, rfl, rfl, rfl, rfl, trivial⟩ ?_
    apply LX.joinAnd 8 135 127 rfl
    · intro hb35
      have hb35p := hb35
      try simp at hb35p
      refine LX.gT rfl rfl rfl hb35 (Y.move rfl) rfl rfl <| LX.gT rfl rfl rfl hb35 (Y.move rfl) rfl rfl <| LX.gT rfl rfl rfl hb35 (Y.move rfl) rfl rfl <| LX.gT rfl rfl rfl hb35 (Y.lenSl rfl Ft.un51 rfl) rfl rfl <| LX.gT rfl rfl rfl hb35 (Y.subN rfl rfl (by (simp only []; omega)) (by omega)) rfl rfl <| LX.gT rfl rfl rfl hb35 (Y.cutHiT (b := x.kids.length - 1) (m := (x.kids.take (x.kids.length - 1)).length) Ft.un51 Ft.sz3 rfl rfl (by omega) (by rw [List.length_take]; omega)) rfl rfl <| LX.callQT rfl rfl rfl hb35 (all_q i hi ck (by rw [List.length_take]; omega) (fun q hq2 => hr q (List.mem_of_mem_take hq2)) _ #[] (fun x => decide (x.op = 46)) (fun w hw => hq.push hw) (fun w hw => (hka.take (x.kids.length - 1)).push hw) (fun w hw => ⟨Fw.en119, fun its k x cs hx hi hn => kids2_q (fun w hw => Kept.mono (fun _ _ h => h.push hw) hn)⟩)) Ft.en114 rfl rfl rfl rfl <| LX.pure (Y.pickT rfl hb35 rfl) rfl rfl rfl ?_
      exact LX.left ⟨rfl, rfl, rfl, rfl, rfl, rfl, trivial⟩
    · intro hb35
      refine LX.gF rfl rfl rfl hb35 rfl rfl <| LX.gF rfl rfl rfl hb35 rfl rfl <| LX.gF rfl rfl rfl hb35 rfl rfl <| LX.gF rfl rfl rfl hb35 rfl rfl <| LX.gF rfl rfl rfl hb35 rfl rfl <| LX.gF rfl rfl rfl hb35 rfl rfl <| LX.gF rfl rfl rfl hb35 rfl rfl <| LX.pure (Y.pickF rfl hb35 rfl) rfl rfl rfl ?_
      exact LX.left ⟨rfl, rfl, rfl, rfl, rfl, rfl, trivial⟩
    refine LX.pure (Y.move rfl) rfl rfl rfl <| LX.sub (l' := [(0, _), (3, _), (4, _), (5, _), (136, _)]) ⟨rfl, rfl, rfl, rfl, rfl, trivial⟩ ?_
    apply LX.joinAnd 9 145 136 rfl
    · intro hb36
      have hb36p := hb36
      try simp at hb36p
      refine LX.gT rfl rfl rfl hb36 (Y.move rfl) rfl rfl <| LX.gT rfl rfl rfl hb36 (Y.move rfl) rfl rfl <| LX.gT rfl rfl rfl hb36 (Y.move rfl) rfl rfl <| LX.gT rfl rfl rfl hb36 (Y.lenSl rfl Ft.un51 rfl) rfl rfl <| LX.gT rfl rfl rfl hb36 (Y.subN rfl rfl (by (simp only []; omega)) (by omega)) rfl rfl ?_
      obtain ⟨a0, hav0, hL0, _⟩ := hka.int_at (j := x.kids.length - 1) (by omega)
      have hr0 := hr _ (getD_mem (j := x.kids.length - 1) (by omega))
      refine LX.gT rfl rfl rfl hb36 (Y.idxZ Ft.un51 Ft.sz3 rfl rfl hav0 (j := x.kids.length - 1) rfl (by omega)) rfl rfl <| LX.gT rfl rfl rfl hb36 (Y.ldO1 (v := .int .i64 (x.kids.getD (x.kids.length - 1) 0)) Ft.one3 rfl hL0) rfl rfl <| LX.callQT rfl rfl rfl hb36 (op_q _ _ ⟨hr0.1, by omega⟩ (fun w hw => hq.push hw)) Fu.en120 rfl rfl rfl rfl <| LX.pure (Y.pickT rfl hb36 rfl) rfl rfl rfl ?_
      exact LX.left ⟨rfl, rfl, rfl, rfl, rfl, rfl, trivial⟩
    · intro hb36
      refine LX.gF rfl rfl rfl hb36 rfl rfl <| LX.gF rfl rfl rfl hb36 rfl rfl <| LX.gF rfl rfl rfl hb36 rfl rfl <| LX.gF rfl rfl rfl hb36 rfl rfl <| LX.gF rfl rfl rfl hb36 rfl rfl <| LX.gF rfl rfl rfl hb36 rfl rfl <| LX.gF rfl rfl rfl hb36 rfl rfl <| LX.gF rfl rfl rfl hb36 rfl rfl <| LX.pure (Y.pickF rfl hb36 rfl) rfl rfl rfl ?_
      exact LX.left ⟨rfl, rfl, rfl, rfl, rfl, rfl, trivial⟩
    refine LX.pure (Y.assign rfl) rfl rfl rfl <| LX.sub (l' := [(0, _), (3, _), (4, _), (5, _)]) ⟨rfl, rfl, rfl, rfl, trivial⟩ <| LX.next <| PX.thenN <| CX.ret <| PX.blockR <| PX.thenR <| PX.ret1 (by simp) Tryz.results83 rfl ?_
    exact fun w hw => ⟨(), congrArg (fun z => Ending.returned (Value.bool z)) (by
      unfold kidsB
      repeat (first | rw [if_pos (by omega)] | rw [if_neg (by omega)])
      try rfl), hw.drop (List.sublist_cons_self _ _)⟩
  try simp at hb34
  refine CX.seq <| CX.region <| LX.pure (Y.eqI rfl rfl) rfl rfl rfl <| LX.pure (Y.assign rfl) rfl rfl rfl <| LX.sub (l' := [(0, _), (3, _), (4, _), (5, _), (146, _)]) ⟨rfl, rfl, rfl, rfl, rfl, trivial⟩ <| LX.next <| PX.thenN ?_
  refine CX.cond rfl (fun hb37 => ?_) (fun hb37 => ?_)
  · try simp at hb37
    refine CX.seq <| CX.region <| LX.pure (Y.move rfl) rfl rfl rfl <| LX.pure (Y.lenSl rfl Ft.un51 rfl) rfl rfl rfl <| LX.pure (Y.gtN rfl rfl) rfl rfl rfl <| LX.pure (Y.move rfl) rfl rfl rfl <| LX.sub (l' := [(0, _), (3, _), (4, _), (5, _), (151, _)]) ⟨rfl, rfl, rfl, rfl, rfl, trivial⟩ ?_
    apply LX.joinAnd 4 155 151 rfl
    · intro hb38
      refine LX.gT rfl rfl rfl hb38 (Y.move rfl) rfl rfl <| LX.gT rfl rfl rfl hb38 (Y.move rfl) rfl rfl <| LX.callQT rfl rfl rfl hb38 (all_q i hi ck hkn hr _ #[] (fun x => stmtB x.op) (fun w hw => hq.push hw) (fun w hw => hka.push hw) (fun w hw => ⟨Fw.en121, fun its k x cs hx hi hn => kids3_q (fun w hw => Kept.mono (fun _ _ h => h.push hw) hn)⟩)) Ft.en114 rfl rfl rfl rfl <| LX.pure (Y.pickT rfl hb38 rfl) rfl rfl rfl ?_
      exact LX.left ⟨rfl, rfl, rfl, rfl, rfl, rfl, trivial⟩
    · intro hb38
      refine LX.gF rfl rfl rfl hb38 rfl rfl <| LX.gF rfl rfl rfl hb38 rfl rfl <| LX.gF rfl rfl rfl hb38 rfl rfl <| LX.pure (Y.pickF rfl hb38 rfl) rfl rfl rfl ?_
      exact LX.left ⟨rfl, rfl, rfl, rfl, rfl, rfl, trivial⟩
    refine LX.pure (Y.assign rfl) rfl rfl rfl <| LX.sub (l' := [(0, _), (3, _), (4, _), (5, _)]) ⟨rfl, rfl, rfl, rfl, trivial⟩ <| LX.next <| PX.thenN <| CX.ret <| PX.blockR <| PX.thenR <| PX.ret1 (by simp) Tryz.results83 rfl ?_
    exact fun w hw => ⟨(), congrArg (fun z => Ending.returned (Value.bool z)) (by
      unfold kidsB
      repeat (first | rw [if_pos (by omega)] | rw [if_neg (by omega)])
      try rfl), hw.drop (List.sublist_cons_self _ _)⟩
  try simp at hb37
  refine CX.skip <| PX.blockN <| PX.thenN <| CX.seq <| CX.region <| LX.pure (Y.move rfl) rfl rfl rfl <| LX.pure (Y.fieldAddr0 Ft.fo53_0 rfl) rfl rfl rfl <| LX.pure (Y.ldB 0 Ft.one3 rfl rfl rfl) rfl rfl rfl <| LX.pure (Y.move rfl) rfl rfl rfl <| LX.callQ (more_q i hi hA n hni ck hkn hr hkc _ (fun w hw => hq.push hw) (fun w hw => hka.push hw)) Fw.en123 rfl rfl rfl rfl rfl <| LX.pure (Y.assign rfl) rfl rfl rfl <| LX.sub (l' := [(4, _)]) ⟨rfl, trivial⟩ <| LX.next <| PX.thenN <| CX.ret <| PX.ret1 (by simp) Tryz.results83 rfl ?_
  exact fun w hw => ⟨(), congrArg (fun z => Ending.returned (Value.bool z)) (by
    unfold kidsB
    repeat (rw [if_neg (by omega)])
    try rfl), hw.drop (List.sublist_cons_self _ _)⟩
theorem kids_q {W : World → Prop} [Stab W] {bq : Nat} {al : Option Addr} {cl : Nat} {uv : Value} {l : List Nd} (i : Nat) (hi : i ≤ l.length) (hA : Ahead l i) (n : Nat) (hni : i ≤ n) {x : Nd} {cs : List Value} (hr : ∀ k ∈ x.kids, 0 ≤ k ∧ k < (i : Int))  (hq : ∀ w, W w → Cq w w.heap.size bq al cl uv l ndA) (hx : ∀ w, W w → ndA (Lies w w.heap.size) cs x) : FnQ Tryz.prog 83 #[.pointer (some ⟨bq, 0, none⟩), .agg cs.toArray] W (.bool (kidsB l n x)) := FnC.quiet fun w hw => kids_c i hi hA n hni hr (hq w hw) (hx w hw)
end Go.Proofs.YtickdimknfeddaaGreatDoor

namespace Go.Proofs.YtickdimknfeddaaGreatDoor
open Go.SX Go.RowKit Go.Tr
namespace Fx
theorem un9 : Tryz.prog.underlying 9 = some .string := by kernel_rfl
end Fx
theorem digits_c {w0 : World} {base : Nat} {fr : List It} (s : List UInt8) (hs : s.length ≤ 9223372036854775807) : FnC Tryz.prog 84 #[str s] (WA w0 base fr) (fun _ : Unit => .bool (decide (digitsOk s))) (fun _ => WA w0 base fr) := by
  refine FnC.of_body (fn := Tryz.f84) [(0, _)] Tryz.func84 rfl Tryz.ntmps84 rfl ⟨rfl, trivial⟩ ?_
  refine CX.seq <| CX.region <| LX.pure (Y.assign rfl) rfl rfl rfl <| LX.sub (l' := [(0, _), (2, _)]) ⟨rfl, rfl, trivial⟩ <| LX.next <| PX.thenN <| CX.seq <| CX.seq <| CX.region <| LX.pure (Y.move rfl) rfl rfl rfl <| LX.pure (Y.lenStr rfl Fx.un9 rfl) rfl rfl rfl <| LX.pure (Y.move rfl) rfl rfl rfl <| LX.sub (l' := [(0, _), (2, _), (5, _), (6, _)]) ⟨rfl, rfl, rfl, rfl, trivial⟩ <| LX.next <| PX.thenN <| CX.block <| CX.loop (τ := Nat) (fun j : Nat => [(0, str s), (5, .int .i64 (s.length : Int)), (6, .int .i64 (j : Int))]) (fun (j : Nat) w => (j ≤ s.length ∧ ∀ i, i < j → 48 ≤ bt s i ∧ bt s i ≤ 57) ∧ WA w0 base fr w) (fun j => s.length - j) 0 ⟨rfl, rfl, rfl, trivial⟩ (fun w hw => ⟨⟨Nat.zero_le _, fun i hi => absurd hi (Nat.not_lt_zero i)⟩, hw⟩) ?_
  intro j
  refine CX.have fun ⟨hj0, hdg⟩ => ?_
  try dsimp only at hj0 hdg ⊢
  refine CX.seq <| CX.region <| LX.pure (Y.ltN rfl rfl) rfl rfl rfl <| LX.sub (l' := [(0, _), (5, _), (6, _), (7, _)]) ⟨rfl, rfl, rfl, rfl, trivial⟩ <| LX.next <| PX.thenN <| CX.seq ?_
  refine CX.cond rfl (fun hb1 => ?_) (fun hb1 => ?_)
  · try simp at hb1
    have hjl : j < s.length := by omega
    refine CX.skip <| PX.thenN <| CX.seq <| CX.block <| CX.seq <| CX.region <| LX.pure (Y.move rfl) rfl rfl rfl <| LX.pure (Y.assign rfl) rfl rfl rfl <| LX.sub (l' := [(0, _), (3, _), (5, _), (6, _)]) ⟨rfl, rfl, rfl, rfl, trivial⟩ <| LX.next <| PX.thenN <| CX.seq <| CX.region <| LX.pure (Y.move rfl) rfl rfl rfl <| LX.pure (Y.move rfl) rfl rfl rfl <| LX.pure (Y.index rfl rfl Fx.un9 (by omega)) rfl rfl rfl <| LX.pure (Y.ltN rfl rfl) rfl rfl rfl <| LX.pure (Y.move rfl) rfl rfl rfl <| LX.sub (l' := [(0, _), (3, _), (5, _), (6, _), (13, _)]) ⟨rfl, rfl, rfl, rfl, rfl, trivial⟩ ?_
    apply LX.joinOr 5 18 13 rfl
    · intro hb2
      refine LX.gF rfl rfl rfl hb2 rfl rfl <| LX.gF rfl rfl rfl hb2 rfl rfl <| LX.gF rfl rfl rfl hb2 rfl rfl <| LX.gF rfl rfl rfl hb2 rfl rfl <| LX.pure (Y.pickT rfl hb2 rfl) rfl rfl rfl ?_
      exact LX.left ⟨rfl, rfl, rfl, rfl, rfl, rfl, trivial⟩
    · intro hb2
      have hb2p := hb2
      try simp at hb2p
      refine LX.gT rfl rfl rfl hb2 (Y.move rfl) rfl rfl <| LX.gT rfl rfl rfl hb2 (Y.move rfl) rfl rfl <| LX.gT rfl rfl rfl hb2 (Y.index rfl rfl Fx.un9 (by omega)) rfl rfl <| LX.gT rfl rfl rfl hb2 (Y.gtN rfl rfl) rfl rfl <| LX.pure (Y.pickF rfl hb2 rfl) rfl rfl rfl ?_
      exact LX.left ⟨rfl, rfl, rfl, rfl, rfl, rfl, trivial⟩
    refine LX.sub (l' := [(0, _), (5, _), (6, _), (18, _)]) ⟨rfl, rfl, rfl, rfl, trivial⟩ <| LX.next <| PX.thenN ?_
    refine CX.cond rfl (fun hb3 => ?_) (fun hb3 => ?_)
    · try simp at hb3
      refine CX.seq <| CX.region <| LX.pure (Y.assign rfl) rfl rfl rfl <| LX.sub (l' := [(0, _), (2, _), (5, _), (6, _)]) ⟨rfl, rfl, rfl, rfl, trivial⟩ <| LX.next <| PX.thenN <| CX.ret <| PX.blockR <| PX.thenR <| PX.thenR <| PX.blockR <| PX.thenR <| PX.ret1 (by simp) Tryz.results84 rfl ?_
      exact fun w hw => ⟨(), by rw [decide_eq_false (digits_no hjl (by omega))], hw⟩
    try simp at hb3
    refine CX.skip <| PX.blockN <| PX.thenN <| CX.region <| LX.pure (Y.addN rfl rfl (by (simp only []; omega))) rfl rfl rfl <| LX.pure (Y.move rfl) rfl rfl rfl <| LX.sub (l' := [(0, _), (5, _), (6, _)]) ⟨rfl, rfl, rfl, trivial⟩ <| LX.next ?_
    exact PX.again (j + 1) (by show s.length - (j + 1) < s.length - j; omega) ⟨rfl, rfl, rfl, trivial⟩ (fun w hw => ⟨⟨by omega, fun i hi => by
      by_cases e : i = j
      · subst e; omega
      · exact hdg i (by omega)⟩, hw⟩)
  try simp at hb1
  have hall : ∀ i, i < s.length → 48 ≤ bt s i ∧ bt s i ≤ 57 := fun i hi => hdg i (by omega)
  refine CX.exit <| PX.thenE <| PX.thenE <| PX.blockE <| PX.thenN <| CX.seq <| CX.region <| LX.pure (Y.move rfl) rfl rfl rfl <| LX.pure (Y.eqS rfl rfl) rfl rfl rfl <| LX.pure (Y.move rfl) rfl rfl rfl <| LX.sub (l' := [(0, _), (22, _)]) ⟨rfl, rfl, trivial⟩ ?_
  apply LX.joinOr 13 35 22 rfl
  · intro hb4
    refine LX.gF rfl rfl rfl hb4 rfl rfl <| LX.gF rfl rfl rfl hb4 rfl rfl <| LX.gF rfl rfl rfl hb4 rfl rfl <| LX.gU rfl rfl rfl rfl rfl <| LX.gU rfl rfl rfl rfl rfl <| LX.gU rfl rfl rfl rfl rfl <| LX.gF rfl rfl rfl hb4 rfl rfl <| LX.gF rfl rfl rfl hb4 rfl rfl <| LX.gU rfl rfl rfl rfl rfl <| LX.gU rfl rfl rfl rfl rfl <| LX.gU rfl rfl rfl rfl rfl <| LX.gF rfl rfl rfl hb4 rfl rfl <| LX.pure (Y.pickT rfl hb4 rfl) rfl rfl rfl ?_
    exact LX.left ⟨rfl, rfl, rfl, trivial⟩
  · intro hb4
    refine LX.gT rfl rfl rfl hb4 (Y.move rfl) rfl rfl <| LX.gT rfl rfl rfl hb4 (Y.neS rfl rfl) rfl rfl <| LX.gT rfl rfl rfl hb4 (Y.move rfl) rfl rfl <| LX.sub (l' := [(0, _), (22, _), (25, _)]) ⟨rfl, rfl, rfl, trivial⟩ ?_
    apply LX.joinAnd 4 29 25 rfl
    · intro hb5
      have hb5p := hb5
      try simp at hb5p
      refine LX.gT rfl rfl rfl hb5 (Y.move rfl) rfl rfl <| LX.gT rfl rfl rfl hb5 (Y.index rfl rfl Fx.un9 (by exact List.length_pos_iff.2 (by assumption))) rfl rfl <| LX.gT rfl rfl rfl hb5 (Y.neN rfl rfl) rfl rfl <| LX.gT rfl rfl rfl hb4 (Y.pickT rfl hb5 rfl) rfl rfl ?_
      exact LX.left ⟨rfl, rfl, rfl, rfl, trivial⟩
    · intro hb5
      refine LX.gF rfl rfl rfl hb5 rfl rfl <| LX.gF rfl rfl rfl hb5 rfl rfl <| LX.gF rfl rfl rfl hb5 rfl rfl <| LX.gT rfl rfl rfl hb4 (Y.pickF rfl hb5 rfl) rfl rfl ?_
      exact LX.left ⟨rfl, rfl, rfl, rfl, trivial⟩
    refine LX.gT rfl rfl rfl hb4 (Y.move rfl) rfl rfl <| LX.sub (l' := [(0, _), (22, _), (30, _)]) ⟨rfl, rfl, rfl, trivial⟩ ?_
    apply LX.joinAnd 4 34 30 rfl
    · intro hb6
      refine LX.gT rfl rfl rfl hb6 (Y.move rfl) rfl rfl <| LX.gT rfl rfl rfl hb6 (Y.lenStr rfl Fx.un9 rfl) rfl rfl <| LX.gT rfl rfl rfl hb6 (Y.leN rfl rfl) rfl rfl <| LX.gT rfl rfl rfl hb4 (Y.pickT rfl hb6 rfl) rfl rfl ?_
      exact LX.left ⟨rfl, rfl, rfl, rfl, trivial⟩
    · intro hb6
      refine LX.gF rfl rfl rfl hb6 rfl rfl <| LX.gF rfl rfl rfl hb6 rfl rfl <| LX.gF rfl rfl rfl hb6 rfl rfl <| LX.gT rfl rfl rfl hb4 (Y.pickF rfl hb6 rfl) rfl rfl ?_
      exact LX.left ⟨rfl, rfl, rfl, rfl, trivial⟩
    refine LX.pure (Y.pickF rfl hb4 rfl) rfl rfl rfl ?_
    exact LX.left ⟨rfl, rfl, rfl, trivial⟩
  refine LX.pure (Y.assign rfl) rfl rfl rfl <| LX.sub (l' := [(2, _)]) ⟨rfl, trivial⟩ <| LX.next <| PX.thenN <| CX.ret <| PX.ret1 (by simp) Tryz.results84 rfl ?_
  exact fun w hw => ⟨(), congrArg (fun z => Ending.returned (Value.bool z)) (digits_b1 hall), hw⟩
theorem digits_q {W : World → Prop} [Stab W] (s : List UInt8) (hs : s.length ≤ 9223372036854775807) : FnQ Tryz.prog 84 #[str s] W (.bool (decide (digitsOk s))) := FnC.quiet fun w _ => digits_c s hs
theorem refDigits_c {w0 : World} {base : Nat} {fr : List It} (s : List UInt8) (hs : s.length ≤ 9223372036854775807) : FnC Tryz.prog 77 #[str s] (WA w0 base fr) (fun _ : Unit => .bool (decide (digitsOk s))) (fun _ => WA w0 base fr) := by
  refine FnC.of_body (fn := Tryz.f77) [(0, _)] Tryz.func77 rfl Tryz.ntmps77 rfl ⟨rfl, trivial⟩ ?_
  refine CX.seq <| CX.region <| LX.pure (Y.assign rfl) rfl rfl rfl <| LX.sub (l' := [(0, _), (2, _)]) ⟨rfl, rfl, trivial⟩ <| LX.next <| PX.thenN <| CX.seq <| CX.seq <| CX.region <| LX.pure (Y.assign rfl) rfl rfl rfl <| LX.sub (l' := [(0, _), (2, _), (3, _)]) ⟨rfl, rfl, rfl, trivial⟩ <| LX.next <| PX.thenN <| CX.block <| CX.loop (τ := Nat) (fun j : Nat => [(0, str s), (3, .int .i64 (j : Int))]) (fun (j : Nat) w => (j ≤ s.length ∧ ∀ i, i < j → 48 ≤ bt s i ∧ bt s i ≤ 57) ∧ WA w0 base fr w) (fun j => s.length - j) 0 ⟨rfl, rfl, trivial⟩ (fun w hw => ⟨⟨Nat.zero_le _, fun i hi => absurd hi (Nat.not_lt_zero i)⟩, hw⟩) ?_
  intro j
  refine CX.have fun ⟨hj0, hdg⟩ => ?_
  try dsimp only at hj0 hdg ⊢
  refine CX.seq <| CX.seq <| CX.region <| LX.pure (Y.move rfl) rfl rfl rfl <| LX.pure (Y.move rfl) rfl rfl rfl <| LX.pure (Y.lenStr rfl Fx.un9 rfl) rfl rfl rfl <| LX.pure (Y.ltN rfl rfl) rfl rfl rfl <| LX.sub (l' := [(0, _), (3, _), (7, _)]) ⟨rfl, rfl, rfl, trivial⟩ <| LX.next <| PX.thenN ?_
  refine CX.cond rfl (fun hb1 => ?_) (fun hb1 => ?_)
  · try simp at hb1
    have hjl : j < s.length := by omega
    refine CX.skip <| PX.thenN <| CX.seq <| CX.block <| CX.seq <| CX.region <| LX.pure (Y.move rfl) rfl rfl rfl <| LX.pure (Y.move rfl) rfl rfl rfl <| LX.pure (Y.index rfl rfl Fx.un9 (by omega)) rfl rfl rfl <| LX.pure (Y.ltN rfl rfl) rfl rfl rfl <| LX.pure (Y.move rfl) rfl rfl rfl <| LX.sub (l' := [(0, _), (3, _), (14, _)]) ⟨rfl, rfl, rfl, trivial⟩ ?_
    apply LX.joinOr 5 19 14 rfl
    · intro hb2
      refine LX.gF rfl rfl rfl hb2 rfl rfl <| LX.gF rfl rfl rfl hb2 rfl rfl <| LX.gF rfl rfl rfl hb2 rfl rfl <| LX.gF rfl rfl rfl hb2 rfl rfl <| LX.pure (Y.pickT rfl hb2 rfl) rfl rfl rfl ?_
      exact LX.left ⟨rfl, rfl, rfl, rfl, trivial⟩
    · intro hb2
      have hb2p := hb2
      try simp at hb2p
      refine LX.gT rfl rfl rfl hb2 (Y.move rfl) rfl rfl <| LX.gT rfl rfl rfl hb2 (Y.move rfl) rfl rfl <| LX.gT rfl rfl rfl hb2 (Y.index rfl rfl Fx.un9 (by omega)) rfl rfl <| LX.gT rfl rfl rfl hb2 (Y.gtN rfl rfl) rfl rfl <| LX.pure (Y.pickF rfl hb2 rfl) rfl rfl rfl ?_
      exact LX.left ⟨rfl, rfl, rfl, rfl, trivial⟩
    refine LX.sub (l' := [(0, _), (3, _), (19, _)]) ⟨rfl, rfl, rfl, trivial⟩ <| LX.next <| PX.thenN ?_
    refine CX.cond rfl (fun hb3 => ?_) (fun hb3 => ?_)
    · try simp at hb3
      refine CX.seq <| CX.region <| LX.pure (Y.assign rfl) rfl rfl rfl <| LX.sub (l' := [(0, _), (2, _), (3, _)]) ⟨rfl, rfl, rfl, trivial⟩ <| LX.next <| PX.thenN <| CX.ret <| PX.blockR <| PX.thenR <| PX.thenR <| PX.blockR <| PX.thenR <| PX.ret1 (by simp) Tryz.results77 rfl ?_
      exact fun w hw => ⟨(), by rw [decide_eq_false (digits_no hjl (by omega))], hw⟩
    try simp at hb3
    refine CX.skip <| PX.blockN <| PX.thenN <| CX.region <| LX.pure (Y.move rfl) rfl rfl rfl <| LX.pure (Y.addN rfl rfl (by (simp only []; omega))) rfl rfl rfl <| LX.pure (Y.assign rfl) rfl rfl rfl <| LX.sub (l' := [(0, _), (3, _)]) ⟨rfl, rfl, trivial⟩ <| LX.next ?_
    exact PX.again (j + 1) (by show s.length - (j + 1) < s.length - j; omega) ⟨rfl, rfl, trivial⟩ (fun w hw => ⟨⟨by omega, fun i hi => by
      by_cases e : i = j
      · subst e; omega
      · exact hdg i (by omega)⟩, hw⟩)
  try simp at hb1
  have hall : ∀ i, i < s.length → 48 ≤ bt s i ∧ bt s i ≤ 57 := fun i hi => hdg i (by omega)
  refine CX.exit <| PX.thenE <| PX.thenE <| PX.blockE <| PX.thenN <| CX.seq <| CX.region <| LX.pure (Y.move rfl) rfl rfl rfl <| LX.pure (Y.neS rfl rfl) rfl rfl rfl <| LX.pure (Y.move rfl) rfl rfl rfl <| LX.sub (l' := [(0, _), (22, _)]) ⟨rfl, rfl, trivial⟩ ?_
  apply LX.joinAnd 4 26 22 rfl
  · intro hb4
    refine LX.gT rfl rfl rfl hb4 (Y.move rfl) rfl rfl <| LX.gT rfl rfl rfl hb4 (Y.lenStr rfl Fx.un9 rfl) rfl rfl <| LX.gT rfl rfl rfl hb4 (Y.leN rfl rfl) rfl rfl <| LX.pure (Y.pickT rfl hb4 rfl) rfl rfl rfl ?_
    exact LX.left ⟨rfl, rfl, rfl, trivial⟩
  · intro hb4
    refine LX.gF rfl rfl rfl hb4 rfl rfl <| LX.gF rfl rfl rfl hb4 rfl rfl <| LX.gF rfl rfl rfl hb4 rfl rfl <| LX.pure (Y.pickF rfl hb4 rfl) rfl rfl rfl ?_
    exact LX.left ⟨rfl, rfl, rfl, trivial⟩
  refine LX.pure (Y.move rfl) rfl rfl rfl <| LX.sub (l' := [(0, _), (27, _)]) ⟨rfl, rfl, trivial⟩ ?_
  apply LX.joinAnd 8 35 27 rfl
  · intro hb5
    refine LX.gT rfl rfl rfl hb5 (Y.move rfl) rfl rfl <| LX.gT rfl rfl rfl hb5 (Y.eqS rfl rfl) rfl rfl <| LX.gT rfl rfl rfl hb5 (Y.move rfl) rfl rfl <| LX.sub (l' := [(0, _), (27, _), (30, _)]) ⟨rfl, rfl, rfl, trivial⟩ ?_
    apply LX.joinOr 4 34 30 rfl
    · intro hb6
      refine LX.gF rfl rfl rfl hb6 rfl rfl <| LX.gF rfl rfl rfl hb6 rfl rfl <| LX.gF rfl rfl rfl hb6 rfl rfl <| LX.gT rfl rfl rfl hb5 (Y.pickT rfl hb6 rfl) rfl rfl ?_
      exact LX.left ⟨rfl, rfl, rfl, rfl, trivial⟩
    · intro hb6
      have hb6p := hb6
      try simp at hb6p
      refine LX.gT rfl rfl rfl hb6 (Y.move rfl) rfl rfl <| LX.gT rfl rfl rfl hb6 (Y.index rfl rfl Fx.un9 (by exact List.length_pos_iff.2 (by simp_all; done))) rfl rfl <| LX.gT rfl rfl rfl hb6 (Y.neN rfl rfl) rfl rfl <| LX.gT rfl rfl rfl hb5 (Y.pickF rfl hb6 rfl) rfl rfl ?_
      exact LX.left ⟨rfl, rfl, rfl, rfl, trivial⟩
    refine LX.pure (Y.pickT rfl hb5 rfl) rfl rfl rfl ?_
    exact LX.left ⟨rfl, rfl, rfl, trivial⟩
  · intro hb5
    refine LX.gF rfl rfl rfl hb5 rfl rfl <| LX.gF rfl rfl rfl hb5 rfl rfl <| LX.gF rfl rfl rfl hb5 rfl rfl <| LX.gU rfl rfl rfl rfl rfl <| LX.gU rfl rfl rfl rfl rfl <| LX.gU rfl rfl rfl rfl rfl <| LX.gF rfl rfl rfl hb5 rfl rfl <| LX.pure (Y.pickF rfl hb5 rfl) rfl rfl rfl ?_
    exact LX.left ⟨rfl, rfl, rfl, trivial⟩
  refine LX.pure (Y.assign rfl) rfl rfl rfl <| LX.sub (l' := [(2, _)]) ⟨rfl, trivial⟩ <| LX.next <| PX.thenN <| CX.ret <| PX.ret1 (by simp) Tryz.results77 rfl ?_
  exact fun w hw => ⟨(), congrArg (fun z => Ending.returned (Value.bool z)) (digits_b2 hall), hw⟩
theorem refDigits_q {W : World → Prop} [Stab W] (s : List UInt8) (hs : s.length ≤ 9223372036854775807) : FnQ Tryz.prog 77 #[str s] W (.bool (decide (digitsOk s))) := FnC.quiet fun w _ => refDigits_c s hs
end Go.Proofs.YtickdimknfeddaaGreatDoor
