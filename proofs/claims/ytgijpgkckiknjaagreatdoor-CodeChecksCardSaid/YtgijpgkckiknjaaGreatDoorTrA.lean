/-
  Proved here: looks at nodes and their kids.
-/
import Derived.Test.YtgijpgkckiknjaaGreatDoorTrP
import Derived.Test.YtgijpgkckiknjaaGreatDoorProg
namespace Go.Proofs.YtgijpgkckiknjaaGreatDoor
open Go.SX Go.RowKit Go.Tr
namespace Ft
theorem ag44 : AggT Tryz.prog 44 5 := AggT.of (by kernel_rfl) (by kernel_rfl)
theorem en215 : Enters Tryz.prog 215 := Enters.of Tryz.func215 (by kernel_rfl) (by kernel_rfl)
theorem en217 : Enters Tryz.prog 217 := Enters.of Tryz.func217 (by kernel_rfl) (by kernel_rfl)
theorem en223 : Enters Tryz.prog 223 := Enters.of Tryz.func223 (by kernel_rfl) (by kernel_rfl)
theorem en254 : Enters Tryz.prog 254 := Enters.of Tryz.func254 (by kernel_rfl) (by kernel_rfl)
theorem fa208_0 : FieldOffA Tryz.prog 208 0 0 := fun a w => by kernel_rfl
theorem fa44_0 : FieldOffA Tryz.prog 44 0 0 := fun a w => by kernel_rfl
theorem fo208_0 : FieldOff Tryz.prog 208 0 0 := fun b o w => by kernel_rfl
theorem fo44_0 : FieldOff Tryz.prog 44 0 0 := fun b o w => by kernel_rfl
theorem one22 : One Tryz.prog 22 := fun w => by kernel_rfl
theorem one3 : One Tryz.prog 3 := fun w => by kernel_rfl
theorem sz3 : SizeIs Tryz.prog 3 1 := fun w => by kernel_rfl
theorem sz44 : SizeIs Tryz.prog 44 5 := fun w => by kernel_rfl
theorem un22 : Tryz.prog.underlying 22 = some (.slice 44) := by kernel_rfl
theorem un42 : Tryz.prog.underlying 42 = some (.slice 3) := by kernel_rfl
end Ft
theorem expr_c {w0 : World} {base : Nat} {fr : List It} (op : Int) : FnC Tryz.prog 217 #[.int .i64 op] (WA w0 base fr) (fun _ : Unit => .bool (exprB op)) (fun _ => WA w0 base fr) := by
  refine FnC.of_body (fn := Tryz.f217) [(0, _)] Tryz.func217 rfl Tryz.ntmps217 rfl ⟨rfl, trivial⟩ ?_
  refine CX.seq ?_
  refine CX.region ?_
  refine LX.pure (Y.assign rfl) rfl rfl rfl ?_
  refine LX.sub (l' := [(0, _), (2, _)]) ⟨rfl, rfl, trivial⟩ ?_
  refine LX.next ?_
  refine PX.thenN ?_
  refine CX.seq ?_
  refine CX.region ?_
  refine LX.pure (Y.move rfl) rfl rfl rfl ?_
  refine LX.pure (Y.geI rfl rfl) rfl rfl rfl ?_
  refine LX.pure (Y.move rfl) rfl rfl rfl ?_
  refine LX.sub (l' := [(0, _), (2, _), (5, _)]) ⟨rfl, rfl, rfl, trivial⟩ ?_
  apply LX.joinAnd 3 8 5 rfl
  · intro hb1
    have hb1p := hb1
    try simp at hb1p
    refine LX.gT rfl rfl rfl hb1 (Y.move rfl) rfl rfl ?_
    refine LX.gT rfl rfl rfl hb1 (Y.leI rfl rfl) rfl rfl ?_
    refine LX.pure (Y.pickT rfl hb1 rfl) rfl rfl rfl ?_
    exact LX.left ⟨rfl, rfl, rfl, rfl, trivial⟩
  · intro hb1
    have hb1p := hb1
    try simp at hb1p
    refine LX.gF rfl rfl rfl hb1 rfl rfl ?_
    refine LX.gF rfl rfl rfl hb1 rfl rfl ?_
    refine LX.pure (Y.pickF rfl hb1 rfl) rfl rfl rfl ?_
    exact LX.left ⟨rfl, rfl, rfl, rfl, trivial⟩
  refine LX.pure (Y.move rfl) rfl rfl rfl ?_
  refine LX.sub (l' := [(0, _), (2, _), (9, _)]) ⟨rfl, rfl, rfl, trivial⟩ ?_
  apply LX.joinAnd 3 12 9 rfl
  · intro hb2
    have hb2p := hb2
    try simp at hb2p
    refine LX.gT rfl rfl rfl hb2 (Y.move rfl) rfl rfl ?_
    refine LX.gT rfl rfl rfl hb2 (Y.neI rfl rfl) rfl rfl ?_
    refine LX.pure (Y.pickT rfl hb2 rfl) rfl rfl rfl ?_
    exact LX.left ⟨rfl, rfl, rfl, rfl, trivial⟩
  · intro hb2
    have hb2p := hb2
    try simp at hb2p
    refine LX.gF rfl rfl rfl hb2 rfl rfl ?_
    refine LX.gF rfl rfl rfl hb2 rfl rfl ?_
    refine LX.pure (Y.pickF rfl hb2 rfl) rfl rfl rfl ?_
    exact LX.left ⟨rfl, rfl, rfl, rfl, trivial⟩
  refine LX.pure (Y.move rfl) rfl rfl rfl ?_
  refine LX.sub (l' := [(0, _), (2, _), (13, _)]) ⟨rfl, rfl, rfl, trivial⟩ ?_
  apply LX.joinAnd 3 16 13 rfl
  · intro hb3
    have hb3p := hb3
    try simp at hb3p
    refine LX.gT rfl rfl rfl hb3 (Y.move rfl) rfl rfl ?_
    refine LX.gT rfl rfl rfl hb3 (Y.neI rfl rfl) rfl rfl ?_
    refine LX.pure (Y.pickT rfl hb3 rfl) rfl rfl rfl ?_
    exact LX.left ⟨rfl, rfl, rfl, rfl, trivial⟩
  · intro hb3
    have hb3p := hb3
    try simp at hb3p
    refine LX.gF rfl rfl rfl hb3 rfl rfl ?_
    refine LX.gF rfl rfl rfl hb3 rfl rfl ?_
    refine LX.pure (Y.pickF rfl hb3 rfl) rfl rfl rfl ?_
    exact LX.left ⟨rfl, rfl, rfl, rfl, trivial⟩
  refine LX.pure (Y.assign rfl) rfl rfl rfl ?_
  refine LX.sub (l' := [(2, _)]) ⟨rfl, trivial⟩ ?_
  refine LX.next ?_
  refine PX.thenN ?_
  refine CX.ret ?_
  refine PX.ret1 (by simp) Tryz.results217 rfl ?_
  exact fun w hw => ⟨(), congrArg (fun z => Ending.returned (Value.bool z)) (by unfold exprB; rfl), hw⟩
theorem expr_q {W : World → Prop} [Stab W] (op : Int) : FnQ Tryz.prog 217 #[.int .i64 op] W (.bool (exprB op)) := FnC.quiet fun w _ => expr_c op
theorem stmt_c {w0 : World} {base : Nat} {fr : List It} (op : Int) : FnC Tryz.prog 223 #[.int .i64 op] (WA w0 base fr) (fun _ : Unit => .bool (stmtB op)) (fun _ => WA w0 base fr) := by
  refine FnC.of_body (fn := Tryz.f223) [(0, _)] Tryz.func223 rfl Tryz.ntmps223 rfl ⟨rfl, trivial⟩ ?_
  refine CX.seq ?_
  refine CX.region ?_
  refine LX.pure (Y.assign rfl) rfl rfl rfl ?_
  refine LX.sub (l' := [(0, _), (2, _)]) ⟨rfl, rfl, trivial⟩ ?_
  refine LX.next ?_
  refine PX.thenN ?_
  refine CX.seq ?_
  refine CX.region ?_
  refine LX.pure (Y.move rfl) rfl rfl rfl ?_
  refine LX.pure (Y.geI rfl rfl) rfl rfl rfl ?_
  refine LX.pure (Y.move rfl) rfl rfl rfl ?_
  refine LX.sub (l' := [(0, _), (2, _), (5, _)]) ⟨rfl, rfl, rfl, trivial⟩ ?_
  apply LX.joinAnd 3 8 5 rfl
  · intro hb1
    have hb1p := hb1
    try simp at hb1p
    refine LX.gT rfl rfl rfl hb1 (Y.move rfl) rfl rfl ?_
    refine LX.gT rfl rfl rfl hb1 (Y.leI rfl rfl) rfl rfl ?_
    refine LX.pure (Y.pickT rfl hb1 rfl) rfl rfl rfl ?_
    exact LX.left ⟨rfl, rfl, rfl, rfl, trivial⟩
  · intro hb1
    have hb1p := hb1
    try simp at hb1p
    refine LX.gF rfl rfl rfl hb1 rfl rfl ?_
    refine LX.gF rfl rfl rfl hb1 rfl rfl ?_
    refine LX.pure (Y.pickF rfl hb1 rfl) rfl rfl rfl ?_
    exact LX.left ⟨rfl, rfl, rfl, rfl, trivial⟩
  refine LX.pure (Y.assign rfl) rfl rfl rfl ?_
  refine LX.sub (l' := [(2, _)]) ⟨rfl, trivial⟩ ?_
  refine LX.next ?_
  refine PX.thenN ?_
  refine CX.ret ?_
  refine PX.ret1 (by simp) Tryz.results223 rfl ?_
  exact fun w hw => ⟨(), congrArg (fun z => Ending.returned (Value.bool z)) (by unfold stmtB; rfl), hw⟩
theorem stmt_q {W : World → Prop} [Stab W] (op : Int) : FnQ Tryz.prog 223 #[.int .i64 op] W (.bool (stmtB op)) := FnC.quiet fun w _ => stmt_c op
theorem op_c {w0 : World} {base : Nat} {bq : Nat} {al : Option Addr} {cl : Nat} {uv : Value} {l : List Nd} (kz z : Int) (h0 : 0 ≤ kz ∧ kz < l.length) (hq : Cq w0 base bq al cl uv l ndA) : FnC Tryz.prog 221 #[.pointer (some ⟨bq, 0, none⟩), .int .i64 kz, .int .i64 z] (WA w0 base []) (fun _ : Unit => .bool (decide ((nd l kz).op = z))) (fun _ => WA w0 base []) := by
  obtain ⟨k, rfl⟩ : ∃ k : Nat, kz = (k : Int) := ⟨kz.toNat, by omega⟩
  have hkl : k < l.length := by omega
  obtain ⟨x, hx⟩ : ∃ x, l[k]? = some x := ⟨_, List.getElem?_eq_getElem hkl⟩
  obtain ⟨a, cs, hav, hcl, hL, vk, rfl, hks, hin⟩ := hq.nodes k x hx
  rw [nd_at hx]
  refine FnC.of_body (fn := Tryz.f221) [(0, _), (1, _), (2, _)] Tryz.func221 rfl Tryz.ntmps221 rfl ⟨rfl, rfl, rfl, trivial⟩ ?_
  refine CX.seq ?_
  refine CX.region ?_
  refine LX.pure (Y.assign rfl) rfl rfl rfl ?_
  refine LX.sub (l' := [(0, _), (1, _), (2, _), (6, _)]) ⟨rfl, rfl, rfl, rfl, trivial⟩ ?_
  refine LX.next ?_
  refine PX.thenN ?_
  refine CX.seq ?_
  refine CX.region ?_
  refine LX.pure (Y.move rfl) rfl rfl rfl ?_
  refine LX.pure (Y.nilCheck rfl) rfl rfl rfl ?_
  refine LX.pure (Y.fieldAddr0 Ft.fo208_0 rfl) rfl rfl rfl ?_
  refine LX.pure (Y.ldB0 Ft.one22 rfl hq.blk rfl) rfl rfl rfl ?_
  refine LX.pure (Y.move rfl) rfl rfl rfl ?_
  refine LX.pure (Y.idxZ Ft.un22 Ft.sz44 rfl rfl hav (j := k) rfl hkl) rfl rfl rfl ?_
  refine LX.pure (Y.fieldA Ft.fa44_0 rfl) rfl rfl rfl ?_
  refine LX.pure (Y.ldFO Ft.one3 rfl hL rfl) rfl rfl rfl ?_
  refine LX.pure (Y.move rfl) rfl rfl rfl ?_
  refine LX.pure (Y.eqI rfl rfl) rfl rfl rfl ?_
  refine LX.pure (Y.assign rfl) rfl rfl rfl ?_
  refine LX.sub (l' := [(6, _)]) ⟨rfl, trivial⟩ ?_
  refine LX.next ?_
  refine PX.thenN ?_
  refine CX.ret ?_
  refine PX.ret1 (by simp) Tryz.results221 rfl ?_
  exact fun w hw => ⟨(), rfl, hw⟩
theorem op_q {W : World → Prop} [Stab W] {bq : Nat} {al : Option Addr} {cl : Nat} {uv : Value} {l : List Nd} (kz z : Int) (h0 : 0 ≤ kz ∧ kz < l.length) (hq : ∀ w, W w → Cq w w.heap.size bq al cl uv l ndA) : FnQ Tryz.prog 221 #[.pointer (some ⟨bq, 0, none⟩), .int .i64 kz, .int .i64 z] W (.bool (decide ((nd l kz).op = z))) := FnC.quiet fun w hw => op_c kz z h0 (hq w hw)
theorem exprs1_c {w0 : World} {base : Nat} {x : Nd} {cs : List Value}  (hx : ndA (Lies w0 base) cs x) : FnC Tryz.prog 254 #[.agg cs.toArray] (WA w0 base []) (fun _ : Unit => .bool (exprB x.op)) (fun _ => WA w0 base []) := by
  obtain ⟨vk, rfl, hks, hin⟩ := hx
  obtain ⟨ak, ck, rfl, ⟨hkn, hkc⟩, hka⟩ := hks.sl
  refine FnC.of_body (fn := Tryz.f254) [(0, _)] Tryz.func254 rfl Tryz.ntmps254 rfl ⟨rfl, trivial⟩ ?_
  refine CX.seq ?_
  refine CX.region ?_
  refine LX.box rfl rfl rfl rfl rfl ?_
  intro bx0
  refine LX.pure (Y.assign rfl) rfl rfl rfl ?_
  refine LX.sub (l' := [(1, _), (2, _)]) ⟨rfl, rfl, trivial⟩ ?_
  refine LX.next ?_
  refine PX.thenN ?_
  refine CX.seq ?_
  refine CX.region ?_
  refine LX.pure (Y.fieldAddr0 Ft.fo44_0 rfl) rfl rfl rfl ?_
  refine LX.pure (Y.ldB 0 Ft.one3 rfl rfl rfl) rfl rfl rfl ?_
  refine LX.callQ (expr_q _) Ft.en217 rfl rfl rfl rfl rfl ?_
  refine LX.pure (Y.assign rfl) rfl rfl rfl ?_
  refine LX.sub (l' := [(2, _)]) ⟨rfl, trivial⟩ ?_
  refine LX.next ?_
  refine PX.thenN ?_
  refine CX.ret ?_
  refine PX.ret1 (by simp) Tryz.results254 rfl ?_
  exact fun w hw => ⟨(), rfl, hw.drop (List.sublist_cons_self _ _)⟩
theorem exprs1_q {W : World → Prop} [Stab W] {x : Nd} {cs : List Value}  (hx : ∀ w, W w → ndA (Lies w w.heap.size) cs x) : FnQ Tryz.prog 254 #[.agg cs.toArray] W (.bool (exprB x.op)) := FnC.quiet fun w hw => exprs1_c  (hx w hw)
theorem kids1_c {w0 : World} {base : Nat} {x : Nd} {cs : List Value}  (hx : ndA (Lies w0 base) cs x) : FnC Tryz.prog 216 #[.agg cs.toArray] (WA w0 base []) (fun _ : Unit => .bool (exprB x.op || decide (x.op = 15))) (fun _ => WA w0 base []) := by
  obtain ⟨vk, rfl, hks, hin⟩ := hx
  obtain ⟨ak, ck, rfl, ⟨hkn, hkc⟩, hka⟩ := hks.sl
  refine FnC.of_body (fn := Tryz.f216) [(0, _)] Tryz.func216 rfl Tryz.ntmps216 rfl ⟨rfl, trivial⟩ ?_
  refine CX.seq ?_
  refine CX.region ?_
  refine LX.box rfl rfl rfl rfl rfl ?_
  intro bx0
  refine LX.pure (Y.assign rfl) rfl rfl rfl ?_
  refine LX.sub (l' := [(1, _), (2, _)]) ⟨rfl, rfl, trivial⟩ ?_
  refine LX.next ?_
  refine PX.thenN ?_
  refine CX.seq ?_
  refine CX.region ?_
  refine LX.pure (Y.fieldAddr0 Ft.fo44_0 rfl) rfl rfl rfl ?_
  refine LX.pure (Y.ldB 0 Ft.one3 rfl rfl rfl) rfl rfl rfl ?_
  refine LX.callQ (expr_q _) Ft.en217 rfl rfl rfl rfl rfl ?_
  refine LX.pure (Y.move rfl) rfl rfl rfl ?_
  refine LX.sub (l' := [(1, _), (2, _), (6, _)]) ⟨rfl, rfl, rfl, trivial⟩ ?_
  apply LX.joinOr 4 10 6 rfl
  · intro hb1
    have hb1p := hb1
    try simp at hb1p
    refine LX.gF rfl rfl rfl hb1 rfl rfl ?_
    refine LX.gF rfl rfl rfl hb1 rfl rfl ?_
    refine LX.gF rfl rfl rfl hb1 rfl rfl ?_
    refine LX.pure (Y.pickT rfl hb1 rfl) rfl rfl rfl ?_
    exact LX.left ⟨rfl, rfl, rfl, rfl, trivial⟩
  · intro hb1
    have hb1p := hb1
    try simp at hb1p
    refine LX.gT rfl rfl rfl hb1 (Y.fieldAddr0 Ft.fo44_0 rfl) rfl rfl ?_
    refine LX.gT rfl rfl rfl hb1 (Y.ldB 0 Ft.one3 rfl rfl rfl) rfl rfl ?_
    refine LX.gT rfl rfl rfl hb1 (Y.eqI rfl rfl) rfl rfl ?_
    refine LX.pure (Y.pickF rfl hb1 rfl) rfl rfl rfl ?_
    exact LX.left ⟨rfl, rfl, rfl, rfl, trivial⟩
  refine LX.pure (Y.assign rfl) rfl rfl rfl ?_
  refine LX.sub (l' := [(2, _)]) ⟨rfl, trivial⟩ ?_
  refine LX.next ?_
  refine PX.thenN ?_
  refine CX.ret ?_
  refine PX.ret1 (by simp) Tryz.results216 rfl ?_
  exact fun w hw => ⟨(), rfl, hw.drop (List.sublist_cons_self _ _)⟩
theorem kids1_q {W : World → Prop} [Stab W] {x : Nd} {cs : List Value}  (hx : ∀ w, W w → ndA (Lies w w.heap.size) cs x) : FnQ Tryz.prog 216 #[.agg cs.toArray] W (.bool (exprB x.op || decide (x.op = 15))) := FnC.quiet fun w hw => kids1_c  (hx w hw)
theorem kids2_c {w0 : World} {base : Nat} {x : Nd} {cs : List Value}  (hx : ndA (Lies w0 base) cs x) : FnC Tryz.prog 220 #[.agg cs.toArray] (WA w0 base []) (fun _ : Unit => .bool (decide (x.op = 46))) (fun _ => WA w0 base []) := by
  obtain ⟨vk, rfl, hks, hin⟩ := hx
  obtain ⟨ak, ck, rfl, ⟨hkn, hkc⟩, hka⟩ := hks.sl
  refine FnC.of_body (fn := Tryz.f220) [(0, _)] Tryz.func220 rfl Tryz.ntmps220 rfl ⟨rfl, trivial⟩ ?_
  refine CX.seq ?_
  refine CX.region ?_
  refine LX.box rfl rfl rfl rfl rfl ?_
  intro bx0
  refine LX.pure (Y.assign rfl) rfl rfl rfl ?_
  refine LX.sub (l' := [(1, _), (2, _)]) ⟨rfl, rfl, trivial⟩ ?_
  refine LX.next ?_
  refine PX.thenN ?_
  refine CX.seq ?_
  refine CX.region ?_
  refine LX.pure (Y.fieldAddr0 Ft.fo44_0 rfl) rfl rfl rfl ?_
  refine LX.pure (Y.ldB 0 Ft.one3 rfl rfl rfl) rfl rfl rfl ?_
  refine LX.pure (Y.eqI rfl rfl) rfl rfl rfl ?_
  refine LX.pure (Y.assign rfl) rfl rfl rfl ?_
  refine LX.sub (l' := [(2, _)]) ⟨rfl, trivial⟩ ?_
  refine LX.next ?_
  refine PX.thenN ?_
  refine CX.ret ?_
  refine PX.ret1 (by simp) Tryz.results220 rfl ?_
  exact fun w hw => ⟨(), rfl, hw.drop (List.sublist_cons_self _ _)⟩
theorem kids2_q {W : World → Prop} [Stab W] {x : Nd} {cs : List Value}  (hx : ∀ w, W w → ndA (Lies w w.heap.size) cs x) : FnQ Tryz.prog 220 #[.agg cs.toArray] W (.bool (decide (x.op = 46))) := FnC.quiet fun w hw => kids2_c  (hx w hw)
theorem kids3_c {w0 : World} {base : Nat} {x : Nd} {cs : List Value}  (hx : ndA (Lies w0 base) cs x) : FnC Tryz.prog 222 #[.agg cs.toArray] (WA w0 base []) (fun _ : Unit => .bool (stmtB x.op)) (fun _ => WA w0 base []) := by
  obtain ⟨vk, rfl, hks, hin⟩ := hx
  obtain ⟨ak, ck, rfl, ⟨hkn, hkc⟩, hka⟩ := hks.sl
  refine FnC.of_body (fn := Tryz.f222) [(0, _)] Tryz.func222 rfl Tryz.ntmps222 rfl ⟨rfl, trivial⟩ ?_
  refine CX.seq ?_
  refine CX.region ?_
  refine LX.box rfl rfl rfl rfl rfl ?_
  intro bx0
  refine LX.pure (Y.assign rfl) rfl rfl rfl ?_
  refine LX.sub (l' := [(1, _), (2, _)]) ⟨rfl, rfl, trivial⟩ ?_
  refine LX.next ?_
  refine PX.thenN ?_
  refine CX.seq ?_
  refine CX.region ?_
  refine LX.pure (Y.fieldAddr0 Ft.fo44_0 rfl) rfl rfl rfl ?_
  refine LX.pure (Y.ldB 0 Ft.one3 rfl rfl rfl) rfl rfl rfl ?_
  refine LX.callQ (stmt_q _) Ft.en223 rfl rfl rfl rfl rfl ?_
  refine LX.pure (Y.assign rfl) rfl rfl rfl ?_
  refine LX.sub (l' := [(2, _)]) ⟨rfl, trivial⟩ ?_
  refine LX.next ?_
  refine PX.thenN ?_
  refine CX.ret ?_
  refine PX.ret1 (by simp) Tryz.results222 rfl ?_
  exact fun w hw => ⟨(), rfl, hw.drop (List.sublist_cons_self _ _)⟩
theorem kids3_q {W : World → Prop} [Stab W] {x : Nd} {cs : List Value}  (hx : ∀ w, W w → ndA (Lies w w.heap.size) cs x) : FnQ Tryz.prog 222 #[.agg cs.toArray] W (.bool (stmtB x.op)) := FnC.quiet fun w hw => kids3_c  (hx w hw)
theorem more1_c {w0 : World} {base : Nat} {x : Nd} {cs : List Value}  (hx : ndA (Lies w0 base) cs x) : FnC Tryz.prog 255 #[.agg cs.toArray] (WA w0 base []) (fun _ : Unit => .bool (decide (x.op = 47))) (fun _ => WA w0 base []) := by
  obtain ⟨vk, rfl, hks, hin⟩ := hx
  obtain ⟨ak, ck, rfl, ⟨hkn, hkc⟩, hka⟩ := hks.sl
  refine FnC.of_body (fn := Tryz.f255) [(0, _)] Tryz.func255 rfl Tryz.ntmps255 rfl ⟨rfl, trivial⟩ ?_
  refine CX.seq ?_
  refine CX.region ?_
  refine LX.box rfl rfl rfl rfl rfl ?_
  intro bx0
  refine LX.pure (Y.assign rfl) rfl rfl rfl ?_
  refine LX.sub (l' := [(1, _), (2, _)]) ⟨rfl, rfl, trivial⟩ ?_
  refine LX.next ?_
  refine PX.thenN ?_
  refine CX.seq ?_
  refine CX.region ?_
  refine LX.pure (Y.fieldAddr0 Ft.fo44_0 rfl) rfl rfl rfl ?_
  refine LX.pure (Y.ldB 0 Ft.one3 rfl rfl rfl) rfl rfl rfl ?_
  refine LX.pure (Y.eqI rfl rfl) rfl rfl rfl ?_
  refine LX.pure (Y.assign rfl) rfl rfl rfl ?_
  refine LX.sub (l' := [(2, _)]) ⟨rfl, trivial⟩ ?_
  refine LX.next ?_
  refine PX.thenN ?_
  refine CX.ret ?_
  refine PX.ret1 (by simp) Tryz.results255 rfl ?_
  exact fun w hw => ⟨(), rfl, hw.drop (List.sublist_cons_self _ _)⟩
theorem more1_q {W : World → Prop} [Stab W] {x : Nd} {cs : List Value}  (hx : ∀ w, W w → ndA (Lies w w.heap.size) cs x) : FnQ Tryz.prog 255 #[.agg cs.toArray] W (.bool (decide (x.op = 47))) := FnC.quiet fun w hw => more1_c  (hx w hw)
theorem all_c {w0 : World} {base : Nat} {bq : Nat} {al : Option Addr} {cl : Nat} {uv : Value} {l : List Nd} (i : Nat) (hi : i ≤ l.length) {ak : Option Addr} (ck : Nat) {ks : List Int} (hkn : ks.length ≤ 9223372036854775807) (hr : ∀ k ∈ ks, 0 ≤ k ∧ k < (i : Int)) (g : FuncId) (fst : Array Value) (Bf : Nd → Bool)  (hq : Cq w0 base bq al cl uv l ndA) (hk : SlAt 1 intA (Lies w0 base) ak ks) (hg : ClosOk w0 base Tryz.prog g fst l i Bf ndA) : FnC Tryz.prog 215 #[.pointer (some ⟨bq, 0, none⟩), .slice ak ks.length ck, .func (.func g) fst #[]] (WA w0 base []) (fun _ : Unit => .bool (allB l Bf ks)) (fun _ => WA w0 base []) := by
  refine FnC.of_body (fn := Tryz.f215) [(0, _), (1, _), (2, _)] Tryz.func215 rfl Tryz.ntmps215 rfl ⟨rfl, rfl, rfl, trivial⟩ ?_
  refine CX.seq ?_
  refine CX.region ?_
  refine LX.pure (Y.assign rfl) rfl rfl rfl ?_
  refine LX.sub (l' := [(0, _), (1, _), (2, _), (6, _)]) ⟨rfl, rfl, rfl, rfl, trivial⟩ ?_
  refine LX.next ?_
  refine PX.thenN ?_
  refine CX.seq ?_
  refine CX.seq ?_
  refine CX.region ?_
  refine LX.pure (Y.move rfl) rfl rfl rfl ?_
  refine LX.pure (Y.lenSl rfl Ft.un42 rfl) rfl rfl rfl ?_
  refine LX.pure (Y.move rfl) rfl rfl rfl ?_
  refine LX.sub (l' := [(0, _), (2, _), (6, _), (9, _), (10, _), (11, _)]) ⟨rfl, rfl, rfl, rfl, rfl, rfl, trivial⟩ ?_
  refine LX.next ?_
  refine PX.thenN ?_
  refine CX.block ?_
  refine CX.loop (fun j : Nat => [(0, .pointer (some ⟨bq, 0, none⟩)), (2, .func (.func g) fst #[]), (9, .slice ak ks.length ck), (10, .int .i64 (ks.length : Int)), (11, .int .i64 (j : Int))]) (fun (j : Nat) w => (j ≤ ks.length ∧ allB l Bf (ks.drop j) = allB l Bf ks) ∧ WA w0 base [] w) (fun j => ks.length - j) 0 ⟨rfl, rfl, rfl, rfl, rfl, trivial⟩ (fun w hw => ⟨⟨Nat.zero_le _, rfl⟩, hw⟩) ?_
  intro j
  refine CX.have fun ⟨hj0, hall⟩ => ?_
  try dsimp only at hj0 hall ⊢
  refine CX.seq ?_
  refine CX.region ?_
  refine LX.pure (Y.ltN rfl rfl) rfl rfl rfl ?_
  refine LX.sub (l' := [(0, _), (2, _), (9, _), (10, _), (11, _), (12, _)]) ⟨rfl, rfl, rfl, rfl, rfl, rfl, trivial⟩ ?_
  refine LX.next ?_
  refine PX.thenN ?_
  refine CX.seq ?_
  refine CX.cond rfl (fun hb1 => ?_) (fun hb1 => ?_)
  · try simp at hb1
    have hj : j < ks.length := by omega
    obtain ⟨a0, hav0, hL0, hin0⟩ := hk.int_at hj
    have hrj := hr _ (getD_mem hj)
    obtain ⟨k, hkz⟩ : ∃ k : Nat, ks.getD j 0 = (k : Int) := ⟨(ks.getD j 0).toNat, by omega⟩
    have hkl : k < l.length := by omega
    obtain ⟨x, hx⟩ : ∃ x, l[k]? = some x := ⟨_, List.getElem?_eq_getElem hkl⟩
    obtain ⟨a, cs, hav, hcl, hL, hnx⟩ := hq.nodes k x hx
    have hnd : nd l (ks.getD j 0) = x := by rw [hkz]; exact nd_at hx
    refine CX.skip ?_
    refine PX.thenN ?_
    refine CX.seq ?_
    refine CX.block ?_
    refine CX.seq ?_
    refine CX.region ?_
    refine LX.pure (Y.idxZ Ft.un42 Ft.sz3 rfl rfl hav0 (j := j) rfl hj) rfl rfl rfl ?_
    refine LX.pure (Y.ldO1 Ft.one3 rfl hL0) rfl rfl rfl ?_
    refine LX.pure (Y.assign rfl) rfl rfl rfl ?_
    refine LX.sub (l' := [(0, _), (2, _), (8, _), (9, _), (10, _), (11, _)]) ⟨rfl, rfl, rfl, rfl, rfl, rfl, trivial⟩ ?_
    refine LX.next ?_
    refine PX.thenN ?_
    refine CX.seq ?_
    refine CX.region ?_
    refine LX.pure (Y.move rfl) rfl rfl rfl ?_
    refine LX.pure (Y.move rfl) rfl rfl rfl ?_
    refine LX.pure (Y.nilCheck rfl) rfl rfl rfl ?_
    refine LX.pure (Y.fieldAddr0 Ft.fo208_0 rfl) rfl rfl rfl ?_
    refine LX.pure (Y.ldB0 Ft.one22 rfl hq.blk rfl) rfl rfl rfl ?_
    refine LX.pure (Y.move rfl) rfl rfl rfl ?_
    refine LX.pure (Y.idxZ Ft.un22 Ft.sz44 rfl rfl hav (j := k) hkz hkl) rfl rfl rfl ?_
    refine LX.pure (Y.ldAO (cs := cs) Ft.ag44 rfl hL hcl) rfl rfl rfl ?_
    refine LX.callV (FnQ.toC (hg.does _ k x cs hx (by omega) hnx)) hg.ent rfl rfl rfl rfl rfl rfl ?_
    intro _
    refine LX.pure (Y.not rfl) rfl rfl rfl ?_
    refine LX.sub (l' := [(0, _), (2, _), (9, _), (10, _), (11, _), (24, _)]) ⟨rfl, rfl, rfl, rfl, rfl, rfl, trivial⟩ ?_
    refine LX.next ?_
    refine PX.thenN ?_
    refine CX.cond rfl (fun hb2 => ?_) (fun hb2 => ?_)
    · try simp at hb2
      refine CX.seq ?_
      refine CX.region ?_
      refine LX.pure (Y.assign rfl) rfl rfl rfl ?_
      refine LX.sub (l' := [(0, _), (2, _), (6, _), (9, _), (10, _), (11, _)]) ⟨rfl, rfl, rfl, rfl, rfl, rfl, trivial⟩ ?_
      refine LX.next ?_
      refine PX.thenN ?_
      refine CX.ret ?_
      refine PX.blockR ?_
      refine PX.thenR ?_
      refine PX.thenR ?_
      refine PX.blockR ?_
      refine PX.thenR ?_
      refine PX.ret1 (by simp) Tryz.results215 rfl ?_
      exact fun w hw => ⟨(), by rw [← hall, allB_drop hj, hnd, show Bf x = false by assumption]; rfl, hw⟩
    · try simp at hb2
      refine CX.skip ?_
      refine PX.blockN ?_
      refine PX.thenN ?_
      refine CX.region ?_
      refine LX.pure (Y.addN rfl rfl (by (simp only []; omega))) rfl rfl rfl ?_
      refine LX.pure (Y.move rfl) rfl rfl rfl ?_
      refine LX.sub (l' := [(0, _), (2, _), (9, _), (10, _), (11, _)]) ⟨rfl, rfl, rfl, rfl, rfl, trivial⟩ ?_
      refine LX.next ?_
      exact PX.again (L := (fun j : Nat => [(0, .pointer (some ⟨bq, 0, none⟩)), (2, .func (.func g) fst #[]), (9, .slice ak ks.length ck), (10, .int .i64 (ks.length : Int)), (11, .int .i64 (j : Int))])) (WW := (fun (j : Nat) w => (j ≤ ks.length ∧ allB l Bf (ks.drop j) = allB l Bf ks) ∧ WA w0 base [] w)) (μ := fun j => ks.length - j) (i := j) (j + 1) (by show ks.length - (j + 1) < ks.length - j; omega) ⟨rfl, rfl, rfl, rfl, rfl, trivial⟩ (fun w hw => ⟨⟨by omega, by rw [← hall, allB_drop hj, hnd, show Bf x = true by assumption]; rfl⟩, hw⟩)
  · try simp at hb1
    have hje : j = ks.length := by omega
    refine CX.exit ?_
    refine PX.thenE ?_
    refine PX.thenE ?_
    refine PX.blockE ?_
    refine PX.thenN ?_
    refine CX.seq ?_
    refine CX.region ?_
    refine LX.pure (Y.assign rfl) rfl rfl rfl ?_
    refine LX.sub (l' := [(6, _)]) ⟨rfl, trivial⟩ ?_
    refine LX.next ?_
    refine PX.thenN ?_
    refine CX.ret ?_
    refine PX.ret1 (by simp) Tryz.results215 rfl ?_
    exact fun w hw => ⟨(), by rw [← hall, drop_end hje]; rfl, hw⟩
theorem all_q {W : World → Prop} [Stab W] {bq : Nat} {al : Option Addr} {cl : Nat} {uv : Value} {l : List Nd} (i : Nat) (hi : i ≤ l.length) {ak : Option Addr} (ck : Nat) {ks : List Int} (hkn : ks.length ≤ 9223372036854775807) (hr : ∀ k ∈ ks, 0 ≤ k ∧ k < (i : Int)) (g : FuncId) (fst : Array Value) (Bf : Nd → Bool)  (hq : ∀ w, W w → Cq w w.heap.size bq al cl uv l ndA) (hk : ∀ w, W w → SlAt 1 intA (Lies w w.heap.size) ak ks) (hg : ∀ w, W w → ClosOk w w.heap.size Tryz.prog g fst l i Bf ndA) : FnQ Tryz.prog 215 #[.pointer (some ⟨bq, 0, none⟩), .slice ak ks.length ck, .func (.func g) fst #[]] W (.bool (allB l Bf ks)) := FnC.quiet fun w hw => all_c i hi ck hkn hr g fst Bf (hq w hw) (hk w hw) (hg w hw)
theorem exprs_c {w0 : World} {base : Nat} {bq : Nat} {al : Option Addr} {cl : Nat} {uv : Value} {l : List Nd} (i : Nat) (hi : i ≤ l.length) {ak : Option Addr} (ck : Nat) {ks : List Int} (hkn : ks.length ≤ 9223372036854775807) (hr : ∀ k ∈ ks, 0 ≤ k ∧ k < (i : Int)) (lo hi2 : Int)  (hq : Cq w0 base bq al cl uv l ndA) (hk : SlAt 1 intA (Lies w0 base) ak ks) : FnC Tryz.prog 213 #[.pointer (some ⟨bq, 0, none⟩), .slice ak ks.length ck, .int .i64 lo, .int .i64 hi2] (WA w0 base []) (fun _ : Unit => .bool (exprs l ks lo hi2)) (fun _ => WA w0 base []) := by
  refine FnC.of_body (fn := Tryz.f213) [(0, _), (1, _), (2, _), (3, _)] Tryz.func213 rfl Tryz.ntmps213 rfl ⟨rfl, rfl, rfl, rfl, trivial⟩ ?_
  refine CX.seq ?_
  refine CX.region ?_
  refine LX.pure (Y.assign rfl) rfl rfl rfl ?_
  refine LX.sub (l' := [(0, _), (1, _), (2, _), (3, _), (8, _)]) ⟨rfl, rfl, rfl, rfl, rfl, trivial⟩ ?_
  refine LX.next ?_
  refine PX.thenN ?_
  refine CX.seq ?_
  refine CX.region ?_
  refine LX.pure (Y.move rfl) rfl rfl rfl ?_
  refine LX.pure (Y.lenSl rfl Ft.un42 rfl) rfl rfl rfl ?_
  refine LX.pure (Y.move rfl) rfl rfl rfl ?_
  refine LX.pure (Y.geI rfl rfl) rfl rfl rfl ?_
  refine LX.pure (Y.move rfl) rfl rfl rfl ?_
  refine LX.sub (l' := [(0, _), (1, _), (3, _), (8, _), (13, _)]) ⟨rfl, rfl, rfl, rfl, rfl, trivial⟩ ?_
  apply LX.joinAnd 5 18 13 rfl
  · intro hb1
    have hb1p := hb1
    try simp at hb1p
    refine LX.gT rfl rfl rfl hb1 (Y.move rfl) rfl rfl ?_
    refine LX.gT rfl rfl rfl hb1 (Y.lenSl rfl Ft.un42 rfl) rfl rfl ?_
    refine LX.gT rfl rfl rfl hb1 (Y.move rfl) rfl rfl ?_
    refine LX.gT rfl rfl rfl hb1 (Y.leI rfl rfl) rfl rfl ?_
    refine LX.pure (Y.pickT rfl hb1 rfl) rfl rfl rfl ?_
    exact LX.left ⟨rfl, rfl, rfl, rfl, rfl, rfl, trivial⟩
  · intro hb1
    have hb1p := hb1
    try simp at hb1p
    refine LX.gF rfl rfl rfl hb1 rfl rfl ?_
    refine LX.gF rfl rfl rfl hb1 rfl rfl ?_
    refine LX.gF rfl rfl rfl hb1 rfl rfl ?_
    refine LX.gF rfl rfl rfl hb1 rfl rfl ?_
    refine LX.pure (Y.pickF rfl hb1 rfl) rfl rfl rfl ?_
    exact LX.left ⟨rfl, rfl, rfl, rfl, rfl, rfl, trivial⟩
  refine LX.pure (Y.move rfl) rfl rfl rfl ?_
  refine LX.sub (l' := [(0, _), (1, _), (8, _), (19, _)]) ⟨rfl, rfl, rfl, rfl, trivial⟩ ?_
  apply LX.joinAnd 4 23 19 rfl
  · intro hb2
    have hb2p := hb2
    try simp at hb2p
    refine LX.gT rfl rfl rfl hb2 (Y.move rfl) rfl rfl ?_
    refine LX.gT rfl rfl rfl hb2 (Y.move rfl) rfl rfl ?_
    refine LX.callQT rfl rfl rfl hb2 (all_q i hi ck hkn hr _ #[] (fun x => exprB x.op) (fun w hw => hq.push hw) (fun w hw => hk.push hw) (fun w hw => ⟨Ft.en254, fun its k x cs hx hi hn => exprs1_q (fun w hw => Kept.mono (fun _ _ h => h.push hw) hn)⟩)) Ft.en215 rfl rfl rfl rfl ?_
    refine LX.pure (Y.pickT rfl hb2 rfl) rfl rfl rfl ?_
    exact LX.left ⟨rfl, rfl, rfl, rfl, rfl, trivial⟩
  · intro hb2
    have hb2p := hb2
    try simp at hb2p
    refine LX.gF rfl rfl rfl hb2 rfl rfl ?_
    refine LX.gF rfl rfl rfl hb2 rfl rfl ?_
    refine LX.gF rfl rfl rfl hb2 rfl rfl ?_
    refine LX.pure (Y.pickF rfl hb2 rfl) rfl rfl rfl ?_
    exact LX.left ⟨rfl, rfl, rfl, rfl, rfl, trivial⟩
  refine LX.pure (Y.assign rfl) rfl rfl rfl ?_
  refine LX.sub (l' := [(8, _)]) ⟨rfl, trivial⟩ ?_
  refine LX.next ?_
  refine PX.thenN ?_
  refine CX.ret ?_
  refine PX.ret1 (by simp) Tryz.results213 rfl ?_
  exact fun w hw => ⟨(), rfl, hw⟩
theorem exprs_q {W : World → Prop} [Stab W] {bq : Nat} {al : Option Addr} {cl : Nat} {uv : Value} {l : List Nd} (i : Nat) (hi : i ≤ l.length) {ak : Option Addr} (ck : Nat) {ks : List Int} (hkn : ks.length ≤ 9223372036854775807) (hr : ∀ k ∈ ks, 0 ≤ k ∧ k < (i : Int)) (lo hi2 : Int)  (hq : ∀ w, W w → Cq w w.heap.size bq al cl uv l ndA) (hk : ∀ w, W w → SlAt 1 intA (Lies w w.heap.size) ak ks) : FnQ Tryz.prog 213 #[.pointer (some ⟨bq, 0, none⟩), .slice ak ks.length ck, .int .i64 lo, .int .i64 hi2] W (.bool (exprs l ks lo hi2)) := FnC.quiet fun w hw => exprs_c i hi ck hkn hr lo hi2 (hq w hw) (hk w hw)
end Go.Proofs.YtgijpgkckiknjaaGreatDoor
