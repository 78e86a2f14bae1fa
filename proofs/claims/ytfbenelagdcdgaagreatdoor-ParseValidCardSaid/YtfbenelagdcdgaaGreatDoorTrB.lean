/-
  Proved here: what may be assigned to; what is loaded.
-/
import Derived.Test.YtfbenelagdcdgaaGreatDoorTrA
namespace Go.Proofs.YtfbenelagdcdgaaGreatDoor
open Go.SX Go.RowKit Go.Tr
namespace Fu
theorem en170 : Enters Tryz.prog 170 := Enters.of Tryz.func170 (by kernel_rfl) (by kernel_rfl)
theorem en173 : Enters Tryz.prog 173 := Enters.of Tryz.func173 (by kernel_rfl) (by kernel_rfl)
theorem fa32_4 : FieldOffA Tryz.prog 32 4 4 := fun a w => by kernel_rfl
theorem fo32_4 : FieldOff Tryz.prog 32 4 4 := fun b o w => by kernel_rfl
theorem one30 : One Tryz.prog 30 := fun w => by kernel_rfl
theorem zv32 : ∀ w, (zeroValue 32).run Tryz.prog w = .ok (.agg #[.int .i64 0, .int .i64 0, .int .i64 0, .string ⟨#[]⟩, .slice none 0 0]) w := fun w => by kernel_rfl
end Fu
theorem loaded_c {w0 : World} {base : Nat} {bq : Nat} {al : Option Addr} {cl : Nat} {uv : Value} {l : List Nd} (i : Nat) (hi : i ≤ l.length) {x : Nd} {cs : List Value} (hr : ∀ k ∈ x.kids, 0 ≤ k ∧ k < (i : Int))  (hq : Cq w0 base bq al cl uv l ndA) (hx : ndA (Lies w0 base) cs x) : FnC Tryz.prog 171 #[.pointer (some ⟨bq, 0, none⟩), .agg cs.toArray] (WA w0 base []) (fun _ : Unit => .bool (loadedB l x)) (fun _ => WA w0 base []) := by
  obtain ⟨vk, rfl, hks, hin⟩ := hx
  obtain ⟨ak, ck, rfl, ⟨hkn, hkc⟩, hka⟩ := hks.sl
  refine FnC.of_body (fn := Tryz.f171) [(0, _), (1, _)] Tryz.func171 rfl Tryz.ntmps171 rfl ⟨rfl, rfl, trivial⟩ ?_
  refine CX.seq <| CX.region <| LX.box rfl rfl rfl rfl rfl ?_
  intro bx0
  refine LX.pure (Y.assign rfl) rfl rfl rfl <| LX.sub (l' := [(0, _), (3, _), (4, _)]) ⟨rfl, rfl, rfl, trivial⟩ <| LX.next <| PX.thenN <| CX.seq <| CX.region <| LX.pure (Y.fieldAddr0 Ft.fo32_0 rfl) rfl rfl rfl <| LX.pure (Y.ldB 0 Ft.one3 rfl rfl rfl) rfl rfl rfl <| LX.pure (Y.eqI rfl rfl) rfl rfl rfl <| LX.pure (Y.move rfl) rfl rfl rfl <| LX.sub (l' := [(0, _), (3, _), (4, _), (8, _)]) ⟨rfl, rfl, rfl, rfl, trivial⟩ ?_
  apply LX.joinAnd 5 13 8 rfl
  · intro hb1
    have hb1p := hb1
    try simp at hb1p
    refine LX.gT rfl rfl rfl hb1 (Y.fieldAddr0 Fu.fo32_4 rfl) rfl rfl <| LX.gT rfl rfl rfl hb1 (Y.ldB 0 Fu.one30 rfl rfl rfl) rfl rfl <| LX.gT rfl rfl rfl hb1 (Y.lenSl rfl Ft.un30 rfl) rfl rfl <| LX.gT rfl rfl rfl hb1 (Y.eqN rfl rfl) rfl rfl <| LX.pure (Y.pickT rfl hb1 rfl) rfl rfl rfl ?_
    exact LX.left ⟨rfl, rfl, rfl, rfl, rfl, trivial⟩
  · intro hb1
    have hb1p := hb1
    try simp at hb1p
    refine LX.gF rfl rfl rfl hb1 rfl rfl <| LX.gF rfl rfl rfl hb1 rfl rfl <| LX.gF rfl rfl rfl hb1 rfl rfl <| LX.gF rfl rfl rfl hb1 rfl rfl <| LX.pure (Y.pickF rfl hb1 rfl) rfl rfl rfl ?_
    exact LX.left ⟨rfl, rfl, rfl, rfl, rfl, trivial⟩
  refine LX.pure (Y.move rfl) rfl rfl rfl <| LX.sub (l' := [(0, _), (3, _), (4, _), (14, _)]) ⟨rfl, rfl, rfl, rfl, trivial⟩ ?_
  apply LX.joinAnd 7 21 14 rfl
  · intro hb2
    have hb2p := hb2
    try simp at hb2p
    refine LX.gT rfl rfl rfl hb2 (Y.move rfl) rfl rfl <| LX.gT rfl rfl rfl hb2 (Y.fieldAddr0 Fu.fo32_4 rfl) rfl rfl <| LX.gT rfl rfl rfl hb2 (Y.ldB 0 Fu.one30 rfl rfl rfl) rfl rfl ?_
    obtain ⟨a0, hav0, hL0, _⟩ := hka.int_at (j := 0) (by omega)
    have hr0 := hr _ (getD_mem (j := 0) (by omega))
    refine LX.gT rfl rfl rfl hb2 (Y.idxZ Ft.un30 Ft.sz3 rfl rfl hav0 (j := 0) rfl (by omega)) rfl rfl <| LX.gT rfl rfl rfl hb2 (Y.ldO1 (v := .int .i64 (x.kids.getD 0 0)) Ft.one3 rfl hL0) rfl rfl <| LX.callQT rfl rfl rfl hb2 (op_q _ _ (⟨hr0.1, by omega⟩) (fun w hw => hq.push hw)) Fu.en173 rfl rfl rfl rfl <| LX.pure (Y.pickT rfl hb2 rfl) rfl rfl rfl ?_
    exact LX.left ⟨rfl, rfl, rfl, rfl, rfl, trivial⟩
  · intro hb2
    have hb2p := hb2
    try simp at hb2p
    refine LX.gF rfl rfl rfl hb2 rfl rfl <| LX.gF rfl rfl rfl hb2 rfl rfl <| LX.gF rfl rfl rfl hb2 rfl rfl <| LX.gF rfl rfl rfl hb2 rfl rfl <| LX.gF rfl rfl rfl hb2 rfl rfl <| LX.gF rfl rfl rfl hb2 rfl rfl <| LX.pure (Y.pickF rfl hb2 rfl) rfl rfl rfl ?_
    exact LX.left ⟨rfl, rfl, rfl, rfl, rfl, trivial⟩
  refine LX.pure (Y.assign rfl) rfl rfl rfl <| LX.sub (l' := [(4, _)]) ⟨rfl, trivial⟩ <| LX.next <| PX.thenN <| CX.ret <| PX.ret1 (by simp) Tryz.results171 rfl ?_
  exact fun w hw => ⟨(), rfl, hw.drop (List.sublist_cons_self _ _)⟩
theorem loaded_q {W : World → Prop} [Stab W] {bq : Nat} {al : Option Addr} {cl : Nat} {uv : Value} {l : List Nd} (i : Nat) (hi : i ≤ l.length) {x : Nd} {cs : List Value} (hr : ∀ k ∈ x.kids, 0 ≤ k ∧ k < (i : Int))  (hq : ∀ w, W w → Cq w w.heap.size bq al cl uv l ndA) (hx : ∀ w, W w → ndA (Lies w w.heap.size) cs x) : FnQ Tryz.prog 171 #[.pointer (some ⟨bq, 0, none⟩), .agg cs.toArray] W (.bool (loadedB l x)) := FnC.quiet fun w hw => loaded_c i hi hr (hq w hw) (hx w hw)
theorem target_s {w0 : World} {base : Nat} {bq : Nat} {al : Option Addr} {cl : Nat} {uv : Value} {l : List Nd} (n i : Nat) (hA : Ahead l i) (ih : ∀ its (kz : Int), 0 ≤ kz → kz < i → kz < n → FnQ Tryz.prog 170 #[.pointer (some ⟨bq, 0, none⟩), .int .i64 kz] (WA w0 base its) (.bool (target l n kz))) (kz : Int) (h0 : 0 ≤ kz ∧ kz < l.length) (hn : kz < i ∧ kz < (n : Int) + 1) (hq : Cq w0 base bq al cl uv l ndA) : FnC Tryz.prog 170 #[.pointer (some ⟨bq, 0, none⟩), .int .i64 kz] (WA w0 base []) (fun _ : Unit => .bool (target l (n + 1) kz)) (fun _ => WA w0 base []) := by
  obtain ⟨k, rfl⟩ : ∃ k : Nat, kz = (k : Int) := ⟨kz.toNat, by omega⟩
  have hkl : k < l.length := by omega
  obtain ⟨x, hx⟩ : ∃ x, l[k]? = some x := ⟨_, List.getElem?_eq_getElem hkl⟩
  obtain ⟨a, cs, hav, hcl, hL, vk, rfl, hks, hin⟩ := hq.nodes k x hx
  obtain ⟨ak, ck, rfl, ⟨hkn, hkc⟩, hka⟩ := hks.sl
  have hAk := hA k x (by omega) hx
  refine FnC.of_body (fn := Tryz.f170) [(0, _), (1, _)] Tryz.func170 rfl Tryz.ntmps170 rfl ⟨rfl, rfl, trivial⟩ ?_
  refine CX.seq <| CX.region <| LX.pure (Y.assign rfl) rfl rfl rfl <| LX.sub (l' := [(0, _), (1, _), (4, _)]) ⟨rfl, rfl, rfl, trivial⟩ <| LX.next <| PX.thenN <| CX.seq <| CX.region <| LX.pure (Y.move rfl) rfl rfl rfl <| LX.pure (Y.nilCheck rfl) rfl rfl rfl <| LX.pure (Y.fieldAddr0 Ft.fo89_0 rfl) rfl rfl rfl <| LX.pure (Y.ldB0 Ft.one23 rfl hq.blk rfl) rfl rfl rfl <| LX.pure (Y.move rfl) rfl rfl rfl <| LX.pure (Y.idxZ Ft.un23 Ft.sz32 rfl rfl hav (j := k) rfl hkl) rfl rfl rfl <| LX.pure (Y.ldAO (cs := [.int .i64 x.op, .int .i64 x.n, .int .i64 x.pos, str x.s, .slice ak x.kids.length ck]) Ft.ag32 rfl hL rfl) rfl rfl rfl <| LX.alloc rfl Fu.zv32 rfl rfl rfl ?_
  intro bt
  refine LX.storeA 0 Ft.ag32 rfl rfl rfl rfl rfl rfl rfl rfl rfl <| LX.sub (l' := [(0, _), (4, _), (5, _)]) ⟨rfl, rfl, rfl, trivial⟩ <| LX.next <| PX.thenN <| CX.seq <| CX.seq <| CX.region <| LX.pure (Y.fieldAddr0 Ft.fo32_0 rfl) rfl rfl rfl <| LX.pure (Y.ldB 0 Ft.one3 rfl rfl rfl) rfl rfl rfl <| LX.pure (Y.neI rfl rfl) rfl rfl rfl <| LX.sub (l' := [(0, _), (4, _), (5, _), (17, _)]) ⟨rfl, rfl, rfl, rfl, trivial⟩ <| LX.next <| PX.thenN ?_
  refine CX.cond rfl (fun hb1 => ?_) (fun hb1 => ?_)
  · try simp at hb1
    refine CX.seq <| CX.region <| LX.pure (Y.fieldAddr0 Ft.fo32_0 rfl) rfl rfl rfl <| LX.pure (Y.ldB 0 Ft.one3 rfl rfl rfl) rfl rfl rfl <| LX.pure (Y.eqI rfl rfl) rfl rfl rfl <| LX.pure (Y.move rfl) rfl rfl rfl <| LX.sub (l' := [(0, _), (4, _), (5, _), (21, _)]) ⟨rfl, rfl, rfl, rfl, trivial⟩ ?_
    apply LX.joinOr 4 25 21 rfl
    · intro hb2
      have hb2p := hb2
      try simp at hb2p
      refine LX.gF rfl rfl rfl hb2 rfl rfl <| LX.gF rfl rfl rfl hb2 rfl rfl <| LX.gF rfl rfl rfl hb2 rfl rfl <| LX.pure (Y.pickT rfl hb2 rfl) rfl rfl rfl ?_
      exact LX.left ⟨rfl, rfl, rfl, rfl, rfl, trivial⟩
    · intro hb2
      have hb2p := hb2
      try simp at hb2p
      refine LX.gT rfl rfl rfl hb2 (Y.fieldAddr0 Ft.fo32_0 rfl) rfl rfl <| LX.gT rfl rfl rfl hb2 (Y.ldB 0 Ft.one3 rfl rfl rfl) rfl rfl <| LX.gT rfl rfl rfl hb2 (Y.eqI rfl rfl) rfl rfl <| LX.pure (Y.pickF rfl hb2 rfl) rfl rfl rfl ?_
      exact LX.left ⟨rfl, rfl, rfl, rfl, rfl, trivial⟩
    refine LX.pure (Y.assign rfl) rfl rfl rfl <| LX.sub (l' := [(0, _), (4, _), (5, _)]) ⟨rfl, rfl, rfl, trivial⟩ <| LX.next <| PX.thenN <| CX.ret <| PX.thenR <| PX.ret1 (by simp) Tryz.results170 rfl ?_
    exact fun w hw => ⟨(), by rw [show target l (n + 1) (k : Int) = _ from target_1 hx, if_pos hb1], hw.drop (List.sublist_cons_self _ _)⟩
  try simp at hb1
  refine CX.skip <| PX.thenN <| CX.seq <| CX.seq <| CX.region <| LX.pure (Y.fieldAddr0 Fu.fo32_4 rfl) rfl rfl rfl <| LX.pure (Y.ldB 0 Fu.one30 rfl rfl rfl) rfl rfl rfl <| LX.pure (Y.lenSl rfl Ft.un30 rfl) rfl rfl rfl <| LX.pure (Y.move rfl) rfl rfl rfl <| LX.sub (l' := [(0, _), (4, _), (5, _), (27, _), (28, _), (29, _)]) ⟨rfl, rfl, rfl, rfl, rfl, rfl, trivial⟩ <| LX.next <| PX.thenN <| CX.block <| CX.loop (fun j : Nat => [(0, .pointer (some ⟨bq, 0, none⟩)), (5, .pointer (some ⟨bt, 0, none⟩)), (27, .slice ak x.kids.length ck), (28, .int .i64 (x.kids.length : Int)), (29, .int .i64 (j : Int))]) (fun (j : Nat) w => (j ≤ x.kids.length ∧ (x.kids.drop j).all (target l n) = x.kids.all (target l n)) ∧ WA w0 base [blk bt [.int .i64 x.op, .int .i64 x.n, .int .i64 x.pos, str x.s, .slice ak x.kids.length ck] 32] w) (fun j => x.kids.length - j) 0 ⟨rfl, rfl, rfl, rfl, rfl, trivial⟩ (fun w hw => ⟨⟨Nat.zero_le _, rfl⟩, hw⟩) ?_
  intro j
  refine CX.have fun ⟨hj0, hall⟩ => ?_
  try dsimp only at hj0 hall ⊢
  refine CX.seq <| CX.region <| LX.pure (Y.ltN rfl rfl) rfl rfl rfl <| LX.sub (l' := [(0, _), (5, _), (27, _), (28, _), (29, _), (30, _)]) ⟨rfl, rfl, rfl, rfl, rfl, rfl, trivial⟩ <| LX.next <| PX.thenN <| CX.seq ?_
  refine CX.cond rfl (fun hb3 => ?_) (fun hb3 => ?_)
  · try simp at hb3
    have hj : j < x.kids.length := by omega
    obtain ⟨a0, hav0, hL0, hin0⟩ := hka.int_at hj
    have hrj := hAk _ (getD_mem hj)
    refine CX.skip <| PX.thenN <| CX.seq <| CX.block <| CX.seq <| CX.region <| LX.pure (Y.idxZ Ft.un30 Ft.sz3 rfl rfl hav0 (j := j) rfl hj) rfl rfl rfl <| LX.pure (Y.ldO1 Ft.one3 rfl hL0) rfl rfl rfl <| LX.pure (Y.assign rfl) rfl rfl rfl <| LX.sub (l' := [(0, _), (5, _), (7, _), (27, _), (28, _), (29, _)]) ⟨rfl, rfl, rfl, rfl, rfl, rfl, trivial⟩ <| LX.next <| PX.thenN <| CX.seq <| CX.region <| LX.pure (Y.move rfl) rfl rfl rfl <| LX.pure (Y.move rfl) rfl rfl rfl <| LX.callQ (ih _ _ (by omega) (by omega) (by omega)) Fu.en170 rfl rfl rfl rfl rfl <| LX.pure (Y.not rfl) rfl rfl rfl <| LX.sub (l' := [(0, _), (5, _), (27, _), (28, _), (29, _), (36, _)]) ⟨rfl, rfl, rfl, rfl, rfl, rfl, trivial⟩ <| LX.next <| PX.thenN ?_
    refine CX.cond rfl (fun hb4 => ?_) (fun hb4 => ?_)
    · try simp at hb4
      refine CX.seq <| CX.region <| LX.pure (Y.assign rfl) rfl rfl rfl <| LX.sub (l' := [(0, _), (4, _), (5, _), (27, _), (28, _), (29, _)]) ⟨rfl, rfl, rfl, rfl, rfl, rfl, trivial⟩ <| LX.next <| PX.thenN <| CX.ret <| PX.blockR <| PX.thenR <| PX.thenR <| PX.blockR <| PX.thenR <| PX.ret1 (by simp) Tryz.results170 rfl ?_
      exact fun w hw => ⟨(), by rw [show target l (n + 1) (k : Int) = _ from target_1 hx, if_neg (by omega), ← hall, all_drop hj, show target l n (x.kids.getD j 0) = false by assumption]; rfl, hw.drop (List.sublist_cons_self _ _)⟩
    try simp at hb4
    refine CX.skip <| PX.blockN <| PX.thenN <| CX.region <| LX.pure (Y.addN rfl rfl (by (simp only []; omega))) rfl rfl rfl <| LX.pure (Y.move rfl) rfl rfl rfl <| LX.sub (l' := [(0, _), (5, _), (27, _), (28, _), (29, _)]) ⟨rfl, rfl, rfl, rfl, rfl, trivial⟩ <| LX.next ?_
    exact PX.again (μ := fun j => x.kids.length - j) (i := j) (j + 1) (by show x.kids.length - (j + 1) < x.kids.length - j; omega) ⟨rfl, rfl, rfl, rfl, rfl, trivial⟩ (fun w hw => ⟨⟨by omega, by rw [← hall, all_drop hj, show target l n (x.kids.getD j 0) = true by assumption]; rfl⟩, hw⟩)
  try simp at hb3
  have hje : j = x.kids.length := by omega
  refine CX.exit <| PX.thenE <| PX.thenE <| PX.blockE <| PX.thenN <| CX.seq <| CX.region <| LX.pure (Y.fieldAddr0 Fu.fo32_4 rfl) rfl rfl rfl <| LX.pure (Y.ldB 0 Fu.one30 rfl rfl rfl) rfl rfl rfl <| LX.pure (Y.lenSl rfl Ft.un30 rfl) rfl rfl rfl <| LX.pure (Y.gtN rfl rfl) rfl rfl rfl <| LX.pure (Y.assign rfl) rfl rfl rfl <| LX.sub (l' := [(4, _)]) ⟨rfl, trivial⟩ <| LX.next <| PX.thenN <| CX.ret <| PX.ret1 (by simp) Tryz.results170 rfl ?_
  exact fun w hw => ⟨(), by rw [show target l (n + 1) (k : Int) = _ from target_1 hx, if_neg (by omega), ← hall, drop_end hje]; simp, hw.drop (List.sublist_cons_self _ _)⟩
theorem target_q {bq : Nat} {al : Option Addr} {cl : Nat} {uv : Value} {l : List Nd} (i : Nat) (hA : Ahead l i) (hi : i ≤ l.length) : ∀ (n : Nat) {W : World → Prop} [Stab W] (kz : Int) (_h0 : 0 ≤ kz) (_h1 : kz < i) (_h2 : kz < n) (_hq : ∀ w, W w → Cq w w.heap.size bq al cl uv l ndA), FnQ Tryz.prog 170 #[.pointer (some ⟨bq, 0, none⟩), .int .i64 kz] W (.bool (target l n kz))
  | 0, _, _, kz, h0, _, h2, _ => absurd h2 (by omega)
  | n + 1, W, _, kz, h0, h1, h2, hq => FnC.quiet fun w hw => target_s n i hA (fun its kj hj0 hlt hjn => target_q i hA hi n kj hj0 hlt hjn (fun w' hw' => (hq w hw).push hw')) kz ⟨h0, by omega⟩ ⟨h1, by omega⟩ (hq w hw)
end Go.Proofs.YtfbenelagdcdgaaGreatDoor
