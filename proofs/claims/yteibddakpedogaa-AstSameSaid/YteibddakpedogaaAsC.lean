/-
  Proved here: the document's parser: a node put.
-/
import Derived.Test.YteibddakpedogaaAsB
import Derived.Test.YteibddakpedogaaPaQ
set_option linter.unusedSimpArgs false
namespace Go.Proofs.Yteibddakpedogaa
open Go.SX Go.RowKit Go.Tr Go.As Go.Ck
namespace Pc
theorem ag31 : AggT Try.prog 31 5 := AggT.of (by kernel_rfl) (by kernel_rfl)
theorem en54 : Enters Try.prog 54 := Enters.of Try.func54 (by kernel_rfl) (by kernel_rfl)
theorem fa31_0 : FieldOffA Try.prog 31 0 0 := fun a w => by kernel_rfl
theorem fa31_4 : FieldOffA Try.prog 31 4 4 := fun a w => by kernel_rfl
theorem fa42_2 : FieldOffA Try.prog 42 2 2 := fun a w => by kernel_rfl
theorem fo31_0 : FieldOff Try.prog 31 0 0 := fun b o w => by kernel_rfl
theorem fo31_4 : FieldOff Try.prog 31 4 4 := fun b o w => by kernel_rfl
theorem fo42_2 : FieldOff Try.prog 42 2 2 := fun b o w => by kernel_rfl
theorem one23 : One Try.prog 23 := fun w => by kernel_rfl
theorem one29 : One Try.prog 29 := fun w => by kernel_rfl
theorem sz23 : SizeIs Try.prog 23 1 := fun w => by kernel_rfl
theorem sz31 : SizeIs Try.prog 31 5 := fun w => by kernel_rfl
theorem un23 : Try.prog.underlying 23 = some (.slice 31) := by kernel_rfl
theorem un29 : Try.prog.underlying 29 = some (.slice 3) := by kernel_rfl
theorem zv31 : ∀ w, (zeroValue 31).run Try.prog w = .ok (.agg #[.int .i64 0, .int .i64 0, .int .i64 0, .string ⟨#[]⟩, .slice none 0 0]) w := fun w => by kernel_rfl
theorem el23 : Elem Try.prog 23 31 5 64 := Elem.of un23 (z := .agg #[.int .i64 0, .int .i64 0, .int .i64 0, .string ⟨#[]⟩, .slice none 0 0]) (by kernel_rfl) rfl
end Pc
open Go.Pa (Tk)
theorem perm1 (a c d : It) (rs fr : List It) : (c :: d :: ((a :: rs) ++ fr)).Perm (a :: c :: d :: (rs ++ fr)) := by
  refine perm_cnt fun x => ?_
  simp only [cnt_append, cnt_cons, cnt_nil, List.cons_append]
  omega
theorem in0 : inI 0 := by unfold inI; omega
theorem put_c {w0 : World} {base : Nat} {fr : List It} {bp : Nat} {al : Option Addr} {cl : Nat} {L : List Go.Pa.Tk} (s : RS) (m : Mm) {g : Option Nat} {c : Nat} {ks : List Int} {op pos : Int} {x : List UInt8} (hn : NdsR 3 m.rs m.cells s.ns) (hf : s.code = 0 → s.ns.length ≤ 1000000) (hkl : ks.length ≤ 1000000) (hki : ∀ z ∈ ks, inI z) (ho : inI op) (hp : inI pos) : FnC Try.prog 16 #[.pointer (some ⟨bp, 0, none⟩), .int .i64 op, .int .i64 pos, str x, rv g ks.length c] (WA w0 base (Ri g c ks :: PWl bp al L cl s m fr)) (fun q : Int × RS × Mm => .int .i64 q.1) (fun q w => (inI q.1 ∧ PutR s op pos x ks q.1 q.2.1 ∧ NdsR 3 q.2.2.rs q.2.2.cells q.2.1.ns) ∧ WA w0 base (PWl bp al L cl q.2.1 q.2.2 fr) w) := by
  refine FnC.of_body (fn := Try.f16) [(0, _), (1, _), (2, _), (3, _), (4, _)] Try.func16 rfl Try.ntmps16 rfl ⟨rfl, rfl, rfl, rfl, rfl, trivial⟩ ?_
  refine CX.sr <| LX.mv rfl <| LX.su [0, 1, 2, 3, 4, 10] rfl <| LX.nt <| CX.seq <| CX.sr <| LX.mv rfl <| LX.callQ (bad_q (fun w hw => blkL hw (i := 1) rfl)) Pb.en12 rfl rfl rfl rfl rfl <| LX.su [0, 1, 2, 3, 4, 10, 12] rfl <| LX.nt ?_
  refine CX.cond rfl (fun hb1 => ?_) (fun hb1 => ?_)
  · try simp at hb1
    refine CX.sr <| LX.mv rfl <| LX.su [0, 1, 2, 3, 4, 10] rfl <| LX.nt <| CX.ret <| PX.thenR <| PX.ret1 (by simp) Try.results16 rfl ?_
    exact fun w hw => ⟨(-1, s, m), rfl, ⟨by unfold inI; omega, ⟨fun _ => rfl, fun h => absurd h as_⟩, hn⟩, hw.drop (List.sublist_cons_self _ _)⟩
  try simp at hb1
  have hc0 : s.code = 0 := as_
  have hf0 := hf hc0
  refine CX.skip <| PX.thenN <| CX.sr <| LX.ms 3 rfl <| LX.p (Y.fieldAddr0 Pc.fo42_2 rfl) rfl <| LX.p (Y.ldB 1 Pc.one23 rfl rfl rfl) rfl <| LX.ms 4 rfl <| LX.p (Y.build (v := .agg ([.int .i64 op, .int .i64 0, .int .i64 pos, str x, rv g ks.length c]).toArray) rfl (fun _ => by kernel_rfl)) rfl <| LX.buildSlice (e := 31) (size := 5) rfl rfl (fun _ => by kernel_rfl) rfl dc rfl rfl rfl ?_
  intro gt14
  refine LX.appendRows 3 0 Pc.el23 rfl rfl rfl rfl rfl rfl rfl (by omega) (by omega) rfl rfl rfl ?_
  intro g2 c2
  refine LX.mv rfl <| LX.p (Y.fieldAddr0 Pc.fo42_2 rfl) rfl <| LX.storeB 2 Pc.sz23 rfl rfl rfl rfl rfl rfl rfl rfl <| LX.su [0, 10] rfl <| LX.nt <| CX.sr <| LX.ms 2 rfl <| LX.p (Y.fieldAddr0 Pc.fo42_2 rfl) rfl <| LX.p (Y.ldB 2 Pc.one23 rfl rfl rfl) rfl <| LX.p (Y.lenSl rfl Pc.un23 rfl) rfl <| LX.p (Y.subN rfl rfl (by (simp only []; omega)) (by omega)) rfl <| LX.mv rfl <| LX.su [10] rfl <| LX.nt <| CX.ret <| PX.ret1 (by simp) Try.results16 rfl ?_
  refine fun w hw => ⟨((s.ns.length : Int), s.nod op pos x ks, ⟨g2, c2, m.cells ++ [.int .i64 op, .int .i64 0, .int .i64 pos, str x, rv g ks.length c], Ri g c ks :: m.rs⟩), rfl, ⟨by unfold inI; omega, ⟨fun h => absurd hc0 h, fun _ => ⟨rfl, rfl⟩⟩, ?_⟩, ?_⟩
  · exact hn.put hw (i := 1) rfl hki (by omega) ho hp
  have h1 := (hw.drop (List.sublist_cons_self _ _)).perm (perm1 _ _ _ m.rs fr)
  show WA w0 base (blk bp [.slice al L.length cl, .int .i64 (s.at_ : Int), rv g2 (s.ns ++ [(⟨op, 0, pos, x, ks⟩ : Nd)]).length c2, .int .i64 s.deep, .bool s.df, .bool s.lp, .bool s.tp, .int .i64 s.code, .int .i64 s.pos] 42 :: .row g2 c2 (s.ns ++ [(⟨op, 0, pos, x, ks⟩ : Nd)]).length 31 5 (m.cells ++ [.int .i64 op, .int .i64 0, .int .i64 pos, str x, rv g ks.length c]) :: ((Ri g c ks :: m.rs) ++ fr)) w
  rw [List.length_append]
  exact h1
theorem named_0 {w0 : World} {base : Nat} {bp : Nat} {al : Option Addr} {cl : Nat} {L : List Tk} {s : RS} {m : Mm} {t : Tk} (ht : L[s.at_]? = some t) (hK : Tok6 L)  (hB : Lies w0 base ⟨bp, 0, none⟩ (psC al L.length cl s m)) (hL : SlAt 3 tokA (Lies w0 base) al L) : FnC Try.prog 52 #[.pointer (some ⟨bp, 0, none⟩)] (WA w0 base []) (fun b : Bool => .bool b) (fun b w => (b = true → t.kind = 1 ∧ s.at_ + 2 < L.length) ∧ WA w0 base [] w) := by
  obtain ⟨a0, cs, hav, hcl, hLt, rfl, hin1, hin2⟩ := hL _ _ ht
  have hj : s.at_ < L.length := (List.getElem?_eq_some_iff.1 ht).1
  have hln := hK.len
  let j2 : Nat := if s.at_ + 1 < L.length then s.at_ + 1 else L.length - 1
  have hj2 : j2 < L.length := by show (if s.at_ + 1 < L.length then _ else _) < _; split <;> omega
  have hj2e : (if (L.length : Int) - 1 < (s.at_ : Int) + 1 then (L.length : Int) - 1 else (s.at_ : Int) + 1) = (j2 : Int) := by show _ = ((if s.at_ + 1 < L.length then s.at_ + 1 else L.length - 1 : Nat) : Int); split <;> split <;> omega
  obtain ⟨t2, ht2⟩ : ∃ t2, L[j2]? = some t2 := ⟨_, List.getElem?_eq_getElem hj2⟩
  obtain ⟨a2, cs2, hav2, hcl2, hLt2, rfl, hin3, hin4⟩ := hL _ _ ht2
  refine FnC.of_body (fn := Try.f52) [(0, _)] Try.func52 rfl Try.ntmps52 rfl ⟨rfl, trivial⟩ ?_
  refine CX.sr <| LX.mv rfl <| LX.su [0, 2] rfl <| LX.nt <| CX.seq <| CX.regionM [(0, .anywhere), (1, .anywhere), (2, .anywhere), (3, .held), (4, .anywhere), (5, .anywhere), (6, .anywhere), (7, .held), (8, .held), (9, .anywhere), (10, .anywhere), (11, .anywhere), (12, .held), (13, .held), (14, .held), (15, .held), (16, .held), (17, .held), (18, .alone), (19, .alone)] rfl (by kernel_rfl) <| MX.lift0 (i := 0) rfl (Y.move rfl) rfl rfl rfl <| MX.lift0 (i := 1) rfl (Y.nilCheck rfl) rfl rfl rfl <| MX.lift0 (i := 2) rfl (Y.fieldAddr0 Pa.fo42_0 rfl) rfl rfl rfl <| MX.lift1 (i := 3) (pend' := []) rfl (fun w hw => by exact hw) (Y.ldB0 Pa.one37 rfl hB rfl) rfl rfl rfl (by kernel_rfl) <| MX.lift0 (i := 4) rfl (Y.move rfl) rfl rfl rfl <| MX.lift0 (i := 5) rfl (Y.nilCheck rfl) rfl rfl rfl <| MX.lift0 (i := 6) rfl (Y.fieldAddr0 Pa.fo42_1 rfl) rfl rfl rfl <| MX.lift1 (i := 7) (pend' := [3]) rfl (fun w hw => by exact hw) (Y.ldB0 Pa.one3 rfl hB rfl) rfl rfl rfl (by kernel_rfl) <| MX.lift1 (i := 8) (pend' := [3]) rfl (fun w hw => by exact hw) (Y.add rfl rfl (by omega)) rfl rfl rfl (by kernel_rfl) <| MX.lift0 (i := 9) rfl (Y.move rfl) rfl rfl rfl <| MX.lift0 (i := 10) rfl (Y.nilCheck rfl) rfl rfl rfl <| MX.lift0 (i := 11) rfl (Y.fieldAddr0 Pa.fo42_0 rfl) rfl rfl rfl <| MX.lift1 (i := 12) (pend' := [8, 3]) rfl (fun w hw => by exact hw) (Y.ldB0 Pa.one37 rfl hB rfl) rfl rfl rfl (by kernel_rfl) <| MX.lift1 (i := 13) (pend' := [8, 3]) rfl (fun w hw => by exact hw) (Y.lenSl rfl Pa.un37 rfl) rfl rfl rfl (by kernel_rfl) <| MX.lift1 (i := 14) (pend' := [8, 3]) rfl (fun w hw => by exact hw) (Y.sub rfl rfl (by omega)) rfl rfl rfl (by kernel_rfl) <| MX.lift1 (i := 15) (pend' := [3]) rfl (fun w hw => by exact hw) (Y.min2 rfl rfl) rfl rfl rfl (by kernel_rfl) <| MX.lift1 (i := 16) (pend' := []) rfl (fun w hw => by exact hw) (Y.idxZ Pa.un37 Pa.sz44 rfl rfl hav2 (j := j2) hj2e hj2) rfl rfl rfl (by kernel_rfl) <| MX.lift1 (i := 17) (pend' := []) rfl (fun w hw => by exact hw) (Y.ldAO (cs := [.int .i64 t2.kind, str t2.text, .int .i64 t2.pos]) Pa.ag44 rfl hLt2 rfl) rfl rfl rfl (by kernel_rfl) <| MX.force (i := 18) rfl <| LX.alloc rfl Pa.zv44 rfl rfl rfl ?_
  intro bt3
  refine LX.nextM [17] (by kernel_rfl) (fun _ => (fun w hw => by exact hw.drop (List.sublist_cons_self _ _))) <| MX.force (i := 19) rfl <| LX.storeA 0 Pa.ag44 rfl rfl rfl rfl rfl rfl rfl rfl rfl <| LX.nextM [] (by kernel_rfl) (fun h => absurd rfl h) <| MX.sub (l' := [(0, _), (2, _), (3, _)]) ⟨rfl, rfl, rfl, trivial⟩ <| MX.done <| PX.thenN <| CX.sr <| LX.mv rfl <| LX.callQ (now_q ht (fun w hw => hB.push hw) (fun w hw => hL.push hw)) Pa.en13 rfl rfl rfl rfl rfl <| LX.p (Y.field (v := .int .i64 t.kind) rfl (fun _ => by kernel_rfl)) rfl <| LX.p (Y.eqI rfl rfl) rfl <| LX.mv rfl <| LX.su [2, 3, 26] rfl ?_
  apply LX.joinAnd 4 30 26 rfl
  · intro hb1
    refine LX.gT rfl rfl rfl hb1 (Y.fieldAddr0 Pa.fo44_0 rfl) rfl rfl <| LX.gT rfl rfl rfl hb1 (Y.ldB 0 Pa.one3 rfl rfl rfl) rfl rfl <| LX.gT rfl rfl rfl hb1 (Y.eqI rfl rfl) rfl rfl <| LX.p (Y.pickT rfl hb1 rfl) rfl ?_
    exact LX.left ⟨rfl, rfl, rfl, rfl, trivial⟩
  · intro hb1
    refine LX.gF rfl rfl rfl hb1 rfl rfl <| LX.gF rfl rfl rfl hb1 rfl rfl <| LX.gF rfl rfl rfl hb1 rfl rfl <| LX.p (Y.pickF rfl hb1 rfl) rfl ?_
    exact LX.left ⟨rfl, rfl, rfl, rfl, trivial⟩
  refine LX.mv rfl <| LX.su [2, 3, 31] rfl ?_
  apply LX.joinAnd 4 35 31 rfl
  · intro hb2
    refine LX.gT rfl rfl rfl hb2 (Y.fieldAddr0 Pa.fo44_1 rfl) rfl rfl <| LX.gT rfl rfl rfl hb2 (Y.ldB 0 Pa.one9 rfl rfl rfl) rfl rfl <| LX.gT rfl rfl rfl hb2 (Y.eqS rfl rfl) rfl rfl <| LX.p (Y.pickT rfl hb2 rfl) rfl ?_
    exact LX.left ⟨rfl, rfl, rfl, rfl, trivial⟩
  · intro hb2
    refine LX.gF rfl rfl rfl hb2 rfl rfl <| LX.gF rfl rfl rfl hb2 rfl rfl <| LX.gF rfl rfl rfl hb2 rfl rfl <| LX.p (Y.pickF rfl hb2 rfl) rfl ?_
    exact LX.left ⟨rfl, rfl, rfl, rfl, trivial⟩
  refine LX.mv rfl <| LX.su [2] rfl <| LX.nt <| CX.ret <| PX.ret1 (by simp) Try.results52 rfl ?_
  exact fun w hw => ⟨_, rfl, (fun h9 => by
    have h8 : (t.kind = 1 ∧ t2.kind = 4) := by simp_all
    have h7 := hK.fin _ t ht (by omega)
    have h6 := hK.fin _ t2 ht2 (by omega)
    refine ⟨h8.1, ?_⟩
    rw [show j2 = s.at_ + 1 from by show (if s.at_ + 1 < L.length then _ else _) = _; rw [if_pos h7]] at h6
    omega), hw.drop (List.nil_sublist _)⟩
theorem named_w {W : World → Prop} [Stab W] {bp : Nat} {al : Option Addr} {cl : Nat} {L : List Tk} {s : RS} {m : Mm} {t : Tk} (ht : L[s.at_]? = some t) (hK : Tok6 L)  (hB : ∀ w, W w → Lies w w.heap.size ⟨bp, 0, none⟩ (psC al L.length cl s m)) (hL : ∀ w, W w → SlAt 3 tokA (Lies w w.heap.size) al L) : FnC Try.prog 52 #[.pointer (some ⟨bp, 0, none⟩)] W (fun b : Bool => .bool b) (fun b w => (b = true → t.kind = 1 ∧ s.at_ + 2 < L.length) ∧ W w) := FnC.reO fun w hw => named_0 ht hK (hB w hw) (hL w hw)
theorem nd_of {l : List Nd} {M : Rd} {al : Option Addr} (hl : SlAt 5 ndA M al l) {k : Nat} {x : Nd} (hx : l[k]? = some x) : ∃ a ak ck, al = some a ∧ M (a.add (k * 5)) [.int .i64 x.op, .int .i64 x.n, .int .i64 x.pos, str x.s, .slice ak x.kids.length ck] ∧ (x.kids.length ≤ 9223372036854775807 ∧ x.kids.length ≤ ck) ∧ SlAt 1 intA M ak x.kids := by
  obtain ⟨a, cs, hav, _, hL, vk, rfl, hks, _⟩ := hl k x hx
  obtain ⟨ak, ck, rfl, hk, hka⟩ := hks.sl
  exact ⟨a, ak, ck, hav, hL, hk, hka⟩
theorem fits_s {w0 : World} {base : Nat} {bp : Nat} {al : Option Addr} {cl : Nat} {L : List Tk} {s : RS} {m : Mm} (hkd : ∀ (k : Nat) x, s.ns[k]? = some x → ∀ q ∈ x.kids, 0 ≤ q ∧ q < (k : Int)) {i : Nat} (hi : i < s.ns.length) (hB : Lies w0 base ⟨bp, 0, none⟩ (psC al L.length cl s m)) (hN : SlAt 5 ndA (Lies w0 base) (m.g.map fun b => ⟨b, 0, none⟩) s.ns) (ih : ∀ k, k < i → ∀ {w0 : World} {base : Nat} (_hB : Lies w0 base ⟨bp, 0, none⟩ (psC al L.length cl s m)) (_hN : SlAt 5 ndA (Lies w0 base) (m.g.map fun b => ⟨b, 0, none⟩) s.ns), FnC Try.prog 54 #[.pointer (some ⟨bp, 0, none⟩), .int .i64 (k : Int)] (WA w0 base []) (fun b : Bool => .bool b) (fun _ => WA w0 base [])) : FnC Try.prog 54 #[.pointer (some ⟨bp, 0, none⟩), .int .i64 (i : Int)] (WA w0 base []) (fun b : Bool => .bool b) (fun _ => WA w0 base []) := by
  obtain ⟨x, hx⟩ : ∃ x, s.ns[i]? = some x := ⟨_, List.getElem?_eq_getElem hi⟩
  obtain ⟨a, ak, ck, hav, hLx, hkc, hka⟩ := nd_of hN hx
  refine FnC.of_body (fn := Try.f54) [(0, _), (1, _)] Try.func54 rfl Try.ntmps54 rfl ⟨rfl, rfl, trivial⟩ ?_
  refine CX.sr <| LX.mv rfl <| LX.su [0, 1, 4] rfl <| LX.nt <| CX.seq <| CX.sr <| LX.mv rfl <| LX.p (Y.ltN rfl rfl) rfl <| LX.su [0, 1, 4, 8] rfl <| LX.nt ?_
  refine CX.cond rfl (fun hb1 => ?_) (fun hb1 => ?_)
  · try simp at hb1
    done
  try simp at hb1
  refine CX.skip <| PX.thenN <| CX.sr <| LX.ms 2 rfl <| LX.p (Y.fieldAddr0 Pc.fo42_2 rfl) rfl <| LX.p (Y.ldB0 Pc.one23 rfl hB rfl) rfl <| LX.mv rfl <| LX.p (Y.idxZ Pc.un23 Pc.sz31 rfl rfl hav (j := i) rfl hi) rfl <| LX.p (Y.ldAO (cs := [.int .i64 x.op, .int .i64 x.n, .int .i64 x.pos, str x.s, .slice ak x.kids.length ck]) Pc.ag31 rfl hLx rfl) rfl <| LX.alloc rfl Pc.zv31 rfl rfl rfl ?_
  intro bx5
  refine LX.storeA 0 Pc.ag31 rfl rfl rfl rfl rfl rfl rfl rfl rfl <| LX.su [0, 4, 5] rfl <| LX.nt <| CX.seq <| CX.sr <| LX.p (Y.fieldAddr0 Pc.fo31_0 rfl) rfl <| LX.p (Y.ldB 0 Pa.one3 rfl rfl rfl) rfl <| LX.p (Y.eqI rfl rfl) rfl <| LX.su [0, 4, 5, 18] rfl <| LX.nt ?_
  refine CX.cond rfl (fun hb2 => ?_) (fun hb2 => ?_)
  · try simp at hb2
    refine CX.seq <| CX.sr <| LX.mv rfl <| LX.su [0, 4, 5, 6] rfl <| LX.nt <| CX.block <| CX.loop (fun j : Nat => [(0, .pointer (some ⟨bp, 0, none⟩)), (5, .pointer (some ⟨bx5, 0, none⟩)), (6, .int .i64 (j : Int))]) (fun (j : Nat) w => j ≤ x.kids.length ∧ WA w0 base [blk bx5 [.int .i64 x.op, .int .i64 x.n, .int .i64 x.pos, str x.s, .slice ak x.kids.length ck] 31] w) (fun j => x.kids.length - j) 0 ⟨rfl, rfl, rfl, trivial⟩ (fun w hw => ⟨Nat.zero_le _, hw⟩) ?_
    intro j
    refine CX.have fun hj0 => ?_
    replace hj0 : j ≤ x.kids.length := hj0
    refine CX.seq <| CX.sr <| LX.mv rfl <| LX.p (Y.fieldAddr0 Pc.fo31_4 rfl) rfl <| LX.p (Y.ldB 0 Pc.one29 rfl rfl rfl) rfl <| LX.p (Y.lenSl rfl Pc.un29 rfl) rfl <| LX.p (Y.ltN rfl rfl) rfl <| LX.su [0, 5, 6, 23] rfl <| LX.nt ?_
    refine CX.cond rfl (fun hb3 => ?_) (fun hb3 => ?_)
    · try simp at hb3
      have hj1 : j < x.kids.length := by omega
      obtain ⟨a1, hav1, hL1, _⟩ := hka.int_at (j := j) hj1
      have hr1 := hkd i x hx _ (getD_mem (j := j) (ks := x.kids) hj1)
      obtain ⟨k1, hkz1⟩ : ∃ k : Nat, x.kids.getD j 0 = (k : Int) := ⟨(x.kids.getD j 0).toNat, by omega⟩
      refine CX.skip <| PX.thenN <| CX.seq <| CX.block <| CX.sr <| LX.mv rfl <| LX.p (Y.fieldAddr0 Pc.fo31_4 rfl) rfl <| LX.p (Y.ldB 0 Pc.one29 rfl rfl rfl) rfl <| LX.mv rfl <| LX.p (Y.idxZ Pc.un29 Pb.sz3 rfl rfl hav1 (j := j) rfl hj1) rfl <| LX.p (show Y _ _ _ _ _ (.int .i64 (k1 : Int)) from by rw [← hkz1]; exact Y.ldO1 Pa.one3 rfl hL1) rfl <| LX.call (FnC.re fun w hw => ih k1 (by omega) (hB.push hw) (hN.push hw)) Pc.en54 rfl rfl rfl rfl rfl ?_
      intro b7
      refine LX.p (Y.not rfl) rfl <| LX.su [0, 5, 6, 33] rfl <| LX.nt ?_
      refine CX.cond rfl (fun hb4 => ?_) (fun hb4 => ?_)
      · try simp at hb4
        refine CX.sr <| LX.mv rfl <| LX.su [0, 4, 5, 6] rfl <| LX.nt <| CX.ret <| PX.blockR <| PX.thenR <| PX.thenR <| PX.blockR <| PX.thenR <| PX.thenR <| PX.ret1 (by simp) Try.results54 rfl ?_
        exact fun w hw => ⟨_, rfl, hw.drop (List.nil_sublist _)⟩
      try simp at hb4
      refine CX.skip <| PX.blockN <| PX.thenN <| CX.region <| LX.mv rfl <| LX.p (Y.addN rfl rfl (by (simp only []; omega))) rfl <| LX.mv rfl <| LX.su [0, 5, 6] rfl <| LX.next ?_
      exact PX.again (i := j) (j + 1) (by show x.kids.length - (j + 1) < x.kids.length - j; omega) ⟨rfl, rfl, rfl, trivial⟩ (fun w hw => ⟨by show j + 1 ≤ x.kids.length; omega, hw⟩)
    try simp at hb3
    refine CX.exit <| PX.thenE <| PX.thenE <| PX.blockE <| PX.thenN <| CX.sr <| LX.p (Y.fieldAddr0 Pc.fo31_4 rfl) rfl <| LX.p (Y.ldB 0 Pc.one29 rfl rfl rfl) rfl <| LX.p (Y.lenSl rfl Pc.un29 rfl) rfl <| LX.p (Y.gtN rfl rfl) rfl <| LX.mv rfl <| LX.su [4, 5] rfl <| LX.nt <| CX.ret <| PX.thenR <| PX.ret1 (by simp) Try.results54 rfl ?_
    exact fun w hw => ⟨_, rfl, hw.drop (List.nil_sublist _)⟩
  try simp at hb2
  refine CX.skip <| PX.thenN <| CX.sr <| LX.p (Y.fieldAddr0 Pc.fo31_0 rfl) rfl <| LX.p (Y.ldB 0 Pa.one3 rfl rfl rfl) rfl <| LX.p (Y.eqI rfl rfl) rfl <| LX.mv rfl <| LX.su [4, 5, 41] rfl ?_
  apply LX.joinOr 4 45 41 rfl
  · intro hb5
    refine LX.gF rfl rfl rfl hb5 rfl rfl <| LX.gF rfl rfl rfl hb5 rfl rfl <| LX.gF rfl rfl rfl hb5 rfl rfl <| LX.p (Y.pickT rfl hb5 rfl) rfl ?_
    exact LX.left ⟨rfl, rfl, rfl, rfl, trivial⟩
  · intro hb5
    refine LX.gT rfl rfl rfl hb5 (Y.fieldAddr0 Pc.fo31_0 rfl) rfl rfl <| LX.gT rfl rfl rfl hb5 (Y.ldB 0 Pa.one3 rfl rfl rfl) rfl rfl <| LX.gT rfl rfl rfl hb5 (Y.eqI rfl rfl) rfl rfl <| LX.p (Y.pickF rfl hb5 rfl) rfl ?_
    exact LX.left ⟨rfl, rfl, rfl, rfl, trivial⟩
  refine LX.mv rfl <| LX.su [4] rfl <| LX.nt <| CX.ret <| PX.ret1 (by simp) Try.results54 rfl ?_
  exact fun w hw => ⟨_, rfl, hw.drop (List.nil_sublist _)⟩
theorem fits_0 {bp : Nat} {al : Option Addr} {cl : Nat} {L : List Tk} {s : RS} {m : Mm} (hkd : ∀ (k : Nat) x, s.ns[k]? = some x → ∀ q ∈ x.kids, 0 ≤ q ∧ q < (k : Int)) (i : Nat) (hi : i < s.ns.length) : ∀ {w0 : World} {base : Nat} (_hB : Lies w0 base ⟨bp, 0, none⟩ (psC al L.length cl s m)) (_hN : SlAt 5 ndA (Lies w0 base) (m.g.map fun b => ⟨b, 0, none⟩) s.ns), FnC Try.prog 54 #[.pointer (some ⟨bp, 0, none⟩), .int .i64 (i : Int)] (WA w0 base []) (fun b : Bool => .bool b) (fun _ => WA w0 base []) := by
  induction i using Nat.strongRecOn with
  | _ i ih =>
    intro w0 base hB hN
    exact fits_s hkd hi hB hN (fun k hk w0 base hB hN => ih k hk (by omega) hB hN)
theorem fits_w {W : World → Prop} [Stab W] {bp : Nat} {al : Option Addr} {cl : Nat} {L : List Tk} {s : RS} {m : Mm} (hkd : ∀ (k : Nat) x, s.ns[k]? = some x → ∀ q ∈ x.kids, 0 ≤ q ∧ q < (k : Int)) (i : Nat) (hi : i < s.ns.length) (hB : ∀ w, W w → Lies w w.heap.size ⟨bp, 0, none⟩ (psC al L.length cl s m)) (hN : ∀ w, W w → SlAt 5 ndA (Lies w w.heap.size) (m.g.map fun b => ⟨b, 0, none⟩) s.ns) : FnC Try.prog 54 #[.pointer (some ⟨bp, 0, none⟩), .int .i64 (i : Int)] W (fun b : Bool => .bool b) (fun _ => W) := FnC.re fun w hw => fits_0 hkd i hi (hB w hw) (hN w hw)
end Go.Proofs.Yteibddakpedogaa
