/-
  Proved here: ones of a kind with signs between.
-/
import Derived.Test.YtfbenelagdcdgaaDoorPaD
import Derived.Test.YtfbenelagdcdgaaDoorPaQ
import Derived.Test.YtfbenelagdcdgaaDoorMt
set_option linter.unusedSimpArgs false
namespace Go.Proofs.YtfbenelagdcdgaaDoor
open Go.SX Go.RowKit Go.Tr Go.Lex
namespace Pe
theorem en15 : Enters Tryd.prog 15 := Enters.of Tryd.func15 (by kernel_rfl) (by kernel_rfl)
theorem en72 : Enters Tryd.prog 72 := Enters.of Tryd.func72 (by kernel_rfl) (by kernel_rfl)
end Pe
open Go.Proofs.YtfbenelagdcdgaaDoor.Env (EnvS errV sentG)
open Go.Pa (Tk Rs bnd ret isB is_ adv bad take must kinds inn outn node nodeAt setPos)
open Go.Ck (NdsR)
/-- a node's place, as it is given back -/
def gI (z : Int) : Prop := 0 ≤ z ∧ z < 1000000
theorem gI.inI {z : Int} (h : gI z) : inI z := by obtain ⟨h1, h2⟩ := h; unfold Go.SX.inI; omega
theorem gI.len {n : Nat} (h : n < 1000000) : gI (n : Int) := ⟨by omega, by omega⟩
/-- what a function of the parser does, with so much fuel -/
def FS (w0 : World) (base : Nat) (aE : Nat → Addr) (al : Option Addr) (cl : Nat) (L : List Tk) (bp : Nat) {α : Type} (go : FuncId) (args : Array Value) (v : α → Value) (Gd : α → Prop) (f : Go.Pa.F α) (n : Nat) : Prop :=
  ∀ (s : Go.Pa.St) (m : Mm) (fr : List It) (r : Rs α), Go.Pa.run L nameB n f s = some r → NdsR 3 m.rs m.cells s.out → FnP Tryd.prog go args (WA w0 base (PWl bp al L cl s m fr)) (fun q : α × Go.Pa.St × Mm => v q.1) (fun q w => (r = .ok q.1 q.2.1 ∧ NdsR 3 q.2.2.rs q.2.2.cells q.2.1.out ∧ Gd q.1) ∧ WA w0 base (PWl bp al L cl q.2.1 q.2.2 fr) w) (fun y : Int × Bool × Nat => .iface 44 (.agg #[.pointer (some ⟨y.2.2, 0, none⟩)])) (fun y w => r = .stop y.1 y.2.1 ∧ WA w0 base (blk y.2.2 [.int .i64 y.1, errV (aE (lk y.2.1))] 64 :: fr) w)
@[reducible] def FI (w0 : World) (base : Nat) (aE : Nat → Addr) (al : Option Addr) (cl : Nat) (L : List Tk) (bp : Nat) (go : FuncId) (f : Go.Pa.F Int) (n : Nat) : Prop := FS w0 base aE al cl L bp go #[.pointer (some ⟨bp, 0, none⟩)] (fun z : Int => .int .i64 z) gI f n
theorem put_nds {w0 w : World} {base : Nat} {m : Mm} {l : List Nd} (h : NdsR 3 m.rs m.cells l) {its : List It} (hw : WA w0 base its w) {g : Option Nat} {c i : Nat} {ks : List Int} (hi : its[i]? = some (.row g c ks.length 3 1 (ks.map iv))) (hk : ∀ z ∈ ks, inI z) (hl : ks.length ≤ 9223372036854775807) {op pos : Int} {x : List UInt8} (ho : inI op) (hp : inI pos) :
    NdsR 3 (.row g c ks.length 3 1 (ks.map iv) :: m.rs) (m.cells ++ [.int .i64 op, .int .i64 0, .int .i64 pos, str x, rv g ks.length c]) (l ++ [⟨op, 0, pos, x, ks⟩]) := h.put hw hi hk hl ho hp
theorem psop_q {W : World → Prop} [Stab W] {x : List UInt8} {k : Int} (hk : Go.Pa.opOf x = some k) : FnQ Tryd.prog 72 #[str x] W (.int .i64 k) := FnC.quiet fun w _ => psop_c hk
theorem left_p {w0 : World} {base : Nat} {fr : List It} {aE : Nat → Addr} (hS : EnvS w0 base aE) {bp : Nat} {al : Option Addr} {cl : Nat} {L : List Tk} (hL : SlAt 3 tokA (Lies w0 base) al L) (hln : L.length ≤ 1099511627776) (lv : Nat) {gs : Nat} {pf : FuncId} (hen : Enters Tryd.prog pf) (n : Nat) (hPart : ∀ j, j ≤ n → FS w0 base aE al cl L bp pf #[.pointer (some ⟨bp, 0, none⟩)] (fun z : Int => .int .i64 z) gI (Go.Pa.part lv) j) (s : Go.Pa.St) (m : Mm) (hsg : It.row (some gs) (Go.Pa.signs lv).length (Go.Pa.signs lv).length 9 1 ((Go.Pa.signs lv).map str) ∈ fr) (r : Rs Int) (hr : Go.Pa.run L nameB (n + 1) (.left lv) s = some r) (hnd : NdsR 3 m.rs m.cells s.out) : FnP Tryd.prog 66 #[.pointer (some ⟨bp, 0, none⟩), .func (.func pf) #[.pointer (some ⟨bp, 0, none⟩)] #[], .slice (some ⟨gs, 0, none⟩) (Go.Pa.signs lv).length (Go.Pa.signs lv).length] (WA w0 base (PWl bp al L cl s m fr)) (fun q : Int × Go.Pa.St × Mm => .int .i64 q.1) (fun q w => (r = .ok q.1 q.2.1 ∧ NdsR 3 q.2.2.rs q.2.2.cells q.2.1.out ∧ gI q.1) ∧ WA w0 base (PWl bp al L cl q.2.1 q.2.2 fr) w) (fun y : Int × Bool × Nat => .iface 44 (.agg #[.pointer (some ⟨y.2.2, 0, none⟩)])) (fun y w => r = .stop y.1 y.2.1 ∧ WA w0 base (blk y.2.2 [.int .i64 y.1, errV (aE (lk y.2.1))] 64 :: fr) w) := by
  change (bnd (Go.Pa.run L nameB n (Go.Pa.part lv)) fun k => Go.Pa.run L nameB n (.leftGo lv k)) s = some r at hr
  refine FnP.of_body (fn := Tryd.f66) [(0, _), (1, _), (2, _)] Tryd.func66 rfl Tryd.ntmps66 rfl ⟨rfl, rfl, rfl, trivial⟩ ?_
  refine CX.seq <| CX.region <| LX.pure (Y.assign rfl) rfl rfl rfl <| LX.sub (l' := [(0, _), (1, _), (2, _), (6, _)]) ⟨rfl, rfl, rfl, rfl, trivial⟩ <| LX.next <| PX.thenN <| CX.seq <| CX.region <| LX.pure (Y.move rfl) rfl rfl rfl ?_
  obtain ⟨r1, e1, hok, hst⟩ := Go.Pa.bnd_some hr
  refine LX.callVP (fst := #[.pointer (some ⟨bp, 0, none⟩)]) (vs := []) (cap := #[]) (hPart n (Nat.le_refl _) s m fr r1 e1 hnd).bound hen rfl rfl rfl rfl rfl rfl (fun y => fun _ w ha hw => ⟨ha.defs, .inr ⟨y, rfl, hst _ _ hw.1, hw.2⟩⟩) ?_
  rintro ⟨k, s1, m1⟩
  refine LX.have fun ⟨hr1, hn1, hk1⟩ => ?_
  replace hr := hok _ _ hr1
  try dsimp only
  refine LX.pure (Y.assign rfl) rfl rfl rfl <| LX.sub (l' := [(0, _), (1, _), (2, _), (6, _), (7, _)]) ⟨rfl, rfl, rfl, rfl, rfl, trivial⟩ <| LX.next <| PX.thenN <| CX.seq <| CX.block <| CX.loop (fun z : Int × Go.Pa.St × Mm × Nat => [(0, .pointer (some ⟨bp, 0, none⟩)), (1, .func (.func pf) #[.pointer (some ⟨bp, 0, none⟩)] #[]), (2, .slice (some ⟨gs, 0, none⟩) (Go.Pa.signs lv).length (Go.Pa.signs lv).length), (7, .int .i64 z.1)]) (fun (z : Int × Go.Pa.St × Mm × Nat) w => ((Go.Pa.run L nameB z.2.2.2 (.leftGo lv z.1) z.2.1 = some r ∧ z.2.2.2 ≤ n) ∧ NdsR 3 z.2.2.1.rs z.2.2.1.cells z.2.1.out ∧ gI z.1) ∧ WA w0 base (PWl bp al L cl z.2.1 z.2.2.1 fr) w) (fun z => z.2.2.2) (k, s1, m1, n) ⟨rfl, rfl, rfl, rfl, trivial⟩ (fun w hw => ⟨⟨⟨hr, Nat.le_refl _⟩, hn1, hk1⟩, hw⟩) ?_
  clear hr hr1 hn1 hk1 hok hst e1
  rintro ⟨k, s1, m1, j⟩
  refine CX.have fun ⟨⟨hr, hjn⟩, hn1, hk1⟩ => ?_
  replace hr : Go.Pa.run L nameB j (.leftGo lv k) s1 = some r := hr
  replace hjn : j ≤ n := hjn
  replace hn1 : NdsR 3 m1.rs m1.cells s1.out := hn1
  replace hk1 : gI k := hk1
  try dsimp only
  obtain ⟨j, rfl⟩ : ∃ i, j = i + 1 := by
    cases j with
    | zero => cases hr
    | succ i => exact ⟨i, rfl⟩
  change (bnd (is_ L (Go.Pa.signs lv)) fun b => if b then bnd (Go.Pa.tok L) fun t => bnd adv fun _ => bnd (Go.Pa.op_ t.text) fun o => bnd (Go.Pa.run L nameB j (Go.Pa.part lv)) fun k2 => bnd (node o t.pos [] [k, k2]) fun n => Go.Pa.run L nameB j (.leftGo lv n) else ret k) s1 = some r at hr
  obtain ⟨t, ht, hr⟩ := Go.Pa.is_bnd hr
  refine CX.seq <| CX.seq <| CX.region <| LX.pure (Y.move rfl) rfl rfl rfl <| LX.pure (Y.move rfl) rfl rfl rfl <| LX.callQ (is_q ht _ (ss := Go.Pa.signs lv) (by have := Go.Pa.signs_len lv; omega) (fun w hw => blkL hw (i := 0) rfl) (fun w hw => hL.push hw) (fun w hw => row_atM hw (List.mem_cons_of_mem _ (List.mem_cons_of_mem _ (List.mem_append_right _ hsg))) rfl (by decide) (fun i z h => map_A h))) Pd.en20 rfl rfl rfl rfl rfl <| LX.sub (l' := [(0, _), (1, _), (2, _), (7, _), (13, _)]) ⟨rfl, rfl, rfl, rfl, rfl, trivial⟩ <| LX.next <| PX.thenN ?_
  refine CX.cond rfl (fun hb1 => ?_) (fun hb1 => ?_)
  · try simp at hb1
    rw [show isB t (Go.Pa.signs lv) = true from hb1] at hr
    obtain ⟨t2, ht2, hr⟩ := Go.Pa.tok_bnd hr
    obtain rfl : t = t2 := by rw [ht] at ht2; exact Option.some.inj ht2
    replace hr := Go.Pa.adv_bnd hr
    obtain ⟨o, ho, hr⟩ := Go.Pa.op_bnd hr
    obtain ⟨r2, e2, hok2, hst2⟩ := Go.Pa.bnd_some hr
    obtain ⟨a0, cs, hav, hcl, hLt, rfl, hin1, hin2⟩ := hL _ _ ht
    have hj : s1.at_ < L.length := (List.getElem?_eq_some_iff.1 ht).1
    refine CX.skip <| PX.thenN <| CX.block <| CX.seq <| CX.regionM [(0, .anywhere), (1, .anywhere), (2, .anywhere), (3, .held), (4, .anywhere), (5, .anywhere), (6, .anywhere), (7, .held), (8, .held), (9, .held), (10, .alone), (11, .alone)] rfl (by kernel_rfl) <| MX.lift0 (i := 0) rfl (Y.move rfl) rfl rfl rfl <| MX.lift0 (i := 1) rfl (Y.nilCheck rfl) rfl rfl rfl <| MX.lift0 (i := 2) rfl (Y.fieldAddr0 Pa.fo41_0 rfl) rfl rfl rfl <| MX.lift1 (i := 3) (pend' := []) rfl (fun w hw => by exact hw) (Y.ldB 0 Pa.one37 rfl rfl rfl) rfl rfl rfl (by kernel_rfl) <| MX.lift0 (i := 4) rfl (Y.move rfl) rfl rfl rfl <| MX.lift0 (i := 5) rfl (Y.nilCheck rfl) rfl rfl rfl <| MX.lift0 (i := 6) rfl (Y.fieldAddr0 Pa.fo41_1 rfl) rfl rfl rfl <| MX.lift1 (i := 7) (pend' := [3]) rfl (fun w hw => by exact hw) (Y.ldB 0 Pa.one3 rfl rfl rfl) rfl rfl rfl (by kernel_rfl) <| MX.lift1 (i := 8) (pend' := []) rfl (fun w hw => by exact hw) (Y.idxZ Pa.un37 Pa.sz57 rfl rfl hav (j := s1.at_) rfl hj) rfl rfl rfl (by kernel_rfl) <| MX.lift1 (i := 9) (pend' := []) rfl (fun w hw => by exact hw) (Y.ldAO (cs := [.int .i64 t.kind, str t.text, .int .i64 t.pos]) Pd.ag57 rfl hLt rfl) rfl rfl rfl (by kernel_rfl) <| MX.force (i := 10) rfl <| LX.alloc rfl Pd.zv57 rfl rfl rfl ?_
    intro b8
    refine LX.nextM [9] (by kernel_rfl) (fun _ => (fun w hw => by exact hw.drop (List.sublist_cons_self _ _))) <| MX.force (i := 11) rfl <| LX.storeA 0 Pd.ag57 rfl rfl rfl rfl rfl rfl rfl rfl rfl <| LX.nextM [] (by kernel_rfl) (fun h => absurd rfl h) <| MX.sub (l' := [(0, _), (1, _), (2, _), (7, _), (8, _)]) ⟨rfl, rfl, rfl, rfl, rfl, trivial⟩ <| MX.done <| PX.thenN <| CX.seq <| CX.region ?_
    refine LX.world (W' := WA w0 base (PWl bp al L cl s1 m1 (blk b8 [.int .i64 t.kind, str t.text, .int .i64 t.pos] 57 :: fr))) (fun w hw => (show WA w0 base (blk b8 [.int .i64 t.kind, str t.text, .int .i64 t.pos] 57 :: PWl bp al L cl s1 m1 fr) w from hw).perm (by (refine perm_cnt fun x => ?_; simp only [PWl, PBl, ROl, z1, z2, z3, z4, z5, z6]; omega))) ?_
    refine LX.pure (Y.move rfl) rfl rfl rfl <| LX.pure (Y.nilCheck rfl) rfl rfl rfl <| LX.pure (Y.fieldAddr0 Pa.fo41_1 rfl) rfl rfl rfl <| LX.pure (Y.ldB 0 Pa.one3 rfl rfl rfl) rfl rfl rfl <| LX.pure (Y.addN rfl rfl (by (simp only []; omega))) rfl rfl rfl <| LX.pure (Y.nilCheck rfl) rfl rfl rfl <| LX.pure (Y.fieldAddr0 Pa.fo41_1 rfl) rfl rfl rfl <| LX.storeB 0 Pb.sz3 rfl rfl rfl rfl rfl rfl rfl rfl <| LX.sub (l' := [(0, _), (1, _), (2, _), (7, _), (8, _)]) ⟨rfl, rfl, rfl, rfl, rfl, trivial⟩ <| LX.next <| PX.thenN <| CX.regionP (WA w0 base (blk b8 [.int .i64 t.kind, str t.text, .int .i64 t.pos] 57 :: fr)) [(0, .anywhere), (1, .anywhere), (2, .held), (4, .anywhere), (5, .held), (6, .anywhere), (7, .anywhere), (3, .alone), (8, .alone), (9, .alone), (10, .alone), (11, .anywhere)] (fun c a w d v h => by cases d <;> exact h) rfl (by kernel_rfl) ?_
    refine MP.lift0 (i := 0) rfl (Y.move rfl) rfl rfl rfl ?_
    refine MP.lift0 (i := 1) rfl (Y.fieldAddr0 Pa.fo57_1 rfl) rfl rfl rfl ?_
    refine MP.lift1 (i := 2) (pend' := []) rfl (fun w hw => by exact hw.drop (.cons _ (.cons _ (List.sublist_append_right _ _)))) (Y.ldB 0 Fy.one9 rfl rfl rfl) rfl rfl rfl (by kernel_rfl) ?_
    refine MP.lift0 (i := 4) rfl (Y.fieldAddr0 Pa.fo57_2 rfl) rfl rfl rfl ?_
    refine MP.lift1 (i := 5) (pend' := [2]) rfl (fun w hw => by exact hw.drop (.cons _ (.cons _ (List.sublist_append_right _ _)))) (Y.ldB 0 Pa.one3 rfl rfl rfl) rfl rfl rfl (by kernel_rfl) ?_
    refine MP.lift0 (i := 6) rfl (Y.move rfl) rfl rfl rfl ?_
    refine MP.lift0 (i := 7) rfl (Y.move rfl) rfl rfl rfl ?_
    refine MP.force (i := 3) rfl ?_
    refine LX.callQ (psop_q ho) Pe.en72 rfl rfl rfl rfl rfl <| LX.nextP [5] (by kernel_rfl) (fun _ => (fun w hw => by exact hw.drop (.cons _ (.cons _ (List.sublist_append_right _ _))))) ?_
    refine MP.force (i := 8) rfl ?_
    refine LX.callVP (fst := #[.pointer (some ⟨bp, 0, none⟩)]) (vs := []) (cap := #[]) (hPart j (by omega) s1.adv m1 (blk b8 [.int .i64 t.kind, str t.text, .int .i64 t.pos] 57 :: fr) r2 e2 hn1).bound hen rfl rfl rfl rfl rfl rfl (fun y => fun _ w ha hw => ⟨ha.defs, .inr ⟨y, rfl, hst2 _ _ hw.1, hw.2.drop (.cons_cons _ (List.sublist_cons_self _ _))⟩⟩) ?_
    rintro ⟨k2, s2, m2⟩
    refine LX.have fun ⟨hr2, hn2, hk2⟩ => ?_
    replace hr := hok2 _ _ hr2
    obtain ⟨hlen, hr⟩ := Go.Pa.node_bnd hr
    try dsimp only
    refine LX.nextP [5] (by kernel_rfl) (fun _ => (fun w hw => by exact hw.drop (.cons _ (.cons _ (List.sublist_append_right _ _))))) ?_
    refine MP.force (i := 9) rfl ?_
    refine LX.buildSlice (e := 3) (size := 1) rfl rfl (fun _ => by kernel_rfl) rfl (by decide) rfl rfl rfl ?_
    intro gK
    refine LX.nextP [5] (by kernel_rfl) (fun _ => (fun w hw => by exact hw.drop (.cons _ (.cons _ (.cons _ (List.sublist_append_right _ _)))))) ?_
    refine MP.force (i := 10) rfl ?_
    refine LX.world (W' := WA w0 base (PBl bp al L cl s2 m2 :: ROl s2 m2 :: .row (some gK) 2 2 3 1 ([k, k2].map iv) :: (m2.rs ++ (blk b8 [.int .i64 t.kind, str t.text, .int .i64 t.pos] 57 :: fr)))) (fun w hw => (show WA w0 base (.row (some gK) 2 2 3 1 ([k, k2].map iv) :: PWl bp al L cl s2 m2 (blk b8 [.int .i64 t.kind, str t.text, .int .i64 t.pos] 57 :: fr)) w from hw).perm (by (refine perm_cnt fun x => ?_; simp only [PWl, PBl, ROl, z1, z2, z3, z4, z5, z6]; omega))) ?_
    refine LX.call (node_c (s := s2) (m := m2) o t.pos [] (some ⟨gK, 0, none⟩) 2 2 [k, k2] hlen) Pe.en15 rfl rfl rfl rfl rfl ?_
    intro q
    refine LX.nextP [] (by kernel_rfl) (fun h => absurd rfl h) ?_
    refine MP.lift0 (i := 11) rfl (Y.assign rfl) rfl rfl rfl ?_
    refine MP.sub (l' := [(0, _), (1, _), (2, _), (7, _)]) ⟨rfl, rfl, rfl, rfl, trivial⟩ ?_
    refine MP.done ?_
    refine PX.blockN ?_
    exact PX.again (μ := fun z => z.2.2.2) (i := (k, s1, m1, j + 1)) ((s2.out.length : Int), (s2.nod o t.pos [] [k, k2]), (m2.put q o t.pos [] (rv (some gK) 2 2) (.row (some gK) 2 2 3 1 ([k, k2].map iv) :: m2.rs)), j) (by show j < j + 1; omega) ⟨rfl, rfl, rfl, rfl, trivial⟩ (fun w hw => ⟨⟨⟨hr, by show j ≤ n; omega⟩, put_nds (op := o) (pos := t.pos) (x := []) hn2 hw (i := 2) (ks := [k, k2]) rfl (by intro z hz; rcases List.mem_cons.1 hz with rfl | hz; exact hk1.inI; cases List.mem_singleton.1 hz; exact hk2.inI) (by simp) (by have := Go.Pa.op_in ho; unfold Go.SX.inI; omega) hin2, gI.len hlen⟩, hw.drop (.cons_cons _ (.cons_cons _ (.cons_cons _ (List.Sublist.append (List.Sublist.refl _) (List.sublist_cons_self _ _)))))⟩)
  try simp at hb1
  rw [show isB t (Go.Pa.signs lv) = false from hb1] at hr
  refine CX.exit <| PX.thenE <| PX.thenE <| PX.blockE <| PX.thenN <| CX.seq <| CX.region <| LX.pure (Y.move rfl) rfl rfl rfl <| LX.pure (Y.assign rfl) rfl rfl rfl <| LX.sub (l' := [(6, _)]) ⟨rfl, trivial⟩ <| LX.next <| PX.thenN <| CX.ret <| PX.ret1 (by simp) Tryd.results66 rfl ?_
  exact fun w hw => .inl ⟨(k, s1, m1), rfl, ⟨Go.Pa.ret_end hr, hn1, hk1⟩, hw⟩
end Go.Proofs.YtfbenelagdcdgaaDoor
