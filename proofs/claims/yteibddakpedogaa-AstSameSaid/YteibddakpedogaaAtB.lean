/-
  Proved here: a tree.
-/
import Derived.Test.YteibddakpedogaaAtA
import Derived.Test.YteibddakpedogaaMg
set_option linter.unusedSimpArgs false
namespace Go.Proofs.Yteibddakpedogaa
open Go.SX Go.RowKit Go.Tr Go.As Go.Ck
namespace Tb
theorem ag31 : AggT Try.prog 31 5 := AggT.of (by kernel_rfl) (by kernel_rfl)
theorem en43 : Enters Try.prog 43 := Enters.of Try.func43 (by kernel_rfl) (by kernel_rfl)
theorem en44 : Enters Try.prog 44 := Enters.of Try.func44 (by kernel_rfl) (by kernel_rfl)
theorem fa31_4 : FieldOffA Try.prog 31 4 4 := fun a w => by kernel_rfl
theorem fo31_4 : FieldOff Try.prog 31 4 4 := fun b o w => by kernel_rfl
theorem one29 : One Try.prog 29 := fun w => by kernel_rfl
theorem sz31 : SizeIs Try.prog 31 5 := fun w => by kernel_rfl
theorem un23 : Try.prog.underlying 23 = some (.slice 31) := by kernel_rfl
theorem zv31 : ∀ w, (zeroValue 31).run Try.prog w = .ok (.agg #[.int .i64 0, .int .i64 0, .int .i64 0, .string ⟨#[]⟩, .slice none 0 0]) w := fun w => by kernel_rfl
theorem el70 : Elem Try.prog 70 4 1 1 := Elem.of Ta.un70 (z := .bool false) (by kernel_rfl) rfl
end Tb
theorem nd_of {l : List Nd} {M : Rd} {al : Option Addr} (hl : SlAt 5 ndA M al l) {k : Nat} {x : Nd} (hx : l[k]? = some x) : ∃ a ak ck, al = some a ∧ M (a.add (k * 5)) [.int .i64 x.op, .int .i64 x.n, .int .i64 x.pos, str x.s, .slice ak x.kids.length ck] ∧ (x.kids.length ≤ 9223372036854775807 ∧ x.kids.length ≤ ck) ∧ SlAt 1 intA M ak x.kids := by
  obtain ⟨a, cs, hav, _, hL, vk, rfl, hks, _⟩ := hl k x hx
  obtain ⟨ak, ck, rfl, hk, hka⟩ := hks.sl
  exact ⟨a, ak, ck, hav, hL, hk, hka⟩
theorem treeT_c {w0 : World} {base : Nat} {al : Option Addr} (cl : Nat) {l : List Nd} (hT : TreeF l) (hln : l.length ≤ 1048576)  (hl : SlAt 5 ndA (Lies w0 base) al l) : FnC Try.prog 19 #[.slice al l.length cl] (WA w0 base []) (fun _ : Unit => .bool true) (fun _ => WA w0 base []) := by
  refine FnC.of_body (fn := Try.f19) [(0, _)] Try.func19 rfl Try.ntmps19 rfl ⟨rfl, trivial⟩ ?_
  refine CX.sr <| LX.mv rfl <| LX.su [0, 2] rfl <| LX.nt <| CX.sr <| LX.mv rfl <| LX.p (Y.lenSl rfl Tb.un23 rfl) rfl <| LX.makeN (z := .bool false) Tb.el70 (by kernel_rfl) rfl rfl rfl (by omega) (by omega) rfl rfl rfl ?_
  intro gb
  rw [made_bv]
  refine LX.mv rfl <| LX.su [0, 2, 3] rfl <| LX.nt <| CX.seq <| CX.sr <| LX.mv rfl <| LX.p (Y.lenSl rfl Tb.un23 rfl) rfl <| LX.mv rfl <| LX.su [0, 2, 3, 9, 10, 11] rfl <| LX.nt <| CX.block <| CX.loop (fun s : Nat × List Bool => [(0, .slice al l.length cl), (3, rv (some gb) l.length l.length), (9, .slice al l.length cl), (10, .int .i64 (l.length : Int)), (11, .int .i64 (s.1 : Int))]) (fun (s : Nat × List Bool) w => (s.1 ≤ l.length ∧ Us l.length ((l.take s.1).flatMap (·.kids)) s.2) ∧ WA w0 base [.row (some gb) l.length l.length 4 1 (s.2.map bv)] w) (fun s => l.length - s.1) (0, List.replicate l.length false) ⟨rfl, rfl, rfl, rfl, rfl, trivial⟩ (fun w hw => ⟨⟨Nat.zero_le _, Us.start _⟩, hw⟩) ?_
  rintro ⟨i, u⟩
  refine CX.have fun ⟨hi0, hu⟩ => ?_
  try dsimp only at hi0 hu ⊢
  refine CX.sr <| LX.p (Y.ltN rfl rfl) rfl <| LX.su [0, 3, 9, 10, 11, 12] rfl <| LX.nt <| CX.seq ?_
  refine CX.cond rfl (fun hb1 => ?_) (fun hb1 => ?_)
  · try simp at hb1
    have hi : i < l.length := by omega
    obtain ⟨x, hx⟩ : ∃ x, l[i]? = some x := ⟨_, List.getElem?_eq_getElem hi⟩
    obtain ⟨a, ak, ck, hav, hL, hkc, hka⟩ := nd_of hl hx
    refine CX.skip <| PX.thenN <| CX.seq <| CX.block <| CX.sr <| LX.mv rfl <| LX.p (Y.idxZ Tb.un23 Tb.sz31 rfl rfl hav (j := i) rfl hi) rfl <| LX.p (Y.ldAO (cs := [.int .i64 x.op, .int .i64 x.n, .int .i64 x.pos, str x.s, .slice ak x.kids.length ck]) Tb.ag31 rfl hL rfl) rfl <| LX.alloc rfl Tb.zv31 rfl rfl rfl ?_
    intro bx5
    refine LX.mv rfl <| LX.storeA 0 Tb.ag31 rfl rfl rfl rfl rfl rfl rfl rfl rfl <| LX.su [0, 3, 4, 5, 9, 10, 11] rfl <| LX.nt <| CX.sr <| LX.p (Y.fieldAddr0 Tb.fo31_4 rfl) rfl <| LX.p (Y.ldB 0 Tb.one29 rfl rfl rfl) rfl <| LX.ms 2 rfl <| LX.world (W' := WA w0 base (.row (some gb) l.length l.length 4 1 (u.map bv) :: [blk bx5 [.int .i64 x.op, .int .i64 x.n, .int .i64 x.pos, str x.s, .slice ak x.kids.length ck] 31])) (fun w hw => hw.perm (.swap _ _ _)) <| LX.call (fresh_c ck hkc.1 hka i (n := l.length) (by omega) gb l.length u hu.1) Tb.en43 rfl rfl rfl rfl rfl ?_
    intro u2
    refine LX.have fun hfv => ?_
    try dsimp only at hfv ⊢
    obtain ⟨u3, hu3, hus3⟩ := hT.ft.step hx hu
    obtain rfl : u2 = u3 := hfv u3 hu3
    rw [hu3]
    refine LX.p (Y.not rfl) rfl <| LX.su [0, 3, 9, 10, 11, 21] rfl <| LX.nt ?_
    refine CX.cond rfl (fun hb2 => ?_) (fun hb2 => ?_)
    · try simp at hb2
      done
    try simp at hb2
    refine CX.skip <| PX.blockN <| PX.thenN <| CX.region <| LX.p (Y.addN rfl rfl (by (simp only []; omega))) rfl <| LX.mv rfl <| LX.su [0, 3, 9, 10, 11] rfl <| LX.next ?_
    exact PX.again (i := (i, u)) (i + 1, u2) (by show l.length - (i + 1) < l.length - i; omega) ⟨rfl, rfl, rfl, rfl, rfl, trivial⟩ (fun w hw => ⟨⟨by show i + 1 ≤ l.length; omega, hus3⟩, hw.drop (.cons_cons _ (List.sublist_cons_self _ _))⟩)
  try simp at hb1
  obtain rfl : i = l.length := by omega
  rw [List.take_length] at hu
  have hpos := hT.pos
  refine CX.exit <| PX.thenE <| PX.thenE <| PX.blockE <| PX.thenN <| CX.sr <| LX.mv rfl <| LX.p (Y.lenSl rfl Tb.un23 rfl) rfl <| LX.p (Y.gtN rfl rfl) rfl <| LX.mv rfl ?_
  refine LX.caseB (s := 26) rfl (fun hb3 => ?_) (fun hb3 => ?_)
  ·
    have hb3p := hb3
    try simp at hb3p
    refine LX.gT rfl rfl rfl hb3 (Y.move rfl) rfl rfl <| LX.gT rfl rfl rfl hb3 (Y.move rfl) rfl rfl <| LX.gT rfl rfl rfl hb3 (Y.lenSl rfl Tb.un23 rfl) rfl rfl <| LX.gT rfl rfl rfl hb3 (Y.sub rfl rfl (by omega)) rfl rfl <| LX.gT rfl rfl rfl hb3 (show Y _ _ _ _ _ (.slice (some ⟨gb, 0, none⟩) (u.take (l.length - 1)).length l.length) from Y.cutHiT (a := some ⟨gb, 0, none⟩) (b := l.length - 1) (m := (u.take (l.length - 1)).length) Ta.un70 Ta.sz4 rfl (by show some _ = some (Value.int _ ((l.length - 1 : Nat) : Int)); congr 2; omega) (by omega) (by rw [List.length_take]; have := hu.1; omega)) rfl rfl <| LX.callQT rfl rfl rfl hb3 (hasBol_q l.length (ss := u.take (l.length - 1)) (by rw [List.length_take]; omega) false (fun w hw => (Go.Tr.row_at hw (j := 0) rfl hu.1.symm dc (fun i z h => map_A h)).take (l.length - 1))) Tb.en44 rfl rfl rfl rfl <| LX.gT rfl rfl rfl hb3 (Y.not rfl) rfl rfl <| LX.p (Y.pickT rfl hb3 rfl) rfl <| LX.mv rfl <| LX.su [2] rfl <| LX.nt <| CX.ret <| PX.ret1 (by simp) Try.results19 rfl ?_
    exact fun w hw => ⟨(), congrArg (fun z => Ending.returned (Value.bool z)) (by simp [hT.used hu]), hw.drop (List.nil_sublist _)⟩
  (exfalso; simp_all; done)
theorem treeT_q {W : World → Prop} [Stab W] {al : Option Addr} (cl : Nat) {l : List Nd} (hT : TreeF l) (hln : l.length ≤ 1048576)  (hl : ∀ w, W w → SlAt 5 ndA (Lies w w.heap.size) al l) : FnQ Try.prog 19 #[.slice al l.length cl] W (.bool true) := FnC.quiet fun w hw => treeT_c cl hT hln (hl w hw)
end Go.Proofs.Yteibddakpedogaa
