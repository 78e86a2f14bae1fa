/-
  Proved here: the document's Parse.
-/
import Derived.Test.YteibddakpedogaaAsN
import Derived.Test.YteibddakpedogaaRfC
import Derived.Test.YteibddakpedogaaAsU
import Derived.Test.YteibddakpedogaaAsV
import Derived.Test.YteibddakpedogaaAsT
set_option linter.unusedSimpArgs false
namespace Go.Proofs.Yteibddakpedogaa
open Go.SX Go.RowKit Go.Tr Go.As Go.Ck
namespace Po
theorem ag25 : AggT Try.prog 25 5 := AggT.of (by kernel_rfl) (by kernel_rfl)
theorem en11 : Enters Try.prog 11 := Enters.of Try.func11 (by kernel_rfl) (by kernel_rfl)
theorem en12 : Enters Try.prog 12 := Enters.of Try.func12 (by kernel_rfl) (by kernel_rfl)
theorem en13 : Enters Try.prog 13 := Enters.of Try.func13 (by kernel_rfl) (by kernel_rfl)
theorem en14 : Enters Try.prog 14 := Enters.of Try.func14 (by kernel_rfl) (by kernel_rfl)
theorem en15 : Enters Try.prog 15 := Enters.of Try.func15 (by kernel_rfl) (by kernel_rfl)
theorem en16 : Enters Try.prog 16 := Enters.of Try.func16 (by kernel_rfl) (by kernel_rfl)
theorem en17 : Enters Try.prog 17 := Enters.of Try.func17 (by kernel_rfl) (by kernel_rfl)
theorem fo25_0 : FieldOff Try.prog 25 0 0 := fun b o w => by kernel_rfl
theorem fo31_2 : FieldOff Try.prog 31 2 2 := fun b o w => by kernel_rfl
theorem fo42_2 : FieldOff Try.prog 42 2 2 := fun b o w => by kernel_rfl
theorem fo42_7 : FieldOff Try.prog 42 7 7 := fun b o w => by kernel_rfl
theorem fo42_8 : FieldOff Try.prog 42 8 8 := fun b o w => by kernel_rfl
theorem one23 : One Try.prog 23 := fun w => by kernel_rfl
theorem one3 : One Try.prog 3 := fun w => by kernel_rfl
theorem sz3 : SizeIs Try.prog 3 1 := fun w => by kernel_rfl
theorem sz31 : SizeIs Try.prog 31 5 := fun w => by kernel_rfl
theorem un23 : Try.prog.underlying 23 = some (.slice 31) := by kernel_rfl
theorem un29 : Try.prog.underlying 29 = some (.slice 3) := by kernel_rfl
theorem zv25 : ∀ w, (zeroValue 25).run Try.prog w = .ok (.agg #[.int .i64 0, .bool false, .int .i64 0, .bool false, .string ⟨#[]⟩]) w := fun w => by kernel_rfl
theorem el29 : Elem Try.prog 29 3 1 8 := Elem.of un29 (z := .int .i64 0) (by kernel_rfl) rfl
end Po
open Go.Pa (Tk)
open Go.Lex (Tok scan tkP)
@[reducible] def fitI (b : Nat) (x : Flt) : It := blk b x.v.cells.toList 25
theorem tok_at3 {ts : List Tok} {k : Nat} {t : Tok} (h : ts[k]? = some t) : ((ts.flatMap tokC).drop (k * 3)).take 3 = tokC t := by
  induction ts generalizing k with
  | nil => cases h
  | cons a r ih =>
    cases k with
    | zero => cases h; rfl
    | succ k =>
      have h2 := ih (k := k) (by simpa using h)
      rw [List.flatMap_cons, show (k + 1) * 3 = 3 + k * 3 by omega, ← List.drop_drop]
      exact h2
theorem toks_at {w0 w : World} {base n : Nat} {its : List It} {j c : Nat} {g : Option Nat} {ts : List Tok} (hw : WA w0 base its w) (hj : its[j]? = some (.row g c n 44 3 (ts.flatMap tokC))) (hn : n = (ts.map tkP).length) (hin : ∀ t ∈ ts, t.pos ≤ 65536 ∧ t.kind ≤ 8) : SlAt 3 tokA (Lies w w.heap.size) (g.map fun b => ⟨b, 0, none⟩) (ts.map tkP) :=
  Go.Tr.row_at hw hj hn dc fun i z hz => by
    rw [List.getElem?_map] at hz
    cases ht : ts[i]? with
    | none => rw [ht] at hz; cases hz
    | some t =>
      rw [ht] at hz
      cases hz
      have := hin t (List.mem_of_getElem? ht)
      exact ⟨tok_at3 ht, by unfold inI tkP; dsimp only; omega, by unfold inI tkP; dsimp only; omega⟩
theorem scan6_ok {w0 : World} {base : Nat} {fr : List It} {s : List UInt8} {ts : List Tok} (hs : s.length ≤ 65536) (h : scan s = .ok ts) : FnC Try.prog 11 #[str s] (WA w0 base fr) (fun t : Option Nat × Nat => .tuple #[rv t.1 (ts.map tkP).length t.2, flt0.v]) (fun t => WA w0 base (.row t.1 t.2 (ts.map tkP).length 44 3 (ts.flatMap tokC) :: fr)) := by
  rw [List.length_map]
  intro w hw
  refine (scan4_c s hs w hw).mono fun e w' ⟨x, he, hx⟩ => ?_
  rcases x with ⟨g, n, c⟩ | q
  · obtain ⟨ts', ⟨h2, h3⟩, h4⟩ := hx
    rw [h] at h2
    cases h2
    simp only at h3 h4
    subst h3
    exact ⟨(g, c), he, h4⟩
  obtain ⟨h2, _⟩ := hx
  rw [h] at h2; cases h2
theorem scan6_bad {w0 : World} {base : Nat} {fr : List It} {s : List UInt8} {q : Nat} (hs : s.length ≤ 65536) (h : scan s = .error q) : FnC Try.prog 11 #[str s] (WA w0 base fr) (fun _ : Unit => .tuple #[.slice none 0 0, (⟨101, true, q, false, []⟩ : Flt).v]) (fun _ => WA w0 base fr) := by
  intro w hw
  refine (scan4_c s hs w hw).mono fun e w' ⟨x, he, hx⟩ => ?_
  rcases x with ⟨g, n, c⟩ | q'
  · obtain ⟨ts', ⟨h2, h3⟩, h4⟩ := hx
    rw [h] at h2; cases h2
  obtain ⟨h2, h3⟩ := hx
  rw [h] at h2
  cases h2
  exact ⟨(), he, h3⟩
theorem placed6_q {W : World → Prop} [Stab W] (c q : Int) (hc : c ≠ 0) : FnQ Try.prog 15 #[.int .i64 c, .int .i64 q] W (Flt.v ⟨c, true, q, false, []⟩) := FnC.quiet fun w hw => placedR_c (fr := []) c q hc
theorem none6_q {W : World → Prop} [Stab W] : FnQ Try.prog 17 #[] W (Flt.v ⟨0, false, 0, false, []⟩) := FnC.quiet fun w hw => none_c (fr := [])
/-- what Parse comes to: a tree, or a fault -/
abbrev P6 := (List Nd × Mm) ⊕ (Int × Int)
@[reducible] def P6.v : P6 → Value
  | .inl q => .tuple #[rv q.2.g q.1.length q.2.c, flt0.v]
  | .inr q => .tuple #[.slice none 0 0, (⟨q.1, true, q.2, false, []⟩ : Flt).v]
def P6.w (w0 : World) (base : Nat) (fr : List It) : P6 → World → Prop
  | .inl q => fun w => (TreeF q.1 ∧ q.1.length ≤ 1048576 ∧ NdsR 3 q.2.rs q.2.cells q.1) ∧ WA w0 base (.row q.2.g q.2.c q.1.length 31 5 q.2.cells :: (q.2.rs ++ fr)) w
  | .inr q => fun w => q.1 ≠ 0 ∧ WA w0 base fr w
theorem tree_of {n : Nat} {s s1 s2 : RS} {op pos r k : Int} {jn : Nat} {x : List UInt8} {ks : List Int} (hs0 : s.ns = []) (hp : PutR s1 op pos x ks r s2) (hc : s1.code = 0) (hR : Rn n s s2 [r] jn k) (ha : s.at_ = 0) (hn : n ≤ 400000) (hk : k ≤ 5) : TreeF s2.ns ∧ s2.ns.length ≤ 1048576 := by
  obtain ⟨h1, h2⟩ := hp.ok hc
  have hl : s2.ns.length = s1.ns.length + 1 := by rw [h2]; simp
  have hc2 : s2.code = 0 := by rw [h2]; exact hc
  have hf := hR.ft hc2 [] (by rw [hs0]; exact Ft.zero)
  have hw := hR.few hc2
  have hlt := hR.lt
  rw [hs0, ha] at hw
  refine ⟨⟨by omega, ?_⟩, by simp at hw; omega⟩
  have e : ((s2.ns.length - 1 : Nat) : Int) = r := by rw [h1]; omega
  rw [e]
  exact hf
theorem parse6_bad {w00 : World} {base0 : Nat} {fr0 : List It} (s0 : List UInt8) (hs0 : s0.length ≤ 65536) {q : Nat} (hsc : scan s0 = .error q) : FnC Try.prog 5 #[str s0] (WA w00 base0 fr0) P6.v (P6.w w00 base0 fr0) := by
  refine FnC.of_body (fn := Try.f5) [(0, _)] Try.func5 rfl Try.ntmps5 rfl ⟨rfl, trivial⟩ ?_
  refine CX.sr <| LX.mv rfl <| LX.alloc rfl Po.zv25 rfl rfl rfl ?_
  intro b3
  refine LX.su [0, 2, 3] rfl <| LX.nt <| CX.sr <| LX.mv rfl <| LX.call (scan6_bad hs0 hsc) Po.en11 rfl rfl rfl rfl rfl ?_
  intro _
  refine LX.mv rfl <| LX.p (Y.extract rfl rfl) rfl <| LX.p (Y.extract rfl rfl) rfl <| LX.alloc rfl Po.zv25 rfl rfl rfl ?_
  intro b5
  refine LX.mv rfl <| LX.storeA 0 Po.ag25 rfl rfl rfl rfl rfl rfl rfl rfl rfl <| LX.su [2, 3, 4, 5] rfl <| LX.nt <| CX.seq <| CX.sr <| LX.p (Y.fieldAddr0 Po.fo25_0 rfl) rfl <| LX.p (Y.ldB 0 Po.one3 rfl rfl rfl) rfl <| LX.p (Y.neN rfl rfl) rfl <| LX.su [2, 3, 4, 5, 15] rfl <| LX.nt ?_
  refine CX.cond rfl (fun hb1 => ?_) (fun hb1 => ?_)
  · try simp at hb1
    refine CX.seq <| CX.regionS (WA w00 base0 [fitI b5 ⟨101, true, q, false, []⟩]) [(0, .held), (1, .anywhere), (2, .alone)] rfl (by kernel_rfl) <| MX.lift1 (i := 0) (pend' := []) rfl (fun w hw => by exact hw.drop (.cons_cons _ (List.nil_sublist _))) (Y.ldAggB 0 Po.ag25 rfl rfl rfl rfl) rfl rfl rfl (by kernel_rfl) <| MX.lift0 (i := 1) rfl (Y.assign rfl) rfl rfl rfl <| MX.force (i := 2) rfl <| LX.storeA 1 Po.ag25 rfl rfl rfl rfl rfl rfl rfl rfl rfl <| LX.nextM [] (by kernel_rfl) (fun h => absurd rfl h) <| MX.sub (l' := [(2, _), (3, _), (4, _)]) ⟨rfl, rfl, rfl, trivial⟩ <| MX.done <| PX.thenN <| CX.ret <| PX.thenR <| PX.ret2A (i := 1) (by simp) Try.results5 rfl Po.ag25 rfl rfl rfl ?_
    exact fun w hw => ⟨.inr (101, (q : Int)), rfl, (show (101 : Int) ≠ 0 by decide), hw.drop (.cons _ (.cons _ (List.Sublist.refl _)))⟩
  try simp at hb1
  done
set_option maxHeartbeats 1000000 in
theorem parse6_ok {w00 : World} {base0 : Nat} {fr0 : List It} (s0 : List UInt8) (hs0 : s0.length ≤ 65536) {ts : List Tok} (hsc : scan s0 = .ok ts) : FnC Try.prog 5 #[str s0] (WA w00 base0 fr0) P6.v (P6.w w00 base0 fr0) := by
  refine FnC.of_body (fn := Try.f5) [(0, _)] Try.func5 rfl Try.ntmps5 rfl ⟨rfl, trivial⟩ ?_
  refine CX.sr <| LX.mv rfl <| LX.alloc rfl Po.zv25 rfl rfl rfl ?_
  intro b3
  refine LX.su [0, 2, 3] rfl <| LX.nt <| CX.sr <| LX.mv rfl <| LX.call (scan6_ok hs0 hsc) Po.en11 rfl rfl rfl rfl rfl ?_
  rintro ⟨gT, cT⟩
  refine LX.mv rfl <| LX.p (Y.extract rfl rfl) rfl <| LX.p (Y.extract rfl rfl) rfl <| LX.alloc rfl Po.zv25 rfl rfl rfl ?_
  intro b5
  refine LX.mv rfl <| LX.storeA 0 Po.ag25 rfl rfl rfl rfl rfl rfl rfl rfl rfl <| LX.su [2, 3, 4, 5] rfl <| LX.nt <| CX.seq <| CX.sr <| LX.p (Y.fieldAddr0 Po.fo25_0 rfl) rfl <| LX.p (Y.ldB 0 Po.one3 rfl rfl rfl) rfl <| LX.p (Y.neN rfl rfl) rfl <| LX.su [2, 3, 4, 5, 15] rfl <| LX.nt ?_
  refine CX.cond rfl (fun hb1 => ?_) (fun hb1 => ?_)
  · try simp at hb1
    done
  try simp at hb1
  refine CX.fixB fun w0 base hw0 hbase => ?_
  obtain ⟨L, hLe⟩ : ∃ L, L = ts.map tkP := ⟨_, rfl⟩
  obtain ⟨al, hale⟩ : ∃ al : Option Addr, al = gT.map (fun b => ⟨b, 0, none⟩) := ⟨_, rfl⟩
  obtain ⟨cl, hcle⟩ : ∃ cl : Nat, cl = cT := ⟨_, rfl⟩
  have htk := Go.Lex.scan_tks hsc (by omega)
  have hL : SlAt 3 tokA (Lies w0 base) al L := by rw [hale, hLe, hbase]; exact toks_at hw0 (j := 1) rfl rfl (fun t ht => ⟨by have := (htk.2 t ht).1; omega, (htk.2 t ht).2⟩)
  have hK : Tok6 L := by rw [hLe]; exact htk.1.1
  have hL0 : 0 < L.length := by rw [hLe, List.length_map]; exact htk.1.2
  have hln0 := hK.len
  rw [← hLe] at hw0 ⊢
  replace hw0 : WA w00 base0 (fitI b5 flt0 :: .row gT cT L.length 44 3 (ts.flatMap tokC) :: fitI b3 flt0 :: fr0) w0 := hw0
  obtain ⟨s, hse⟩ : ∃ s : RS, s = ⟨0, [], 0, false, false, true, 0, 0⟩ := ⟨_, rfl⟩
  obtain ⟨m, hme⟩ : ∃ m : Mm, m = ⟨none, 0, [], []⟩ := ⟨_, rfl⟩
  have hs : Sk L.length s := by rw [hse]; exact ⟨hL0, Int.le_refl _, dc, fun _ => Nat.zero_le _, fun _ => ⟨[], Ft.zero⟩⟩
  have hn : NdsR 3 m.rs m.cells s.ns := by rw [hse, hme]; exact ⟨rfl, fun i x hx => (by cases hx)⟩
  have hsn : s.ns = [] := by rw [hse]
  have hsa : s.at_ = 0 := by rw [hse]
  have hR := Rn.refl hs
  have hle : s.at_ ≤ s.at_ := Nat.le_refl _
  have hd0 := hs.d0
  have hd1 := hs.d1
  have hlt := hs.lt
  refine CX.skip <| PX.thenN <| CX.sr <| LX.mv rfl <| LX.p (Y.build (v := .agg #[rv gT L.length cT, .int .i64 0, .slice none 0 0, .int .i64 0, .bool false, .bool false, .bool true, .int .i64 0, .int .i64 0]) rfl (fun _ => by kernel_rfl)) rfl <| LX.box rfl rfl rfl rfl rfl ?_
  intro bp
  refine LX.world (W' := WA w0 base (PWl bp al L cl s m ([] : List It))) (fun w hw => by rw [hse, hme, hale, hcle]; exact (hw.nilRow 31 5).perm (.swap _ _ _)) <| LX.mv rfl <| LX.su [2, 3, 6] rfl <| LX.nt <| CX.sr <| LX.mv rfl <| LX.su [2, 3, 6, 7] rfl <| LX.nt <| CX.seq <| CX.block ?_
  refine CX.loop (fun z : (List Int × Option Nat × Nat) × RS × Mm => [(3, .pointer (some ⟨b3, 0, none⟩)), (6, .pointer (some ⟨bp, 0, none⟩)), (7, rv z.1.2.1 (z.1.1).length z.1.2.2)]) (fun (z : (List Int × Option Nat × Nat) × RS × Mm) w => (AllI z.1.1 ∧ (z.1.1).length + 2 * s.at_ ≤ 2 * z.2.1.at_ + 0 + (if z.2.1.code = 0 then 0 else 1) ∧ s.at_ ≤ z.2.1.at_ ∧ s.deep ≤ z.2.1.deep ∧ Rn L.length s z.2.1 z.1.1 0 (0) ∧ NdsR 3 z.2.2.rs z.2.2.cells z.2.1.ns) ∧ WA w0 base (PWl bp al L cl z.2.1 z.2.2 (Ri z.1.2.1 z.1.2.2 (z.1.1) :: ([] : List It))) w) (fun z : (List Int × Option Nat × Nat) × RS × Mm => 2 * (L.length - z.2.1.at_) + (if z.2.1.code = 0 then 1 else 0)) (([], none, 0), s, m) ⟨rfl, rfl, (by rfl), trivial⟩ (fun w hw => ⟨⟨AllI.nil, (by show 0 + 2 * s.at_ ≤ 2 * s.at_ + 0 + (if s.code = 0 then 0 else 1); split <;> omega), Nat.le_refl _, Int.le_refl _, (hR.wk dc dc).re pm, hn⟩, ((show WA w0 base (Ri none 0 ([] : List Int) :: PWl bp al L cl s m ([] : List It)) w from hw.nilRow 3 1).perm pm)⟩) ?_
  rintro ⟨⟨l1_0, g1_0, c1_0⟩, s1, m1⟩
  refine CX.have fun ⟨hla1_0, hll1_0, hlo1, hld1, hR1, hn1⟩ => ?_
  try dsimp only at hla1_0 hll1_0 hlo1 hld1 hR1 hn1 ⊢
  have hllx1_0 : (l1_0).length ≤ 2 * s1.at_ + 1 := by split at hll1_0 <;> omega
  have hle1 : s.at_ ≤ s1.at_ := by omega
  have hlt1 : s1.at_ < L.length := hR1.lt
  have hde1 := hR1.d0
  have hdd1 := hR1.d1
  refine CX.seq <| CX.sr ?_
  obtain ⟨t2, ht2⟩ : ∃ t, L[s1.at_]? = some t := ⟨_, List.getElem?_eq_getElem (show s1.at_ < L.length from hR1.lt)⟩
  have htk2 := (tok_in hL ht2).1
  have htp2 := (tok_in hL ht2).2
  refine LX.mv rfl <| LX.callQ (show FnQ Try.prog 12 #[.pointer (some ⟨bp, 0, none⟩)] _ (.bool (decide (s1.code ≠ 0))) from bad_q (s := s1) (m := m1) (fun w hw => blkL hw (i := 0) rfl)) Po.en12 rfl rfl rfl rfl rfl <| LX.p (Y.not rfl) rfl <| LX.mv rfl <| LX.su [3, 6, 7, 23] rfl ?_
  apply LX.joinAnd 5 28 23 rfl
  · intro hb2
    refine LX.gT rfl rfl rfl hb2 (Y.move rfl) rfl rfl <| LX.callQT rfl rfl rfl hb2 (now_q (s := s1) (m := m1) ht2 (fun w hw => blkL hw (i := 0) rfl) (fun w hw => hL.push hw)) Po.en13 rfl rfl rfl rfl <| LX.gT rfl rfl rfl hb2 (Y.field (v := .int .i64 t2.kind) rfl (fun _ => by kernel_rfl)) rfl rfl <| LX.gT rfl rfl rfl hb2 (Y.neI rfl rfl) rfl rfl <| LX.p (Y.pickT rfl hb2 rfl) rfl ?_
    exact LX.left ⟨rfl, rfl, rfl, rfl, rfl, trivial⟩
  · intro hb2
    refine LX.gF rfl rfl rfl hb2 rfl rfl <| LX.gF rfl rfl rfl hb2 rfl rfl <| LX.gF rfl rfl rfl hb2 rfl rfl <| LX.gF rfl rfl rfl hb2 rfl rfl <| LX.p (Y.pickF rfl hb2 rfl) rfl ?_
    exact LX.left ⟨rfl, rfl, rfl, rfl, rfl, trivial⟩
  refine LX.su [3, 6, 7, 28] rfl <| LX.nt ?_
  refine CX.cond rfl (fun hb3 => ?_) (fun hb3 => ?_)
  · try simp at hb3
    refine CX.skip <| PX.thenN <| CX.block <| CX.region <| LX.ms 2 rfl ?_
    have hk3 : Sk L.length s1 := hs.next hR1 dc
    refine LX.call ((stm_all hL hK L.length).statement_ s1 m1 (Ri g1_0 c1_0 l1_0 :: ([] : List It)) hk3 hn1 (by show L.length - s1.at_ ≤ L.length; omega)) Po.en14 rfl rfl rfl rfl rfl ?_
    rintro ⟨r3, s3, m3⟩
    refine LX.have fun ⟨hri3, hr3, hn3⟩ => ?_
    try dsimp only at hri3 hr3 hn3 ⊢
    have hR4 : Rn L.length s s3 (l1_0 ++ [r3]) 1 (0) := hR1.trans hr3
    have hch5 : s1.at_ ≤ s3.at_ := hr3.le
    have hle5 : s.at_ ≤ s3.at_ := by omega
    have hlt5 : s3.at_ < L.length := hR4.lt
    have hde5 : s1.deep ≤ s3.deep := hr3.d0
    have hdd5 : s3.deep ≤ 60 := hR4.d1
    have hav3 : s3.code = 0 → s1.at_ + 1 ≤ s3.at_ := hr3.adv
    refine LX.buildSlice (e := 3) (size := 1) rfl rfl (fun _ => by kernel_rfl) rfl dc rfl rfl rfl ?_
    intro gt6
    refine LX.wq (Ri (some gt6) 1 ([r3]) :: PWl bp al L cl s3 m3 (Ri g1_0 c1_0 l1_0 :: ([] : List It))) rfl ?_
    refine LX.wp (Ri (some gt6) 1 ([r3]) :: Ri g1_0 c1_0 l1_0 :: PWl bp al L cl s3 m3 ([] : List It)) ?_
    refine LX.appendT 0 (g := g1_0) (k := (l1_0).length) Po.el29 rfl rfl rfl rfl rfl rfl rfl lo lo rfl rfl rfl ?_
    intro ga7 ca7
    refine LX.wa (Ri ga7 ca7 (l1_0 ++ [r3]) :: PWl bp al L cl s3 m3 ([] : List It)) <| LX.sub (l' := [(3, _), (6, _), (7, _), (28, _), (29, _), (30, _), (31, _), (32, _), (33, rv ga7 ((l1_0 ++ [r3])).length ca7)]) ⟨rfl, rfl, rfl, rfl, rfl, rfl, rfl, rfl, (by (show some (rv _ _ _) = some (rv _ _ _); simp only [List.length_cons, List.length_append, List.length_nil] <;> rfl)), trivial⟩ <| LX.mv rfl ?_
    refine LX.wp (PWl bp al L cl s3 m3 (Ri ga7 ca7 (l1_0 ++ [r3]) :: ([] : List It))) ?_
    refine LX.su [3, 6, 7] rfl <| LX.next <| PX.blockN ?_
    exact PX.again (i := ((l1_0, g1_0, c1_0), s1, m1)) (((l1_0 ++ [r3]), ga7, ca7), s3, m3) (by show 2 * (L.length - s3.at_) + (if s3.code = 0 then 1 else 0) < 2 * (L.length - s1.at_) + (if s1.code = 0 then 1 else 0); rw [if_pos (show s1.code = 0 by (simp_all; done))]; split <;> omega) ⟨rfl, rfl, (by rfl), trivial⟩ (fun w hw => ⟨⟨(AllI.app hla1_0 (AllI.cons as_ AllI.nil)), (by show List.length _ + 2 * s.at_ ≤ 2 * s3.at_ + 0 + (if s3.code = 0 then 0 else 1); (try simp only [List.length_cons, List.length_nil, List.length_append]); rw [if_pos (show s1.code = 0 by (simp_all; done))] at hll1_0; split <;> omega), (by show s.at_ ≤ s3.at_; omega), (by show s.deep ≤ s3.deep; omega), (hR4.wk dc dc).re pm, hn3⟩, (hw.perm pm)⟩)
  try simp at hb3
  refine CX.exit <| PX.thenE <| PX.thenE <| PX.blockE <| PX.thenN <| CX.seq <| CX.sr <| LX.mv rfl <| LX.callQ (show FnQ Try.prog 12 #[.pointer (some ⟨bp, 0, none⟩)] _ (.bool (decide (s1.code ≠ 0))) from bad_q (s := s1) (m := m1) (fun w hw => blkL hw (i := 0) rfl)) Po.en12 rfl rfl rfl rfl rfl <| LX.su [3, 6, 7, 35] rfl <| LX.nt ?_
  refine CX.cond rfl (fun hb4 => ?_) (fun hb4 => ?_)
  · try simp at hb4
    refine CX.seq ?_
    refine CX.world (W' := WA w00 base0 (fitI b3 flt0 :: PWl bp al L cl s1 m1 (.row gT cT L.length 44 3 (ts.flatMap tokC) :: fr0))) (fun w hw => ?_) ?_
    · subst hbase
      have h1 := WA.join hw0 (show WA w0 w0.heap.size (PWl bp al L cl s1 m1 (Ri g1_0 c1_0 l1_0 :: ([] : List It))) w from hw)
      exact ((h1.perm pm).drop (List.sublist_append_right [fitI b5 flt0, Ri g1_0 c1_0 l1_0] (fitI b3 flt0 :: PWl bp al L cl s1 m1 (.row gT cT L.length 44 3 (ts.flatMap tokC) :: fr0))))
    refine CX.regionM [(0, .anywhere), (1, .anywhere), (2, .anywhere), (3, .held), (4, .anywhere), (5, .anywhere), (6, .anywhere), (7, .held), (8, .alone), (9, .anywhere), (10, .alone)] rfl (by kernel_rfl) <| MX.lift0 (i := 0) rfl (Y.move rfl) rfl rfl rfl <| MX.lift0 (i := 1) rfl (Y.nilCheck rfl) rfl rfl rfl <| MX.lift0 (i := 2) rfl (Y.fieldAddr0 Po.fo42_7 rfl) rfl rfl rfl <| MX.lift1 (i := 3) (pend' := []) rfl (fun w hw => by exact hw) (Y.ldB 1 Po.one3 rfl rfl rfl) rfl rfl rfl (by kernel_rfl) <| MX.lift0 (i := 4) rfl (Y.move rfl) rfl rfl rfl <| MX.lift0 (i := 5) rfl (Y.nilCheck rfl) rfl rfl rfl <| MX.lift0 (i := 6) rfl (Y.fieldAddr0 Po.fo42_8 rfl) rfl rfl rfl <| MX.lift1 (i := 7) (pend' := [3]) rfl (fun w hw => by exact hw) (Y.ldB 1 Po.one3 rfl rfl rfl) rfl rfl rfl (by kernel_rfl) <| MX.force (i := 8) rfl <| LX.callQ (placed6_q s1.code s1.pos as_) Po.en15 rfl rfl rfl rfl rfl <| LX.nextM [] (by kernel_rfl) (fun h => absurd rfl h) <| MX.lift0 (i := 9) rfl (Y.assign rfl) rfl rfl rfl <| MX.force (i := 10) rfl <| LX.storeA 0 Po.ag25 rfl rfl rfl rfl rfl rfl rfl rfl rfl <| LX.nextM [] (by kernel_rfl) (fun h => absurd rfl h) <| MX.sub (l' := [(2, _), (3, _), (6, _), (7, _)]) ⟨rfl, rfl, rfl, rfl, trivial⟩ <| MX.done <| PX.thenN <| CX.ret <| PX.thenR <| PX.ret2A (i := 0) (by simp) Try.results5 rfl Po.ag25 rfl rfl rfl ?_
    exact fun w hw => ⟨.inr (s1.code, s1.pos), rfl, as_, hw.drop (.cons _ (.cons _ (.cons _ ((List.sublist_cons_self _ _).trans (List.sublist_append_right _ _)))))⟩
  try simp at hb4
  refine CX.skip <| PX.thenN <| CX.seq <| CX.sr <| LX.mv rfl <| LX.p (Y.lenSl rfl Po.un29 rfl) rfl <| LX.p (Y.eqN rfl rfl) rfl <| LX.su [3, 6, 7, 47] rfl <| LX.nt ?_
  refine CX.cond rfl (fun hb5 => ?_) (fun hb5 => ?_)
  · try simp at hb5
    refine CX.region <| LX.ms 2 rfl <| LX.world (W' := WA w0 base (Ri none 0 ([] : List Int) :: PWl bp al L cl s1 m1 (Ri g1_0 c1_0 l1_0 :: ([] : List It)))) (fun w hw => (show WA w0 base (Ri none 0 ([] : List Int) :: PWl bp al L cl s1 m1 (Ri g1_0 c1_0 l1_0 :: ([] : List It))) w from (show WA w0 base (PWl bp al L cl s1 m1 (Ri g1_0 c1_0 l1_0 :: ([] : List It))) w from hw).nilRow 3 1)) <| LX.call (put_c (fr := (Ri g1_0 c1_0 l1_0 :: ([] : List It))) (g := none) (c := 0) (ks := ([] : List Int)) (op := 38) (pos := 0) (x := ([] : List UInt8)) s1 m1 hn1 (fun h0 => by have h1 : ((s1.ns).length : Int) + 2 * s.at_ ≤ s.ns.length + 2 * ((s1.at_ : Nat) : Int) + (0) := hR1.few h0; have h2 := hs.few (hR1.bad h0); have h3 := hK.len; have h4 : s1.at_ < L.length := hR1.lt; show (s1.ns).length ≤ 1000000; omega) (by (simp only [List.length_cons, List.length_nil, List.length_append]; omega)) (AllI.nil) (by (unfold inI; omega)) (by (unfold inI; omega))) Po.en16 rfl rfl rfl rfl rfl ?_
    rintro ⟨r8, s8, m8⟩
    refine LX.have fun ⟨hri8, hp8, hn8⟩ => ?_
    try dsimp only at hri8 hp8 hn8 ⊢
    have hR9 : Rn L.length s s8 (l1_0 ++ [r8]) 0 (1) := hR1.put (us := (l1_0)) (ks := ([] : List Int)) hp8 pm
    have hch10 : s1.at_ ≤ s8.at_ := Nat.le_of_eq hp8.eqs.1.symm
    have hle10 : s.at_ ≤ s8.at_ := by omega
    have hlt10 : s8.at_ < L.length := hR9.lt
    have hde10 : s1.deep ≤ s8.deep := Int.le_of_eq hp8.eqs.2.1.symm
    have hdd10 : s8.deep ≤ 60 := hR9.d1
    have hpc8 : s8.code = 0 := hp8.eqs.2.2.trans (show s1.code = 0 by assumption)
    refine LX.buildSlice (e := 3) (size := 1) rfl rfl (fun _ => by kernel_rfl) rfl dc rfl rfl rfl ?_
    intro gt11
    refine LX.wq (Ri (some gt11) 1 ([r8]) :: PWl bp al L cl s8 m8 (Ri g1_0 c1_0 l1_0 :: ([] : List It))) rfl ?_
    refine LX.wp (Ri (some gt11) 1 ([r8]) :: Ri g1_0 c1_0 l1_0 :: PWl bp al L cl s8 m8 ([] : List It)) ?_
    refine LX.appendT 0 (g := g1_0) (k := (l1_0).length) Po.el29 rfl rfl rfl rfl rfl rfl rfl lo lo rfl rfl rfl ?_
    intro ga12 ca12
    refine LX.wa (Ri ga12 ca12 (l1_0 ++ [r8]) :: PWl bp al L cl s8 m8 ([] : List It)) <| LX.sub (l' := [(3, _), (6, _), (7, _), (47, _), (48, _), (49, _), (50, _), (51, _), (52, rv ga12 ((l1_0 ++ [r8])).length ca12)]) ⟨rfl, rfl, rfl, rfl, rfl, rfl, rfl, rfl, (by (show some (rv _ _ _) = some (rv _ _ _); simp only [List.length_cons, List.length_append, List.length_nil] <;> rfl)), trivial⟩ <| LX.mv rfl ?_
    refine LX.wp (PWl bp al L cl s8 m8 (Ri ga12 ca12 (l1_0 ++ [r8]) :: ([] : List It))) ?_
    refine LX.su [3, 6, 7] rfl <| LX.nt <| CX.seq ?_
    refine CX.world (W' := WA w0 base (Ri ga12 ca12 (l1_0 ++ [r8]) :: PWl bp al L cl s8 m8 ([] : List It))) (fun w hw => hw.perm pm) ?_
    refine CX.regionM [(0, .anywhere), (1, .anywhere), (2, .anywhere), (3, .anywhere), (4, .held), (5, .anywhere), (6, .held), (7, .held), (8, .held), (9, .held), (10, .held), (11, .anywhere), (12, .alone)] rfl (by kernel_rfl) <| MX.lift0 (i := 0) rfl (Y.move rfl) rfl rfl rfl <| MX.lift0 (i := 1) rfl (Y.move rfl) rfl rfl rfl <| MX.lift0 (i := 2) rfl (Y.nilCheck rfl) rfl rfl rfl <| MX.lift0 (i := 3) rfl (Y.fieldAddr0 Po.fo42_2 rfl) rfl rfl rfl <| MX.lift1 (i := 4) (pend' := []) rfl (fun w hw => by exact hw) (Y.ldB 1 Po.one23 rfl rfl rfl) rfl rfl rfl (by kernel_rfl) <| MX.lift0 (i := 5) rfl (Y.move rfl) rfl rfl rfl ?_
    obtain ⟨x13, hx13⟩ : ∃ x, ((l1_0 ++ [r8]))[0]? = some x := ⟨_, List.getElem?_eq_getElem (show 0 < ((l1_0 ++ [r8])).length by
      exact List.length_pos_iff.2 (by (simp; done)))⟩
    have hxm13 := List.mem_of_getElem? hx13
    refine MX.lift1 (i := 6) (pend' := [4]) rfl (fun w hw => by exact hw) (Y.idxR 0 (i := 0) Po.un29 Po.sz3 rfl rfl rfl (List.getElem?_eq_some_iff.1 hx13).1) rfl rfl rfl (by kernel_rfl) ?_
    refine MX.lift1 (i := 7) (pend' := [4]) rfl (fun w hw => by exact hw) (Y.ldR 0 (v := .int .i64 x13) Po.one3 rfl rfl (by show (((l1_0 ++ [r8])).map iv)[0]? = _; rw [List.getElem?_map, hx13]; rfl)) rfl rfl rfl (by kernel_rfl) ?_
    obtain ⟨i14, hi14, hil14, hkd14⟩ : ∃ i : Nat, x13 = (i : Int) ∧ i < (s8.ns).length ∧ ∀ (k : Nat) x, (s8.ns)[k]? = some x → ∀ q ∈ x.kids, 0 ≤ q ∧ q < (k : Int)   := root_at (q := s8) hs hR9 as_ as_
    obtain ⟨y14, hy14⟩ : ∃ y, (s8.ns)[i14]? = some y := ⟨_, List.getElem?_eq_getElem hil14⟩
    have hyc14 := hn8.cell hy14
    have hyp14 : inI y14.pos := hyc14.2.2.2.2
    refine MX.lift1 (i := 8) (pend' := []) rfl (fun w hw => by exact hw) (Y.idxRZ 2 (i := i14) Po.un23 Po.sz31 rfl rfl hi14 rfl hil14) rfl rfl rfl (by kernel_rfl) <| MX.lift1 (i := 9) (pend' := []) rfl (fun w hw => by exact hw) (Y.fieldAddr Po.fo31_2 rfl) rfl rfl rfl (by kernel_rfl) <| MX.lift1 (i := 10) (pend' := []) rfl (fun w hw => by exact hw) (Y.ldR 2 (v := .int .i64 y14.pos) Po.one3 rfl rfl hyc14.2.2.1) rfl rfl rfl (by kernel_rfl) <| MX.lift0 (i := 11) rfl (Y.move rfl) rfl rfl rfl <| MX.force (i := 12) rfl <| LX.call (put_c (fr := ([] : List It)) (g := ga12) (c := ca12) (ks := (l1_0 ++ [r8])) (op := 47) (pos := y14.pos) (x := ([] : List UInt8)) s8 m8 hn8 (fun h0 => by have h1 : ((s8.ns).length : Int) + 2 * s.at_ ≤ s.ns.length + 2 * ((s8.at_ : Nat) : Int) + (1) := hR9.few h0; have h2 := hs.few (hR9.bad h0); have h3 := hK.len; have h4 : s8.at_ < L.length := hR9.lt; show (s8.ns).length ≤ 1000000; omega) (by (simp only [List.length_cons, List.length_nil, List.length_append]; omega)) ((AllI.app hla1_0 (AllI.cons as_ AllI.nil))) (by (unfold inI; omega)) as_) Po.en16 rfl rfl rfl rfl rfl ?_
    rintro ⟨r15, s15, m15⟩
    refine LX.have fun ⟨hri15, hp15, hn15⟩ => ?_
    try dsimp only at hri15 hp15 hn15 ⊢
    have hR16 : Rn L.length s s15 ([r15]) 0 (2) := hR9.put (us := ([] : List Int)) (ks := (l1_0 ++ [r8])) hp15 pm
    have hch17 : s8.at_ ≤ s15.at_ := Nat.le_of_eq hp15.eqs.1.symm
    have hle17 : s.at_ ≤ s15.at_ := by omega
    have hlt17 : s15.at_ < L.length := hR16.lt
    have hde17 : s8.deep ≤ s15.deep := Int.le_of_eq hp15.eqs.2.1.symm
    have hdd17 : s15.deep ≤ 60 := hR16.d1
    have hpc15 : s15.code = 0 := hp15.eqs.2.2.trans (show s8.code = 0 by assumption)
    refine LX.nextM [] (by kernel_rfl) (fun h => absurd rfl h) <| MX.sub (l' := [(3, _), (6, _)]) ⟨rfl, rfl, trivial⟩ <| MX.done <| PX.thenN <| CX.seq ?_
    refine CX.world (W' := WA w00 base0 (fitI b3 flt0 :: PWl bp al L cl s15 m15 (.row gT cT L.length 44 3 (ts.flatMap tokC) :: fr0))) (fun w hw => ?_) ?_
    · subst hbase
      have h1 := WA.join hw0 (show WA w0 w0.heap.size (PWl bp al L cl s15 m15 ([] : List It)) w from hw)
      exact ((h1.perm pm).drop (List.sublist_append_right [fitI b5 flt0] (fitI b3 flt0 :: PWl bp al L cl s15 m15 (.row gT cT L.length 44 3 (ts.flatMap tokC) :: fr0))))
    refine CX.regionM [(0, .anywhere), (1, .anywhere), (2, .anywhere), (3, .held), (4, .alone), (5, .held), (6, .alone)] rfl (by kernel_rfl) <| MX.lift0 (i := 0) rfl (Y.move rfl) rfl rfl rfl <| MX.lift0 (i := 1) rfl (Y.nilCheck rfl) rfl rfl rfl <| MX.lift0 (i := 2) rfl (Y.fieldAddr0 Po.fo42_2 rfl) rfl rfl rfl <| MX.lift1 (i := 3) (pend' := []) rfl (fun w hw => by exact hw) (Y.ldB 1 Po.one23 rfl rfl rfl) rfl rfl rfl (by kernel_rfl) <| MX.force (i := 4) rfl <| LX.callQ (none6_q) Po.en17 rfl rfl rfl rfl rfl <| LX.nextM [3] (by kernel_rfl) (fun _ => (fun w hw => by exact hw)) <| MX.lift1 (i := 5) (pend' := []) rfl (fun w hw => by exact hw) (Y.assign rfl) rfl rfl rfl (by kernel_rfl) <| MX.force (i := 6) rfl <| LX.storeA 0 Po.ag25 rfl rfl rfl rfl rfl rfl rfl rfl rfl <| LX.nextM [] (by kernel_rfl) (fun h => absurd rfl h) <| MX.sub (l' := [(2, _), (3, _)]) ⟨rfl, rfl, trivial⟩ <| MX.done <| PX.thenN <| CX.ret <| PX.ret2A (i := 0) (by simp) Try.results5 rfl Po.ag25 rfl rfl rfl ?_
    have hTr := tree_of hsn hp15 as_ hR16 hsa hK.len dc
    exact fun w hw => ⟨.inl (s15.ns, m15), rfl, ⟨hTr.1, hTr.2, hn15⟩, (((show WA w00 base0 (fitI b3 (⟨0, false, 0, false, []⟩ : Flt) :: PBl bp al L cl s15 m15 :: ROl s15 m15 :: (m15.rs ++ (.row gT cT L.length 44 3 (ts.flatMap tokC) :: fr0))) w from hw).perm pm).drop (List.sublist_append_right [fitI b3 (⟨0, false, 0, false, []⟩ : Flt), PBl bp al L cl s15 m15, .row gT cT L.length 44 3 (ts.flatMap tokC)] (ROl s15 m15 :: (m15.rs ++ fr0))))⟩
  try simp at hb5
  refine CX.skip <| PX.thenN <| CX.seq ?_
  refine CX.world (W' := WA w0 base (Ri g1_0 c1_0 l1_0 :: PWl bp al L cl s1 m1 ([] : List It))) (fun w hw => hw.perm pm) ?_
  refine CX.regionM [(0, .anywhere), (1, .anywhere), (2, .anywhere), (3, .anywhere), (4, .held), (5, .anywhere), (6, .held), (7, .held), (8, .held), (9, .held), (10, .held), (11, .anywhere), (12, .alone)] rfl (by kernel_rfl) <| MX.lift0 (i := 0) rfl (Y.move rfl) rfl rfl rfl <| MX.lift0 (i := 1) rfl (Y.move rfl) rfl rfl rfl <| MX.lift0 (i := 2) rfl (Y.nilCheck rfl) rfl rfl rfl <| MX.lift0 (i := 3) rfl (Y.fieldAddr0 Po.fo42_2 rfl) rfl rfl rfl <| MX.lift1 (i := 4) (pend' := []) rfl (fun w hw => by exact hw) (Y.ldB 1 Po.one23 rfl rfl rfl) rfl rfl rfl (by kernel_rfl) <| MX.lift0 (i := 5) rfl (Y.move rfl) rfl rfl rfl ?_
  obtain ⟨x18, hx18⟩ : ∃ x, (l1_0)[0]? = some x := ⟨_, List.getElem?_eq_getElem (show 0 < (l1_0).length by
    exact List.length_pos_iff.2 as_)⟩
  have hxm18 := List.mem_of_getElem? hx18
  refine MX.lift1 (i := 6) (pend' := [4]) rfl (fun w hw => by exact hw) (Y.idxR 0 (i := 0) Po.un29 Po.sz3 rfl rfl rfl (List.getElem?_eq_some_iff.1 hx18).1) rfl rfl rfl (by kernel_rfl) ?_
  refine MX.lift1 (i := 7) (pend' := [4]) rfl (fun w hw => by exact hw) (Y.ldR 0 (v := .int .i64 x18) Po.one3 rfl rfl (by show ((l1_0).map iv)[0]? = _; rw [List.getElem?_map, hx18]; rfl)) rfl rfl rfl (by kernel_rfl) ?_
  obtain ⟨i19, hi19, hil19, hkd19⟩ : ∃ i : Nat, x18 = (i : Int) ∧ i < (s1.ns).length ∧ ∀ (k : Nat) x, (s1.ns)[k]? = some x → ∀ q ∈ x.kids, 0 ≤ q ∧ q < (k : Int)   := root_at (q := s1) hs hR1 as_ as_
  obtain ⟨y19, hy19⟩ : ∃ y, (s1.ns)[i19]? = some y := ⟨_, List.getElem?_eq_getElem hil19⟩
  have hyc19 := hn1.cell hy19
  have hyp19 : inI y19.pos := hyc19.2.2.2.2
  refine MX.lift1 (i := 8) (pend' := []) rfl (fun w hw => by exact hw) (Y.idxRZ 2 (i := i19) Po.un23 Po.sz31 rfl rfl hi19 rfl hil19) rfl rfl rfl (by kernel_rfl) <| MX.lift1 (i := 9) (pend' := []) rfl (fun w hw => by exact hw) (Y.fieldAddr Po.fo31_2 rfl) rfl rfl rfl (by kernel_rfl) <| MX.lift1 (i := 10) (pend' := []) rfl (fun w hw => by exact hw) (Y.ldR 2 (v := .int .i64 y19.pos) Po.one3 rfl rfl hyc19.2.2.1) rfl rfl rfl (by kernel_rfl) <| MX.lift0 (i := 11) rfl (Y.move rfl) rfl rfl rfl <| MX.force (i := 12) rfl <| LX.call (put_c (fr := ([] : List It)) (g := g1_0) (c := c1_0) (ks := l1_0) (op := 47) (pos := y19.pos) (x := ([] : List UInt8)) s1 m1 hn1 (fun h0 => by have h1 : ((s1.ns).length : Int) + 2 * s.at_ ≤ s.ns.length + 2 * ((s1.at_ : Nat) : Int) + (0) := hR1.few h0; have h2 := hs.few (hR1.bad h0); have h3 := hK.len; have h4 : s1.at_ < L.length := hR1.lt; show (s1.ns).length ≤ 1000000; omega) (by omega) (hla1_0) (by (unfold inI; omega)) as_) Po.en16 rfl rfl rfl rfl rfl ?_
  rintro ⟨r20, s20, m20⟩
  refine LX.have fun ⟨hri20, hp20, hn20⟩ => ?_
  try dsimp only at hri20 hp20 hn20 ⊢
  have hR21 : Rn L.length s s20 ([r20]) 0 (1) := hR1.put (us := ([] : List Int)) (ks := l1_0) hp20 pm
  have hch22 : s1.at_ ≤ s20.at_ := Nat.le_of_eq hp20.eqs.1.symm
  have hle22 : s.at_ ≤ s20.at_ := by omega
  have hlt22 : s20.at_ < L.length := hR21.lt
  have hde22 : s1.deep ≤ s20.deep := Int.le_of_eq hp20.eqs.2.1.symm
  have hdd22 : s20.deep ≤ 60 := hR21.d1
  have hpc20 : s20.code = 0 := hp20.eqs.2.2.trans (show s1.code = 0 by assumption)
  refine LX.nextM [] (by kernel_rfl) (fun h => absurd rfl h) <| MX.sub (l' := [(3, _), (6, _)]) ⟨rfl, rfl, trivial⟩ <| MX.done <| PX.thenN <| CX.seq ?_
  refine CX.world (W' := WA w00 base0 (fitI b3 flt0 :: PWl bp al L cl s20 m20 (.row gT cT L.length 44 3 (ts.flatMap tokC) :: fr0))) (fun w hw => ?_) ?_
  · subst hbase
    have h1 := WA.join hw0 (show WA w0 w0.heap.size (PWl bp al L cl s20 m20 ([] : List It)) w from hw)
    exact ((h1.perm pm).drop (List.sublist_append_right [fitI b5 flt0] (fitI b3 flt0 :: PWl bp al L cl s20 m20 (.row gT cT L.length 44 3 (ts.flatMap tokC) :: fr0))))
  refine CX.regionM [(0, .anywhere), (1, .anywhere), (2, .anywhere), (3, .held), (4, .alone), (5, .held), (6, .alone)] rfl (by kernel_rfl) <| MX.lift0 (i := 0) rfl (Y.move rfl) rfl rfl rfl <| MX.lift0 (i := 1) rfl (Y.nilCheck rfl) rfl rfl rfl <| MX.lift0 (i := 2) rfl (Y.fieldAddr0 Po.fo42_2 rfl) rfl rfl rfl <| MX.lift1 (i := 3) (pend' := []) rfl (fun w hw => by exact hw) (Y.ldB 1 Po.one23 rfl rfl rfl) rfl rfl rfl (by kernel_rfl) <| MX.force (i := 4) rfl <| LX.callQ (none6_q) Po.en17 rfl rfl rfl rfl rfl <| LX.nextM [3] (by kernel_rfl) (fun _ => (fun w hw => by exact hw)) <| MX.lift1 (i := 5) (pend' := []) rfl (fun w hw => by exact hw) (Y.assign rfl) rfl rfl rfl (by kernel_rfl) <| MX.force (i := 6) rfl <| LX.storeA 0 Po.ag25 rfl rfl rfl rfl rfl rfl rfl rfl rfl <| LX.nextM [] (by kernel_rfl) (fun h => absurd rfl h) <| MX.sub (l' := [(2, _), (3, _)]) ⟨rfl, rfl, trivial⟩ <| MX.done <| PX.thenN <| CX.ret <| PX.ret2A (i := 0) (by simp) Try.results5 rfl Po.ag25 rfl rfl rfl ?_
  have hTr := tree_of hsn hp20 as_ hR21 hsa hK.len dc
  exact fun w hw => ⟨.inl (s20.ns, m20), rfl, ⟨hTr.1, hTr.2, hn20⟩, (((show WA w00 base0 (fitI b3 (⟨0, false, 0, false, []⟩ : Flt) :: PBl bp al L cl s20 m20 :: ROl s20 m20 :: (m20.rs ++ (.row gT cT L.length 44 3 (ts.flatMap tokC) :: fr0))) w from hw).perm pm).drop (List.sublist_append_right [fitI b3 (⟨0, false, 0, false, []⟩ : Flt), PBl bp al L cl s20 m20, .row gT cT L.length 44 3 (ts.flatMap tokC)] (ROl s20 m20 :: (m20.rs ++ fr0))))⟩
theorem parse6_c {w00 : World} {base0 : Nat} {fr0 : List It} (s0 : List UInt8) (hs0 : s0.length ≤ 65536) : FnC Try.prog 5 #[str s0] (WA w00 base0 fr0) P6.v (P6.w w00 base0 fr0) := by
  rcases hsc : scan s0 with q | ts
  · exact parse6_bad s0 hs0 hsc
  · exact parse6_ok s0 hs0 hsc
end Go.Proofs.Yteibddakpedogaa
