/-
  Proved here: the document's scanner: what Scan hands back.
-/
import Derived.Test.YteibddakpedogaaRfB
import Derived.Test.YteibddakpedogaaRefQ
import Derived.Test.YteibddakpedogaaAsQ
set_option linter.unusedSimpArgs false
namespace Go.Proofs.Yteibddakpedogaa
open Go.SX Go.RowKit Go.Lex
/-- a result that lies in a word, and one in a cell -/
theorem PX.ret2A {P : Program} {w0 : World} {base n : Nat} {its : List It} {l : Fr} {t : TypeId} {R : Ending → World → Prop} {fn : Func} {r0 r b T k i : Nat} {v0 : Value} {cs : List Value} {e : Exit} (he : e = .ret ∨ e = .normal) (hr : fn.results = #[.tmp r0, .cell r t]) (hv0 : get l r0 = some v0) (ht : AggT P t k) (hv : get l r = some (.pointer (some ⟨b, 0, none⟩))) (hi : its[i]? = some (blk b cs T)) (hk : cs.length = k)
    (h : ∀ w, WA w0 base its w → R (.returned (.tuple #[v0, .agg cs.toArray])) w) : PX n [] (bodyPost P fn R) l (WA w0 base its) e := by
  intro a w ha hW
  obtain ⟨d, hu, hd⟩ := ht.un
  have hp' : a.tmps[r]?.getD undef = .pointer (some ⟨b, 0, none⟩) := by simpa using getD_of ha hv
  have hp0 : a.tmps[r0]?.getD undef = v0 := by simpa using getD_of ha hv0
  have h2 := run_loadVar_row (P := P) w b T t cs.toArray (0, 0) d (hW.get hi).2 hu (by cases d <;> first | rfl | cases hd) (by rw [ht.info]; simp [hk])
  have h1 : (results fn a.tmps).run P w = .ok (.tuple #[v0, .agg cs.toArray]) w := by
    simp [results, hr, hp', hp0, asAddr, h2]
  rcases he with rfl | rfl
  · exact ⟨ha.defs, _, h1, h w hW⟩
  · exact ⟨ha.defs, _, h1, h w hW⟩
theorem badI_neg {b : Option Nat} (h : badI b < 0) : b = none := by
  cases b with
  | none => rfl
  | some n => simp at h; omega
@[reducible] def fltI (b : Nat) (x : Flt) : It := blk b x.v.cells.toList 25
def flt0 : Flt := ⟨0, false, 0, false, []⟩
theorem starts_no4 {σ : Sc} (hp : σ.pos < σ.s.length) (h : startsB (bt σ.s σ.pos) = false) : σ.begins = false := by
  unfold startsB at h
  simp only [Bool.or_eq_false_iff, decide_eq_false_iff_not] at h
  obtain ⟨⟨⟨⟨⟨⟨h1, h2⟩, h3⟩, h4⟩, h5⟩, h6⟩, h7⟩ := h
  rw [bt_u8] at h7
  have h8 := starts_sign hp h7 h5 h6
  unfold Sc.begins Sc.found
  simp only [h1, h2, h8]
  simp [h3, h4]

abbrev Sc4R := (Option Nat × Nat × Nat) ⊕ Nat
def sc4V : Sc4R → Value
  | .inl t => .tuple #[rv t.1 t.2.1 t.2.2, flt0.v]
  | .inr q => .tuple #[.slice none 0 0, (⟨101, true, q, false, []⟩ : Flt).v]
def sc4W (w0 : World) (base : Nat) (fr : List It) (s : List UInt8) : Sc4R → World → Prop
  | .inl t => fun w => ∃ ts, (scan s = .ok ts ∧ ts.length = t.2.1) ∧ WA w0 base (.row t.1 t.2.2 t.2.1 44 3 (ts.flatMap tokC) :: fr) w
  | .inr q => fun w => scan s = .error q ∧ WA w0 base fr w

theorem scan4_c {w0 : World} {base : Nat} {fr : List It} (s : List UInt8) (hs : s.length ≤ 65536) : FnC Try.prog 11 #[str s] (WA w0 base fr) sc4V (sc4W w0 base fr s) := by
  refine FnC.of_body (fn := Try.f11) [(0, _)] Try.func11 rfl Try.ntmps11 rfl ⟨rfl, trivial⟩ ?_
  refine CX.sr <| LX.mv rfl <| LX.alloc rfl Fr.zv25 rfl rfl rfl ?_
  intro bx1
  refine LX.su [0, 2, 3] rfl <| LX.nt <| CX.seq <| CX.sr <| LX.mv rfl <| LX.p (Y.lenStr rfl Fr.un9 rfl) rfl <| LX.p (Y.gtN rfl rfl) rfl <| LX.su [0, 2, 3, 12] rfl <| LX.nt ?_
  refine CX.cond rfl (fun hb1 => ?_) (fun hb1 => ?_)
  · try simp at hb1
    exfalso; omega
  try simp at hb1
  refine CX.skip <| PX.thenN <| CX.sr <| LX.mv rfl <| LX.buildSlice (e := 3) (size := 1) rfl rfl (fun _ => by kernel_rfl) rfl dc rfl rfl rfl ?_
  intro gt6
  refine LX.p (Y.build (v := .agg #[str s, .int .i64 0, .slice none 0 0, rv (some gt6) 1 1, .slice none 0 0, .bool false, .int .i64 (-1)]) rfl (fun _ => by kernel_rfl)) rfl <| LX.box rfl rfl rfl rfl rfl ?_
  intro B
  refine LX.world (W' := WA w0 base (rfI B (Sc.start s) none ⟨none, 0, some gt6, 1, none, 0⟩ (fltI bx1 flt0 :: fr))) (fun w hw => ((hw.nilRow 44 3).nilRow 5 1).perm (by
    simp only [rfI, Sc.start, List.flatMap_nil, List.map_nil, List.length_nil]
    exact sc_perm)) ?_
  refine LX.mv rfl <| LX.su [0, 2, 3, 4] rfl <| LX.nt <| CX.sr <| LX.mv rfl <| LX.su [0, 2, 3, 4, 5] rfl <| LX.nt <| CX.sr <| LX.mv rfl <| LX.su [0, 2, 3, 4, 5, 6] rfl <| LX.nt ?_
  refine CX.seqM (τ := Sc × Option Nat × Sl) (fun _ : Sc × Option Nat × Sl => [(0, str s), (3, .pointer (some ⟨bx1, 0, none⟩)), (4, .pointer (some ⟨B, 0, none⟩))]) (fun (t : Sc × Option Nat × Sl) w => (match t.2.1 with | some e => (Sc.start s).go = .error e | none => (Sc.start s).go = .ok t.1 ∧ Inv t.1 ∧ t.1.s = s ∧ s.length ≤ t.1.pos) ∧ WA w0 base (rfI B t.1 t.2.1 t.2.2 (fltI bx1 flt0 :: fr)) w) ?_ ?_
  ·
    refine CX.block <| CX.loop (τ := Sc × Option Nat × Sl × Nat × Bool) (fun t : Sc × Option Nat × Sl × Nat × Bool => [(0, str s), (3, .pointer (some ⟨bx1, 0, none⟩)), (4, .pointer (some ⟨B, 0, none⟩)), (5, .int .i64 (t.2.2.2.1 : Int)), (6, .bool t.2.2.2.2)]) (fun (t : Sc × Option Nat × Sl × Nat × Bool) w => (RSt s t.1 t.2.1 t.2.2.2.1 t.2.2.2.2 ∧ t.2.2.2.1 ≤ 65536) ∧ WA w0 base (rfI B t.1 t.2.1 t.2.2.1 (fltI bx1 flt0 :: fr)) w) (fun t => match t.2.1 with | none => s.length - t.1.pos + 1 | some _ => 0) (Sc.start s, none, ⟨none, 0, some gt6, 1, none, 0⟩, 0, true) ⟨rfl, rfl, rfl, rfl, rfl, trivial⟩ (fun w hw => ⟨⟨rinv_start s, Nat.zero_le _⟩, hw⟩) ?_
    rintro ⟨σ, b, p, st, bl⟩
    refine CX.have fun ⟨hR, hst⟩ => ?_
    dsimp only at hR hst ⊢
    refine CX.seq <| CX.sr <| LX.ms 2 rfl <| LX.p (Y.fieldAddr0 Fr.fo58_1 rfl) rfl <| LX.p (Y.ldB 0 Fr.one3 rfl rfl rfl) rfl <| LX.mv rfl <| LX.p (Y.lenStr rfl Fr.un9 rfl) rfl <| LX.p (Y.ltN rfl rfl) rfl <| LX.mv rfl <| LX.su [0, 3, 4, 5, 6, 25] rfl ?_
    apply LX.joinAnd 6 31 25 rfl
    · intro hb2
      refine LX.gT rfl rfl rfl hb2 (Y.move rfl) rfl rfl <| LX.gT rfl rfl rfl hb2 (Y.nilCheck rfl) rfl rfl <| LX.gT rfl rfl rfl hb2 (Y.fieldAddr0 Fr.fo58_6 rfl) rfl rfl <| LX.gT rfl rfl rfl hb2 (Y.ldB 0 Fr.one3 rfl rfl rfl) rfl rfl <| LX.gT rfl rfl rfl hb2 (Y.ltI rfl rfl) rfl rfl <| LX.p (Y.pickT rfl hb2 rfl) rfl ?_
      exact LX.left ⟨rfl, rfl, rfl, rfl, rfl, rfl, rfl, trivial⟩
    · intro hb2
      refine LX.gF rfl rfl rfl hb2 rfl rfl <| LX.gF rfl rfl rfl hb2 rfl rfl <| LX.gF rfl rfl rfl hb2 rfl rfl <| LX.gF rfl rfl rfl hb2 rfl rfl <| LX.gF rfl rfl rfl hb2 rfl rfl <| LX.p (Y.pickF rfl hb2 rfl) rfl ?_
      exact LX.left ⟨rfl, rfl, rfl, rfl, rfl, rfl, rfl, trivial⟩
    refine LX.su [0, 3, 4, 5, 6, 31] rfl <| LX.nt ?_
    refine CX.cond rfl (fun hb3 => ?_) (fun hb3 => ?_)
    · try simp at hb3
      obtain rfl : b = none := badI_neg hb3.2
      have hp : σ.pos < s.length := hb3.1
      have hRI : RInv s σ st bl := hR
      have hts : σ.s = s := hRI.text
      have hiv := hRI.inv
      have hfew := hiv.few
      have hsome := hiv.some
      have hbk := hiv.brk
      have hdp := hiv.deep
      refine CX.skip <| PX.thenN <| CX.block <| CX.sr <| LX.ms 3 rfl <| LX.p (Y.fieldAddr0 Fr.fo58_1 rfl) rfl <| LX.p (Y.ldB 0 Fr.one3 rfl rfl rfl) rfl <| LX.p (Y.index rfl rfl Fr.un9 (by exact hp)) rfl <| LX.mv rfl <| LX.su [0, 3, 4, 5, 6, 7] rfl <| LX.nt <| CX.seq <| CX.block <| CX.sr <| LX.mv rfl <| LX.p (Y.eqN rfl rfl) rfl <| LX.mv rfl <| LX.su [0, 3, 4, 5, 6, 7, 38] rfl <| LX.nt ?_
      refine CX.cond rfl (fun hb4 => ?_) (fun hb4 => ?_)
      · try simp at hb4
        refine CX.seq <| CX.sr <| LX.ms 2 rfl <| LX.p (Y.fieldAddr0 Fr.fo58_2 rfl) rfl <| LX.p (Y.ldB 0 Fr.one56 rfl rfl rfl) rfl <| LX.p (Y.lenSl rfl Fr.un56 rfl) rfl <| LX.p (Y.eqN rfl rfl) rfl <| LX.su [0, 3, 4, 5, 6, 7, 46] rfl <| LX.nt ?_
        refine CX.cond rfl (fun hb5 => ?_) (fun hb5 => ?_)
        · try simp at hb5
          refine CX.seq <| CX.sr <| LX.ms 2 rfl <| LX.p (Y.fieldAddr0 Fr.fo58_5 rfl) rfl <| LX.p (Y.ldB 0 Fr.one4 rfl rfl rfl) rfl <| LX.su [0, 3, 4, 5, 6, 7, 50] rfl <| LX.nt ?_
          refine CX.cond rfl (fun hb6 => ?_) (fun hb6 => ?_)
          · try simp at hb6
            refine CX.region <| LX.ms 3 rfl <| LX.p (Y.fieldAddr0 Fr.fo58_1 rfl) rfl <| LX.p (Y.ldB 0 Fr.one3 rfl rfl rfl) rfl <| LX.call (put4_c _ _ _ (by omega)) Fr.en21 rfl rfl rfl rfl rfl ?_
            intro pT
            refine LX.su [0, 3, 4, 5, 6, 7] rfl <| LX.nt <| CX.region <| LX.ms 2 rfl <| LX.p (Y.fieldAddr0 Fr.fo58_5 rfl) rfl <| LX.storeB 0 Fr.sz4 rfl rfl rfl rfl rfl rfl rfl rfl <| LX.su [0, 3, 4, 5, 6, 7] rfl <| LX.nt <| CX.sr <| LX.ms 3 rfl <| LX.p (Y.fieldAddr0 Fr.fo58_1 rfl) rfl <| LX.p (Y.ldB 0 Fr.one3 rfl rfl rfl) rfl <| LX.p (Y.addN rfl rfl (by (simp only [Sc.tok, List.length_append, List.length_singleton]; omega))) rfl <| LX.mv rfl <| LX.p (Y.fieldAddr0 Fr.fo58_1 rfl) rfl <| LX.storeB 0 Fr.sz3 rfl rfl rfl rfl rfl rfl rfl rfl <| LX.su [0, 3, 4, 5, 6, 7] rfl <| LX.nt <| CX.sr <| LX.ms 2 rfl <| LX.p (Y.fieldAddr0 Fr.fo58_1 rfl) rfl <| LX.p (Y.ldB 0 Fr.one3 rfl rfl rfl) rfl <| LX.mv rfl <| LX.su [0, 3, 4, 5, 6, 7] rfl <| LX.nt <| CX.sr <| LX.mv rfl <| LX.su [0, 3, 4, 5, 6, 7] rfl <| LX.next ?_
            refine PX.thenN <| CX.exit <| PX.blockO rfl <| PX.thenE <| PX.blockE ?_
            exact PX.again (i := (σ, none, p, st, bl)) ({ σ.nl with pos := σ.nl.pos + 1 }, none, pT, σ.pos + 1, true) (by show s.length - (σ.nl.pos + 1) + 1 < s.length - σ.pos + 1; rw [Sc.nl_pos]; omega) ⟨rfl, rfl, rfl, rfl, rfl, trivial⟩ (fun w hw => ⟨⟨rinv_nl hRI hp hb4 hb5, by (dsimp only; omega)⟩, by simpa [Sc.nl, hb6, rfI, Sc.tok] using hw⟩)
          try simp at hb6
          refine CX.skip <| PX.thenN <| CX.region <| LX.ms 2 rfl <| LX.p (Y.fieldAddr0 Fr.fo58_5 rfl) rfl <| LX.storeB 0 Fr.sz4 rfl rfl rfl rfl rfl rfl rfl rfl <| LX.su [0, 3, 4, 5, 6, 7] rfl <| LX.nt <| CX.sr <| LX.ms 3 rfl <| LX.p (Y.fieldAddr0 Fr.fo58_1 rfl) rfl <| LX.p (Y.ldB 0 Fr.one3 rfl rfl rfl) rfl <| LX.p (Y.addN rfl rfl (by (simp only [Sc.tok, List.length_append, List.length_singleton]; omega))) rfl <| LX.mv rfl <| LX.p (Y.fieldAddr0 Fr.fo58_1 rfl) rfl <| LX.storeB 0 Fr.sz3 rfl rfl rfl rfl rfl rfl rfl rfl <| LX.su [0, 3, 4, 5, 6, 7] rfl <| LX.nt <| CX.sr <| LX.ms 2 rfl <| LX.p (Y.fieldAddr0 Fr.fo58_1 rfl) rfl <| LX.p (Y.ldB 0 Fr.one3 rfl rfl rfl) rfl <| LX.mv rfl <| LX.su [0, 3, 4, 5, 6, 7] rfl <| LX.nt <| CX.sr <| LX.mv rfl <| LX.su [0, 3, 4, 5, 6, 7] rfl <| LX.nt ?_
          refine CX.exit <| PX.blockO rfl <| PX.thenE <| PX.blockE ?_
          exact PX.again (i := (σ, none, p, st, bl)) ({ σ.nl with pos := σ.nl.pos + 1 }, none, p, σ.pos + 1, true) (by show s.length - (σ.nl.pos + 1) + 1 < s.length - σ.pos + 1; rw [Sc.nl_pos]; omega) ⟨rfl, rfl, rfl, rfl, rfl, trivial⟩ (fun w hw => ⟨⟨rinv_nl hRI hp hb4 hb5, by (dsimp only; omega)⟩, by simpa [Sc.nl, hb6, rfI, Sc.tok] using hw⟩)
        try simp at hb5
        refine CX.skip <| PX.thenN <| CX.sr <| LX.ms 3 rfl <| LX.p (Y.fieldAddr0 Fr.fo58_1 rfl) rfl <| LX.p (Y.ldB 0 Fr.one3 rfl rfl rfl) rfl <| LX.p (Y.addN rfl rfl (by (simp only [Sc.tok, List.length_append, List.length_singleton]; omega))) rfl <| LX.mv rfl <| LX.p (Y.fieldAddr0 Fr.fo58_1 rfl) rfl <| LX.storeB 0 Fr.sz3 rfl rfl rfl rfl rfl rfl rfl rfl <| LX.su [0, 3, 4, 5, 6, 7] rfl <| LX.nt <| CX.sr <| LX.ms 2 rfl <| LX.p (Y.fieldAddr0 Fr.fo58_1 rfl) rfl <| LX.p (Y.ldB 0 Fr.one3 rfl rfl rfl) rfl <| LX.mv rfl <| LX.su [0, 3, 4, 5, 6, 7] rfl <| LX.nt <| CX.sr <| LX.mv rfl <| LX.su [0, 3, 4, 5, 6, 7] rfl <| LX.nt <| CX.exit <| PX.blockO rfl <| PX.thenE <| PX.blockE ?_
        exact PX.again (i := (σ, none, p, st, bl)) ({ σ with pos := σ.pos + 1 }, none, p, σ.pos + 1, true) (by show s.length - (σ.pos + 1) + 1 < s.length - σ.pos + 1; omega) ⟨rfl, rfl, rfl, rfl, rfl, trivial⟩ (fun w hw => ⟨⟨rinv_br hRI hp hb4 hb5, by (dsimp only; omega)⟩, hw⟩)
      try simp at hb4
      refine CX.sr <| LX.mv rfl <| LX.p (Y.eqN rfl rfl) rfl <| LX.mv rfl <| LX.su [0, 3, 4, 5, 6, 7, 72] rfl <| LX.nt ?_
      refine CX.cond rfl (fun hb7 => ?_) (fun hb7 => ?_)
      · try simp at hb7
        refine CX.sr <| LX.ms 3 rfl <| LX.p (Y.fieldAddr0 Fr.fo58_1 rfl) rfl <| LX.p (Y.ldB 0 Fr.one3 rfl rfl rfl) rfl <| LX.p (Y.addN rfl rfl (by (simp only [Sc.tok, List.length_append, List.length_singleton]; omega))) rfl <| LX.mv rfl <| LX.p (Y.fieldAddr0 Fr.fo58_1 rfl) rfl <| LX.storeB 0 Fr.sz3 rfl rfl rfl rfl rfl rfl rfl rfl <| LX.su [0, 3, 4, 5, 6, 7] rfl <| LX.nt <| CX.exit <| PX.blockO rfl <| PX.thenE <| PX.blockE ?_
        exact PX.again (i := (σ, none, p, st, bl)) ({ σ with pos := σ.pos + 1 }, none, p, st, bl) (by show s.length - (σ.pos + 1) + 1 < s.length - σ.pos + 1; omega) ⟨rfl, rfl, rfl, rfl, rfl, trivial⟩ (fun w hw => ⟨⟨rinv_sp hRI hp hb7, by assumption⟩, hw⟩)
      try simp at hb7
      refine CX.sr <| LX.mv rfl <| LX.p (Y.eqN rfl rfl) rfl <| LX.mv rfl <| LX.su [0, 3, 4, 5, 6, 7, 83] rfl <| LX.nt ?_
      refine CX.cond rfl (fun hb8 => ?_) (fun hb8 => ?_)
      · try simp at hb8
        refine CX.seq <| CX.block <| CX.loop (τ := Nat × Option Nat) (fun t : Nat × Option Nat => [(0, str s), (3, .pointer (some ⟨bx1, 0, none⟩)), (4, .pointer (some ⟨B, 0, none⟩)), (5, .int .i64 (st : Int)), (6, .bool bl)]) (fun (t : Nat × Option Nat) w => (t.1 ≤ s.length ∧ (match t.2 with | none => comL (s.drop t.1) t.1 = comL (s.drop σ.pos) σ.pos | some e => comL (s.drop σ.pos) σ.pos = .error e)) ∧ WA w0 base (rfI B { σ with pos := t.1 } t.2 p (fltI bx1 flt0 :: fr)) w) (fun t => match t.2 with | none => s.length - t.1 + 1 | some _ => 0) (σ.pos, none) ⟨rfl, rfl, rfl, rfl, rfl, trivial⟩ (fun w hw => ⟨⟨Nat.le_of_lt hp, rfl⟩, hw⟩) ?_
        rintro ⟨k, b⟩
        refine CX.have fun ⟨hk, hcm⟩ => ?_
        dsimp only at hk hcm ⊢
        refine CX.seq <| CX.sr <| LX.ms 2 rfl <| LX.p (Y.fieldAddr0 Fr.fo58_1 rfl) rfl <| LX.p (Y.ldB 0 Fr.one3 rfl rfl rfl) rfl <| LX.mv rfl <| LX.p (Y.lenStr rfl Fr.un9 rfl) rfl <| LX.p (Y.ltN rfl rfl) rfl <| LX.mv rfl <| LX.su [0, 3, 4, 5, 6, 93] rfl ?_
        apply LX.joinAnd 8 101 93 rfl
        · intro hb9
          have hb9p := hb9
          try simp at hb9p
          refine LX.gT rfl rfl rfl hb9 (Y.move rfl) rfl rfl <| LX.gT rfl rfl rfl hb9 (Y.move rfl) rfl rfl <| LX.gT rfl rfl rfl hb9 (Y.nilCheck rfl) rfl rfl <| LX.gT rfl rfl rfl hb9 (Y.fieldAddr0 Fr.fo58_1 rfl) rfl rfl <| LX.gT rfl rfl rfl hb9 (Y.ldB 0 Fr.one3 rfl rfl rfl) rfl rfl <| LX.gT rfl rfl rfl hb9 (Y.index rfl rfl Fr.un9 (by omega)) rfl rfl <| LX.gT rfl rfl rfl hb9 (Y.neN rfl rfl) rfl rfl <| LX.p (Y.pickT rfl hb9 rfl) rfl ?_
          exact LX.left ⟨rfl, rfl, rfl, rfl, rfl, rfl, rfl, trivial⟩
        · intro hb9
          refine LX.gF rfl rfl rfl hb9 rfl rfl <| LX.gF rfl rfl rfl hb9 rfl rfl <| LX.gF rfl rfl rfl hb9 rfl rfl <| LX.gF rfl rfl rfl hb9 rfl rfl <| LX.gF rfl rfl rfl hb9 rfl rfl <| LX.gF rfl rfl rfl hb9 rfl rfl <| LX.gF rfl rfl rfl hb9 rfl rfl <| LX.p (Y.pickF rfl hb9 rfl) rfl ?_
          exact LX.left ⟨rfl, rfl, rfl, rfl, rfl, rfl, rfl, trivial⟩
        refine LX.mv rfl <| LX.su [0, 3, 4, 5, 6, 102] rfl ?_
        apply LX.joinAnd 6 108 102 rfl
        · intro hb10
          refine LX.gT rfl rfl rfl hb10 (Y.move rfl) rfl rfl <| LX.gT rfl rfl rfl hb10 (Y.nilCheck rfl) rfl rfl <| LX.gT rfl rfl rfl hb10 (Y.fieldAddr0 Fr.fo58_6 rfl) rfl rfl <| LX.gT rfl rfl rfl hb10 (Y.ldB 0 Fr.one3 rfl rfl rfl) rfl rfl <| LX.gT rfl rfl rfl hb10 (Y.ltI rfl rfl) rfl rfl <| LX.p (Y.pickT rfl hb10 rfl) rfl ?_
          exact LX.left ⟨rfl, rfl, rfl, rfl, rfl, rfl, rfl, trivial⟩
        · intro hb10
          refine LX.gF rfl rfl rfl hb10 rfl rfl <| LX.gF rfl rfl rfl hb10 rfl rfl <| LX.gF rfl rfl rfl hb10 rfl rfl <| LX.gF rfl rfl rfl hb10 rfl rfl <| LX.gF rfl rfl rfl hb10 rfl rfl <| LX.p (Y.pickF rfl hb10 rfl) rfl ?_
          exact LX.left ⟨rfl, rfl, rfl, rfl, rfl, rfl, rfl, trivial⟩
        refine LX.su [0, 3, 4, 5, 6, 108] rfl <| LX.nt ?_
        refine CX.cond rfl (fun hb11 => ?_) (fun hb11 => ?_)
        · try simp at hb11
          obtain rfl : b = none := badI_neg hb11.2
          have hkl := hb11.1.1
          have hk10 := hb11.1.2
          dsimp only at hcm
          refine CX.skip <| PX.thenN <| CX.block <| CX.seq <| CX.sr <| LX.ms 3 rfl <| LX.p (Y.fieldAddr0 Fr.fo58_1 rfl) rfl <| LX.p (Y.ldB 0 Fr.one3 rfl rfl rfl) rfl <| LX.p (Y.index rfl rfl Fr.un9 (by omega)) rfl <| LX.p (Y.ltN rfl rfl) rfl <| LX.mv rfl <| LX.su [0, 3, 4, 5, 6, 116] rfl ?_
          apply LX.joinOr 8 124 116 rfl
          · intro hb12
            refine LX.gF rfl rfl rfl hb12 rfl rfl <| LX.gF rfl rfl rfl hb12 rfl rfl <| LX.gF rfl rfl rfl hb12 rfl rfl <| LX.gF rfl rfl rfl hb12 rfl rfl <| LX.gF rfl rfl rfl hb12 rfl rfl <| LX.gF rfl rfl rfl hb12 rfl rfl <| LX.gF rfl rfl rfl hb12 rfl rfl <| LX.p (Y.pickT rfl hb12 rfl) rfl ?_
            exact LX.left ⟨rfl, rfl, rfl, rfl, rfl, rfl, rfl, trivial⟩
          · intro hb12
            have hb12p := hb12
            try simp at hb12p
            refine LX.gT rfl rfl rfl hb12 (Y.move rfl) rfl rfl <| LX.gT rfl rfl rfl hb12 (Y.move rfl) rfl rfl <| LX.gT rfl rfl rfl hb12 (Y.nilCheck rfl) rfl rfl <| LX.gT rfl rfl rfl hb12 (Y.fieldAddr0 Fr.fo58_1 rfl) rfl rfl <| LX.gT rfl rfl rfl hb12 (Y.ldB 0 Fr.one3 rfl rfl rfl) rfl rfl <| LX.gT rfl rfl rfl hb12 (Y.index rfl rfl Fr.un9 (by omega)) rfl rfl <| LX.gT rfl rfl rfl hb12 (Y.eqN rfl rfl) rfl rfl <| LX.p (Y.pickF rfl hb12 rfl) rfl ?_
            exact LX.left ⟨rfl, rfl, rfl, rfl, rfl, rfl, rfl, trivial⟩
          refine LX.su [0, 3, 4, 5, 6, 124] rfl <| LX.nt ?_
          refine CX.cond rfl (fun hb13 => ?_) (fun hb13 => ?_)
          · try simp at hb13
            refine CX.region <| LX.ms 3 rfl <| LX.p (Y.fieldAddr0 Fr.fo58_1 rfl) rfl <| LX.p (Y.ldB 0 Fr.one3 rfl rfl rfl) rfl <| LX.call (fail4_c _) Fr.en22 rfl rfl rfl rfl rfl ?_
            intro _
            refine LX.su [0, 3, 4, 5, 6] rfl <| LX.nt <| CX.region <| LX.ms 3 rfl <| LX.p (Y.fieldAddr0 Fr.fo58_1 rfl) rfl <| LX.p (Y.ldB 0 Fr.one3 rfl rfl rfl) rfl <| LX.p (Y.addN rfl rfl (by (simp only [Sc.tok, List.length_append, List.length_singleton]; omega))) rfl <| LX.mv rfl <| LX.p (Y.fieldAddr0 Fr.fo58_1 rfl) rfl <| LX.storeB 0 Fr.sz3 rfl rfl rfl rfl rfl rfl rfl rfl <| LX.su [0, 3, 4, 5, 6] rfl <| LX.next <| PX.blockN ?_
            exact PX.again (i := (k, none)) (k + 1, some k) (by show 0 < s.length - k + 1; omega) ⟨rfl, rfl, rfl, rfl, rfl, trivial⟩ (fun w hw => ⟨⟨by dsimp only; omega, hcm.symm.trans (comL_badR hkl hk10 hb13)⟩, hw⟩)
          try simp at hb13
          refine CX.skip <| PX.thenN <| CX.region <| LX.ms 3 rfl <| LX.p (Y.fieldAddr0 Fr.fo58_1 rfl) rfl <| LX.p (Y.ldB 0 Fr.one3 rfl rfl rfl) rfl <| LX.p (Y.addN rfl rfl (by (simp only [Sc.tok, List.length_append, List.length_singleton]; omega))) rfl <| LX.mv rfl <| LX.p (Y.fieldAddr0 Fr.fo58_1 rfl) rfl <| LX.storeB 0 Fr.sz3 rfl rfl rfl rfl rfl rfl rfl rfl <| LX.su [0, 3, 4, 5, 6] rfl <| LX.next <| PX.blockN ?_
          exact PX.again (i := (k, none)) (k + 1, none) (by show s.length - (k + 1) + 1 < s.length - k + 1; omega) ⟨rfl, rfl, rfl, rfl, rfl, trivial⟩ (fun w hw => ⟨⟨by dsimp only; omega, (comL_next hkl hk10 (by omega) (by omega)).trans hcm⟩, hw⟩)
        try simp at hb11
        refine CX.exit <| PX.thenE <| PX.thenE <| PX.blockE <| PX.thenN <| CX.exit <| PX.blockO rfl <| PX.thenE <| PX.blockE ?_
        rcases b with _ | e
        · simp at hb11
          have hcm2 : σ.comment = .ok { σ with pos := k } := Sc.comment_ok (by rw [hts]; exact hcm) (by rw [hts]; exact hb11)
          have hrc := rinv_com hRI hp hb8 hcm2
          exact PX.again (i := (σ, none, p, st, bl)) ({ σ with pos := k }, none, p, st, bl) (by show s.length - k + 1 < s.length - σ.pos + 1; have : σ.pos < k := hrc.2; omega) ⟨rfl, rfl, rfl, rfl, rfl, trivial⟩ (fun w hw => ⟨⟨hrc.1, by assumption⟩, hw⟩)
        have hcm2 : σ.comment = .error e := by unfold Sc.comment; rw [hts, hcm]; rfl
        exact PX.again (i := (σ, none, p, st, bl)) ({ σ with pos := k }, some e, p, st, bl) (by show 0 < s.length - σ.pos + 1; omega) ⟨rfl, rfl, rfl, rfl, rfl, trivial⟩ (fun w hw => ⟨⟨rst_err hRI hp ((Sc.step_com (by rw [hts]; exact hb8)).trans hcm2), by assumption⟩, hw⟩)
      try simp at hb8
      have h10 : bt σ.s σ.pos ≠ 10 := by rw [hts]; exact hb4
      have h32 : bt σ.s σ.pos ≠ 32 := by rw [hts]; exact hb7
      have h35 : bt σ.s σ.pos ≠ 35 := by rw [hts]; exact hb8
      refine CX.skip <| PX.blockN <| PX.thenN ?_
      refine CX.seqM (τ := Sc × Option Nat × Sl) (fun _ : Sc × Option Nat × Sl => [(0, str s), (3, .pointer (some ⟨bx1, 0, none⟩)), (4, .pointer (some ⟨B, 0, none⟩)), (5, .int .i64 (st : Int)), (7, .int .u8 ((bt s σ.pos : Nat) : Int))]) (fun (t : Sc × Option Nat × Sl) w => (match t.2.1 with | some e => σ.step = .error e | none => σ.step = t.1.token (bt s σ.pos) ∧ t.1.s = s ∧ t.1.pos = σ.pos ∧ t.1.brk = σ.brk ∧ t.1.line = true ∧ t.1.out.length ≤ 300000) ∧ WA w0 base (rfI B t.1 t.2.1 t.2.2 (fltI bx1 flt0 :: fr)) w) ?_ ?_
      ·
        refine CX.sr <| LX.ms 2 rfl <| LX.p (Y.fieldAddr0 Fr.fo58_5 rfl) rfl <| LX.p (Y.ldB 0 Fr.one4 rfl rfl rfl) rfl <| LX.p (Y.not rfl) rfl <| LX.mv rfl <| LX.su [0, 3, 4, 5, 6, 7, 144] rfl ?_
        apply LX.joinAnd 7 151 144 rfl
        · intro hb14
          refine LX.gT rfl rfl rfl hb14 (Y.move rfl) rfl rfl <| LX.gT rfl rfl rfl hb14 (Y.nilCheck rfl) rfl rfl <| LX.gT rfl rfl rfl hb14 (Y.fieldAddr0 Fr.fo58_2 rfl) rfl rfl <| LX.gT rfl rfl rfl hb14 (Y.ldB 0 Fr.one56 rfl rfl rfl) rfl rfl <| LX.gT rfl rfl rfl hb14 (Y.lenSl rfl Fr.un56 rfl) rfl rfl <| LX.gT rfl rfl rfl hb14 (Y.eqN rfl rfl) rfl rfl <| LX.p (Y.pickT rfl hb14 rfl) rfl ?_
          exact LX.left ⟨rfl, rfl, rfl, rfl, rfl, rfl, rfl, rfl, trivial⟩
        · intro hb14
          refine LX.gF rfl rfl rfl hb14 rfl rfl <| LX.gF rfl rfl rfl hb14 rfl rfl <| LX.gF rfl rfl rfl hb14 rfl rfl <| LX.gF rfl rfl rfl hb14 rfl rfl <| LX.gF rfl rfl rfl hb14 rfl rfl <| LX.gF rfl rfl rfl hb14 rfl rfl <| LX.p (Y.pickF rfl hb14 rfl) rfl ?_
          exact LX.left ⟨rfl, rfl, rfl, rfl, rfl, rfl, rfl, rfl, trivial⟩
        refine LX.mv rfl <| LX.su [0, 3, 4, 5, 6, 7, 152] rfl ?_
        apply LX.joinAnd 2 154 152 rfl
        · intro hb15
          refine LX.gT rfl rfl rfl hb15 (Y.move rfl) rfl rfl <| LX.p (Y.pickT rfl hb15 rfl) rfl ?_
          exact LX.left ⟨rfl, rfl, rfl, rfl, rfl, rfl, rfl, rfl, trivial⟩
        · intro hb15
          refine LX.gF rfl rfl rfl hb15 rfl rfl <| LX.p (Y.pickF rfl hb15 rfl) rfl ?_
          exact LX.left ⟨rfl, rfl, rfl, rfl, rfl, rfl, rfl, rfl, trivial⟩
        refine LX.su [0, 3, 4, 5, 6, 7, 154] rfl <| LX.nt ?_
        refine CX.cond rfl (fun hb16 => ?_) (fun hb16 => ?_)
        · try simp at hb16
          have hcol := hRI.col hb16.1.1 hp hb4
          refine CX.seq <| CX.sr <| LX.mv rfl <| LX.p (Y.geN rfl rfl) rfl <| LX.su [0, 3, 4, 5, 6, 7, 156] rfl <| LX.nt ?_
          refine CX.cond rfl (fun hb17 => ?_) (fun hb17 => ?_)
          · try simp at hb17
            refine CX.seq <| CX.sr <| LX.mv rfl <| LX.callQ (starts4_q _ (bt_lt _ _)) Fr.en23 rfl rfl rfl rfl rfl <| LX.p (Y.not rfl) rfl <| LX.su [0, 3, 4, 5, 6, 7, 159] rfl <| LX.nt ?_
            refine CX.cond rfl (fun hb18 => ?_) (fun hb18 => ?_)
            · try simp at hb18
              refine CX.sr <| LX.ms 3 rfl <| LX.p (Y.fieldAddr0 Fr.fo58_1 rfl) rfl <| LX.p (Y.ldB 0 Fr.one3 rfl rfl rfl) rfl <| LX.call (fail4_c _) Fr.en22 rfl rfl rfl rfl rfl ?_
              intro _
              refine LX.su [0, 3, 4, 5, 6, 7] rfl <| LX.nt <| CX.exit <| PX.thenE <| PX.thenE <| PX.thenE <| PX.blockO rfl <| PX.thenE <| PX.blockE ?_
              have hline : σ.line = false := hb16.1.1
              exact PX.seam (σ, some σ.pos, p) ⟨rfl, rfl, rfl, trivial⟩ (fun w hw => ⟨rst_err (σ' := σ) (st' := 0) (bl' := true) hRI hp (Sc.step_err h10 h32 h35 hline (Sc.begin_bad (starts_no4 (by rw [hts]; exact hp) (by rw [hts]; exact hb18)))), hw⟩)
            try simp at hb18
            refine CX.skip <| PX.thenN <| CX.regionM [(0, .anywhere), (1, .anywhere), (2, .anywhere), (3, .anywhere), (4, .held), (5, .anywhere), (6, .held), (7, .anywhere), (8, .anywhere), (9, .anywhere), (10, .held), (11, .alone)] rfl (by kernel_rfl) <| MX.lift0 (i := 0) rfl (Y.move rfl) rfl rfl rfl <| MX.lift0 (i := 1) rfl (Y.move rfl) rfl rfl rfl <| MX.lift0 (i := 2) rfl (Y.nilCheck rfl) rfl rfl rfl <| MX.lift0 (i := 3) rfl (Y.fieldAddr0 Fr.fo58_1 rfl) rfl rfl rfl <| MX.lift1 (i := 4) (pend' := []) rfl (fun w hw => by exact hw) (Y.ldB 0 Fr.one3 rfl rfl rfl) rfl rfl rfl (by kernel_rfl) <| MX.lift0 (i := 5) rfl (Y.move rfl) rfl rfl rfl <| MX.lift1 (i := 6) (pend' := []) rfl (fun w hw => by exact hw) (show Y _ _ _ _ _ (.int .i64 ((σ.col : Nat) : Int)) from by rw [show σ.col = σ.pos - st by omega]; exact Y.subN rfl rfl (by omega) (by omega)) rfl rfl rfl (by kernel_rfl) <| MX.lift0 (i := 7) rfl (Y.move rfl) rfl rfl rfl <| MX.lift0 (i := 8) rfl (Y.nilCheck rfl) rfl rfl rfl <| MX.lift0 (i := 9) rfl (Y.fieldAddr0 Fr.fo58_1 rfl) rfl rfl rfl <| MX.lift1 (i := 10) (pend' := [6]) rfl (fun w hw => by exact hw) (Y.ldB 0 Fr.one3 rfl rfl rfl) rfl rfl rfl (by kernel_rfl) <| MX.force (i := 11) rfl <| LX.call (begin4_c (by rw [hts]; exact hs) (by omega) (by omega) (by omega) (by omega) hsome hiv.head) Fr.en24 rfl rfl rfl rfl rfl ?_
            rintro ⟨σ1, b1, p1⟩
            refine LX.have fun hbg => ?_
            dsimp only at hbg ⊢
            refine LX.nextM [] (by kernel_rfl) (fun h => absurd rfl h) <| MX.sub (l' := [(0, _), (3, _), (4, _), (5, _), (6, _), (7, _)]) ⟨rfl, rfl, rfl, rfl, rfl, rfl, trivial⟩ <| MX.done <| PX.thenN <| CX.region <| LX.ms 2 rfl <| LX.p (Y.fieldAddr0 Fr.fo58_5 rfl) rfl <| LX.storeB 0 Fr.sz4 rfl rfl rfl rfl rfl rfl rfl rfl <| LX.su [0, 3, 4, 5, 6, 7] rfl <| LX.next ?_
            have hline : σ.line = false := hb16.1.1
            rcases b1 with _ | e
            · have hk := begR_keeps (ran_none hbg)
              have hfw := begR_few (ran_none hbg) hiv.head hsome
              have hst1 := begR_step hline h10 h32 h35 (ran_none hbg)
              rw [hts] at hst1
              exact PX.seam ({ σ1 with line := true }, none, p1) ⟨rfl, rfl, rfl, rfl, rfl, trivial⟩ (fun w hw => ⟨⟨hst1, hk.1.trans hts, hk.2.1, hk.2.2, rfl, by dsimp only; omega⟩, hw⟩)
            · exact PX.seam ({ σ1 with line := true }, some e, p1) ⟨rfl, rfl, rfl, rfl, rfl, trivial⟩ (fun w hw => ⟨begR_stepE hline h10 h32 h35 (ran_some hbg), hw⟩)
          try simp at hb17
          done
        try simp at hb16
        have hline : σ.line = true := by
          cases hl : σ.line with
          | true => rfl
          | false => exfalso; have hf := hRI.fresh hl; simp_all
        refine CX.skip ?_
        have hst1 := Sc.step_line h10 h32 h35 hline
        rw [hts] at hst1
        exact PX.seam (σ, none, p) ⟨rfl, rfl, rfl, rfl, rfl, trivial⟩ (fun w hw => ⟨⟨hst1, hts, rfl, rfl, hline, by dsimp only; omega⟩, hw⟩)
      rintro ⟨σ1, b1, p1⟩
      refine CX.have fun h29 => ?_
      dsimp only at h29 ⊢
      rcases b1 with _ | e
      ·
        obtain ⟨hstep, hs1, hp1, hbk1, hl1, ho1⟩ := h29
        refine CX.sr <| LX.mv rfl <| LX.su [0, 3, 4, 5, 6, 7] rfl <| LX.nt <| CX.block <| CX.sr <| LX.ms 2 rfl <| LX.p (Y.fieldAddr0 Fr.fo58_6 rfl) rfl <| LX.p (Y.ldB 0 Fr.one3 rfl rfl rfl) rfl <| LX.p (Y.geI rfl rfl) rfl <| LX.mv rfl <| LX.su [0, 3, 4, 5, 6, 7, 187] rfl <| LX.nt ?_
        refine CX.cond rfl (fun hb19 => ?_) (fun hb19 => ?_)
        · try simp at hb19
          done
        try simp at hb19
        refine CX.sr <| LX.mv rfl <| LX.callQ (letter4_q _ _) Fr.en25 rfl rfl rfl rfl rfl <| LX.mv rfl <| LX.su [0, 3, 4, 5, 6, 7, 193] rfl <| LX.nt ?_
        refine CX.cond rfl (fun hb20 => ?_) (fun hb20 => ?_)
        · try simp at hb20
          refine CX.sr <| LX.ms 2 rfl <| LX.p (Y.fieldAddr0 Fr.fo58_1 rfl) rfl <| LX.p (Y.ldB 0 Fr.one3 rfl rfl rfl) rfl <| LX.mv rfl <| LX.su [0, 3, 4, 5, 6, 8] rfl <| LX.nt <| CX.seq <| CX.block <| CX.loop (τ := Nat) (fun k => [(0, str s), (3, .pointer (some ⟨bx1, 0, none⟩)), (4, .pointer (some ⟨B, 0, none⟩)), (5, .int .i64 (st : Int)), (6, .bool false), (8, .int .i64 (σ1.pos : Int))]) (fun k w => (σ1.pos ≤ k ∧ k ≤ s.length ∧ k + wordL (s.drop k) = σ1.pos + wordL (s.drop σ1.pos)) ∧ WA w0 base (rfI B { σ1 with pos := k } none p1 (fltI bx1 flt0 :: fr)) w) (fun k => s.length - k) σ1.pos ⟨rfl, rfl, rfl, rfl, rfl, rfl, trivial⟩ (fun w hw => ⟨⟨Nat.le_refl _, by omega, rfl⟩, hw⟩) ?_
          intro k
          refine CX.have fun ⟨hkp, hk, hi⟩ => CX.seq <| CX.sr <| LX.ms 2 rfl <| LX.p (Y.fieldAddr0 Fr.fo58_1 rfl) rfl <| LX.p (Y.ldB 0 Fr.one3 rfl rfl rfl) rfl <| LX.mv rfl <| LX.p (Y.lenStr rfl Fr.un9 rfl) rfl <| LX.p (Y.ltN rfl rfl) rfl <| LX.mv rfl <| LX.su [0, 3, 4, 5, 6, 8, 207] rfl ?_
          apply LX.joinAnd 17 224 207 rfl
          · intro hb21
            have hb21p := hb21
            try simp at hb21p
            refine LX.gT rfl rfl rfl hb21 (Y.move rfl) rfl rfl <| LX.gT rfl rfl rfl hb21 (Y.move rfl) rfl rfl <| LX.gT rfl rfl rfl hb21 (Y.nilCheck rfl) rfl rfl <| LX.gT rfl rfl rfl hb21 (Y.fieldAddr0 Fr.fo58_1 rfl) rfl rfl <| LX.gT rfl rfl rfl hb21 (Y.ldB 0 Fr.one3 rfl rfl rfl) rfl rfl <| LX.gT rfl rfl rfl hb21 (Y.index rfl rfl Fr.un9 (by omega)) rfl rfl <| LX.callQT rfl rfl rfl hb21 (letter4_q _ _) Fr.en25 rfl rfl rfl rfl <| LX.gT rfl rfl rfl hb21 (Y.move rfl) rfl rfl <| LX.su [0, 3, 4, 5, 6, 8, 207, 215] rfl ?_
            apply LX.joinOr 8 223 215 rfl
            · intro hb22
              refine LX.gF rfl rfl rfl hb22 rfl rfl <| LX.gF rfl rfl rfl hb22 rfl rfl <| LX.gF rfl rfl rfl hb22 rfl rfl <| LX.gF rfl rfl rfl hb22 rfl rfl <| LX.gF rfl rfl rfl hb22 rfl rfl <| LX.gF rfl rfl rfl hb22 rfl rfl <| LX.gF rfl rfl rfl hb22 rfl rfl <| LX.gT rfl rfl rfl hb21 (Y.pickT rfl hb22 rfl) rfl rfl ?_
              exact LX.left ⟨rfl, rfl, rfl, rfl, rfl, rfl, rfl, rfl, rfl, trivial⟩
            · intro hb22
              have hb22p := hb22
              try simp at hb22p
              refine LX.gT rfl rfl rfl hb22 (Y.move rfl) rfl rfl <| LX.gT rfl rfl rfl hb22 (Y.move rfl) rfl rfl <| LX.gT rfl rfl rfl hb22 (Y.nilCheck rfl) rfl rfl <| LX.gT rfl rfl rfl hb22 (Y.fieldAddr0 Fr.fo58_1 rfl) rfl rfl <| LX.gT rfl rfl rfl hb22 (Y.ldB 0 Fr.one3 rfl rfl rfl) rfl rfl <| LX.gT rfl rfl rfl hb22 (Y.index rfl rfl Fr.un9 (by omega)) rfl rfl <| LX.callQT rfl rfl rfl hb22 (digit4_q _ _) Fr.en26 rfl rfl rfl rfl <| LX.gT rfl rfl rfl hb21 (Y.pickF rfl hb22 rfl) rfl rfl ?_
              exact LX.left ⟨rfl, rfl, rfl, rfl, rfl, rfl, rfl, rfl, rfl, trivial⟩
            refine LX.p (Y.pickT rfl hb21 rfl) rfl ?_
            exact LX.left ⟨rfl, rfl, rfl, rfl, rfl, rfl, rfl, rfl, trivial⟩
          · intro hb21
            refine LX.gF rfl rfl rfl hb21 rfl rfl <| LX.gF rfl rfl rfl hb21 rfl rfl <| LX.gF rfl rfl rfl hb21 rfl rfl <| LX.gF rfl rfl rfl hb21 rfl rfl <| LX.gF rfl rfl rfl hb21 rfl rfl <| LX.gF rfl rfl rfl hb21 rfl rfl <| LX.gF rfl rfl rfl hb21 rfl rfl <| LX.gF rfl rfl rfl hb21 rfl rfl <| LX.gU rfl rfl rfl rfl rfl <| LX.gU rfl rfl rfl rfl rfl <| LX.gU rfl rfl rfl rfl rfl <| LX.gU rfl rfl rfl rfl rfl <| LX.gU rfl rfl rfl rfl rfl <| LX.gU rfl rfl rfl rfl rfl <| LX.gU rfl rfl rfl rfl rfl <| LX.gF rfl rfl rfl hb21 rfl rfl <| LX.p (Y.pickF rfl hb21 rfl) rfl ?_
            exact LX.left ⟨rfl, rfl, rfl, rfl, rfl, rfl, rfl, rfl, trivial⟩
          refine LX.su [0, 3, 4, 5, 6, 8, 224] rfl <| LX.nt ?_
          refine CX.cond rfl (fun hb23 => ?_) (fun hb23 => ?_)
          · try simp at hb23
            refine CX.skip <| PX.thenN <| CX.block <| CX.region <| LX.ms 3 rfl <| LX.p (Y.fieldAddr0 Fr.fo58_1 rfl) rfl <| LX.p (Y.ldB 0 Fr.one3 rfl rfl rfl) rfl <| LX.p (Y.addN rfl rfl (by (simp only [Sc.tok, List.length_append, List.length_singleton]; omega))) rfl <| LX.mv rfl <| LX.p (Y.fieldAddr0 Fr.fo58_1 rfl) rfl <| LX.storeB 0 Fr.sz3 rfl rfl rfl rfl rfl rfl rfl rfl <| LX.su [0, 3, 4, 5, 6, 8] rfl <| LX.next <| PX.blockN ?_
            exact PX.again (k + 1) (by show s.length - (k + 1) < s.length - k; omega) ⟨rfl, rfl, rfl, rfl, rfl, rfl, trivial⟩ (fun w hw => ⟨⟨by omega, by omega, (wordL_next hb23.1 hb23.2).trans hi⟩, hw⟩)
          try simp at hb23
          refine CX.exit <| PX.thenE <| PX.thenE <| PX.blockE <| PX.thenN <| CX.sr <| LX.mv rfl <| LX.su [0, 3, 4, 5, 6, 8, 9] rfl <| LX.nt <| CX.seq <| CX.seq <| CX.regionM [(1, .anywhere), (2, .anywhere), (3, .anywhere), (4, .anywhere), (5, .anywhere), (6, .held), (7, .held), (0, .alone), (8, .alone), (9, .anywhere)] rfl (by kernel_rfl) <| MX.lift0 (i := 1) rfl (Y.move rfl) rfl rfl rfl <| MX.lift0 (i := 2) rfl (Y.move rfl) rfl rfl rfl <| MX.lift0 (i := 3) rfl (Y.move rfl) rfl rfl rfl <| MX.lift0 (i := 4) rfl (Y.nilCheck rfl) rfl rfl rfl <| MX.lift0 (i := 5) rfl (Y.fieldAddr0 Fr.fo58_1 rfl) rfl rfl rfl <| MX.lift1 (i := 6) (pend' := []) rfl (fun w hw => by exact hw) (Y.ldB 0 Fr.one3 rfl rfl rfl) rfl rfl rfl (by kernel_rfl) <| MX.lift1 (i := 7) (pend' := []) rfl (fun w hw => by exact hw) (Y.slice rfl rfl rfl Fr.un9 (by omega) (by omega)) rfl rfl rfl (by kernel_rfl) <| MX.force (i := 0) rfl <| LX.call (words4_c) Fr.en28 rfl rfl rfl rfl rfl ?_
          intro bw
          refine LX.nextM [7] (by kernel_rfl) (fun _ => (fun w hw => by exact hw.1)) <| MX.force (i := 8) rfl <| LX.callQ (among_q bw 0 17 wordsList _ (fun w h => h.2) dc) Fr.en27 rfl rfl rfl rfl rfl <| LX.nextM [] (by kernel_rfl) (fun h => absurd rfl h) <| MX.lift0 (i := 9) rfl (Y.geI rfl rfl) rfl rfl rfl <| MX.sub (l' := [(0, _), (3, _), (4, _), (5, _), (6, _), (8, _), (9, _), (242, _)]) ⟨rfl, rfl, rfl, rfl, rfl, rfl, rfl, rfl, trivial⟩ <| MX.done <| PX.thenN ?_
          refine CX.cond rfl (fun hb24 => ?_) (fun hb24 => ?_)
          · try simp at hb24
            refine CX.world (fun w h => h.1) <| CX.region <| LX.mv rfl <| LX.su [0, 3, 4, 5, 6, 8, 9] rfl <| LX.nt <| CX.region <| LX.ms 6 rfl <| LX.p (Y.fieldAddr0 Fr.fo58_1 rfl) rfl <| LX.p (Y.ldB 0 Fr.one3 rfl rfl rfl) rfl <| LX.p (Y.slice rfl rfl rfl Fr.un9 (by omega) (by omega)) rfl <| LX.mv rfl <| LX.call (put4_c _ _ _ (by (dsimp only; omega))) Fr.en21 rfl rfl rfl rfl rfl ?_
            intro pT
            refine LX.su [0, 3, 4, 5, 6] rfl <| LX.next <| PX.blockN <| PX.blockN ?_
            have hrt := rst_tok (st := st) (bl' := false) (σ' := (({ σ1 with pos := k } : Sc).tok 4 ((s.take k).drop σ1.pos) σ1.pos)) (b := none) hRI hp hstep hbk1 hl1 (ran_ok ((Sc.token_word hb20).trans (congrArg Except.ok (by have hwe := Sc.word_eq (σ := σ1) (k := k) (by rw [hs1]; have := wordL_end (s := s) (k := k) hb23; omega) (by rw [hs1]; exact hb23) 4 (by rw [hs1]; exact by rw [if_pos ((idxI_ge _ _ 0).1.1 hb24)]); rw [show (s.take k).drop σ1.pos = (σ1.s.take k).drop σ1.pos by rw [hs1]]; exact hwe.symm))))
            exact PX.again (i := (σ, none, p, st, bl)) ((({ σ1 with pos := k } : Sc).tok 4 ((s.take k).drop σ1.pos) σ1.pos), none, pT, st, false) (by have h9 := hrt.2 rfl; show s.length - _ + 1 < s.length - σ.pos + 1; try dsimp only at h9 ⊢; omega) ⟨rfl, rfl, rfl, rfl, rfl, trivial⟩ (fun w hw => ⟨⟨hrt.1, by assumption⟩, hw⟩)
          try simp at hb24
          refine CX.world (fun w h => h.1) <| CX.skip <| PX.thenN <| CX.region <| LX.ms 6 rfl <| LX.p (Y.fieldAddr0 Fr.fo58_1 rfl) rfl <| LX.p (Y.ldB 0 Fr.one3 rfl rfl rfl) rfl <| LX.p (Y.slice rfl rfl rfl Fr.un9 (by omega) (by omega)) rfl <| LX.mv rfl <| LX.call (put4_c _ _ _ (by (dsimp only; omega))) Fr.en21 rfl rfl rfl rfl rfl ?_
          intro pT
          refine LX.su [0, 3, 4, 5, 6] rfl <| LX.next <| PX.blockN <| PX.blockN ?_
          have hrt := rst_tok (st := st) (bl' := false) (σ' := (({ σ1 with pos := k } : Sc).tok 1 ((s.take k).drop σ1.pos) σ1.pos)) (b := none) hRI hp hstep hbk1 hl1 (ran_ok ((Sc.token_word hb20).trans (congrArg Except.ok (by have hwe := Sc.word_eq (σ := σ1) (k := k) (by rw [hs1]; have := wordL_end (s := s) (k := k) hb23; omega) (by rw [hs1]; exact hb23) 1 (by rw [hs1]; exact by rw [if_neg (fun h => absurd ((idxI_ge _ _ 0).1.2 h) (by omega))]); rw [show (s.take k).drop σ1.pos = (σ1.s.take k).drop σ1.pos by rw [hs1]]; exact hwe.symm))))
          exact PX.again (i := (σ, none, p, st, bl)) ((({ σ1 with pos := k } : Sc).tok 1 ((s.take k).drop σ1.pos) σ1.pos), none, pT, st, false) (by have h9 := hrt.2 rfl; show s.length - _ + 1 < s.length - σ.pos + 1; try dsimp only at h9 ⊢; omega) ⟨rfl, rfl, rfl, rfl, rfl, trivial⟩ (fun w hw => ⟨⟨hrt.1, by assumption⟩, hw⟩)
        try simp at hb20
        refine CX.sr <| LX.mv rfl <| LX.callQ (digit4_q _ _) Fr.en26 rfl rfl rfl rfl rfl <| LX.mv rfl <| LX.su [0, 3, 4, 5, 6, 7, 254] rfl <| LX.nt ?_
        refine CX.cond rfl (fun hb25 => ?_) (fun hb25 => ?_)
        · try simp at hb25
          refine CX.region <| LX.mv rfl <| LX.call (number4_c (by rw [hs1]; exact hs) (by rw [hs1, hp1]; exact hp) (by omega)) Fr.en29 rfl rfl rfl rfl rfl ?_
          rintro ⟨σ2, b2, p2⟩
          refine LX.have fun hrn => ?_
          dsimp only at hrn ⊢
          refine LX.su [0, 3, 4, 5, 6] rfl <| LX.next <| PX.blockN <| PX.blockN ?_
          have hrt := rst_tok (st := st) (bl' := false) hRI hp hstep hbk1 hl1 (by rw [Sc.token_num hb20 hb25]; exact hrn)
          rcases b2 with _ | e
          · exact PX.again (i := (σ, none, p, st, bl)) (σ2, none, p2, st, false) (by have h9 := hrt.2 rfl; show s.length - _ + 1 < s.length - σ.pos + 1; try dsimp only at h9 ⊢; omega) ⟨rfl, rfl, rfl, rfl, rfl, trivial⟩ (fun w hw => ⟨⟨hrt.1, by assumption⟩, hw⟩)
          · exact PX.again (i := (σ, none, p, st, bl)) (σ2, some e, p2, st, false) (by show 0 < s.length - σ.pos + 1; omega) ⟨rfl, rfl, rfl, rfl, rfl, trivial⟩ (fun w hw => ⟨⟨hrt.1, by assumption⟩, hw⟩)
        try simp at hb25
        refine CX.sr <| LX.mv rfl <| LX.p (Y.eqN rfl rfl) rfl <| LX.mv rfl <| LX.su [0, 3, 4, 5, 6, 7, 262] rfl ?_
        apply LX.joinOr 3 265 262 rfl
        · intro hb26
          refine LX.gF rfl rfl rfl hb26 rfl rfl <| LX.gF rfl rfl rfl hb26 rfl rfl <| LX.p (Y.pickT rfl hb26 rfl) rfl ?_
          exact LX.left ⟨rfl, rfl, rfl, rfl, rfl, rfl, rfl, rfl, trivial⟩
        · intro hb26
          refine LX.gT rfl rfl rfl hb26 (Y.move rfl) rfl rfl <| LX.gT rfl rfl rfl hb26 (Y.eqN rfl rfl) rfl rfl <| LX.p (Y.pickF rfl hb26 rfl) rfl ?_
          exact LX.left ⟨rfl, rfl, rfl, rfl, rfl, rfl, rfl, rfl, trivial⟩
        refine LX.mv rfl <| LX.su [0, 3, 4, 5, 6, 259] rfl <| LX.nt ?_
        refine CX.cond rfl (fun hb27 => ?_) (fun hb27 => ?_)
        · try simp at hb27
          refine CX.region <| LX.mv rfl <| LX.call (str4_c (by rw [hs1]; exact hs) (by rw [hs1, hp1]; exact hp) (by omega) (by rw [hs1, hp1]; simpa using hb27)) Fr.en30 rfl rfl rfl rfl rfl ?_
          rintro ⟨σ2, b2, p2⟩
          refine LX.have fun hrn => ?_
          dsimp only at hrn ⊢
          rw [hs1, hp1] at hrn
          refine LX.su [0, 3, 4, 5, 6] rfl <| LX.next <| PX.blockN <| PX.blockN ?_
          have hrt := rst_tok (st := st) (bl' := false) hRI hp hstep hbk1 hl1 (by rw [Sc.token_text hb20 hb25 (by simpa using hb27)]; exact hrn)
          rcases b2 with _ | e
          · exact PX.again (i := (σ, none, p, st, bl)) (σ2, none, p2, st, false) (by have h9 := hrt.2 rfl; show s.length - _ + 1 < s.length - σ.pos + 1; try dsimp only at h9 ⊢; omega) ⟨rfl, rfl, rfl, rfl, rfl, trivial⟩ (fun w hw => ⟨⟨hrt.1, by assumption⟩, hw⟩)
          · exact PX.again (i := (σ, none, p, st, bl)) (σ2, some e, p2, st, false) (by show 0 < s.length - σ.pos + 1; omega) ⟨rfl, rfl, rfl, rfl, rfl, trivial⟩ (fun w hw => ⟨⟨hrt.1, by assumption⟩, hw⟩)
        try simp at hb27
        refine CX.sr <| LX.mv rfl <| LX.call (sign4_c (by rw [hs1]; exact hs) (by rw [hs1, hp1]; exact hp) (by omega) (by rw [hbk1]; omega) (by rw [hbk1]; exact hRI.cl)) Fr.en31 rfl rfl rfl rfl rfl ?_
        rintro ⟨σ2, b2, p2⟩
        refine LX.have fun hrn => ?_
        dsimp only at hrn ⊢
        refine LX.mv rfl <| LX.su [0, 3, 4, 5, 6, 268] rfl <| LX.nt ?_
        refine CX.cond rfl (fun hb28 => ?_) (fun hb28 => ?_)
        · try simp at hb28
          refine CX.skip <| PX.blockN <| PX.blockN ?_
          have hrt := rst_tok (st := st) (bl' := false) hRI hp hstep hbk1 hl1 (by rw [Sc.token_sign hb20 hb25 (by simpa using hb27)]; unfold RanS at hrn; rw [if_neg (by exact hb28)] at hrn; exact hrn)
          rcases b2 with _ | e
          · exact PX.again (i := (σ, none, p, st, bl)) (σ2, none, p2, st, false) (by have h9 := hrt.2 rfl; show s.length - _ + 1 < s.length - σ.pos + 1; try dsimp only at h9 ⊢; omega) ⟨rfl, rfl, rfl, rfl, rfl, trivial⟩ (fun w hw => ⟨⟨hrt.1, by assumption⟩, hw⟩)
          · exact PX.again (i := (σ, none, p, st, bl)) (σ2, some e, p2, st, false) (by show 0 < s.length - σ.pos + 1; omega) ⟨rfl, rfl, rfl, rfl, rfl, trivial⟩ (fun w hw => ⟨⟨hrt.1, by assumption⟩, hw⟩)
        try simp at hb28
        have hsg : signL (σ1.s.drop σ1.pos) = [] := by exact hb28
        obtain ⟨hx1, rfl⟩ : σ2 = σ1 ∧ b2 = none := by unfold RanS at hrn; rw [if_pos hsg] at hrn; exact hrn
        subst hx1
        refine CX.region <| LX.ms 3 rfl <| LX.p (Y.fieldAddr0 Fr.fo58_1 rfl) rfl <| LX.p (Y.ldB 0 Fr.one3 rfl rfl rfl) rfl <| LX.call (fail4_c _) Fr.en22 rfl rfl rfl rfl rfl ?_
        intro _
        refine LX.su [0, 3, 4, 5, 6] rfl <| LX.next <| PX.blockN <| PX.blockN ?_
        have hrt := rst_tok (st := st) (bl' := false) (σ' := σ2) (b := some σ2.pos) hRI hp hstep hbk1 hl1 (by rw [Sc.token_sign hb20 hb25 (by simpa using hb27)]; exact ran_err (Sc.sign_none hsg))
        exact PX.again (i := (σ, none, p, st, bl)) (σ2, some σ2.pos, p2, st, false) (by show 0 < s.length - σ.pos + 1; omega) ⟨rfl, rfl, rfl, rfl, rfl, trivial⟩ (fun w hw => ⟨⟨hrt.1, by assumption⟩, hw⟩)
      refine CX.sr <| LX.mv rfl <| LX.su [0, 3, 4, 5, 6, 7] rfl <| LX.nt <| CX.block <| CX.sr <| LX.ms 2 rfl <| LX.p (Y.fieldAddr0 Fr.fo58_6 rfl) rfl <| LX.p (Y.ldB 0 Fr.one3 rfl rfl rfl) rfl <| LX.p (Y.geN rfl rfl) rfl <| LX.mv rfl <| LX.su [0, 3, 4, 5, 6, 7, 187] rfl <| LX.nt ?_
      refine CX.cond rfl (fun hb29 => ?_) (fun hb29 => ?_)
      · try simp at hb29
        refine CX.skip <| PX.blockN <| PX.blockN ?_
        exact PX.again (i := (σ, none, p, st, bl)) (σ1, some e, p1, st, false) (by show 0 < s.length - σ.pos + 1; omega) ⟨rfl, rfl, rfl, rfl, rfl, trivial⟩ (fun w hw => ⟨⟨rst_err hRI hp h29, by assumption⟩, hw⟩)
      try simp at hb29
      done
    try simp at hb3
    refine CX.exit <| PX.thenE <| PX.thenE <| PX.blockE ?_
    rcases b with _ | e
    · simp at hb3
      have hRI : RInv s σ st bl := hR
      exact PX.seam (σ, none, p) ⟨rfl, rfl, rfl, trivial⟩ (fun w hw => ⟨⟨hRI.go.symm.trans (go_end (by rw [hRI.text]; omega)), hRI.inv, hRI.text, hb3⟩, hw⟩)
    · exact PX.seam (σ, some e, p) ⟨rfl, rfl, rfl, trivial⟩ (fun w hw => ⟨hR, hw⟩)
  rintro ⟨σ, b, p⟩
  refine CX.have fun h45 => ?_
  dsimp only at h45 ⊢
  rcases b with _ | e
  ·
    obtain ⟨hgo, hiv, hts, hge⟩ := h45
    have hfew := hiv.few
    have hle := hiv.le
    rw [hts] at hle
    have hpe : σ.pos = s.length := Nat.le_antisymm hle hge
    refine CX.seq <| CX.sr <| LX.ms 2 rfl <| LX.p (Y.fieldAddr0 Fr.fo58_6 rfl) rfl <| LX.p (Y.ldB 0 Fr.one3 rfl rfl rfl) rfl <| LX.p (Y.ltI rfl rfl) rfl <| LX.mv rfl <| LX.su [0, 3, 4, 276] rfl ?_
    apply LX.joinAnd 7 283 276 rfl
    · intro hb30
      refine LX.gT rfl rfl rfl hb30 (Y.move rfl) rfl rfl <| LX.gT rfl rfl rfl hb30 (Y.nilCheck rfl) rfl rfl <| LX.gT rfl rfl rfl hb30 (Y.fieldAddr0 Fr.fo58_2 rfl) rfl rfl <| LX.gT rfl rfl rfl hb30 (Y.ldB 0 Fr.one56 rfl rfl rfl) rfl rfl <| LX.gT rfl rfl rfl hb30 (Y.lenSl rfl Fr.un56 rfl) rfl rfl <| LX.gT rfl rfl rfl hb30 (Y.gtN rfl rfl) rfl rfl <| LX.p (Y.pickT rfl hb30 rfl) rfl ?_
      exact LX.left ⟨rfl, rfl, rfl, rfl, rfl, trivial⟩
    · intro hb30
      exfalso; simp at hb30
    refine LX.su [0, 3, 4, 283] rfl <| LX.nt ?_
    refine CX.cond rfl (fun hb31 => ?_) (fun hb31 => ?_)
    · try simp at hb31
      refine CX.region <| LX.ms 2 rfl <| LX.p (Y.lenStr rfl Fr.un9 rfl) rfl <| LX.call (fail4_c _) Fr.en22 rfl rfl rfl rfl rfl ?_
      intro _
      refine LX.su [0, 3, 4] rfl <| LX.nt <| CX.seq <| CX.sr <| LX.ms 2 rfl <| LX.p (Y.fieldAddr0 Fr.fo58_6 rfl) rfl <| LX.p (Y.ldB 0 Fr.one3 rfl rfl rfl) rfl <| LX.p (Y.geN rfl rfl) rfl <| LX.su [0, 3, 4, 292] rfl <| LX.nt ?_
      refine CX.cond rfl (fun hb32 => ?_) (fun hb32 => ?_)
      · try simp at hb32
        refine CX.sr <| LX.ms 2 rfl <| LX.p (Y.fieldAddr0 Fr.fo58_6 rfl) rfl <| LX.p (Y.ldB 0 Fr.one3 rfl rfl rfl) rfl <| LX.call (placedR_c _ _ dc) Fr.en15 rfl rfl rfl rfl rfl ?_
        intro _
        refine LX.mv rfl <| LX.storeA 4 Fr.ag25 rfl rfl rfl rfl rfl rfl rfl rfl rfl <| LX.su [0, 2, 3, 4] rfl <| LX.nt <| CX.ret <| PX.thenR <| PX.ret2A (i := 4) (by simp) Try.results11 rfl Fr.ag25 rfl rfl rfl ?_
        exact fun w hw => ⟨.inr s.length, rfl, scan_brk hgo (List.length_pos_iff.1 (by simpa using hb31)), hw.drop (((((List.sublist_cons_self _ _).cons _).cons _).cons _).cons _)⟩
      try simp at hb32
      done
    try simp at hb31
    refine CX.skip <| PX.thenN <| CX.seq <| CX.sr <| LX.ms 2 rfl <| LX.p (Y.fieldAddr0 Fr.fo58_6 rfl) rfl <| LX.p (Y.ldB 0 Fr.one3 rfl rfl rfl) rfl <| LX.p (Y.geI rfl rfl) rfl <| LX.su [0, 3, 4, 292] rfl <| LX.nt ?_
    refine CX.cond rfl (fun hb33 => ?_) (fun hb33 => ?_)
    · try simp at hb33
      done
    try simp at hb33
    refine CX.skip <| PX.thenN <| CX.seq <| CX.sr <| LX.ms 2 rfl <| LX.p (Y.fieldAddr0 Fr.fo58_5 rfl) rfl <| LX.p (Y.ldB 0 Fr.one4 rfl rfl rfl) rfl <| LX.su [0, 3, 4, 301] rfl <| LX.nt ?_
    refine CX.cond rfl (fun hb34 => ?_) (fun hb34 => ?_)
    · try simp at hb34
      refine CX.region <| LX.ms 2 rfl <| LX.p (Y.lenStr rfl Fr.un9 rfl) rfl <| LX.call (put4_c _ _ _ (by omega)) Fr.en21 rfl rfl rfl rfl rfl ?_
      intro pT
      refine LX.su [0, 3, 4] rfl <| LX.nt <| CX.seq <| CX.block <| CX.loop (τ := List Nat × List Tok × Sl) (fun t : List Nat × List Tok × Sl => [(0, str s), (3, .pointer (some ⟨bx1, 0, none⟩)), (4, .pointer (some ⟨B, 0, none⟩))]) (fun (t : List Nat × List Tok × Sl) w => (0 < t.1.length ∧ t.1.length ≤ 61 ∧ t.2.1.length + t.1.length ≤ 300000 ∧ t.2.1 ++ dedents (t.1.length - 1) s.length = σ.nl.out ++ dedents (σ.blocks.length - 1) s.length) ∧ WA w0 base (rfI B { σ with blocks := t.1, out := t.2.1 } none t.2.2 (fltI bx1 flt0 :: fr)) w) (fun t => t.1.length) (σ.blocks, σ.out ++ [(⟨5, [], s.length⟩ : Tok)], pT) ⟨rfl, rfl, rfl, trivial⟩ (fun w hw => ⟨⟨hiv.some, hiv.deep, by simp; omega, by simp [Sc.nl, hb34, Sc.tok, hpe]⟩, hw⟩) ?_
      rintro ⟨bl, o, p1⟩
      refine CX.have fun ⟨hl0, hl1, hl2, htot⟩ => ?_
      dsimp only at hl0 hl1 hl2 htot ⊢
      refine CX.seq <| CX.sr <| LX.ms 2 rfl <| LX.p (Y.fieldAddr0 Fr.fo58_3 rfl) rfl <| LX.p (Y.ldB 0 Fr.one29 rfl rfl rfl) rfl <| LX.p (Y.lenSl rfl Fr.un29 rfl) rfl <| LX.p (Y.gtN rfl rfl) rfl <| LX.su [0, 3, 4, 311] rfl <| LX.nt ?_
      refine CX.cond rfl (fun hb35 => ?_) (fun hb35 => ?_)
      · try simp at hb35
        refine CX.skip <| PX.thenN <| CX.block <| CX.seq <| CX.regionM [(0, .anywhere), (1, .anywhere), (2, .anywhere), (3, .anywhere), (4, .held), (5, .anywhere), (6, .anywhere), (7, .anywhere), (8, .held), (9, .held), (10, .held), (11, .held), (12, .held), (13, .held), (14, .alone)] rfl (by kernel_rfl) <| MX.lift0 (i := 0) rfl (Y.move rfl) rfl rfl rfl <| MX.lift0 (i := 1) rfl (Y.move rfl) rfl rfl rfl <| MX.lift0 (i := 2) rfl (Y.nilCheck rfl) rfl rfl rfl <| MX.lift0 (i := 3) rfl (Y.fieldAddr0 Fr.fo58_3 rfl) rfl rfl rfl <| MX.lift1 (i := 4) (pend' := []) rfl (fun w hw => by exact hw) (Y.ldB 0 Fr.one29 rfl rfl rfl) rfl rfl rfl (by kernel_rfl) <| MX.lift0 (i := 5) rfl (Y.move rfl) rfl rfl rfl <| MX.lift0 (i := 6) rfl (Y.nilCheck rfl) rfl rfl rfl <| MX.lift0 (i := 7) rfl (Y.fieldAddr0 Fr.fo58_3 rfl) rfl rfl rfl <| MX.lift1 (i := 8) (pend' := [4]) rfl (fun w hw => by exact hw) (Y.ldB 0 Fr.one29 rfl rfl rfl) rfl rfl rfl (by kernel_rfl) <| MX.lift1 (i := 9) (pend' := [4]) rfl (fun w hw => by exact hw) (Y.lenSl rfl Fr.un29 rfl) rfl rfl rfl (by kernel_rfl) <| MX.lift1 (i := 10) (pend' := [4]) rfl (fun w hw => by exact hw) (Y.subN rfl rfl (by (simp only [Sc.tok, List.length_append, List.length_singleton]; omega)) (by (simp only [Sc.tok, List.length_append, List.length_singleton]; omega))) rfl rfl rfl (by kernel_rfl) <| MX.lift1 (i := 11) (pend' := []) rfl (fun w hw => by exact hw) (Y.cutR 2 Fr.un29 Fr.sz3 rfl rfl rfl (by omega)) rfl rfl rfl (by kernel_rfl) <| MX.lift1 (i := 12) (pend' := []) rfl (fun w hw => by exact hw) (Y.nilCheck rfl) rfl rfl rfl (by kernel_rfl) <| MX.lift1 (i := 13) (pend' := []) rfl (fun w hw => by exact hw) (Y.fieldAddr0 Fr.fo58_3 rfl) rfl rfl rfl (by kernel_rfl) <| MX.force (i := 14) rfl <| LX.storeB 0 Fr.sz29 rfl rfl rfl rfl rfl rfl rfl rfl ?_
        refine LX.world (W' := WA w0 base (rfI B { σ with blocks := bl.dropLast, out := o } none p1 (fltI bx1 flt0 :: fr))) (fun w hw => by
          have h1 := hw.cut (i := 2) (k := bl.length - 1) rfl (Nat.sub_le _ _)
          simpa [rfI, List.dropLast_eq_take, List.map_take] using h1) ?_
        refine LX.nextM [] (by kernel_rfl) (fun h => absurd rfl h) <| MX.sub (l' := [(0, _), (3, _), (4, _)]) ⟨rfl, rfl, rfl, trivial⟩ <| MX.done <| PX.thenN <| CX.region <| LX.ms 2 rfl <| LX.p (Y.lenStr rfl Fr.un9 rfl) rfl <| LX.call (put4_c _ _ _ (by (dsimp only; omega))) Fr.en21 rfl rfl rfl rfl rfl ?_
        intro pT
        refine LX.su [0, 3, 4] rfl <| LX.next <| PX.blockN ?_
        obtain ⟨n, hn⟩ : ∃ n, bl.length = n + 1 + 1 := ⟨bl.length - 2, by omega⟩
        exact PX.again (i := (bl, o, p1)) (bl.dropLast, o ++ [(⟨7, [], s.length⟩ : Tok)], pT) (by show bl.dropLast.length < bl.length; rw [List.length_dropLast]; omega) ⟨rfl, rfl, rfl, trivial⟩ (fun w hw => ⟨⟨by show 0 < bl.dropLast.length; rw [List.length_dropLast]; omega, by show bl.dropLast.length ≤ _; rw [List.length_dropLast]; omega, by show (o ++ [_]).length + bl.dropLast.length ≤ _; rw [List.length_dropLast, List.length_append, List.length_singleton]; omega, by show (o ++ [_]) ++ dedents (bl.dropLast.length - 1) s.length = _; rw [List.length_dropLast, hn]; rw [hn] at htot; exact ded_step htot⟩, hw⟩)
      try simp at hb35
      refine CX.exit <| PX.thenE <| PX.thenE <| PX.blockE <| PX.thenN <| CX.sr <| LX.ms 2 rfl <| LX.p (Y.lenStr rfl Fr.un9 rfl) rfl <| LX.call (put4_c _ _ _ (by (dsimp only; omega))) Fr.en21 rfl rfl rfl rfl rfl ?_
      intro pT
      refine LX.su [3, 4] rfl <| LX.nt <| CX.seq <| CX.regionM [(0, .anywhere), (1, .anywhere), (2, .anywhere), (3, .held), (4, .alone), (5, .alone), (6, .alone)] rfl (by kernel_rfl) <| MX.lift0 (i := 0) rfl (Y.move rfl) rfl rfl rfl <| MX.lift0 (i := 1) rfl (Y.nilCheck rfl) rfl rfl rfl <| MX.lift0 (i := 2) rfl (Y.fieldAddr0 Fr.fo58_4 rfl) rfl rfl rfl <| MX.lift1 (i := 3) (pend' := []) rfl (fun w hw => by exact hw) (Y.ldB 0 Fr.one37 rfl rfl rfl) rfl rfl rfl (by kernel_rfl) <| MX.force (i := 4) rfl <| LX.call (none_c) Fr.en17 rfl rfl rfl rfl rfl ?_
      intro _
      refine LX.nextM [3] (by kernel_rfl) (fun _ => (fun w hw => by exact hw)) <| MX.force (i := 5) rfl <| LX.mv rfl <| LX.nextM [] (by kernel_rfl) (fun h => absurd rfl h) <| MX.force (i := 6) rfl <| LX.storeA 4 Fr.ag25 rfl rfl rfl rfl rfl rfl rfl rfl rfl <| LX.nextM [] (by kernel_rfl) (fun h => absurd rfl h) <| MX.sub (l' := [(2, _), (3, _)]) ⟨rfl, rfl, trivial⟩ <| MX.done <| PX.thenN <| CX.ret <| PX.ret2A (i := 4) (by simp) Try.results11 rfl Fr.ag25 rfl rfl rfl ?_
      have hb1 : bl.length = 1 := by omega
      have e : (({ σ with blocks := bl, out := o } : Sc).tok 8 [] s.length).out = σ.nl.out ++ dedents (σ.blocks.length - 1) s.length ++ [⟨8, [], s.length⟩] := by
        rw [hb1] at htot
        simp only [Sc.tok]
        rw [← htot]; simp [dedents]
      refine fun w hw => ⟨.inl (pT.go, _, pT.co), rfl, _, ⟨scan_ok hgo (by simpa using hb31), congrArg List.length e.symm⟩, ?_⟩
      rw [← e]
      exact hw.drop (((((List.sublist_cons_self _ _).cons _).cons _).cons_cons _).cons _)
    try simp at hb34
    refine CX.skip <| PX.thenN <| CX.seq <| CX.block <| CX.loop (τ := List Nat × List Tok × Sl) (fun t : List Nat × List Tok × Sl => [(0, str s), (3, .pointer (some ⟨bx1, 0, none⟩)), (4, .pointer (some ⟨B, 0, none⟩))]) (fun (t : List Nat × List Tok × Sl) w => (0 < t.1.length ∧ t.1.length ≤ 61 ∧ t.2.1.length + t.1.length ≤ 300000 ∧ t.2.1 ++ dedents (t.1.length - 1) s.length = σ.nl.out ++ dedents (σ.blocks.length - 1) s.length) ∧ WA w0 base (rfI B { σ with blocks := t.1, out := t.2.1 } none t.2.2 (fltI bx1 flt0 :: fr)) w) (fun t => t.1.length) (σ.blocks, σ.out, p) ⟨rfl, rfl, rfl, trivial⟩ (fun w hw => ⟨⟨hiv.some, hiv.deep, by dsimp only; omega, by simp [Sc.nl, hb34, Sc.tok, hpe]⟩, hw⟩) ?_
    rintro ⟨bl, o, p1⟩
    refine CX.have fun ⟨hl0, hl1, hl2, htot⟩ => ?_
    dsimp only at hl0 hl1 hl2 htot ⊢
    refine CX.seq <| CX.sr <| LX.ms 2 rfl <| LX.p (Y.fieldAddr0 Fr.fo58_3 rfl) rfl <| LX.p (Y.ldB 0 Fr.one29 rfl rfl rfl) rfl <| LX.p (Y.lenSl rfl Fr.un29 rfl) rfl <| LX.p (Y.gtN rfl rfl) rfl <| LX.su [0, 3, 4, 311] rfl <| LX.nt ?_
    refine CX.cond rfl (fun hb36 => ?_) (fun hb36 => ?_)
    · try simp at hb36
      refine CX.skip <| PX.thenN <| CX.block <| CX.seq <| CX.regionM [(0, .anywhere), (1, .anywhere), (2, .anywhere), (3, .anywhere), (4, .held), (5, .anywhere), (6, .anywhere), (7, .anywhere), (8, .held), (9, .held), (10, .held), (11, .held), (12, .held), (13, .held), (14, .alone)] rfl (by kernel_rfl) <| MX.lift0 (i := 0) rfl (Y.move rfl) rfl rfl rfl <| MX.lift0 (i := 1) rfl (Y.move rfl) rfl rfl rfl <| MX.lift0 (i := 2) rfl (Y.nilCheck rfl) rfl rfl rfl <| MX.lift0 (i := 3) rfl (Y.fieldAddr0 Fr.fo58_3 rfl) rfl rfl rfl <| MX.lift1 (i := 4) (pend' := []) rfl (fun w hw => by exact hw) (Y.ldB 0 Fr.one29 rfl rfl rfl) rfl rfl rfl (by kernel_rfl) <| MX.lift0 (i := 5) rfl (Y.move rfl) rfl rfl rfl <| MX.lift0 (i := 6) rfl (Y.nilCheck rfl) rfl rfl rfl <| MX.lift0 (i := 7) rfl (Y.fieldAddr0 Fr.fo58_3 rfl) rfl rfl rfl <| MX.lift1 (i := 8) (pend' := [4]) rfl (fun w hw => by exact hw) (Y.ldB 0 Fr.one29 rfl rfl rfl) rfl rfl rfl (by kernel_rfl) <| MX.lift1 (i := 9) (pend' := [4]) rfl (fun w hw => by exact hw) (Y.lenSl rfl Fr.un29 rfl) rfl rfl rfl (by kernel_rfl) <| MX.lift1 (i := 10) (pend' := [4]) rfl (fun w hw => by exact hw) (Y.subN rfl rfl (by (simp only [Sc.tok, List.length_append, List.length_singleton]; omega)) (by (simp only [Sc.tok, List.length_append, List.length_singleton]; omega))) rfl rfl rfl (by kernel_rfl) <| MX.lift1 (i := 11) (pend' := []) rfl (fun w hw => by exact hw) (Y.cutR 2 Fr.un29 Fr.sz3 rfl rfl rfl (by omega)) rfl rfl rfl (by kernel_rfl) <| MX.lift1 (i := 12) (pend' := []) rfl (fun w hw => by exact hw) (Y.nilCheck rfl) rfl rfl rfl (by kernel_rfl) <| MX.lift1 (i := 13) (pend' := []) rfl (fun w hw => by exact hw) (Y.fieldAddr0 Fr.fo58_3 rfl) rfl rfl rfl (by kernel_rfl) <| MX.force (i := 14) rfl <| LX.storeB 0 Fr.sz29 rfl rfl rfl rfl rfl rfl rfl rfl ?_
      refine LX.world (W' := WA w0 base (rfI B { σ with blocks := bl.dropLast, out := o } none p1 (fltI bx1 flt0 :: fr))) (fun w hw => by
        have h1 := hw.cut (i := 2) (k := bl.length - 1) rfl (Nat.sub_le _ _)
        simpa [rfI, List.dropLast_eq_take, List.map_take] using h1) ?_
      refine LX.nextM [] (by kernel_rfl) (fun h => absurd rfl h) <| MX.sub (l' := [(0, _), (3, _), (4, _)]) ⟨rfl, rfl, rfl, trivial⟩ <| MX.done <| PX.thenN <| CX.region <| LX.ms 2 rfl <| LX.p (Y.lenStr rfl Fr.un9 rfl) rfl <| LX.call (put4_c _ _ _ (by (dsimp only; omega))) Fr.en21 rfl rfl rfl rfl rfl ?_
      intro pT
      refine LX.su [0, 3, 4] rfl <| LX.next <| PX.blockN ?_
      obtain ⟨n, hn⟩ : ∃ n, bl.length = n + 1 + 1 := ⟨bl.length - 2, by omega⟩
      exact PX.again (i := (bl, o, p1)) (bl.dropLast, o ++ [(⟨7, [], s.length⟩ : Tok)], pT) (by show bl.dropLast.length < bl.length; rw [List.length_dropLast]; omega) ⟨rfl, rfl, rfl, trivial⟩ (fun w hw => ⟨⟨by show 0 < bl.dropLast.length; rw [List.length_dropLast]; omega, by show bl.dropLast.length ≤ _; rw [List.length_dropLast]; omega, by show (o ++ [_]).length + bl.dropLast.length ≤ _; rw [List.length_dropLast, List.length_append, List.length_singleton]; omega, by show (o ++ [_]) ++ dedents (bl.dropLast.length - 1) s.length = _; rw [List.length_dropLast, hn]; rw [hn] at htot; exact ded_step htot⟩, hw⟩)
    try simp at hb36
    refine CX.exit <| PX.thenE <| PX.thenE <| PX.blockE <| PX.thenN <| CX.sr <| LX.ms 2 rfl <| LX.p (Y.lenStr rfl Fr.un9 rfl) rfl <| LX.call (put4_c _ _ _ (by (dsimp only; omega))) Fr.en21 rfl rfl rfl rfl rfl ?_
    intro pT
    refine LX.su [3, 4] rfl <| LX.nt <| CX.seq <| CX.regionM [(0, .anywhere), (1, .anywhere), (2, .anywhere), (3, .held), (4, .alone), (5, .alone), (6, .alone)] rfl (by kernel_rfl) <| MX.lift0 (i := 0) rfl (Y.move rfl) rfl rfl rfl <| MX.lift0 (i := 1) rfl (Y.nilCheck rfl) rfl rfl rfl <| MX.lift0 (i := 2) rfl (Y.fieldAddr0 Fr.fo58_4 rfl) rfl rfl rfl <| MX.lift1 (i := 3) (pend' := []) rfl (fun w hw => by exact hw) (Y.ldB 0 Fr.one37 rfl rfl rfl) rfl rfl rfl (by kernel_rfl) <| MX.force (i := 4) rfl <| LX.call (none_c) Fr.en17 rfl rfl rfl rfl rfl ?_
    intro _
    refine LX.nextM [3] (by kernel_rfl) (fun _ => (fun w hw => by exact hw)) <| MX.force (i := 5) rfl <| LX.mv rfl <| LX.nextM [] (by kernel_rfl) (fun h => absurd rfl h) <| MX.force (i := 6) rfl <| LX.storeA 4 Fr.ag25 rfl rfl rfl rfl rfl rfl rfl rfl rfl <| LX.nextM [] (by kernel_rfl) (fun h => absurd rfl h) <| MX.sub (l' := [(2, _), (3, _)]) ⟨rfl, rfl, trivial⟩ <| MX.done <| PX.thenN <| CX.ret <| PX.ret2A (i := 4) (by simp) Try.results11 rfl Fr.ag25 rfl rfl rfl ?_
    have hb1 : bl.length = 1 := by omega
    have e : (({ σ with blocks := bl, out := o } : Sc).tok 8 [] s.length).out = σ.nl.out ++ dedents (σ.blocks.length - 1) s.length ++ [⟨8, [], s.length⟩] := by
      rw [hb1] at htot
      simp only [Sc.tok]
      rw [← htot]; simp [dedents]
    refine fun w hw => ⟨.inl (pT.go, _, pT.co), rfl, _, ⟨scan_ok hgo (by simpa using hb31), congrArg List.length e.symm⟩, ?_⟩
    rw [← e]
    exact hw.drop (((((List.sublist_cons_self _ _).cons _).cons _).cons_cons _).cons _)
  refine CX.seq <| CX.sr <| LX.ms 2 rfl <| LX.p (Y.fieldAddr0 Fr.fo58_6 rfl) rfl <| LX.p (Y.ldB 0 Fr.one3 rfl rfl rfl) rfl <| LX.p (Y.ltN rfl rfl) rfl <| LX.mv rfl <| LX.su [0, 3, 4, 276] rfl ?_
  apply LX.joinAnd 7 283 276 (y := true) rfl
  · intro hb37
    exfalso; simp at hb37; try omega
  · intro hb37
    refine LX.gF rfl rfl rfl hb37 rfl rfl <| LX.gF rfl rfl rfl hb37 rfl rfl <| LX.gF rfl rfl rfl hb37 rfl rfl <| LX.gF rfl rfl rfl hb37 rfl rfl <| LX.gF rfl rfl rfl hb37 rfl rfl <| LX.gF rfl rfl rfl hb37 rfl rfl <| LX.p (Y.pickF rfl hb37 rfl) rfl ?_
    exact LX.left ⟨rfl, rfl, rfl, rfl, rfl, trivial⟩
  refine LX.su [0, 3, 4, 283] rfl <| LX.nt ?_
  refine CX.cond rfl (fun hb38 => ?_) (fun hb38 => ?_)
  · try simp at hb38
    done
  try simp at hb38
  refine CX.skip <| PX.thenN <| CX.seq <| CX.sr <| LX.ms 2 rfl <| LX.p (Y.fieldAddr0 Fr.fo58_6 rfl) rfl <| LX.p (Y.ldB 0 Fr.one3 rfl rfl rfl) rfl <| LX.p (Y.geN rfl rfl) rfl <| LX.su [0, 3, 4, 292] rfl <| LX.nt ?_
  refine CX.cond rfl (fun hb39 => ?_) (fun hb39 => ?_)
  · try simp at hb39
    refine CX.sr <| LX.ms 2 rfl <| LX.p (Y.fieldAddr0 Fr.fo58_6 rfl) rfl <| LX.p (Y.ldB 0 Fr.one3 rfl rfl rfl) rfl <| LX.call (placedR_c _ _ dc) Fr.en15 rfl rfl rfl rfl rfl ?_
    intro _
    refine LX.mv rfl <| LX.storeA 4 Fr.ag25 rfl rfl rfl rfl rfl rfl rfl rfl rfl <| LX.su [0, 2, 3, 4] rfl <| LX.nt <| CX.ret <| PX.thenR <| PX.ret2A (i := 4) (by simp) Try.results11 rfl Fr.ag25 rfl rfl rfl ?_
    exact fun w hw => ⟨.inr e, rfl, scan_err h45, hw.drop (((((List.sublist_cons_self _ _).cons _).cons _).cons _).cons _)⟩
  try simp at hb39
  done

end Go.Proofs.Yteibddakpedogaa
