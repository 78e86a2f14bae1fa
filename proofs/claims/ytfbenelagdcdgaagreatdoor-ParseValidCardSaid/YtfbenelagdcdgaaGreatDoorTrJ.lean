/-
  Proved here: the checker of nodes.
-/
import Derived.Test.YtfbenelagdcdgaaGreatDoorTrG
import Derived.Test.YtfbenelagdcdgaaGreatDoorTrV
import Derived.Test.YtfbenelagdcdgaaGreatDoorMg
namespace Go.Proofs.YtfbenelagdcdgaaGreatDoor
open Go.SX Go.RowKit Go.Tr Go.Lex
namespace Fzc
theorem en42 : Enters Tryz.prog 42 := Enters.of Tryz.func42 (by kernel_rfl) (by kernel_rfl)
theorem en43 : Enters Tryz.prog 43 := Enters.of Tryz.func43 (by kernel_rfl) (by kernel_rfl)
theorem en44 : Enters Tryz.prog 44 := Enters.of Tryz.func44 (by kernel_rfl) (by kernel_rfl)
theorem fa32_1 : FieldOffA Tryz.prog 32 1 1 := fun a w => by kernel_rfl
theorem fa89_1 : FieldOffA Tryz.prog 89 1 1 := fun a w => by kernel_rfl
theorem fo32_1 : FieldOff Tryz.prog 32 1 1 := fun b o w => by kernel_rfl
theorem fo89_1 : FieldOff Tryz.prog 89 1 1 := fun b o w => by kernel_rfl
theorem ni92 : NoIface Tryz.prog 92 := fun w v => by kernel_rfl
theorem one25 : One Tryz.prog 25 := fun w => by kernel_rfl
theorem one87 : One Tryz.prog 87 := fun w => by kernel_rfl
theorem el87 : Elem Tryz.prog 87 4 1 1 := Elem.of Fy.un87 (z := .bool false) (by kernel_rfl) rfl
end Fzc
/-- an error with its place, or none  -/
def atE (b : Nat) : Value := .iface 92 (.pointer (some ⟨b, 0, none⟩))
def vE (r : Option Nat) (b : Nat) : Value := match r with | none => .nilIface | some _ => atE b
def iE (r : Option Nat) (b : Nat) (e : Value) : List It := match r with | none => [] | some i => [blk b [.int .i64 (i : Int), e] 94]
theorem build_at {e : Value} (he : e.oneCell' = true) (z : Int) (w : World) : (Instr.build 94 [(0, .int .i64 z), (1, e)].toArray).run Tryz.prog w = .ok (.agg #[.int .i64 z, e]) w := by
  cases e <;> first | (cases he; done) | kernel_rfl
theorem valid_c {w0 : World} {base : Nat} {fr : List It} {al : Option Addr} (cl : Nat) {l : List Nd} (hl : SlAt 5 ndA (Lies w0 base) al l) (hln : l.length ≤ 1048576) (hkb : ∀ (k : Nat) (x : Nd), l[k]? = some x → x.kids.length ≤ 1048576) (hsb : ∀ (k : Nat) (x : Nd), l[k]? = some x → x.s.length ≤ 9223372036854775807) {eS : Value} (hE : EnvV w0 base 1 eS) : FnC Tryz.prog 12 #[.slice al l.length cl] (WA w0 base fr) (fun b : Nat => vE (valid l nameB) b) (fun b => WA w0 base (iE (valid l nameB) b eS ++ fr)) := by
  refine FnC.of_body (fn := Tryz.f12) [(0, _)] Tryz.func12 rfl Tryz.ntmps12 rfl ⟨rfl, trivial⟩ ?_
  refine CX.seq <| CX.region <| LX.pure (Y.assign rfl) rfl rfl rfl <| LX.sub (l' := [(0, _), (2, _)]) ⟨rfl, rfl, trivial⟩ <| LX.next <| PX.thenN <| CX.seq <| CX.seq <| CX.region <| LX.pure (Y.move rfl) rfl rfl rfl <| LX.pure (Y.lenSl rfl Ft.un23 rfl) rfl rfl rfl <| LX.pure (Y.gtN rfl rfl) rfl rfl rfl <| LX.sub (l' := [(0, _), (2, _), (9, _)]) ⟨rfl, rfl, rfl, trivial⟩ <| LX.next <| PX.thenN ?_
  refine CX.cond rfl (fun hb1 => ?_) (fun hb1 => ?_)
  · try simp at hb1
    exfalso; omega
  try simp at hb1
  refine CX.skip <| PX.thenN <| CX.seq <| CX.region <| LX.pure (Y.move rfl) rfl rfl rfl <| LX.pure (Y.move rfl) rfl rfl rfl <| LX.pure (Y.lenSl rfl Ft.un23 rfl) rfl rfl rfl <| LX.makeN (z := .bool false) Fzc.el87 (by kernel_rfl) rfl rfl rfl (by omega) (by omega) rfl rfl rfl ?_
  intro gb
  rw [made_bv]
  refine LX.pure (Y.build (v := .agg #[.slice al l.length cl, rv (some gb) l.length l.length]) rfl (fun _ => by kernel_rfl)) rfl rfl rfl <| LX.box rfl rfl rfl rfl rfl ?_
  intro bc
  refine LX.pure (Y.assign rfl) rfl rfl rfl <| LX.sub (l' := [(0, _), (2, _), (3, _)]) ⟨rfl, rfl, rfl, trivial⟩ <| LX.next <| PX.thenN <| CX.seq <| CX.seq <| CX.region <| LX.pure (Y.move rfl) rfl rfl rfl <| LX.pure (Y.lenSl rfl Ft.un23 rfl) rfl rfl rfl <| LX.pure (Y.move rfl) rfl rfl rfl <| LX.sub (l' := [(0, _), (2, _), (3, _), (17, _), (18, _), (19, _)]) ⟨rfl, rfl, rfl, rfl, rfl, rfl, trivial⟩ <| LX.next <| PX.thenN <| CX.block <| CX.loop (fun s : Nat × List Bool => [(0, .slice al l.length cl), (3, .pointer (some ⟨bc, 0, none⟩)), (17, .slice al l.length cl), (18, .int .i64 (l.length : Int)), (19, .int .i64 (s.1 : Int))]) (fun (s : Nat × List Bool) w => (s.1 ≤ l.length ∧ s.2.length = l.length ∧ Okay l s.1 ∧ scan l nameB (l.drop s.1) s.1 s.2 = scan l nameB l 0 (List.replicate l.length false) ∧ used (l.drop s.1) s.1 s.2 = used l 0 (List.replicate l.length false)) ∧ WA w0 base (blk bc [.slice al l.length cl, rv (some gb) l.length l.length] 89 :: .row (some gb) l.length l.length 4 1 (s.2.map bv) :: fr) w) (fun s => l.length - s.1) (0, (List.replicate l.length false)) ⟨rfl, rfl, rfl, rfl, rfl, trivial⟩ (fun w hw => ⟨⟨Nat.zero_le _, List.length_replicate .., Okay.zero l, rfl, rfl⟩, hw⟩) ?_
  rintro ⟨j, u⟩
  refine CX.have fun ⟨hj0, hul, hok, hsc, hus⟩ => ?_
  try dsimp only at hj0 hul hok hsc hus ⊢
  refine CX.seq <| CX.region <| LX.pure (Y.ltN rfl rfl) rfl rfl rfl <| LX.sub (l' := [(0, _), (3, _), (17, _), (18, _), (19, _), (20, _)]) ⟨rfl, rfl, rfl, rfl, rfl, rfl, trivial⟩ <| LX.next <| PX.thenN <| CX.seq ?_
  refine CX.cond rfl (fun hb2 => ?_) (fun hb2 => ?_)
  · try simp at hb2
    have hj : j < l.length := by omega
    obtain ⟨x, hx⟩ : ∃ x, l[j]? = some x := ⟨_, List.getElem?_eq_getElem hj⟩
    obtain ⟨a, cs, hav, hcl, hL, vk, rfl, hks, hin⟩ := hl j x hx
    obtain ⟨ak2, ck2, rfl, ⟨hkn2, hkc2⟩, hka2⟩ := hks.sl
    refine CX.skip <| PX.thenN <| CX.seq <| CX.block <| CX.seq <| CX.region <| LX.pure (Y.move rfl) rfl rfl rfl <| LX.pure (Y.idxZ Ft.un23 Ft.sz32 rfl rfl hav (j := j) rfl hj) rfl rfl rfl <| LX.pure (Y.ldAO (cs := [.int .i64 x.op, .int .i64 x.n, .int .i64 x.pos, str x.s, .slice ak2 x.kids.length ck2]) Ft.ag32 rfl hL rfl) rfl rfl rfl <| LX.alloc rfl Fu.zv32 rfl rfl rfl ?_
    intro bx
    refine LX.pure (Y.assign rfl) rfl rfl rfl <| LX.storeA 0 Ft.ag32 rfl rfl rfl rfl rfl rfl rfl rfl rfl <| LX.sub (l' := [(0, _), (3, _), (4, _), (5, _), (17, _), (18, _), (19, _)]) ⟨rfl, rfl, rfl, rfl, rfl, rfl, rfl, trivial⟩ <| LX.next <| PX.thenN <| CX.seq <| CX.regionM [(0, .anywhere), (1, .held), (2, .anywhere), (3, .anywhere), (4, .anywhere), (5, .anywhere), (6, .held), (7, .alone), (8, .anywhere), (9, .anywhere), (10, .alone), (11, .alone), (12, .alone), (13, .anywhere), (14, .anywhere), (15, .anywhere), (16, .alone), (17, .alone), (18, .alone), (19, .anywhere)] rfl (by kernel_rfl) <| MX.lift0 (i := 0) rfl (Y.fieldAddr0 Fu.fo32_4 rfl) rfl rfl rfl <| MX.lift1 (i := 1) (pend' := []) rfl (fun w hw => by exact hw) (Y.ldB 0 Fu.one30 rfl rfl rfl) rfl rfl rfl (by kernel_rfl) <| MX.lift0 (i := 2) rfl (Y.move rfl) rfl rfl rfl <| MX.lift0 (i := 3) rfl (Y.move rfl) rfl rfl rfl <| MX.lift0 (i := 4) rfl (Y.nilCheck rfl) rfl rfl rfl <| MX.lift0 (i := 5) rfl (Y.fieldAddr0 Fzc.fo89_1 rfl) rfl rfl rfl <| MX.lift1 (i := 6) (pend' := [1]) rfl (fun w hw => by exact hw) (Y.ldB 1 Fzc.one87 rfl rfl rfl) rfl rfl rfl (by kernel_rfl) <| MX.force (i := 7) rfl <| LX.world (W' := WA w0 base (.row (some gb) l.length l.length 4 1 (u.map bv) :: [blk bx [.int .i64 x.op, .int .i64 x.n, .int .i64 x.pos, str x.s, .slice ak2 x.kids.length ck2] 32, blk bc [.slice al l.length cl, rv (some gb) l.length l.length] 89] ++ fr)) (fun w hw => hw.perm (List.perm_middle (l₁ := [blk bx _ _, _])).symm) <| LX.call (fresh_c ck2 hkn2 hka2 j (n := l.length) (by omega) gb l.length u hul) Fzc.en42 rfl rfl rfl rfl rfl ?_
    intro u2
    refine LX.have fun hfv => ?_
    try dsimp only at hfv ⊢
    refine LX.nextM [] (by kernel_rfl) (fun h => absurd rfl h) <| MX.lift0 (i := 8) rfl (Y.not rfl) rfl rfl rfl <| MX.lift0 (i := 9) rfl (Y.move rfl) rfl rfl rfl ?_
    refine MX.caseB (s := 33) rfl (fun hb3 => ?_) (fun hb3 => ?_)
    ·
      have hb3p := hb3
      try simp at hb3p
      refine MX.force (i := 10) rfl <| LX.gF rfl rfl rfl hb3 rfl rfl <| LX.nextM [] (by kernel_rfl) (fun h => absurd rfl h) <| MX.force (i := 11) rfl <| LX.gF rfl rfl rfl hb3 rfl rfl <| LX.nextM [] (by kernel_rfl) (fun h => absurd rfl h) <| MX.force (i := 12) rfl <| LX.gF rfl rfl rfl hb3 rfl rfl <| LX.nextM [] (by kernel_rfl) (fun h => absurd rfl h) <| MX.lift0 (i := 13) rfl (Y.pickT rfl hb3 rfl) rfl rfl rfl <| MX.lift0 (i := 14) rfl (Y.move rfl) rfl rfl rfl <| MX.gF0 (i := 15) rfl rfl rfl rfl rfl rfl rfl <| MX.force (i := 16) rfl <| LX.gF rfl rfl rfl rfl rfl rfl <| LX.nextM [] (by kernel_rfl) (fun h => absurd rfl h) <| MX.force (i := 17) rfl <| LX.gF rfl rfl rfl rfl rfl rfl <| LX.nextM [] (by kernel_rfl) (fun h => absurd rfl h) <| MX.force (i := 18) rfl <| LX.gF rfl rfl rfl rfl rfl rfl <| LX.nextM [] (by kernel_rfl) (fun h => absurd rfl h) <| MX.lift0 (i := 19) rfl (Y.pickT rfl rfl rfl) rfl rfl rfl <| MX.sub (l' := [(0, _), (3, _), (4, _), (17, _), (18, _), (19, _), (43, _)]) ⟨rfl, rfl, rfl, rfl, rfl, rfl, rfl, trivial⟩ <| MX.done <| PX.thenN ?_
      refine CX.cond rfl (fun hb4 => ?_) (fun hb4 => ?_)
      · try simp at hb4
        refine CX.seq <| CX.region <| LX.pure (Y.move rfl) rfl rfl rfl <| LX.pure (Y.ldO Fzc.one25 rfl hE.at_ hE.lt) rfl rfl rfl <| LX.pure (Y.build (v := .agg #[.int .i64 (j : Int), eS]) rfl (build_at hE.one _)) rfl rfl rfl <| LX.box rfl rfl rfl rfl rfl ?_
        intro bx9
        refine LX.pure (Y.mkI Fzc.ni92 rfl) rfl rfl rfl <| LX.pure (Y.assign rfl) rfl rfl rfl <| LX.sub (l' := [(0, _), (2, _), (3, _), (17, _), (18, _), (19, _)]) ⟨rfl, rfl, rfl, rfl, rfl, rfl, trivial⟩ <| LX.next <| PX.thenN <| CX.ret <| PX.blockR <| PX.thenR <| PX.thenR <| PX.blockR <| PX.thenR <| PX.ret1 (by simp) Tryz.results12 rfl ?_
        have hr : valid l nameB = some j := valid_some (hsc.symm.trans (scan_none hx (by simpa using hb3)))
        exact fun w hw => ⟨bx9, by rw [hr]; rfl, by rw [hr]; exact hw.drop (.cons_cons _ (.cons _ (.cons _ (.cons _ (List.Sublist.refl _)))))⟩
      · exact absurd hb4 (by decide)
    have hb3p := hb3
    try simp at hb3p
    refine MX.force (i := 10) rfl ?_
    have hu3 : fresh x.kids j u = some u2 := by
      obtain ⟨u3, h3⟩ := Option.isSome_iff_exists.1 (show (fresh x.kids j u).isSome = true by simpa using hb3)
      rw [hfv u3 h3]; exact h3
    refine LX.gT rfl rfl rfl hb3 (Y.fieldAddr0 Fzc.fo32_1 rfl) rfl rfl <| LX.nextM [] (by kernel_rfl) (fun h => absurd rfl h) <| MX.force (i := 11) rfl <| LX.gT rfl rfl rfl hb3 (Y.ldB 1 Ft.one3 rfl rfl rfl) rfl rfl <| LX.nextM [] (by kernel_rfl) (fun h => absurd rfl h) <| MX.force (i := 12) rfl <| LX.gT rfl rfl rfl hb3 (Y.neI rfl rfl) rfl rfl <| LX.nextM [] (by kernel_rfl) (fun h => absurd rfl h) <| MX.lift0 (i := 13) rfl (Y.pickF rfl hb3 rfl) rfl rfl rfl <| MX.lift0 (i := 14) rfl (Y.move rfl) rfl rfl rfl ?_
    refine MX.caseB (s := 38) rfl (fun hb5 => ?_) (fun hb5 => ?_)
    ·
      have hb5p := hb5
      try simp at hb5p
      refine MX.gF0 (i := 15) rfl rfl rfl rfl hb5 rfl rfl <| MX.force (i := 16) rfl <| LX.gF rfl rfl rfl hb5 rfl rfl <| LX.nextM [] (by kernel_rfl) (fun h => absurd rfl h) <| MX.force (i := 17) rfl <| LX.gF rfl rfl rfl hb5 rfl rfl <| LX.nextM [] (by kernel_rfl) (fun h => absurd rfl h) <| MX.force (i := 18) rfl <| LX.gF rfl rfl rfl hb5 rfl rfl <| LX.nextM [] (by kernel_rfl) (fun h => absurd rfl h) <| MX.lift0 (i := 19) rfl (Y.pickT rfl hb5 rfl) rfl rfl rfl <| MX.sub (l' := [(0, _), (3, _), (4, _), (17, _), (18, _), (19, _), (43, _)]) ⟨rfl, rfl, rfl, rfl, rfl, rfl, rfl, trivial⟩ <| MX.done <| PX.thenN ?_
      refine CX.cond rfl (fun hb6 => ?_) (fun hb6 => ?_)
      · try simp at hb6
        refine CX.seq <| CX.region <| LX.pure (Y.move rfl) rfl rfl rfl <| LX.pure (Y.ldO Fzc.one25 rfl hE.at_ hE.lt) rfl rfl rfl <| LX.pure (Y.build (v := .agg #[.int .i64 (j : Int), eS]) rfl (build_at hE.one _)) rfl rfl rfl <| LX.box rfl rfl rfl rfl rfl ?_
        intro bx9
        refine LX.pure (Y.mkI Fzc.ni92 rfl) rfl rfl rfl <| LX.pure (Y.assign rfl) rfl rfl rfl <| LX.sub (l' := [(0, _), (2, _), (3, _), (17, _), (18, _), (19, _)]) ⟨rfl, rfl, rfl, rfl, rfl, rfl, trivial⟩ <| LX.next <| PX.thenN <| CX.ret <| PX.blockR <| PX.thenR <| PX.thenR <| PX.blockR <| PX.thenR <| PX.ret1 (by simp) Tryz.results12 rfl ?_
        have hu3 : fresh x.kids j u = some u2 := by
          obtain ⟨u3, h3⟩ := Option.isSome_iff_exists.1 (show (fresh x.kids j u).isSome = true by simpa using hb3)
          rw [hfv u3 h3]; exact h3
        have hr : valid l nameB = some j := valid_some (hsc.symm.trans (scan_bad hx hu3 (.inl (by simpa using hb5))))
        exact fun w hw => ⟨bx9, by rw [hr]; rfl, by rw [hr]; exact hw.drop (.cons_cons _ (.cons _ (.cons _ (.cons _ (List.Sublist.refl _)))))⟩
      · exact absurd hb6 (by decide)
    have hb5p := hb5
    try simp at hb5p
    refine MX.gT0 (i := 15) rfl rfl rfl rfl hb5 (Y.move rfl) rfl rfl <| MX.force (i := 16) rfl <| LX.gT rfl rfl rfl hb5 (Y.ldAggB (vs := [.int .i64 x.op, .int .i64 x.n, .int .i64 x.pos, str x.s, .slice ak2 x.kids.length ck2]) 1 Ft.ag32 rfl rfl rfl rfl) rfl rfl <| LX.nextM [] (by kernel_rfl) (fun h => absurd rfl h) <| MX.force (i := 17) rfl <| LX.callQT rfl rfl rfl hb5 (ndFits_q j (by omega) hok.1 (j + 1) (by omega) (x := x) (cs := [.int .i64 x.op, .int .i64 x.n, .int .i64 x.pos, str x.s, .slice ak2 x.kids.length ck2]) (fresh_in hu3) (hsb j x hx) (fun w hw => ⟨blk_lies hw (i := 2) rfl, hl.push hw⟩) (fun w hw => Kept.mono (fun _ _ h => h.push hw) ⟨_, rfl, hks, hin⟩)) Fzc.en43 rfl rfl rfl rfl <| LX.nextM [] (by kernel_rfl) (fun h => absurd rfl h) <| MX.force (i := 18) rfl <| LX.gT rfl rfl rfl hb5 (Y.not rfl) rfl rfl <| LX.nextM [] (by kernel_rfl) (fun h => absurd rfl h) <| MX.lift0 (i := 19) rfl (Y.pickF rfl hb5 rfl) rfl rfl rfl <| MX.sub (l' := [(0, _), (3, _), (4, _), (17, _), (18, _), (19, _), (43, _)]) ⟨rfl, rfl, rfl, rfl, rfl, rfl, rfl, trivial⟩ <| MX.done <| PX.thenN ?_
    refine CX.cond rfl (fun hb7 => ?_) (fun hb7 => ?_)
    · try simp at hb7
      refine CX.seq <| CX.region <| LX.pure (Y.move rfl) rfl rfl rfl <| LX.pure (Y.ldO Fzc.one25 rfl hE.at_ hE.lt) rfl rfl rfl <| LX.pure (Y.build (v := .agg #[.int .i64 (j : Int), eS]) rfl (build_at hE.one _)) rfl rfl rfl <| LX.box rfl rfl rfl rfl rfl ?_
      intro bx9
      refine LX.pure (Y.mkI Fzc.ni92 rfl) rfl rfl rfl <| LX.pure (Y.assign rfl) rfl rfl rfl <| LX.sub (l' := [(0, _), (2, _), (3, _), (17, _), (18, _), (19, _)]) ⟨rfl, rfl, rfl, rfl, rfl, rfl, trivial⟩ <| LX.next <| PX.thenN <| CX.ret <| PX.blockR <| PX.thenR <| PX.thenR <| PX.blockR <| PX.thenR <| PX.ret1 (by simp) Tryz.results12 rfl ?_
      have hr : valid l nameB = some j := valid_some (hsc.symm.trans (scan_bad hx hu3 (.inr (by simpa using hb7))))
      exact fun w hw => ⟨bx9, by rw [hr]; rfl, by rw [hr]; exact hw.drop (.cons_cons _ (.cons _ (.cons _ (.cons _ (List.Sublist.refl _)))))⟩
    try simp at hb7
    refine CX.skip <| PX.blockN <| PX.thenN <| CX.region <| LX.pure (Y.addN rfl rfl (by (simp only []; omega))) rfl rfl rfl <| LX.pure (Y.move rfl) rfl rfl rfl <| LX.sub (l' := [(0, _), (3, _), (17, _), (18, _), (19, _)]) ⟨rfl, rfl, rfl, rfl, rfl, trivial⟩ <| LX.next ?_
    have hx0 : x.n = 0 := by simpa using hb5p
    have hft : fitsB l nameB (j + 1) x = true := by simpa using hb7
    exact PX.again (μ := fun s => l.length - s.1) (i := (j, u)) (j + 1, u2) (by show l.length - (j + 1) < l.length - j; omega) ⟨rfl, rfl, rfl, rfl, rfl, trivial⟩ (fun w hw => ⟨⟨by show j + 1 ≤ l.length; omega, by show u2.length = l.length; rw [fresh_len _ _ _ _ hu3, hul], hok.next hx hu3 hft, (scan_next hx hu3 hx0 hft).trans hsc, (used_next hx hu3).trans hus⟩, (hw.drop (.cons_cons _ (.cons _ (List.Sublist.refl _)))).perm (.swap _ _ _)⟩)
  try simp at hb2
  have hje : l.length ≤ j := by omega
  have hjl : j = l.length := by omega
  subst hjl
  rw [scan_end hje] at hsc
  rw [used_end hje] at hus
  have hva := valid_none (u := u) hsc.symm hus.symm
  refine CX.exit <| PX.thenE <| PX.thenE <| PX.blockE <| PX.thenN <| CX.seq <| CX.region <| LX.pure (Y.move rfl) rfl rfl rfl <| LX.pure (Y.lenSl rfl Ft.un23 rfl) rfl rfl rfl <| LX.pure (Y.sub rfl rfl (by omega)) rfl rfl rfl <| LX.pure (Y.assign rfl) rfl rfl rfl <| LX.sub (l' := [(0, _), (3, _), (6, _)]) ⟨rfl, rfl, rfl, trivial⟩ <| LX.next <| PX.thenN <| CX.seq <| CX.seq <| CX.region <| LX.pure (Y.move rfl) rfl rfl rfl <| LX.pure (Y.ltI rfl rfl) rfl rfl rfl <| LX.pure (Y.move rfl) rfl rfl rfl <| LX.sub (l' := [(0, _), (3, _), (6, _), (55, _)]) ⟨rfl, rfl, rfl, rfl, trivial⟩ ?_
  apply LX.joinOr 7 62 55 rfl
  · intro hb8
    have hb8p := hb8
    try simp at hb8p
    refine LX.gF rfl rfl rfl hb8 rfl rfl <| LX.gF rfl rfl rfl hb8 rfl rfl <| LX.gF rfl rfl rfl hb8 rfl rfl <| LX.gF rfl rfl rfl hb8 rfl rfl <| LX.gF rfl rfl rfl hb8 rfl rfl <| LX.gF rfl rfl rfl hb8 rfl rfl <| LX.pure (Y.pickT rfl hb8 rfl) rfl rfl rfl ?_
    exact LX.left ⟨rfl, rfl, rfl, rfl, rfl, trivial⟩
  · intro hb8
    have hb8p := hb8
    try simp at hb8p
    refine LX.gT rfl rfl rfl hb8 (Y.move rfl) rfl rfl <| LX.gT rfl rfl rfl hb8 (Y.move rfl) rfl rfl ?_
    obtain ⟨x9, hx9⟩ : ∃ x, l[l.length - 1]? = some x := ⟨_, List.getElem?_eq_getElem (by omega)⟩
    obtain ⟨a9, cs9, hav9, hcl9, hL9, vk9, rfl, hks9, hin9⟩ := hl _ x9 hx9
    have hnd9 : (nd l ((l.length : Int) - 1)).op = x9.op := by rw [show (l.length : Int) - 1 = ((l.length - 1 : Nat) : Int) by omega, nd_at hx9]
    refine LX.gT rfl rfl rfl hb8 (Y.idxZ Ft.un23 Ft.sz32 rfl rfl hav9 (j := l.length - 1) (by omega) (by omega)) rfl rfl <| LX.gT rfl rfl rfl hb8 (Y.fieldA Ft.fa32_0 rfl) rfl rfl <| LX.gT rfl rfl rfl hb8 (Y.ldFO (v := .int .i64 (nd l ((l.length : Int) - 1)).op) Ft.one3 rfl hL9 (by rw [hnd9]; rfl)) rfl rfl <| LX.gT rfl rfl rfl hb8 (Y.neI rfl rfl) rfl rfl <| LX.pure (Y.pickF rfl hb8 rfl) rfl rfl rfl ?_
    exact LX.left ⟨rfl, rfl, rfl, rfl, rfl, trivial⟩
  refine LX.pure (Y.move rfl) rfl rfl rfl <| LX.sub (l' := [(3, _), (6, _), (63, _)]) ⟨rfl, rfl, rfl, trivial⟩ ?_
  apply LX.joinOr 8 71 63 rfl
  · intro hb9
    have hb9p := hb9
    try simp at hb9p
    refine LX.gF rfl rfl rfl hb9 rfl rfl <| LX.gF rfl rfl rfl hb9 rfl rfl <| LX.gF rfl rfl rfl hb9 rfl rfl <| LX.gF rfl rfl rfl hb9 rfl rfl <| LX.gF rfl rfl rfl hb9 rfl rfl <| LX.gF rfl rfl rfl hb9 rfl rfl <| LX.gF rfl rfl rfl hb9 rfl rfl <| LX.pure (Y.pickT rfl hb9 rfl) rfl rfl rfl ?_
    exact LX.left ⟨rfl, rfl, rfl, rfl, trivial⟩
  · intro hb9
    have hb9p := hb9
    try simp at hb9p
    refine LX.gT rfl rfl rfl hb9 (Y.move rfl) rfl rfl <| LX.gT rfl rfl rfl hb9 (Y.nilCheck rfl) rfl rfl <| LX.gT rfl rfl rfl hb9 (Y.fieldAddr0 Fzc.fo89_1 rfl) rfl rfl <| LX.gT rfl rfl rfl hb9 (Y.ldB 0 Fzc.one87 rfl rfl rfl) rfl rfl <| LX.gT rfl rfl rfl hb9 (show Y _ _ _ _ _ (.int .i64 ((l.length - 1 : Nat) : Int)) from by rw [show ((l.length - 1 : Nat) : Int) = (l.length : Int) - 1 by omega]; exact Y.move rfl) rfl rfl <| LX.gT rfl rfl rfl hb9 (Y.cutHiT (a := some ⟨gb, 0, none⟩) (b := l.length - 1) (m := (u.take (l.length - 1)).length) Fy.un87 Fy.sz4 rfl rfl (by omega) (by rw [List.length_take]; omega)) rfl rfl <| LX.callQT rfl rfl rfl hb9 (hasBol_q l.length (ss := u.take (l.length - 1)) (by rw [List.length_take]; omega) false (fun w hw => (row_at hw (j := 1) rfl hul.symm (by decide) (fun i z h => map_A h)).take (l.length - 1))) Fzc.en44 rfl rfl rfl rfl <| LX.pure (Y.pickF rfl hb9 rfl) rfl rfl rfl ?_
    exact LX.left ⟨rfl, rfl, rfl, rfl, trivial⟩
  refine LX.pure (Y.move rfl) rfl rfl rfl <| LX.sub (l' := [(3, _), (6, _), (72, _)]) ⟨rfl, rfl, rfl, trivial⟩ ?_
  apply LX.joinOr 5 77 72 rfl
  · intro hb10
    have hb10p := hb10
    try simp at hb10p
    refine LX.gF rfl rfl rfl hb10 rfl rfl <| LX.gF rfl rfl rfl hb10 rfl rfl <| LX.gF rfl rfl rfl hb10 rfl rfl <| LX.gF rfl rfl rfl hb10 rfl rfl <| LX.pure (Y.pickT rfl hb10 rfl) rfl rfl rfl ?_
    exact LX.left ⟨rfl, rfl, rfl, rfl, trivial⟩
  · intro hb10
    have hb10p := hb10
    try simp at hb10p
    refine LX.gT rfl rfl rfl hb10 (Y.move rfl) rfl rfl <| LX.gT rfl rfl rfl hb10 (Y.move rfl) rfl rfl ?_
    refine LX.callQT rfl rfl rfl hb10 (places_q l.length hok.1 (Nat.le_refl _) (by omega) (fun q y hy => hok.2 q y (List.getElem?_eq_some_iff.1 hy).1 hy) hkb hsb l.length _ true false false (by omega) (by omega) (by omega) (fun w hw => ⟨blk_lies hw (i := 0) rfl, hl.push hw⟩)) Fzb.en45 rfl rfl rfl rfl ?_
    refine LX.gT rfl rfl rfl hb10 (Y.not rfl) rfl rfl <| LX.pure (Y.pickF rfl hb10 rfl) rfl rfl rfl ?_
    exact LX.left ⟨rfl, rfl, rfl, rfl, trivial⟩
  refine LX.sub (l' := [(6, _), (77, _)]) ⟨rfl, rfl, trivial⟩ <| LX.next <| PX.thenN ?_
  refine CX.cond rfl (fun hb11 => ?_) (fun hb11 => ?_)
  · try simp at hb11
    refine CX.seq <| CX.region <| LX.pure (Y.move rfl) rfl rfl rfl <| LX.pure (show Y _ _ _ _ _ (.int .i64 ((l.length - 1 : Nat) : Int)) from by rw [show ((l.length - 1 : Nat) : Int) = if (0 : Int) > (l.length : Int) - 1 then 0 else (l.length : Int) - 1 by split <;> omega]; exact Y.max2 rfl rfl) rfl rfl rfl <| LX.pure (Y.ldO Fzc.one25 rfl hE.at_ hE.lt) rfl rfl rfl <| LX.pure (Y.build (v := .agg #[.int .i64 ((l.length - 1 : Nat) : Int), eS]) rfl (build_at hE.one _)) rfl rfl rfl <| LX.box rfl rfl rfl rfl rfl ?_
    intro bx9
    refine LX.pure (Y.mkI Fzc.ni92 rfl) rfl rfl rfl <| LX.pure (Y.assign rfl) rfl rfl rfl <| LX.sub (l' := [(2, _)]) ⟨rfl, trivial⟩ <| LX.next <| PX.thenN <| CX.ret <| PX.thenR <| PX.ret1 (by simp) Tryz.results12 rfl ?_
    have hr : valid l nameB = some (l.length - 1) := hva.trans (if_pos (by
      by_cases h0 : l.length = 0
      · exact .inl h0
      refine .inr ?_
      have h0b : ¬((l.length : Int) - 1 < 0) := by omega
      by_cases h1 : (nd l ((l.length : Int) - 1)).op = 47
      · refine .inr ?_
        by_cases h2 : false ∈ u.take (l.length - 1)
        · exact .inl h2
        · exact .inr (by simpa [h0b, h1, h2] using hb11)
      · exact .inl h1))
    exact fun w hw => ⟨bx9, by rw [hr]; rfl, by rw [hr]; exact hw.drop (.cons_cons _ (.cons _ (.cons _ (List.Sublist.refl _))))⟩
  try simp at hb11
  refine CX.skip <| PX.thenN <| CX.seq <| CX.region <| LX.pure (Y.assign rfl) rfl rfl rfl <| LX.sub (l' := [(2, _)]) ⟨rfl, trivial⟩ <| LX.next <| PX.thenN <| CX.ret <| PX.ret1 (by simp) Tryz.results12 rfl ?_
  have hr : valid l nameB = none := hva.trans (if_neg (by
    rintro (h | h | h | h)
    · have h9 := hb11.1.1.1
      omega
    · exact h hb11.1.1.2
    · exact hb11.1.2 h
    have h9 := hb11.2
    rw [h] at h9
    exact absurd h9 (by decide)))
  exact fun w hw => ⟨0, by rw [hr]; rfl, by rw [hr]; exact hw.drop (.cons _ (.cons _ (List.Sublist.refl _)))⟩
end Go.Proofs.YtfbenelagdcdgaaGreatDoor
