/-
  Proved here: the statement, behind its first().
-/
import Derived.Test.YtgijpgkckiknjaaGreatDoorCkT
import Derived.Test.YtgijpgkckiknjaaGreatDoorCkK
namespace Go.Proofs.YtgijpgkckiknjaaGreatDoor
open Go.SX Go.RowKit Go.Ck Go.Lex
namespace Fji
theorem en13 : Enters Tryz.prog 13 := Enters.of Tryz.func13 (by kernel_rfl) (by kernel_rfl)
theorem en16 : Enters Tryz.prog 16 := Enters.of Tryz.func16 (by kernel_rfl) (by kernel_rfl)
theorem en19 : Enters Tryz.prog 19 := Enters.of Tryz.func19 (by kernel_rfl) (by kernel_rfl)
theorem en20 : Enters Tryz.prog 20 := Enters.of Tryz.func20 (by kernel_rfl) (by kernel_rfl)
theorem en21 : Enters Tryz.prog 21 := Enters.of Tryz.func21 (by kernel_rfl) (by kernel_rfl)
theorem en22 : Enters Tryz.prog 22 := Enters.of Tryz.func22 (by kernel_rfl) (by kernel_rfl)
theorem en23 : Enters Tryz.prog 23 := Enters.of Tryz.func23 (by kernel_rfl) (by kernel_rfl)
theorem en24 : Enters Tryz.prog 24 := Enters.of Tryz.func24 (by kernel_rfl) (by kernel_rfl)
theorem en25 : Enters Tryz.prog 25 := Enters.of Tryz.func25 (by kernel_rfl) (by kernel_rfl)
theorem en9 : Enters Tryz.prog 9 := Enters.of Tryz.func9 (by kernel_rfl) (by kernel_rfl)
end Fji
open Go.Proofs.YtgijpgkckiknjaaGreatDoor.Env (EnvS errV sentG)
open Go.Tr (EnvV)
theorem nm_at {z : Int} {k : Nat} (h : z = (k : Int)) (hk : k < 34) : insNames.getD k [] = nmOf z := by
  subst h; unfold nmOf; rw [if_pos (by omega)]; rfl
theorem nm_low {z : Int} (h : ¬(1 ≤ z ∧ z < 34)) : [] = nmOf z := by
  unfold nmOf
  split
  · rename_i h2
    obtain rfl : z = 0 := by omega
    rfl
  · rfl
theorem law_c {w0 : World} {base : Nat} {fr : List It} {aE : Nat → Addr} (hS : EnvS w0 base aE) (hE : EnvV w0 base 1 (errV (aE 12))) {X : Cx} {p : Pg} (hX : CkAt (Lies w0 base) X p ⟨[], 0, 0, 0, [], []⟩) (i : Ins) (hFst : ∀ its, FnQ Tryz.prog 9 #[] (WA w0 base its) (.bool true)) : FnC Tryz.prog 5 #[.agg (X.pcs p).toArray, insV i] (WA w0 base fr) (fun _ : Unit => .bool true) (fun _ => WA w0 base fr) := by
  refine FnC.of_body (fn := Tryz.f5) [(0, _), (1, _)] Tryz.func5 rfl Tryz.ntmps5 rfl ⟨rfl, rfl, trivial⟩ ?_
  refine CX.seq ?_
  refine CX.region ?_
  refine LX.box rfl rfl rfl rfl rfl ?_
  intro bx0
  refine LX.box rfl rfl rfl rfl rfl ?_
  intro bx1
  refine LX.pure (Y.assign rfl) rfl rfl rfl ?_
  refine LX.sub (l' := [(2, _), (3, _), (4, _)]) ⟨rfl, rfl, rfl, trivial⟩ ?_
  refine LX.next ?_
  refine PX.thenN ?_
  refine CX.seq ?_
  refine CX.region ?_
  refine LX.callQ (hFst _) Fji.en9 rfl rfl rfl rfl rfl ?_
  refine LX.pure (Y.assign rfl) rfl rfl rfl ?_
  refine LX.sub (l' := [(2, _), (3, _), (4, _), (5, _)]) ⟨rfl, rfl, rfl, rfl, trivial⟩ ?_
  refine LX.next ?_
  refine PX.thenN ?_
  refine CX.seq ?_
  refine CX.seq ?_
  refine CX.region ?_
  refine LX.pure (Y.move rfl) rfl rfl rfl ?_
  refine LX.pure (Y.not rfl) rfl rfl rfl ?_
  refine LX.sub (l' := [(2, _), (3, _), (4, _), (5, _), (14, _)]) ⟨rfl, rfl, rfl, rfl, rfl, trivial⟩ ?_
  refine LX.next ?_
  refine PX.thenN ?_
  refine CX.cond rfl (fun hb1 => ?_) (fun hb1 => ?_)
  · try simp at hb1
    done
  · try simp at hb1
    refine CX.skip ?_
    refine PX.thenN ?_
    refine CX.seq ?_
    refine CX.seq ?_
    refine CX.region ?_
    refine LX.pure (Y.ldAggB (vs := X.pcs p) 1 Fsa.ag28 rfl rfl rfl rfl) rfl rfl rfl ?_
    refine LX.call (light_c hX) Fji.en21 rfl rfl rfl rfl rfl ?_
    intro _
    refine LX.pure (Y.not rfl) rfl rfl rfl ?_
    refine LX.pure (Y.move rfl) rfl rfl rfl ?_
    refine LX.sub (l' := [(2, _), (3, _), (4, _), (5, _), (18, _)]) ⟨rfl, rfl, rfl, rfl, rfl, trivial⟩ ?_
    apply LX.joinOr 3 21 18 rfl
    · intro hb2
      have hb2p := hb2
      try simp at hb2p
      refine LX.gF rfl rfl rfl hb2 rfl rfl ?_
      refine LX.gF rfl rfl rfl hb2 rfl rfl ?_
      refine LX.pure (Y.pickT rfl hb2 rfl) rfl rfl rfl ?_
      exact LX.left ⟨rfl, rfl, rfl, rfl, rfl, rfl, trivial⟩
    · intro hb2
      have hb2p := hb2
      try simp at hb2p
      refine LX.gT rfl rfl rfl hb2 (Y.move rfl) rfl rfl ?_
      refine LX.gT rfl rfl rfl hb2 (Y.not rfl) rfl rfl ?_
      refine LX.pure (Y.pickF rfl hb2 rfl) rfl rfl rfl ?_
      exact LX.left ⟨rfl, rfl, rfl, rfl, rfl, rfl, trivial⟩
    refine LX.sub (l' := [(2, _), (3, _), (4, _), (5, _), (21, _)]) ⟨rfl, rfl, rfl, rfl, rfl, trivial⟩ ?_
    refine LX.next ?_
    refine PX.thenN ?_
    refine CX.cond rfl (fun hb3 => ?_) (fun hb3 => ?_)
    · try simp at hb3
      refine CX.seq ?_
      refine CX.region ?_
      refine LX.pure (Y.move rfl) rfl rfl rfl ?_
      refine LX.pure (Y.assign rfl) rfl rfl rfl ?_
      refine LX.sub (l' := [(2, _), (3, _), (4, _)]) ⟨rfl, rfl, rfl, trivial⟩ ?_
      refine LX.next ?_
      refine PX.thenN ?_
      refine CX.ret ?_
      refine PX.thenR ?_
      refine PX.ret1 (by simp) Tryz.results5 rfl ?_
      exact fun w hw => ⟨(), rfl, hw.drop (.cons _ (.cons _ (List.Sublist.refl _)))⟩
    · try simp at hb3
      have hlb : lightB p := by simpa using hb3
      have hl1 := hlb.1.1
      have hl2 := hlb.1.2.1.1
      have hl3 := hlb.1.2.2.1.1
      have hl4 := hlb.1.2.2.2.1
      refine CX.skip ?_
      refine PX.thenN ?_
      refine CX.seq ?_
      refine CX.region ?_
      refine LX.call (insNames4_c) Fji.en22 rfl rfl rfl rfl rfl ?_
      intro gN
      refine LX.pure (Y.assign rfl) rfl rfl rfl ?_
      refine LX.sub (l' := [(2, _), (3, _), (4, _), (6, _)]) ⟨rfl, rfl, rfl, rfl, trivial⟩ ?_
      refine LX.next ?_
      refine PX.thenN ?_
      refine CX.seq ?_
      refine CX.region ?_
      refine LX.pure (Y.assign rfl) rfl rfl rfl ?_
      refine LX.sub (l' := [(2, _), (3, _), (4, _), (6, _), (7, _)]) ⟨rfl, rfl, rfl, rfl, rfl, trivial⟩ ?_
      refine LX.next ?_
      refine PX.thenN ?_
      refine CX.seqV (l0 := [(2, _), (3, _), (4, _)]) 7 (str (nmOf i.op)) ⟨rfl, rfl, rfl, trivial⟩ ?_ ?_
      ·
        refine CX.seq ?_
        refine CX.region ?_
        refine LX.pure (Y.fieldAddr0 Fjf.fo53_0 rfl) rfl rfl rfl ?_
        refine LX.pure (Y.ldB 1 Ft.one3 rfl rfl rfl) rfl rfl rfl ?_
        refine LX.pure (Y.geI rfl rfl) rfl rfl rfl ?_
        refine LX.pure (Y.move rfl) rfl rfl rfl ?_
        refine LX.sub (l' := [(2, _), (3, _), (4, _), (6, _), (7, _), (27, _)]) ⟨rfl, rfl, rfl, rfl, rfl, rfl, trivial⟩ ?_
        apply LX.joinAnd 6 33 27 rfl
        · intro hb4
          have hb4p := hb4
          try simp at hb4p
          refine LX.gT rfl rfl rfl hb4 (Y.fieldAddr0 Fjf.fo53_0 rfl) rfl rfl ?_
          refine LX.gT rfl rfl rfl hb4 (Y.ldB 1 Ft.one3 rfl rfl rfl) rfl rfl ?_
          refine LX.gT rfl rfl rfl hb4 (Y.move rfl) rfl rfl ?_
          refine LX.gT rfl rfl rfl hb4 (Y.lenSl rfl Fy.un26 rfl) rfl rfl ?_
          refine LX.gT rfl rfl rfl hb4 (Y.ltI rfl rfl) rfl rfl ?_
          refine LX.pure (Y.pickT rfl hb4 rfl) rfl rfl rfl ?_
          exact LX.left ⟨rfl, rfl, rfl, rfl, rfl, rfl, rfl, trivial⟩
        · intro hb4
          have hb4p := hb4
          try simp at hb4p
          refine LX.gF rfl rfl rfl hb4 rfl rfl ?_
          refine LX.gF rfl rfl rfl hb4 rfl rfl ?_
          refine LX.gF rfl rfl rfl hb4 rfl rfl ?_
          refine LX.gF rfl rfl rfl hb4 rfl rfl ?_
          refine LX.gF rfl rfl rfl hb4 rfl rfl ?_
          refine LX.pure (Y.pickF rfl hb4 rfl) rfl rfl rfl ?_
          exact LX.left ⟨rfl, rfl, rfl, rfl, rfl, rfl, rfl, trivial⟩
        refine LX.sub (l' := [(2, _), (3, _), (4, _), (6, _), (7, _), (33, _)]) ⟨rfl, rfl, rfl, rfl, rfl, rfl, trivial⟩ ?_
        refine LX.next ?_
        refine PX.thenN ?_
        refine CX.cond rfl (fun hb5 => ?_) (fun hb5 => ?_)
        · try simp at hb5
          obtain ⟨k, hko⟩ : ∃ k : Nat, i.op = (k : Int) := ⟨i.op.toNat, by omega⟩
          have hk : k < 34 := by omega
          refine CX.region ?_
          refine LX.pure (Y.move rfl) rfl rfl rfl ?_
          refine LX.pure (Y.fieldAddr0 Fjf.fo53_0 rfl) rfl rfl rfl ?_
          refine LX.pure (Y.ldB 1 Ft.one3 rfl rfl rfl) rfl rfl rfl ?_
          refine LX.pure (Y.idxR 0 Fy.un26 Fy.sz9 rfl (congrArg (fun z => some (Value.int .i64 z)) hko) rfl (by omega)) rfl rfl rfl ?_
          refine LX.pure (Y.ldR 0 Fy.one9 rfl rfl (insNames_at hk)) rfl rfl rfl ?_
          refine LX.pure (Y.assign rfl) rfl rfl rfl ?_
          refine LX.sub (l' := [(2, _), (3, _), (4, _), (7, _)]) ⟨rfl, rfl, rfl, rfl, trivial⟩ ?_
          refine LX.next ?_
          exact PX.val ⟨congrArg (fun z => some (str z)) (nm_at hko hk), rfl, rfl, rfl, trivial⟩
        · try simp at hb5
          refine CX.skip ?_
          exact PX.val ⟨congrArg (fun z => some (str z)) (nm_low (by omega)), rfl, rfl, rfl, trivial⟩
      refine CX.seq ?_
      refine CX.seq ?_
      refine CX.region ?_
      refine LX.pure (Y.fieldAddr0 Fjf.fo53_1 rfl) rfl rfl rfl ?_
      refine LX.pure (Y.ldB 1 Ft.one3 rfl rfl rfl) rfl rfl rfl ?_
      refine LX.pure (Y.gtI rfl rfl) rfl rfl rfl ?_
      refine LX.pure (Y.move rfl) rfl rfl rfl ?_
      refine LX.sub (l' := [(2, _), (3, _), (4, _), (7, _), (42, _)]) ⟨rfl, rfl, rfl, rfl, rfl, trivial⟩ ?_
      apply LX.joinOr 4 46 42 rfl
      · intro hb6
        have hb6p := hb6
        try simp at hb6p
        refine LX.gF rfl rfl rfl hb6 rfl rfl ?_
        refine LX.gF rfl rfl rfl hb6 rfl rfl ?_
        refine LX.gF rfl rfl rfl hb6 rfl rfl ?_
        refine LX.pure (Y.pickT rfl hb6 rfl) rfl rfl rfl ?_
        exact LX.left ⟨rfl, rfl, rfl, rfl, rfl, rfl, trivial⟩
      · intro hb6
        have hb6p := hb6
        try simp at hb6p
        refine LX.gT rfl rfl rfl hb6 (Y.fieldAddr0 Fjf.fo53_2 rfl) rfl rfl ?_
        refine LX.gT rfl rfl rfl hb6 (Y.ldB 1 Ft.one3 rfl rfl rfl) rfl rfl ?_
        refine LX.gT rfl rfl rfl hb6 (Y.gtI rfl rfl) rfl rfl ?_
        refine LX.pure (Y.pickF rfl hb6 rfl) rfl rfl rfl ?_
        exact LX.left ⟨rfl, rfl, rfl, rfl, rfl, rfl, trivial⟩
      refine LX.sub (l' := [(2, _), (3, _), (4, _), (7, _), (46, _)]) ⟨rfl, rfl, rfl, rfl, rfl, trivial⟩ ?_
      refine LX.next ?_
      refine PX.thenN ?_
      refine CX.cond rfl (fun hb7 => ?_) (fun hb7 => ?_)
      · try simp at hb7
        refine CX.seq ?_
        refine CX.region ?_
        refine LX.pure (Y.assign rfl) rfl rfl rfl ?_
        refine LX.sub (l' := [(2, _), (3, _), (4, _), (7, _)]) ⟨rfl, rfl, rfl, rfl, trivial⟩ ?_
        refine LX.next ?_
        refine PX.thenN ?_
        refine CX.ret ?_
        refine PX.thenR ?_
        refine PX.ret1 (by simp) Tryz.results5 rfl ?_
        exact fun w hw => ⟨(), rfl, hw.drop (.cons _ (.cons _ (.cons _ (List.Sublist.refl _))))⟩
      · try simp at hb7
        refine CX.skip ?_
        refine PX.thenN ?_
        refine CX.seq ?_
        refine CX.region ?_
        refine LX.pure (Y.ldAggB (vs := insCs i) 1 Fs.ag53 rfl rfl rfl rfl) rfl rfl rfl ?_
        refine LX.call (Effect_c (by omega) (by omega)) Fji.en23 rfl rfl rfl rfl rfl ?_
        intro _
        refine LX.pure (Y.move rfl) rfl rfl rfl ?_
        refine LX.pure (Y.extract rfl rfl) rfl rfl rfl ?_
        refine LX.pure (Y.extract rfl rfl) rfl rfl rfl ?_
        refine LX.pure (Y.assign rfl) rfl rfl rfl ?_
        refine LX.pure (Y.assign rfl) rfl rfl rfl ?_
        refine LX.sub (l' := [(2, _), (3, _), (4, _), (7, _), (8, _), (9, _)]) ⟨rfl, rfl, rfl, rfl, rfl, rfl, trivial⟩ ?_
        refine LX.next ?_
        refine PX.thenN ?_
        refine CX.seq ?_
        refine CX.region ?_
        refine LX.pure (Y.fieldAddr0 Fjf.fo53_0 rfl) rfl rfl rfl ?_
        refine LX.pure (Y.ldB 1 Ft.one3 rfl rfl rfl) rfl rfl rfl ?_
        refine LX.pure (Y.fieldAddr0 Fjf.fo53_1 rfl) rfl rfl rfl ?_
        refine LX.pure (Y.ldB 1 Ft.one3 rfl rfl rfl) rfl rfl rfl ?_
        refine LX.pure (Y.fieldAddr0 Fjf.fo53_2 rfl) rfl rfl rfl ?_
        refine LX.pure (Y.ldB 1 Ft.one3 rfl rfl rfl) rfl rfl rfl ?_
        refine LX.pure (Y.fieldAddr0 Fjf.fo53_3 rfl) rfl rfl rfl ?_
        refine LX.pure (Y.ldB 1 Ft.one3 rfl rfl rfl) rfl rfl rfl ?_
        refine LX.pure (Y.build (v := insV i) rfl (fun _ => by kernel_rfl)) rfl rfl rfl ?_
        refine LX.call (refEffect_c (by omega) (by omega)) Fji.en24 rfl rfl rfl rfl rfl ?_
        intro _
        refine LX.pure (Y.move rfl) rfl rfl rfl ?_
        refine LX.pure (Y.extract rfl rfl) rfl rfl rfl ?_
        refine LX.pure (Y.extract rfl rfl) rfl rfl rfl ?_
        refine LX.pure (Y.assign rfl) rfl rfl rfl ?_
        refine LX.pure (Y.assign rfl) rfl rfl rfl ?_
        refine LX.sub (l' := [(2, _), (3, _), (4, _), (7, _), (8, _), (9, _), (10, _), (11, _)]) ⟨rfl, rfl, rfl, rfl, rfl, rfl, rfl, rfl, trivial⟩ ?_
        refine LX.next ?_
        refine PX.thenN ?_
        refine CX.seq ?_
        refine CX.regionM [(0, .held), (2, .held), (1, .alone), (3, .alone), (4, .alone), (5, .alone), (6, .anywhere), (10, .anywhere), (7, .alone), (8, .alone), (9, .alone), (11, .alone), (12, .anywhere), (13, .anywhere), (14, .anywhere), (15, .alone), (16, .alone), (17, .anywhere), (18, .anywhere), (19, .anywhere), (20, .alone), (21, .alone), (22, .anywhere), (23, .anywhere)] rfl (by kernel_rfl) ?_
        refine MX.lift1 (i := 0) (pend' := []) rfl (fun w hw => by exact hw) (Y.ldAggB (vs := X.pcs p) 2 Fsa.ag28 rfl rfl rfl rfl) rfl rfl rfl (by kernel_rfl) ?_
        refine MX.lift1 (i := 2) (pend' := [0]) rfl (fun w hw => by exact hw) (Y.ldAggB (vs := X.pcs p) 2 Fsa.ag28 rfl rfl rfl rfl) rfl rfl rfl (by kernel_rfl) ?_
        refine MX.force (i := 1) rfl ?_
        refine LX.call (check_c hX ⟨by omega, by omega⟩ (fun x hx => by have := (hlb.1.2.1.2 x hx).1; omega) (fun x hx => by have := (hlb.1.2.1.2 x hx).2; omega) hE hl1 ⟨by omega, by omega⟩ (fun g hg => (hlb.2 g hg).1)) Fji.en16 rfl rfl rfl rfl rfl ?_
        intro bE
        refine LX.nextM [2] (by kernel_rfl) (fun _ => (fun w hw => by exact hw.drop (List.sublist_append_right _ _))) ?_
        refine MX.force (i := 3) rfl ?_
        refine LX.call (plain_s hX hlb) Fji.en20 rfl rfl rfl rfl rfl ?_
        intro X2
        refine LX.nextM [] (by kernel_rfl) (fun h => absurd rfl h) ?_
        refine MX.force (i := 4) rfl ?_
        refine LX.call (rchk_w hlb) Fji.en19 rfl rfl rfl rfl rfl ?_
        intro _
        refine LX.nextM [] (by kernel_rfl) (fun h => absurd rfl h) ?_
        refine MX.force (i := 5) rfl ?_
        refine LX.call (sameE_c hS (chk p) bE) Fji.en13 rfl rfl rfl rfl rfl ?_
        intro _
        refine LX.nextM [] (by kernel_rfl) (fun h => absurd rfl h) ?_
        refine MX.lift0 (i := 6) rfl (Y.move rfl) rfl rfl rfl ?_
        refine MX.caseB (s := 71) rfl (fun hb8 => ?_) (fun hb8 => ?_)
        ·
          have hb8p := hb8
          try simp at hb8p
          refine MX.gT0 (i := 10) rfl rfl rfl rfl hb8 (Y.move rfl) rfl rfl ?_
          refine MX.force (i := 7) rfl ?_
          refine LX.gT rfl rfl rfl hb8 (Y.fieldAddr0 Fjf.fo53_0 rfl) rfl rfl ?_
          refine LX.nextM [] (by kernel_rfl) (fun h => absurd rfl h) ?_
          refine MX.force (i := 8) rfl ?_
          refine LX.gT rfl rfl rfl hb8 (Y.ldB 1 Ft.one3 rfl rfl rfl) rfl rfl ?_
          refine LX.nextM [] (by kernel_rfl) (fun h => absurd rfl h) ?_
          refine MX.force (i := 9) rfl ?_
          refine LX.callT rfl rfl rfl hb8 (insName_c i.op) Fji.en25 rfl rfl rfl rfl ?_
          intro _
          refine LX.nextM [] (by kernel_rfl) (fun h => absurd rfl h) ?_
          refine MX.force (i := 11) rfl ?_
          refine LX.gT rfl rfl rfl hb8 (Y.eqS rfl rfl) rfl rfl ?_
          refine LX.nextM [] (by kernel_rfl) (fun h => absurd rfl h) ?_
          refine MX.lift0 (i := 12) rfl (Y.pickT rfl hb8 rfl) rfl rfl rfl ?_
          refine MX.lift0 (i := 13) rfl (Y.move rfl) rfl rfl rfl ?_
          refine MX.caseB (s := 78) rfl (fun hb9 => ?_) (fun hb9 => ?_)
          ·
            have hb9p := hb9
            try simp at hb9p
            refine MX.gT0 (i := 14) rfl rfl rfl rfl hb9 (Y.move rfl) rfl rfl ?_
            refine MX.force (i := 15) rfl ?_
            refine LX.gT rfl rfl rfl hb9 (Y.move rfl) rfl rfl ?_
            refine LX.nextM [] (by kernel_rfl) (fun h => absurd rfl h) ?_
            refine MX.force (i := 16) rfl ?_
            refine LX.gT rfl rfl rfl hb9 (Y.eqI rfl rfl) rfl rfl ?_
            refine LX.nextM [] (by kernel_rfl) (fun h => absurd rfl h) ?_
            refine MX.lift0 (i := 17) rfl (Y.pickT rfl hb9 rfl) rfl rfl rfl ?_
            refine MX.lift0 (i := 18) rfl (Y.move rfl) rfl rfl rfl ?_
            refine MX.caseB (s := 83) rfl (fun hb10 => ?_) (fun hb10 => ?_)
            ·
              have hb10p := hb10
              try simp at hb10p
              refine MX.gT0 (i := 19) rfl rfl rfl rfl hb10 (Y.move rfl) rfl rfl ?_
              refine MX.force (i := 20) rfl ?_
              refine LX.gT rfl rfl rfl hb10 (Y.move rfl) rfl rfl ?_
              refine LX.nextM [] (by kernel_rfl) (fun h => absurd rfl h) ?_
              refine MX.force (i := 21) rfl ?_
              refine LX.gT rfl rfl rfl hb10 (Y.eqI rfl rfl) rfl rfl ?_
              refine LX.nextM [] (by kernel_rfl) (fun h => absurd rfl h) ?_
              refine MX.lift0 (i := 22) rfl (Y.pickT rfl hb10 rfl) rfl rfl rfl ?_
              refine MX.lift0 (i := 23) rfl (Y.assign rfl) rfl rfl rfl ?_
              refine MX.sub (l' := [(4, _)]) ⟨rfl, trivial⟩ ?_
              refine MX.done ?_
              refine PX.thenN ?_
              refine CX.ret ?_
              refine PX.ret1 (by simp) Tryz.results5 rfl ?_
              exact fun w hw => ⟨(), by simp, hw.drop (.cons _ (.cons _ (.cons _ (List.Sublist.refl _))))⟩
            ·
              have hb10p := hb10
              try simp at hb10p
          ·
            have hb9p := hb9
            try simp at hb9p
        ·
          have hb8p := hb8
          try simp at hb8p
end Go.Proofs.YtgijpgkckiknjaaGreatDoor
