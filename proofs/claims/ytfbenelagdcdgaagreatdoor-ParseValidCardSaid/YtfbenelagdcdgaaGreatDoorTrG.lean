/-
  Proved here: kids that are nobody's.
-/
import Derived.Test.YtfbenelagdcdgaaGreatDoorTrF
set_option linter.unusedSimpArgs false
namespace Go.Proofs.YtfbenelagdcdgaaGreatDoor
open Go.SX Go.RowKit Go.Tr Go.Lex
namespace Fz

end Fz
theorem fresh_c {w0 : World} {base : Nat} {fr : List It} {ak : Option Addr} (ck : Nat) {ks : List Int} (hkn : ks.length ≤ 9223372036854775807) (hk : SlAt 1 intA (Lies w0 base) ak ks) {n : Nat} (i : Nat) (hi : i ≤ n) (gb cap : Nat) (u : List Bool) (hu : u.length = n) : FnC Tryz.prog 42 #[.slice ak ks.length ck, .int .i64 (i : Int), rv (some gb) n cap] (WA w0 base (.row (some gb) cap n 4 1 (u.map bv) :: fr)) (fun _ : List Bool => .bool (fresh ks i u).isSome) (fun v w => (∀ v2, fresh ks i u = some v2 → v = v2) ∧ WA w0 base (.row (some gb) cap n 4 1 (v.map bv) :: fr) w) := by
  refine FnC.of_body (fn := Tryz.f42) [(0, _), (1, _), (2, _)] Tryz.func42 rfl Tryz.ntmps42 rfl ⟨rfl, rfl, rfl, trivial⟩ ?_
  refine CX.seq <| CX.region <| LX.pure (Y.assign rfl) rfl rfl rfl <| LX.sub (l' := [(0, _), (1, _), (2, _), (6, _)]) ⟨rfl, rfl, rfl, rfl, trivial⟩ <| LX.next <| PX.thenN <| CX.seq <| CX.seq <| CX.region <| LX.pure (Y.move rfl) rfl rfl rfl <| LX.pure (Y.lenSl rfl Ft.un30 rfl) rfl rfl rfl <| LX.pure (Y.move rfl) rfl rfl rfl <| LX.sub (l' := [(1, _), (2, _), (6, _), (9, _), (10, _), (11, _)]) ⟨rfl, rfl, rfl, rfl, rfl, rfl, trivial⟩ <| LX.next <| PX.thenN <| CX.block <| CX.loop (fun s : Nat × List Bool => [(1, .int .i64 (i : Int)), (2, rv (some gb) n cap), (9, .slice ak ks.length ck), (10, .int .i64 (ks.length : Int)), (11, .int .i64 (s.1 : Int))]) (fun (s : Nat × List Bool) w => (s.1 ≤ ks.length ∧ s.2.length = n ∧ fresh (ks.drop s.1) i s.2 = fresh ks i u) ∧ WA w0 base (.row (some gb) cap n 4 1 (s.2.map bv) :: fr) w) (fun s => ks.length - s.1) (0, u) ⟨rfl, rfl, rfl, rfl, rfl, trivial⟩ (fun w hw => ⟨⟨Nat.zero_le _, hu, rfl⟩, hw⟩) ?_
  rintro ⟨j, v⟩
  refine CX.have fun ⟨hj0, hvl, hfr⟩ => ?_
  try dsimp only at hj0 hvl hfr ⊢
  refine CX.seq <| CX.region <| LX.pure (Y.ltN rfl rfl) rfl rfl rfl <| LX.sub (l' := [(1, _), (2, _), (9, _), (10, _), (11, _), (12, _)]) ⟨rfl, rfl, rfl, rfl, rfl, rfl, trivial⟩ <| LX.next <| PX.thenN <| CX.seq ?_
  refine CX.cond rfl (fun hb1 => ?_) (fun hb1 => ?_)
  · try simp at hb1
    have hj : j < ks.length := by omega
    obtain ⟨a0, hav0, hL0, hin0⟩ := hk.int_at hj
    rw [drop_getD hj, fresh] at hfr
    generalize ks.getD j 0 = kz at hL0 hin0 hfr
    obtain ⟨vb, hvb⟩ : ∃ vb, kz.toNat < n → v[kz.toNat]? = some vb := ⟨v.getD kz.toNat false, fun h => by rw [getD_get (by omega)]; exact List.getElem?_eq_getElem (by omega)⟩
    refine CX.skip <| PX.thenN <| CX.seq <| CX.block <| CX.seq <| CX.region <| LX.pure (Y.idxZ Ft.un30 Ft.sz3 rfl rfl hav0 (j := j) rfl hj) rfl rfl rfl <| LX.pure (Y.ldO1 Ft.one3 rfl hL0) rfl rfl rfl <| LX.pure (Y.assign rfl) rfl rfl rfl <| LX.sub (l' := [(1, _), (2, _), (8, _), (9, _), (10, _), (11, _)]) ⟨rfl, rfl, rfl, rfl, rfl, rfl, trivial⟩ <| LX.next <| PX.thenN <| CX.seq <| CX.seq <| CX.region <| LX.pure (Y.move rfl) rfl rfl rfl <| LX.pure (Y.ltI rfl rfl) rfl rfl rfl <| LX.pure (Y.move rfl) rfl rfl rfl <| LX.sub (l' := [(1, _), (2, _), (8, _), (9, _), (10, _), (11, _), (17, _)]) ⟨rfl, rfl, rfl, rfl, rfl, rfl, rfl, trivial⟩ ?_
    apply LX.joinOr 4 21 17 rfl
    · intro hb2
      have hb2p := hb2
      try simp at hb2p
      refine LX.gF rfl rfl rfl hb2 rfl rfl <| LX.gF rfl rfl rfl hb2 rfl rfl <| LX.gF rfl rfl rfl hb2 rfl rfl <| LX.pure (Y.pickT rfl hb2 rfl) rfl rfl rfl ?_
      exact LX.left ⟨rfl, rfl, rfl, rfl, rfl, rfl, rfl, rfl, trivial⟩
    · intro hb2
      have hb2p := hb2
      try simp at hb2p
      refine LX.gT rfl rfl rfl hb2 (Y.move rfl) rfl rfl <| LX.gT rfl rfl rfl hb2 (Y.move rfl) rfl rfl <| LX.gT rfl rfl rfl hb2 (Y.geI rfl rfl) rfl rfl <| LX.pure (Y.pickF rfl hb2 rfl) rfl rfl rfl ?_
      exact LX.left ⟨rfl, rfl, rfl, rfl, rfl, rfl, rfl, rfl, trivial⟩
    refine LX.pure (Y.move rfl) rfl rfl rfl <| LX.sub (l' := [(1, _), (2, _), (8, _), (9, _), (10, _), (11, _), (22, _)]) ⟨rfl, rfl, rfl, rfl, rfl, rfl, rfl, trivial⟩ ?_
    apply LX.joinOr 5 27 22 rfl
    · intro hb3
      have hb3p := hb3
      try simp at hb3p
      refine LX.gF rfl rfl rfl hb3 rfl rfl <| LX.gF rfl rfl rfl hb3 rfl rfl <| LX.gF rfl rfl rfl hb3 rfl rfl <| LX.gF rfl rfl rfl hb3 rfl rfl <| LX.pure (Y.pickT rfl hb3 rfl) rfl rfl rfl ?_
      exact LX.left ⟨rfl, rfl, rfl, rfl, rfl, rfl, rfl, rfl, trivial⟩
    · intro hb3
      have hb3p := hb3
      try simp at hb3p
      refine LX.gT rfl rfl rfl hb3 (Y.move rfl) rfl rfl <| LX.gT rfl rfl rfl hb3 (Y.move rfl) rfl rfl ?_
      have hkz : kz = (kz.toNat : Int) := by omega
      have hkn2 : kz.toNat < n := by omega
      refine LX.gT rfl rfl rfl hb3 (Y.idxRZ 0 (i := kz.toNat) Fy.un87 Fy.sz4 rfl rfl hkz rfl hkn2) rfl rfl <| LX.gT rfl rfl rfl hb3 (Y.ldR 0 (v := .bool vb) Fy.one4 rfl rfl (bv_at (hvb hkn2))) rfl rfl <| LX.pure (Y.pickF rfl hb3 rfl) rfl rfl rfl ?_
      exact LX.left ⟨rfl, rfl, rfl, rfl, rfl, rfl, rfl, rfl, trivial⟩
    refine LX.sub (l' := [(1, _), (2, _), (8, _), (9, _), (10, _), (11, _), (27, _)]) ⟨rfl, rfl, rfl, rfl, rfl, rfl, rfl, trivial⟩ <| LX.next <| PX.thenN ?_
    refine CX.cond rfl (fun hb4 => ?_) (fun hb4 => ?_)
    · try simp at hb4
      have hno : kz < 0 ∨ (i : Int) ≤ kz ∨ v[kz.toNat]? = some true := by
        by_cases h1 : kz < 0
        · exact .inl h1
        by_cases h2 : (i : Int) ≤ kz
        · exact .inr (.inl h2)
        · exact .inr (.inr (by rw [hvb (by omega)]; simp_all))
      refine CX.seq <| CX.region <| LX.pure (Y.assign rfl) rfl rfl rfl <| LX.sub (l' := [(1, _), (2, _), (6, _), (8, _), (9, _), (10, _), (11, _)]) ⟨rfl, rfl, rfl, rfl, rfl, rfl, rfl, trivial⟩ <| LX.next <| PX.thenN <| CX.ret <| PX.thenR <| PX.blockR <| PX.thenR <| PX.thenR <| PX.blockR <| PX.thenR <| PX.ret1 (by simp) Tryz.results42 rfl ?_
      exact fun w hw => ⟨v, by rw [← hfr, if_pos hno]; rfl, (fun v2 h2 => by rw [← hfr, if_pos hno] at h2; cases h2), hw⟩
    try simp at hb4
    have hkz : kz = (kz.toNat : Int) := by omega
    have hkn2 : kz.toNat < n := by omega
    have hno : ¬(kz < 0 ∨ (i : Int) ≤ kz ∨ v[kz.toNat]? = some true) := by
      rw [hvb hkn2]
      rintro (h | h | h)
      · omega
      · omega
      · injection h with h; rw [h] at hb4; exact absurd hb4.2 (by decide)
    refine CX.skip <| PX.thenN <| CX.region <| LX.pure (Y.move rfl) rfl rfl rfl <| LX.pure (Y.move rfl) rfl rfl rfl <| LX.pure (Y.idxRZ 0 (i := kz.toNat) Fy.un87 Fy.sz4 rfl rfl hkz rfl hkn2) rfl rfl rfl <| LX.storeR 0 Fy.sz4 rfl rfl rfl rfl rfl (by rw [List.length_map]; omega) rfl rfl <| LX.sub (l' := [(1, _), (2, _), (9, _), (10, _), (11, _)]) ⟨rfl, rfl, rfl, rfl, rfl, trivial⟩ <| LX.next <| PX.blockN <| PX.thenN <| CX.region <| LX.pure (Y.addN rfl rfl (by (simp only []; omega))) rfl rfl rfl <| LX.pure (Y.move rfl) rfl rfl rfl <| LX.sub (l' := [(1, _), (2, _), (9, _), (10, _), (11, _)]) ⟨rfl, rfl, rfl, rfl, rfl, trivial⟩ <| LX.next ?_
    exact PX.again (μ := fun s => ks.length - s.1) (i := (j, v)) (j + 1, v.set kz.toNat true) (by show ks.length - (j + 1) < ks.length - j; omega) ⟨rfl, rfl, rfl, rfl, rfl, trivial⟩ (fun w hw => ⟨⟨by show j + 1 ≤ ks.length; omega, by rw [List.length_set]; exact hvl, by rw [← hfr, if_neg hno]⟩, by have h1 := hw; rw [Nat.mul_one] at h1; rw [← bv_set]; exact h1⟩)
  try simp at hb1
  have hje : j = ks.length := by omega
  rw [drop_end hje, fresh] at hfr
  refine CX.exit <| PX.thenE <| PX.thenE <| PX.blockE <| PX.thenN <| CX.seq <| CX.region <| LX.pure (Y.assign rfl) rfl rfl rfl <| LX.sub (l' := [(6, _)]) ⟨rfl, trivial⟩ <| LX.next <| PX.thenN <| CX.ret <| PX.ret1 (by simp) Tryz.results42 rfl ?_
  exact fun w hw => ⟨v, by rw [← hfr]; rfl, fun v2 h2 => by rw [← hfr] at h2; cases h2; rfl, hw⟩
end Go.Proofs.YtfbenelagdcdgaaGreatDoor

namespace Go.Proofs.YtfbenelagdcdgaaGreatDoor
open Go.SX Go.RowKit Go.Tr Go.Lex
namespace Fza
theorem en103 : Enters Tryz.prog 103 := Enters.of Tryz.func103 (by kernel_rfl) (by kernel_rfl)
theorem en104 : Enters Tryz.prog 104 := Enters.of Tryz.func104 (by kernel_rfl) (by kernel_rfl)
theorem en105 : Enters Tryz.prog 105 := Enters.of Tryz.func105 (by kernel_rfl) (by kernel_rfl)
theorem fa32_3 : FieldOffA Tryz.prog 32 3 3 := fun a w => by kernel_rfl
theorem fo32_3 : FieldOff Tryz.prog 32 3 3 := fun b o w => by kernel_rfl
theorem el35 : Elem Tryz.prog 35 9 1 16 := Elem.of Fy.un35 (z := .string ⟨#[]⟩) (by kernel_rfl) rfl
end Fza
theorem ndFits_c {w0 : World} {base : Nat} {bq : Nat} {al : Option Addr} {cl : Nat} {uv : Value} {l : List Nd} (i : Nat) (hi : i ≤ l.length) (hA : Ahead l i) (n : Nat) (hni : i ≤ n) {x : Nd} {cs : List Value} (hr : ∀ k ∈ x.kids, 0 ≤ k ∧ k < (i : Int)) (hxs : x.s.length ≤ 9223372036854775807)  (hq : Cq w0 base bq al cl uv l ndA) (hx : ndA (Lies w0 base) cs x) : FnC Tryz.prog 43 #[.pointer (some ⟨bq, 0, none⟩), .agg cs.toArray] (WA w0 base []) (fun _ : Unit => .bool (fitsB l nameB n x)) (fun _ => WA w0 base []) := by
  obtain ⟨vk, rfl, hks, hin⟩ := hx
  obtain ⟨ak, ck, rfl, ⟨hkn, hkc⟩, hka⟩ := hks.sl
  refine FnC.of_body (fn := Tryz.f43) [(0, _), (1, _)] Tryz.func43 rfl Tryz.ntmps43 rfl ⟨rfl, rfl, trivial⟩ ?_
  refine CX.seq <| CX.region <| LX.box rfl rfl rfl rfl rfl ?_
  intro bx0
  refine LX.pure (Y.assign rfl) rfl rfl rfl <| LX.sub (l' := [(0, _), (3, _), (4, _)]) ⟨rfl, rfl, rfl, trivial⟩ <| LX.next <| PX.thenN <| CX.seq <| CX.seq <| CX.region <| LX.pure (Y.fieldAddr0 Ft.fo32_0 rfl) rfl rfl rfl <| LX.pure (Y.ldB 0 Ft.one3 rfl rfl rfl) rfl rfl rfl <| LX.sub (l' := [(0, _), (3, _), (4, _), (6, _)]) ⟨rfl, rfl, rfl, rfl, trivial⟩ <| LX.next <| PX.thenN <| CX.block <| CX.sub (l' := [(0, _), (3, _), (4, _), (6, _)]) ⟨rfl, rfl, rfl, rfl, trivial⟩ ?_
  apply CX.seqSw 7
  ·
    refine CX.seq <| CX.region <| LX.pure (Y.eqI rfl rfl) rfl rfl rfl <| LX.pure (Y.assign rfl) rfl rfl rfl <| LX.next <| PX.thenN ?_
    apply CX.swOr
    · rfl
    · exact ⟨rfl, rfl, rfl, rfl, rfl, trivial⟩
    intro hb1
    try simp at hb1
    refine CX.seq <| CX.region <| LX.pure (Y.eqI rfl rfl) rfl rfl rfl <| LX.pure (Y.assign rfl) rfl rfl rfl <| LX.next <| PX.thenN ?_
    apply CX.swOr
    · rfl
    · exact ⟨rfl, rfl, rfl, rfl, rfl, trivial⟩
    intro hb2
    try simp at hb2
    refine CX.seq <| CX.region <| LX.pure (Y.eqI rfl rfl) rfl rfl rfl <| LX.pure (Y.assign rfl) rfl rfl rfl <| LX.next <| PX.thenN ?_
    apply CX.swOr
    · rfl
    · exact ⟨rfl, rfl, rfl, rfl, rfl, trivial⟩
    intro hb3
    try simp at hb3
    refine CX.seq <| CX.region <| LX.pure (Y.eqI rfl rfl) rfl rfl rfl <| LX.pure (Y.assign rfl) rfl rfl rfl <| LX.next <| PX.thenN ?_
    apply CX.swOr
    · rfl
    · exact ⟨rfl, rfl, rfl, rfl, rfl, trivial⟩
    intro hb4
    try simp at hb4
    refine CX.region <| LX.pure (Y.eqI rfl rfl) rfl rfl rfl <| LX.pure (Y.assign rfl) rfl rfl rfl <| LX.next ?_
    exact PX.sw ⟨rfl, rfl, rfl, rfl, rfl, trivial⟩
  refine CX.cond rfl (fun hb5 => ?_) (fun hb5 => ?_)
  · try simp at hb5
    refine CX.seq <| CX.region <| LX.pure (Y.fieldAddr0 Fza.fo32_3 rfl) rfl rfl rfl <| LX.pure (Y.ldB 0 Fy.one9 rfl rfl rfl) rfl rfl rfl <| LX.callQ (name_q _ hxs) Fza.en103 rfl rfl rfl rfl rfl <| LX.pure (Y.move rfl) rfl rfl rfl <| LX.sub (l' := [(0, _), (3, _), (4, _), (16, _)]) ⟨rfl, rfl, rfl, rfl, trivial⟩ ?_
    apply LX.joinAnd 4 20 16 rfl
    · intro hb6
      have hb6p := hb6
      try simp at hb6p
      refine LX.gT rfl rfl rfl hb6 (Y.move rfl) rfl rfl <| LX.gT rfl rfl rfl hb6 (Y.ldAggB 0 Ft.ag32 rfl rfl rfl rfl) rfl rfl <| LX.callQT rfl rfl rfl hb6 (kids_q i hi hA n hni hr (fun w hw => hq.push hw) (fun w hw => Kept.mono (fun _ _ h => h.push hw) ⟨_, rfl, hks, hin⟩)) Fza.en104 rfl rfl rfl rfl <| LX.pure (Y.pickT rfl hb6 rfl) rfl rfl rfl ?_
      exact LX.left ⟨rfl, rfl, rfl, rfl, rfl, trivial⟩
    · intro hb6
      have hb6p := hb6
      try simp at hb6p
      refine LX.gF rfl rfl rfl hb6 rfl rfl <| LX.gF rfl rfl rfl hb6 rfl rfl <| LX.gF rfl rfl rfl hb6 rfl rfl <| LX.pure (Y.pickF rfl hb6 rfl) rfl rfl rfl ?_
      exact LX.left ⟨rfl, rfl, rfl, rfl, rfl, trivial⟩
    refine LX.pure (Y.assign rfl) rfl rfl rfl <| LX.sub (l' := [(0, _), (3, _), (4, _)]) ⟨rfl, rfl, rfl, trivial⟩ <| LX.next <| PX.thenN <| CX.ret <| PX.blockR <| PX.thenR <| PX.ret1 (by simp) Tryz.results43 rfl ?_
    exact fun w hw => ⟨(), congrArg (fun z => Ending.returned (Value.bool z)) (by
      unfold fitsB
      repeat (rw [if_pos (by omega)])
      try rfl), hw.drop (List.sublist_cons_self _ _)⟩
  try simp at hb5
  refine CX.seq <| CX.region <| LX.pure (Y.eqI rfl rfl) rfl rfl rfl <| LX.pure (Y.assign rfl) rfl rfl rfl <| LX.sub (l' := [(0, _), (3, _), (4, _), (6, _), (21, _)]) ⟨rfl, rfl, rfl, rfl, rfl, trivial⟩ <| LX.next <| PX.thenN ?_
  refine CX.cond rfl (fun hb7 => ?_) (fun hb7 => ?_)
  · try simp at hb7
    refine CX.seq <| CX.region <| LX.pure (Y.fieldAddr0 Fza.fo32_3 rfl) rfl rfl rfl <| LX.pure (Y.ldB 0 Fy.one9 rfl rfl rfl) rfl rfl rfl <| LX.callQ (digits_q _ hxs) Fza.en105 rfl rfl rfl rfl rfl <| LX.pure (Y.move rfl) rfl rfl rfl <| LX.sub (l' := [(0, _), (3, _), (4, _), (26, _)]) ⟨rfl, rfl, rfl, rfl, trivial⟩ ?_
    apply LX.joinAnd 4 30 26 rfl
    · intro hb8
      have hb8p := hb8
      try simp at hb8p
      refine LX.gT rfl rfl rfl hb8 (Y.move rfl) rfl rfl <| LX.gT rfl rfl rfl hb8 (Y.ldAggB 0 Ft.ag32 rfl rfl rfl rfl) rfl rfl <| LX.callQT rfl rfl rfl hb8 (kids_q i hi hA n hni hr (fun w hw => hq.push hw) (fun w hw => Kept.mono (fun _ _ h => h.push hw) ⟨_, rfl, hks, hin⟩)) Fza.en104 rfl rfl rfl rfl <| LX.pure (Y.pickT rfl hb8 rfl) rfl rfl rfl ?_
      exact LX.left ⟨rfl, rfl, rfl, rfl, rfl, trivial⟩
    · intro hb8
      have hb8p := hb8
      try simp at hb8p
      refine LX.gF rfl rfl rfl hb8 rfl rfl <| LX.gF rfl rfl rfl hb8 rfl rfl <| LX.gF rfl rfl rfl hb8 rfl rfl <| LX.pure (Y.pickF rfl hb8 rfl) rfl rfl rfl ?_
      exact LX.left ⟨rfl, rfl, rfl, rfl, rfl, trivial⟩
    refine LX.pure (Y.assign rfl) rfl rfl rfl <| LX.sub (l' := [(0, _), (3, _), (4, _)]) ⟨rfl, rfl, rfl, trivial⟩ <| LX.next <| PX.thenN <| CX.ret <| PX.blockR <| PX.thenR <| PX.ret1 (by simp) Tryz.results43 rfl ?_
    exact fun w hw => ⟨(), congrArg (fun z => Ending.returned (Value.bool z)) (by
      unfold fitsB
      repeat (first | rw [if_pos (by omega)] | rw [if_neg (by omega)])
      try rfl), hw.drop (List.sublist_cons_self _ _)⟩
  try simp at hb7
  refine CX.sub (l' := [(0, _), (3, _), (4, _), (6, _)]) ⟨rfl, rfl, rfl, rfl, trivial⟩ ?_
  apply CX.seqSw 31
  ·
    refine CX.seq <| CX.region <| LX.pure (Y.eqI rfl rfl) rfl rfl rfl <| LX.pure (Y.assign rfl) rfl rfl rfl <| LX.next <| PX.thenN ?_
    apply CX.swOr
    · rfl
    · exact ⟨rfl, rfl, rfl, rfl, rfl, trivial⟩
    intro hb9
    try simp at hb9
    refine CX.region <| LX.pure (Y.eqI rfl rfl) rfl rfl rfl <| LX.pure (Y.assign rfl) rfl rfl rfl <| LX.next ?_
    exact PX.sw ⟨rfl, rfl, rfl, rfl, rfl, trivial⟩
  refine CX.cond rfl (fun hb10 => ?_) (fun hb10 => ?_)
  · try simp at hb10
    refine CX.seq <| CX.region <| LX.pure (Y.move rfl) rfl rfl rfl <| LX.pure (Y.ldAggB 0 Ft.ag32 rfl rfl rfl rfl) rfl rfl rfl <| LX.callQ (kids_q i hi hA n hni hr (fun w hw => hq.push hw) (fun w hw => Kept.mono (fun _ _ h => h.push hw) ⟨_, rfl, hks, hin⟩)) Fza.en104 rfl rfl rfl rfl rfl <| LX.pure (Y.assign rfl) rfl rfl rfl <| LX.sub (l' := [(0, _), (3, _), (4, _)]) ⟨rfl, rfl, rfl, trivial⟩ <| LX.next <| PX.thenN <| CX.ret <| PX.blockR <| PX.thenR <| PX.ret1 (by simp) Tryz.results43 rfl ?_
    exact fun w hw => ⟨(), congrArg (fun z => Ending.returned (Value.bool z)) (by
      unfold fitsB
      repeat (first | rw [if_pos (by omega)] | rw [if_neg (by omega)])
      try rfl), hw.drop (List.sublist_cons_self _ _)⟩
  try simp at hb10
  refine CX.skip <| PX.blockN <| PX.thenN <| CX.seq <| CX.region <| LX.pure (Y.fieldAddr0 Fza.fo32_3 rfl) rfl rfl rfl <| LX.pure (Y.ldB 0 Fy.one9 rfl rfl rfl) rfl rfl rfl <| LX.pure (Y.eqS rfl rfl) rfl rfl rfl <| LX.pure (Y.move rfl) rfl rfl rfl <| LX.sub (l' := [(0, _), (3, _), (4, _), (40, _)]) ⟨rfl, rfl, rfl, rfl, trivial⟩ ?_
  apply LX.joinAnd 4 44 40 rfl
  · intro hb11
    have hb11p := hb11
    try simp at hb11p
    refine LX.gT rfl rfl rfl hb11 (Y.move rfl) rfl rfl <| LX.gT rfl rfl rfl hb11 (Y.ldAggB 0 Ft.ag32 rfl rfl rfl rfl) rfl rfl <| LX.callQT rfl rfl rfl hb11 (kids_q i hi hA n hni hr (fun w hw => hq.push hw) (fun w hw => Kept.mono (fun _ _ h => h.push hw) ⟨_, rfl, hks, hin⟩)) Fza.en104 rfl rfl rfl rfl <| LX.pure (Y.pickT rfl hb11 rfl) rfl rfl rfl ?_
    exact LX.left ⟨rfl, rfl, rfl, rfl, rfl, trivial⟩
  · intro hb11
    have hb11p := hb11
    try simp at hb11p
    refine LX.gF rfl rfl rfl hb11 rfl rfl <| LX.gF rfl rfl rfl hb11 rfl rfl <| LX.gF rfl rfl rfl hb11 rfl rfl <| LX.pure (Y.pickF rfl hb11 rfl) rfl rfl rfl ?_
    exact LX.left ⟨rfl, rfl, rfl, rfl, rfl, trivial⟩
  refine LX.pure (Y.assign rfl) rfl rfl rfl <| LX.sub (l' := [(4, _)]) ⟨rfl, trivial⟩ <| LX.next <| PX.thenN <| CX.ret <| PX.ret1 (by simp) Tryz.results43 rfl ?_
  exact fun w hw => ⟨(), congrArg (fun z => Ending.returned (Value.bool z)) (by
    unfold fitsB
    repeat (rw [if_neg (by omega)])
    try rfl), hw.drop (List.sublist_cons_self _ _)⟩
theorem ndFits_q {W : World → Prop} [Stab W] {bq : Nat} {al : Option Addr} {cl : Nat} {uv : Value} {l : List Nd} (i : Nat) (hi : i ≤ l.length) (hA : Ahead l i) (n : Nat) (hni : i ≤ n) {x : Nd} {cs : List Value} (hr : ∀ k ∈ x.kids, 0 ≤ k ∧ k < (i : Int)) (hxs : x.s.length ≤ 9223372036854775807)  (hq : ∀ w, W w → Cq w w.heap.size bq al cl uv l ndA) (hx : ∀ w, W w → ndA (Lies w w.heap.size) cs x) : FnQ Tryz.prog 43 #[.pointer (some ⟨bq, 0, none⟩), .agg cs.toArray] W (.bool (fitsB l nameB n x)) := FnC.quiet fun w hw => ndFits_c i hi hA n hni hr hxs (hq w hw) (hx w hw)
theorem params_c {w0 : World} {base : Nat} {bq : Nat} {al : Option Addr} {cl : Nat} {uv : Value} {l : List Nd} (i : Nat) (hi : i ≤ l.length) {ak : Option Addr} (ck : Nat) {ks : List Int} (hkn : ks.length ≤ 9223372036854775807) (hr : ∀ k ∈ ks, 0 ≤ k ∧ k < (i : Int)) (hkb : ks.length ≤ 1048576) (hsb : ∀ (k : Nat) (x : Nd), l[k]? = some x → x.s.length ≤ 9223372036854775807)  (hq : Cq w0 base bq al cl uv l ndA) (hk : SlAt 1 intA (Lies w0 base) ak ks) : FnC Tryz.prog 107 #[.pointer (some ⟨bq, 0, none⟩), .slice ak ks.length ck] (WA w0 base []) (fun _ : Unit => .bool (paramsGo l ks [] false)) (fun _ => WA w0 base []) := by
  refine FnC.of_body (fn := Tryz.f107) [(0, _), (1, _)] Tryz.func107 rfl Tryz.ntmps107 rfl ⟨rfl, rfl, trivial⟩ ?_
  refine CX.seq <| CX.region <| LX.pure (Y.assign rfl) rfl rfl rfl <| LX.sub (l' := [(0, _), (1, _), (4, _)]) ⟨rfl, rfl, rfl, trivial⟩ <| LX.next <| PX.thenN <| CX.seq <| CX.region <| LX.pure (Y.assign rfl) rfl rfl rfl <| LX.sub (l' := [(0, _), (1, _), (4, _), (5, _)]) ⟨rfl, rfl, rfl, rfl, trivial⟩ <| LX.next <| PX.thenN <| CX.seq <| CX.region <| LX.pure (Y.assign rfl) rfl rfl rfl <| LX.sub (l' := [(0, _), (1, _), (4, _), (5, _), (6, _)]) ⟨rfl, rfl, rfl, rfl, rfl, trivial⟩ <| LX.next <| PX.thenN <| CX.seq <| CX.seq <| CX.region <| LX.pure (Y.move rfl) rfl rfl rfl <| LX.pure (Y.lenSl rfl Ft.un30 rfl) rfl rfl rfl <| LX.pure (Y.move rfl) rfl rfl rfl <| LX.sub (l' := [(0, _), (4, _), (5, _), (6, _), (10, _), (11, _), (12, _)]) ⟨rfl, rfl, rfl, rfl, rfl, rfl, rfl, trivial⟩ <| LX.next <| PX.thenN <| CX.block <| CX.loop (fun s : Nat × List (List UInt8) × Bool × Option Nat × Nat => [(0, .pointer (some ⟨bq, 0, none⟩)), (5, rv s.2.2.2.1 s.2.1.length s.2.2.2.2), (6, .bool s.2.2.1), (10, .slice ak ks.length ck), (11, .int .i64 (ks.length : Int)), (12, .int .i64 (s.1 : Int))]) (fun (s : Nat × List (List UInt8) × Bool × Option Nat × Nat) w => (s.1 ≤ ks.length ∧ s.2.1.length = s.1 ∧ paramsGo l (ks.drop s.1) s.2.1 s.2.2.1 = paramsGo l ks [] false) ∧ WA w0 base [.row s.2.2.2.1 s.2.2.2.2 s.2.1.length 9 1 (s.2.1.map str)] w) (fun s => ks.length - s.1) (0, [], false, none, 0) ⟨rfl, rfl, rfl, rfl, rfl, rfl, trivial⟩ (fun w hw => ⟨⟨Nat.zero_le _, rfl, rfl⟩, hw.nilRow 9 1⟩) ?_
  rintro ⟨j, ns, given, g, cap⟩
  refine CX.have fun ⟨hj0, hns, hgo⟩ => ?_
  try dsimp only at hj0 hns hgo ⊢
  refine CX.seq <| CX.region <| LX.pure (Y.ltN rfl rfl) rfl rfl rfl <| LX.sub (l' := [(0, _), (5, _), (6, _), (10, _), (11, _), (12, _), (13, _)]) ⟨rfl, rfl, rfl, rfl, rfl, rfl, rfl, trivial⟩ <| LX.next <| PX.thenN <| CX.seq ?_
  refine CX.cond rfl (fun hb1 => ?_) (fun hb1 => ?_)
  · try simp at hb1
    have hj : j < ks.length := by omega
    obtain ⟨a0, hav0, hL0, hin0⟩ := hk.int_at hj
    have hrj := hr _ (getD_mem hj)
    obtain ⟨k, hkz⟩ : ∃ k : Nat, ks.getD j 0 = (k : Int) := ⟨(ks.getD j 0).toNat, by omega⟩
    have hkl : k < l.length := by omega
    obtain ⟨x, hx⟩ : ∃ x, l[k]? = some x := ⟨_, List.getElem?_eq_getElem hkl⟩
    obtain ⟨a, cs, hav, hcl, hL, vk, rfl, hks, hin⟩ := hq.nodes k x hx
    obtain ⟨ak2, ck2, rfl, ⟨hkn2, hkc2⟩, hka2⟩ := hks.sl
    have hnd : nd l (ks.getD j 0) = x := by rw [hkz]; exact nd_at hx
    refine CX.skip <| PX.thenN <| CX.seq <| CX.block <| CX.seq <| CX.region <| LX.pure (Y.idxZ Ft.un30 Ft.sz3 rfl rfl hav0 (j := j) rfl hj) rfl rfl rfl <| LX.pure (Y.ldO1 Ft.one3 rfl hL0) rfl rfl rfl <| LX.pure (Y.assign rfl) rfl rfl rfl <| LX.sub (l' := [(0, _), (5, _), (6, _), (8, _), (10, _), (11, _), (12, _)]) ⟨rfl, rfl, rfl, rfl, rfl, rfl, rfl, trivial⟩ <| LX.next <| PX.thenN <| CX.seq <| CX.region <| LX.pure (Y.move rfl) rfl rfl rfl <| LX.pure (Y.nilCheck rfl) rfl rfl rfl <| LX.pure (Y.fieldAddr0 Ft.fo89_0 rfl) rfl rfl rfl <| LX.pure (Y.ldB0 Ft.one23 rfl hq.blk rfl) rfl rfl rfl <| LX.pure (Y.move rfl) rfl rfl rfl <| LX.pure (Y.idxZ Ft.un23 Ft.sz32 rfl rfl hav (j := k) hkz hkl) rfl rfl rfl <| LX.pure (Y.ldAO (cs := [.int .i64 x.op, .int .i64 x.n, .int .i64 x.pos, str x.s, .slice ak2 x.kids.length ck2]) Ft.ag32 rfl hL rfl) rfl rfl rfl <| LX.alloc rfl Fu.zv32 rfl rfl rfl ?_
    intro bx17
    refine LX.storeA 0 Ft.ag32 rfl rfl rfl rfl rfl rfl rfl rfl rfl <| LX.sub (l' := [(0, _), (5, _), (6, _), (9, _), (10, _), (11, _), (12, _)]) ⟨rfl, rfl, rfl, rfl, rfl, rfl, rfl, trivial⟩ <| LX.next <| PX.thenN <| CX.seq <| CX.seq <| CX.region <| LX.pure (Y.move rfl) rfl rfl rfl <| LX.pure (Y.fieldAddr0 Fza.fo32_3 rfl) rfl rfl rfl <| LX.pure (Y.ldB 0 Fy.one9 rfl rfl rfl) rfl rfl rfl <| LX.callQ (hasStr_q cap (ss := ns) (by omega) x.s (fun w hw => row_at hw (j := 1) rfl rfl (by decide) (fun i z h => map_A h))) Fy.en143 rfl rfl rfl rfl rfl <| LX.pure (Y.move rfl) rfl rfl rfl <| LX.sub (l' := [(0, _), (5, _), (6, _), (9, _), (10, _), (11, _), (12, _), (27, _)]) ⟨rfl, rfl, rfl, rfl, rfl, rfl, rfl, rfl, trivial⟩ ?_
    apply LX.joinOr 8 35 27 rfl
    · intro hb2
      have hb2p := hb2
      try simp at hb2p
      refine LX.gF rfl rfl rfl hb2 rfl rfl <| LX.gF rfl rfl rfl hb2 rfl rfl <| LX.gU rfl rfl rfl rfl rfl <| LX.gU rfl rfl rfl rfl rfl <| LX.gU rfl rfl rfl rfl rfl <| LX.gU rfl rfl rfl rfl rfl <| LX.gF rfl rfl rfl hb2 rfl rfl <| LX.pure (Y.pickT rfl hb2 rfl) rfl rfl rfl ?_
      exact LX.left ⟨rfl, rfl, rfl, rfl, rfl, rfl, rfl, rfl, rfl, trivial⟩
    · intro hb2
      have hb2p := hb2
      try simp at hb2p
      refine LX.gT rfl rfl rfl hb2 (Y.move rfl) rfl rfl <| LX.gT rfl rfl rfl hb2 (Y.move rfl) rfl rfl <| LX.sub (l' := [(0, _), (5, _), (6, _), (9, _), (10, _), (11, _), (12, _), (27, _), (29, _)]) ⟨rfl, rfl, rfl, rfl, rfl, rfl, rfl, rfl, rfl, trivial⟩ ?_
      apply LX.joinAnd 5 34 29 rfl
      · intro hb3
        have hb3p := hb3
        try simp at hb3p
        refine LX.gT rfl rfl rfl hb3 (Y.fieldAddr0 Fu.fo32_4 rfl) rfl rfl <| LX.gT rfl rfl rfl hb3 (Y.ldB 0 Fu.one30 rfl rfl rfl) rfl rfl <| LX.gT rfl rfl rfl hb3 (Y.lenSl rfl Ft.un30 rfl) rfl rfl <| LX.gT rfl rfl rfl hb3 (Y.eqN rfl rfl) rfl rfl <| LX.gT rfl rfl rfl hb2 (Y.pickT rfl hb3 rfl) rfl rfl ?_
        exact LX.left ⟨rfl, rfl, rfl, rfl, rfl, rfl, rfl, rfl, rfl, rfl, trivial⟩
      · intro hb3
        have hb3p := hb3
        try simp at hb3p
        refine LX.gF rfl rfl rfl hb3 rfl rfl <| LX.gF rfl rfl rfl hb3 rfl rfl <| LX.gF rfl rfl rfl hb3 rfl rfl <| LX.gF rfl rfl rfl hb3 rfl rfl <| LX.gT rfl rfl rfl hb2 (Y.pickF rfl hb3 rfl) rfl rfl ?_
        exact LX.left ⟨rfl, rfl, rfl, rfl, rfl, rfl, rfl, rfl, rfl, rfl, trivial⟩
      refine LX.pure (Y.pickF rfl hb2 rfl) rfl rfl rfl ?_
      exact LX.left ⟨rfl, rfl, rfl, rfl, rfl, rfl, rfl, rfl, rfl, trivial⟩
    refine LX.sub (l' := [(0, _), (5, _), (6, _), (9, _), (10, _), (11, _), (12, _), (35, _)]) ⟨rfl, rfl, rfl, rfl, rfl, rfl, rfl, rfl, trivial⟩ <| LX.next <| PX.thenN ?_
    refine CX.cond rfl (fun hb4 => ?_) (fun hb4 => ?_)
    · try simp at hb4
      have hye : (decide (x.s ∈ ns) || (given && decide (x.kids.length = 0))) = true := by simpa using hb4
      refine CX.seq <| CX.region <| LX.pure (Y.assign rfl) rfl rfl rfl <| LX.sub (l' := [(0, _), (4, _), (5, _), (6, _), (9, _), (10, _), (11, _), (12, _)]) ⟨rfl, rfl, rfl, rfl, rfl, rfl, rfl, rfl, trivial⟩ <| LX.next <| PX.thenN <| CX.ret <| PX.thenR <| PX.blockR <| PX.thenR <| PX.thenR <| PX.blockR <| PX.thenR <| PX.ret1 (by simp) Tryz.results107 rfl ?_
      exact fun w hw => ⟨(), by rw [← hgo, drop_getD hj, paramsGo, hnd, if_pos hye], hw.drop (.cons _ (.cons _ (List.Sublist.refl _)))⟩
    try simp at hb4
    have hne : ¬(decide (x.s ∈ ns) || (given && decide (x.kids.length = 0))) = true := by simpa using hb4
    refine CX.skip <| PX.thenN <| CX.seq <| CX.region <| LX.pure (Y.move rfl) rfl rfl rfl <| LX.pure (Y.fieldAddr0 Fza.fo32_3 rfl) rfl rfl rfl <| LX.pure (Y.ldB 0 Fy.one9 rfl rfl rfl) rfl rfl rfl <| LX.buildSlice (e := 9) (size := 1) rfl rfl (fun _ => by kernel_rfl) rfl (by decide) rfl rfl rfl ?_
    intro gt38
    refine LX.appendRows 2 0 Fza.el35 rfl rfl rfl rfl rfl rfl rfl (by omega) (by omega) rfl rfl rfl ?_
    intro g2 cap2
    refine LX.pure (Y.assign rfl) rfl rfl rfl <| LX.sub (l' := [(0, _), (5, _), (6, _), (9, _), (10, _), (11, _), (12, _)]) ⟨rfl, rfl, rfl, rfl, rfl, rfl, rfl, trivial⟩ <| LX.next <| PX.thenN <| CX.region <| LX.pure (Y.move rfl) rfl rfl rfl <| LX.pure (Y.move rfl) rfl rfl rfl <| LX.sub (l' := [(0, _), (5, _), (6, _), (9, _), (10, _), (11, _), (12, _), (42, _)]) ⟨rfl, rfl, rfl, rfl, rfl, rfl, rfl, rfl, trivial⟩ ?_
    apply LX.joinOr 5 47 42 rfl
    · intro hb5
      have hb5p := hb5
      try simp at hb5p
      refine LX.gF rfl rfl rfl hb5 rfl rfl <| LX.gF rfl rfl rfl hb5 rfl rfl <| LX.gF rfl rfl rfl hb5 rfl rfl <| LX.gF rfl rfl rfl hb5 rfl rfl <| LX.pure (Y.pickT rfl hb5 rfl) rfl rfl rfl ?_
      exact LX.left ⟨rfl, rfl, rfl, rfl, rfl, rfl, rfl, rfl, rfl, trivial⟩
    · intro hb5
      have hb5p := hb5
      try simp at hb5p
      refine LX.gT rfl rfl rfl hb5 (Y.fieldAddr0 Fu.fo32_4 rfl) rfl rfl <| LX.gT rfl rfl rfl hb5 (Y.ldB 1 Fu.one30 rfl rfl rfl) rfl rfl <| LX.gT rfl rfl rfl hb5 (Y.lenSl rfl Ft.un30 rfl) rfl rfl <| LX.gT rfl rfl rfl hb5 (Y.gtN rfl rfl) rfl rfl <| LX.pure (Y.pickF rfl hb5 rfl) rfl rfl rfl ?_
      exact LX.left ⟨rfl, rfl, rfl, rfl, rfl, rfl, rfl, rfl, rfl, trivial⟩
    refine LX.pure (Y.assign rfl) rfl rfl rfl <| LX.sub (l' := [(0, _), (5, _), (6, _), (10, _), (11, _), (12, _)]) ⟨rfl, rfl, rfl, rfl, rfl, rfl, trivial⟩ <| LX.next <| PX.blockN <| PX.thenN <| CX.region <| LX.pure (Y.addN rfl rfl (by (simp only []; omega))) rfl rfl rfl <| LX.pure (Y.move rfl) rfl rfl rfl <| LX.sub (l' := [(0, _), (5, _), (6, _), (10, _), (11, _), (12, _)]) ⟨rfl, rfl, rfl, rfl, rfl, rfl, trivial⟩ <| LX.next ?_
    exact PX.again (μ := fun s => ks.length - s.1) (i := (j, ns, given, g, cap)) (j + 1, ns ++ [x.s], given || decide (0 < x.kids.length), g2, cap2) (by show ks.length - (j + 1) < ks.length - j; omega) ⟨rfl, by show _ = some (rv g2 (ns ++ [x.s]).length cap2); rw [List.length_append]; rfl, rfl, rfl, rfl, rfl, trivial⟩ (fun w hw => ⟨⟨by show j + 1 ≤ ks.length; omega, by show (ns ++ [x.s]).length = j + 1; rw [List.length_append, hns]; rfl, by rw [← hgo, drop_getD hj, paramsGo, hnd, if_neg hne]⟩, by have h1 := hw.drop (.cons _ (.cons _ (List.Sublist.refl _))); show WA w0 base [.row g2 cap2 (ns ++ [x.s]).length 9 1 ((ns ++ [x.s]).map str)] w; rw [List.length_append, List.map_append]; exact h1⟩)
  try simp at hb1
  have hje : j = ks.length := by omega
  refine CX.exit <| PX.thenE <| PX.thenE <| PX.blockE <| PX.thenN <| CX.seq <| CX.region <| LX.pure (Y.assign rfl) rfl rfl rfl <| LX.sub (l' := [(4, _)]) ⟨rfl, trivial⟩ <| LX.next <| PX.thenN <| CX.ret <| PX.ret1 (by simp) Tryz.results107 rfl ?_
  exact fun w hw => ⟨(), by rw [← hgo, drop_end hje]; rfl, hw.drop (.cons _ (List.Sublist.refl _))⟩
theorem params_q {W : World → Prop} [Stab W] {bq : Nat} {al : Option Addr} {cl : Nat} {uv : Value} {l : List Nd} (i : Nat) (hi : i ≤ l.length) {ak : Option Addr} (ck : Nat) {ks : List Int} (hkn : ks.length ≤ 9223372036854775807) (hr : ∀ k ∈ ks, 0 ≤ k ∧ k < (i : Int)) (hkb : ks.length ≤ 1048576) (hsb : ∀ (k : Nat) (x : Nd), l[k]? = some x → x.s.length ≤ 9223372036854775807)  (hq : ∀ w, W w → Cq w w.heap.size bq al cl uv l ndA) (hk : ∀ w, W w → SlAt 1 intA (Lies w w.heap.size) ak ks) : FnQ Tryz.prog 107 #[.pointer (some ⟨bq, 0, none⟩), .slice ak ks.length ck] W (.bool (paramsGo l ks [] false)) := FnC.quiet fun w hw => params_c i hi ck hkn hr hkb hsb (hq w hw) (hk w hw)
end Go.Proofs.YtfbenelagdcdgaaGreatDoor

namespace Go.Proofs.YtfbenelagdcdgaaGreatDoor
open Go.SX Go.RowKit Go.Tr Go.Lex
namespace Fzb
theorem en107 : Enters Tryz.prog 107 := Enters.of Tryz.func107 (by kernel_rfl) (by kernel_rfl)
theorem en45 : Enters Tryz.prog 45 := Enters.of Tryz.func45 (by kernel_rfl) (by kernel_rfl)
end Fzb
theorem places_s {w0 : World} {base : Nat} {bq : Nat} {al : Option Addr} {cl : Nat} {uv : Value} {l : List Nd} (n i : Nat) (hA : Ahead l i) (hi : i ≤ l.length) (hlb : l.length ≤ 9223372036854775807) (hd : ∀ (k : Nat) (x : Nd), l[k]? = some x → x.op = 45 → 0 < x.kids.length) (hkb : ∀ (k : Nat) (x : Nd), l[k]? = some x → x.kids.length ≤ 1048576) (hsb : ∀ (k : Nat) (x : Nd), l[k]? = some x → x.s.length ≤ 9223372036854775807) (ih : ∀ its (kz : Int) (wh df lp : Bool), 0 ≤ kz → kz < i → kz < n → FnQ Tryz.prog 45 #[.pointer (some ⟨bq, 0, none⟩), .int .i64 kz, .bool wh, .bool df, .bool lp] (WA w0 base its) (.bool (places l n kz wh df lp))) (kz : Int) (wh df lp : Bool) (h0 : 0 ≤ kz ∧ kz < l.length) (hn : kz < i ∧ kz < (n : Int) + 1) (hq : Cq w0 base bq al cl uv l ndA) : FnC Tryz.prog 45 #[.pointer (some ⟨bq, 0, none⟩), .int .i64 kz, .bool wh, .bool df, .bool lp] (WA w0 base []) (fun _ : Unit => .bool (places l (n + 1) kz wh df lp)) (fun _ => WA w0 base []) := by
  obtain ⟨k, rfl⟩ : ∃ k : Nat, kz = (k : Int) := ⟨kz.toNat, by omega⟩
  have hkl : k < l.length := by omega
  obtain ⟨x, hx⟩ : ∃ x, l[k]? = some x := ⟨_, List.getElem?_eq_getElem hkl⟩
  obtain ⟨a, cs, hav, hcl, hL, vk, rfl, hks, hin⟩ := hq.nodes k x hx
  obtain ⟨ak, ck, rfl, ⟨hkn, hkc⟩, hka⟩ := hks.sl
  have hAk := hA k x (by omega) hx
  refine FnC.of_body (fn := Tryz.f45) [(0, _), (1, _), (2, _), (3, _), (4, _)] Tryz.func45 rfl Tryz.ntmps45 rfl ⟨rfl, rfl, rfl, rfl, rfl, trivial⟩ ?_
  refine CX.seq <| CX.region <| LX.pure (Y.assign rfl) rfl rfl rfl <| LX.sub (l' := [(0, _), (1, _), (2, _), (3, _), (4, _), (10, _)]) ⟨rfl, rfl, rfl, rfl, rfl, rfl, trivial⟩ <| LX.next <| PX.thenN <| CX.seq <| CX.region <| LX.pure (Y.move rfl) rfl rfl rfl <| LX.pure (Y.nilCheck rfl) rfl rfl rfl <| LX.pure (Y.fieldAddr0 Ft.fo89_0 rfl) rfl rfl rfl <| LX.pure (Y.ldB0 Ft.one23 rfl hq.blk rfl) rfl rfl rfl <| LX.pure (Y.move rfl) rfl rfl rfl <| LX.pure (Y.idxZ Ft.un23 Ft.sz32 rfl rfl hav (j := k) rfl hkl) rfl rfl rfl <| LX.pure (Y.ldAO (cs := [.int .i64 x.op, .int .i64 x.n, .int .i64 x.pos, str x.s, .slice ak x.kids.length ck]) Ft.ag32 rfl hL rfl) rfl rfl rfl <| LX.alloc rfl Fu.zv32 rfl rfl rfl ?_
  intro bt
  refine LX.storeA 0 Ft.ag32 rfl rfl rfl rfl rfl rfl rfl rfl rfl <| LX.sub (l' := [(0, _), (1, _), (2, _), (3, _), (4, _), (10, _), (11, _)]) ⟨rfl, rfl, rfl, rfl, rfl, rfl, rfl, trivial⟩ <| LX.next <| PX.thenN <| CX.seq <| CX.seq <| CX.region <| LX.pure (Y.fieldAddr0 Ft.fo32_0 rfl) rfl rfl rfl <| LX.pure (Y.ldB 0 Ft.one3 rfl rfl rfl) rfl rfl rfl <| LX.sub (l' := [(0, _), (1, _), (2, _), (3, _), (4, _), (10, _), (11, _), (23, _)]) ⟨rfl, rfl, rfl, rfl, rfl, rfl, rfl, rfl, trivial⟩ <| LX.next <| PX.thenN <| CX.block <| CX.sub (l' := [(0, _), (1, _), (2, _), (3, _), (4, _), (10, _), (11, _), (23, _)]) ⟨rfl, rfl, rfl, rfl, rfl, rfl, rfl, rfl, trivial⟩ ?_
  apply CX.seqSw 24
  ·
    refine CX.seq <| CX.region <| LX.pure (Y.eqI rfl rfl) rfl rfl rfl <| LX.pure (Y.assign rfl) rfl rfl rfl <| LX.next <| PX.thenN ?_
    apply CX.swOr
    · rfl
    · exact ⟨rfl, rfl, rfl, rfl, rfl, rfl, rfl, rfl, rfl, trivial⟩
    intro hb1
    try simp at hb1
    refine CX.region <| LX.pure (Y.eqI rfl rfl) rfl rfl rfl <| LX.pure (Y.assign rfl) rfl rfl rfl <| LX.next ?_
    exact PX.sw ⟨rfl, rfl, rfl, rfl, rfl, rfl, rfl, rfl, rfl, trivial⟩
  refine CX.cond rfl (fun hb2 => ?_) (fun hb2 => ?_)
  · try simp at hb2
    refine CX.seq <| CX.region <| LX.pure (Y.move rfl) rfl rfl rfl <| LX.pure (Y.assign rfl) rfl rfl rfl <| LX.sub (l' := [(10, _)]) ⟨rfl, trivial⟩ <| LX.next <| PX.thenN <| CX.ret <| PX.blockR <| PX.thenR <| PX.ret1 (by simp) Tryz.results45 rfl ?_
    exact fun w hw => ⟨(), congrArg (fun z => Ending.returned (Value.bool z)) (by
      rw [places_1 hx]
      repeat (rw [if_pos (by omega)])
      try rfl), hw.drop (List.sublist_cons_self _ _)⟩
  try simp at hb2
  refine CX.seq <| CX.region <| LX.pure (Y.eqI rfl rfl) rfl rfl rfl <| LX.pure (Y.assign rfl) rfl rfl rfl <| LX.sub (l' := [(0, _), (1, _), (2, _), (3, _), (4, _), (10, _), (11, _), (23, _), (28, _)]) ⟨rfl, rfl, rfl, rfl, rfl, rfl, rfl, rfl, rfl, trivial⟩ <| LX.next <| PX.thenN ?_
  refine CX.cond rfl (fun hb3 => ?_) (fun hb3 => ?_)
  · try simp at hb3
    refine CX.seq <| CX.region <| LX.pure (Y.move rfl) rfl rfl rfl <| LX.pure (Y.assign rfl) rfl rfl rfl <| LX.sub (l' := [(10, _)]) ⟨rfl, trivial⟩ <| LX.next <| PX.thenN <| CX.ret <| PX.blockR <| PX.thenR <| PX.ret1 (by simp) Tryz.results45 rfl ?_
    exact fun w hw => ⟨(), congrArg (fun z => Ending.returned (Value.bool z)) (by
      rw [places_1 hx]
      repeat (first | rw [if_pos (by omega)] | rw [if_neg (by omega)])
      try rfl), hw.drop (List.sublist_cons_self _ _)⟩
  try simp at hb3
  refine CX.seq <| CX.region <| LX.pure (Y.eqI rfl rfl) rfl rfl rfl <| LX.pure (Y.assign rfl) rfl rfl rfl <| LX.sub (l' := [(0, _), (1, _), (2, _), (3, _), (4, _), (10, _), (11, _), (23, _), (31, _)]) ⟨rfl, rfl, rfl, rfl, rfl, rfl, rfl, rfl, rfl, trivial⟩ <| LX.next <| PX.thenN ?_
  refine CX.cond rfl (fun hb4 => ?_) (fun hb4 => ?_)
  · try simp at hb4
    refine CX.seq <| CX.region <| LX.pure (Y.move rfl) rfl rfl rfl <| LX.pure (Y.assign rfl) rfl rfl rfl <| LX.sub (l' := [(10, _)]) ⟨rfl, trivial⟩ <| LX.next <| PX.thenN <| CX.ret <| PX.blockR <| PX.thenR <| PX.ret1 (by simp) Tryz.results45 rfl ?_
    exact fun w hw => ⟨(), congrArg (fun z => Ending.returned (Value.bool z)) (by
      rw [places_1 hx]
      repeat (first | rw [if_pos (by omega)] | rw [if_neg (by omega)])
      try rfl), hw.drop (List.sublist_cons_self _ _)⟩
  try simp at hb4
  refine CX.sub (l' := [(0, _), (1, _), (2, _), (3, _), (4, _), (10, _), (11, _), (23, _)]) ⟨rfl, rfl, rfl, rfl, rfl, rfl, rfl, rfl, trivial⟩ ?_
  apply CX.seqSw 34
  ·
    refine CX.seq <| CX.region <| LX.pure (Y.eqI rfl rfl) rfl rfl rfl <| LX.pure (Y.assign rfl) rfl rfl rfl <| LX.next <| PX.thenN ?_
    apply CX.swOr
    · rfl
    · exact ⟨rfl, rfl, rfl, rfl, rfl, rfl, rfl, rfl, rfl, trivial⟩
    intro hb5
    try simp at hb5
    refine CX.seq <| CX.region <| LX.pure (Y.eqI rfl rfl) rfl rfl rfl <| LX.pure (Y.assign rfl) rfl rfl rfl <| LX.next <| PX.thenN ?_
    apply CX.swOr
    · rfl
    · exact ⟨rfl, rfl, rfl, rfl, rfl, rfl, rfl, rfl, rfl, trivial⟩
    intro hb6
    try simp at hb6
    refine CX.region <| LX.pure (Y.eqI rfl rfl) rfl rfl rfl <| LX.pure (Y.assign rfl) rfl rfl rfl <| LX.next ?_
    exact PX.sw ⟨rfl, rfl, rfl, rfl, rfl, rfl, rfl, rfl, rfl, trivial⟩
  refine CX.cond rfl (fun hb7 => ?_) (fun hb7 => ?_)
  · try simp at hb7
    refine CX.seq <| CX.region <| LX.pure (Y.fieldAddr0 Fu.fo32_4 rfl) rfl rfl rfl <| LX.pure (Y.ldB 0 Fu.one30 rfl rfl rfl) rfl rfl rfl <| LX.pure (Y.lenSl rfl Ft.un30 rfl) rfl rfl rfl <| LX.pure (Y.move rfl) rfl rfl rfl <| LX.sub (l' := [(0, _), (1, _), (2, _), (3, _), (4, _), (10, _), (11, _), (39, _), (40, _), (41, _)]) ⟨rfl, rfl, rfl, rfl, rfl, rfl, rfl, rfl, rfl, rfl, trivial⟩ <| LX.next <| PX.thenN <| CX.block <| CX.loop (fun j : Nat => [(0, .pointer (some ⟨bq, 0, none⟩)), (1, .int .i64 (k : Int)), (2, .bool wh), (3, .bool df), (4, .bool lp), (11, .pointer (some ⟨bt, 0, none⟩)), (39, .slice ak x.kids.length ck), (40, .int .i64 (x.kids.length : Int)), (41, .int .i64 (j : Int))]) (fun (j : Nat) w => (j ≤ x.kids.length ∧ (x.kids.drop j).all (fun q => places l n q (wh && decide ((k : Int) = (l.length : Int) - 1)) df (lp || decide (x.op = 44))) = x.kids.all (fun q => places l n q (wh && decide ((k : Int) = (l.length : Int) - 1)) df (lp || decide (x.op = 44)))) ∧ WA w0 base [blk bt [.int .i64 x.op, .int .i64 x.n, .int .i64 x.pos, str x.s, .slice ak x.kids.length ck] 32] w) (fun j => x.kids.length - j) 0 ⟨rfl, rfl, rfl, rfl, rfl, rfl, rfl, rfl, rfl, trivial⟩ (fun w hw => ⟨⟨Nat.zero_le _, rfl⟩, hw⟩) ?_
    intro j
    refine CX.have fun ⟨hj0, hall⟩ => ?_
    try dsimp only at hj0 hall ⊢
    refine CX.seq <| CX.region <| LX.pure (Y.ltN rfl rfl) rfl rfl rfl <| LX.sub (l' := [(0, _), (1, _), (2, _), (3, _), (4, _), (11, _), (39, _), (40, _), (41, _), (42, _)]) ⟨rfl, rfl, rfl, rfl, rfl, rfl, rfl, rfl, rfl, rfl, trivial⟩ <| LX.next <| PX.thenN <| CX.seq ?_
    refine CX.cond rfl (fun hb8 => ?_) (fun hb8 => ?_)
    · try simp at hb8
      have hj : j < x.kids.length := by omega
      obtain ⟨a0, hav0, hL0, hin0⟩ := hka.int_at hj
      have hrj := hAk _ (getD_mem hj)
      generalize hkj : x.kids.getD j 0 = kj at hL0 hin0 hrj
      refine CX.skip <| PX.thenN <| CX.seq <| CX.block <| CX.seq <| CX.region <| LX.pure (Y.idxZ Ft.un30 Ft.sz3 rfl rfl hav0 (j := j) rfl hj) rfl rfl rfl <| LX.pure (Y.ldO1 Ft.one3 rfl hL0) rfl rfl rfl <| LX.pure (Y.assign rfl) rfl rfl rfl <| LX.sub (l' := [(0, _), (1, _), (2, _), (3, _), (4, _), (11, _), (13, _), (39, _), (40, _), (41, _)]) ⟨rfl, rfl, rfl, rfl, rfl, rfl, rfl, rfl, rfl, rfl, trivial⟩ <| LX.next <| PX.thenN <| CX.seq <| CX.region <| LX.pure (Y.move rfl) rfl rfl rfl <| LX.pure (Y.move rfl) rfl rfl rfl <| LX.sub (l' := [(0, _), (1, _), (2, _), (3, _), (4, _), (11, _), (13, _), (39, _), (40, _), (41, _), (46, _)]) ⟨rfl, rfl, rfl, rfl, rfl, rfl, rfl, rfl, rfl, rfl, rfl, trivial⟩ ?_
      apply LX.joinAnd 9 55 46 rfl
      · intro hb9
        have hb9p := hb9
        try simp at hb9p
        refine LX.gT rfl rfl rfl hb9 (Y.move rfl) rfl rfl <| LX.gT rfl rfl rfl hb9 (Y.move rfl) rfl rfl <| LX.gT rfl rfl rfl hb9 (Y.nilCheck rfl) rfl rfl <| LX.gT rfl rfl rfl hb9 (Y.fieldAddr0 Ft.fo89_0 rfl) rfl rfl <| LX.gT rfl rfl rfl hb9 (Y.ldB0 Ft.one23 rfl hq.blk rfl) rfl rfl <| LX.gT rfl rfl rfl hb9 (Y.lenSl rfl Ft.un23 rfl) rfl rfl <| LX.gT rfl rfl rfl hb9 (Y.sub rfl rfl (by omega)) rfl rfl <| LX.gT rfl rfl rfl hb9 (Y.eqI rfl rfl) rfl rfl <| LX.pure (Y.pickT rfl hb9 rfl) rfl rfl rfl ?_
        exact LX.left ⟨rfl, rfl, rfl, rfl, rfl, rfl, rfl, rfl, rfl, rfl, rfl, rfl, trivial⟩
      · intro hb9
        have hb9p := hb9
        try simp at hb9p
        refine LX.gF rfl rfl rfl hb9 rfl rfl <| LX.gF rfl rfl rfl hb9 rfl rfl <| LX.gF rfl rfl rfl hb9 rfl rfl <| LX.gF rfl rfl rfl hb9 rfl rfl <| LX.gF rfl rfl rfl hb9 rfl rfl <| LX.gF rfl rfl rfl hb9 rfl rfl <| LX.gF rfl rfl rfl hb9 rfl rfl <| LX.gF rfl rfl rfl hb9 rfl rfl <| LX.pure (Y.pickF rfl hb9 rfl) rfl rfl rfl ?_
        exact LX.left ⟨rfl, rfl, rfl, rfl, rfl, rfl, rfl, rfl, rfl, rfl, rfl, rfl, trivial⟩
      refine LX.pure (Y.assign rfl) rfl rfl rfl <| LX.sub (l' := [(0, _), (1, _), (2, _), (3, _), (4, _), (11, _), (13, _), (14, _), (39, _), (40, _), (41, _)]) ⟨rfl, rfl, rfl, rfl, rfl, rfl, rfl, rfl, rfl, rfl, rfl, trivial⟩ <| LX.next <| PX.thenN <| CX.seq <| CX.region <| LX.pure (Y.move rfl) rfl rfl rfl <| LX.pure (Y.move rfl) rfl rfl rfl <| LX.pure (Y.move rfl) rfl rfl rfl <| LX.pure (Y.move rfl) rfl rfl rfl <| LX.pure (Y.move rfl) rfl rfl rfl <| LX.pure (Y.move rfl) rfl rfl rfl <| LX.sub (l' := [(0, _), (1, _), (2, _), (3, _), (4, _), (11, _), (39, _), (40, _), (41, _), (56, _), (57, _), (58, _), (59, _), (61, _)]) ⟨rfl, rfl, rfl, rfl, rfl, rfl, rfl, rfl, rfl, rfl, rfl, rfl, rfl, rfl, trivial⟩ ?_
      apply LX.joinOr 4 65 61 rfl
      · intro hb10
        have hb10p := hb10
        try simp at hb10p
        refine LX.gF rfl rfl rfl hb10 rfl rfl <| LX.gF rfl rfl rfl hb10 rfl rfl <| LX.gF rfl rfl rfl hb10 rfl rfl <| LX.pure (Y.pickT rfl hb10 rfl) rfl rfl rfl ?_
        exact LX.left ⟨rfl, rfl, rfl, rfl, rfl, rfl, rfl, rfl, rfl, rfl, rfl, rfl, rfl, rfl, rfl, trivial⟩
      · intro hb10
        have hb10p := hb10
        try simp at hb10p
        refine LX.gT rfl rfl rfl hb10 (Y.fieldAddr0 Ft.fo32_0 rfl) rfl rfl <| LX.gT rfl rfl rfl hb10 (Y.ldB 0 Ft.one3 rfl rfl rfl) rfl rfl <| LX.gT rfl rfl rfl hb10 (Y.eqI rfl rfl) rfl rfl <| LX.pure (Y.pickF rfl hb10 rfl) rfl rfl rfl ?_
        exact LX.left ⟨rfl, rfl, rfl, rfl, rfl, rfl, rfl, rfl, rfl, rfl, rfl, rfl, rfl, rfl, rfl, trivial⟩
      refine LX.callQ (ih _ _ _ _ _ (by omega) (by omega) (by omega)) Fzb.en45 rfl rfl rfl rfl rfl <| LX.pure (Y.not rfl) rfl rfl rfl <| LX.sub (l' := [(0, _), (1, _), (2, _), (3, _), (4, _), (11, _), (39, _), (40, _), (41, _), (67, _)]) ⟨rfl, rfl, rfl, rfl, rfl, rfl, rfl, rfl, rfl, rfl, trivial⟩ <| LX.next <| PX.thenN ?_
      refine CX.cond rfl (fun hb11 => ?_) (fun hb11 => ?_)
      · try simp at hb11
        have hpl : places l n (x.kids.getD j 0) (wh && decide ((k : Int) = (l.length : Int) - 1)) df (lp || decide (x.op = 44)) = false := by rw [hkj]; exact hb11
        refine CX.seq <| CX.region <| LX.pure (Y.assign rfl) rfl rfl rfl <| LX.sub (l' := [(0, _), (1, _), (2, _), (3, _), (4, _), (10, _), (11, _), (39, _), (40, _), (41, _)]) ⟨rfl, rfl, rfl, rfl, rfl, rfl, rfl, rfl, rfl, rfl, trivial⟩ <| LX.next <| PX.thenN <| CX.ret <| PX.blockR <| PX.thenR <| PX.thenR <| PX.blockR <| PX.blockR <| PX.thenR <| PX.ret1 (by simp) Tryz.results45 rfl ?_
        exact fun w hw => ⟨(), congrArg (fun z => Ending.returned (Value.bool z)) (by
          rw [places_1 hx]
          repeat (first | rw [if_pos (by omega)] | rw [if_neg (by omega)])
          rw [← hall, all_drop hj, hpl]; rfl), hw.drop (List.sublist_cons_self _ _)⟩
      try simp at hb11
      have hpl : places l n (x.kids.getD j 0) (wh && decide ((k : Int) = (l.length : Int) - 1)) df (lp || decide (x.op = 44)) = true := by rw [hkj]; exact hb11
      refine CX.skip <| PX.blockN <| PX.thenN <| CX.region <| LX.pure (Y.addN rfl rfl (by (simp only []; omega))) rfl rfl rfl <| LX.pure (Y.move rfl) rfl rfl rfl <| LX.sub (l' := [(0, _), (1, _), (2, _), (3, _), (4, _), (11, _), (39, _), (40, _), (41, _)]) ⟨rfl, rfl, rfl, rfl, rfl, rfl, rfl, rfl, rfl, trivial⟩ <| LX.next ?_
      exact PX.again (μ := fun j => x.kids.length - j) (i := j) (j + 1) (by show x.kids.length - (j + 1) < x.kids.length - j; omega) ⟨rfl, rfl, rfl, rfl, rfl, rfl, rfl, rfl, rfl, trivial⟩ (fun w hw => ⟨⟨by omega, by rw [← hall, all_drop hj, hpl]; rfl⟩, hw⟩)
    try simp at hb8
    have hje : j = x.kids.length := by omega
    refine CX.exit <| PX.thenE <| PX.thenE <| PX.blockE <| PX.blockN <| PX.thenN <| CX.seq <| CX.region <| LX.pure (Y.assign rfl) rfl rfl rfl <| LX.sub (l' := [(10, _)]) ⟨rfl, trivial⟩ <| LX.next <| PX.thenN <| CX.ret <| PX.ret1 (by simp) Tryz.results45 rfl ?_
    exact fun w hw => ⟨(), congrArg (fun z => Ending.returned (Value.bool z)) (by
      rw [places_1 hx]
      repeat (first | rw [if_pos (by omega)] | rw [if_neg (by omega)])
      rw [← hall, drop_end hje]; rfl), hw.drop (List.sublist_cons_self _ _)⟩
  try simp at hb7
  refine CX.seq <| CX.region <| LX.pure (Y.eqI rfl rfl) rfl rfl rfl <| LX.pure (Y.assign rfl) rfl rfl rfl <| LX.sub (l' := [(0, _), (2, _), (10, _), (11, _), (69, _)]) ⟨rfl, rfl, rfl, rfl, rfl, trivial⟩ <| LX.next <| PX.thenN ?_
  refine CX.cond rfl (fun hb12 => ?_) (fun hb12 => ?_)
  · try simp at hb12
    refine CX.seq <| CX.region <| LX.pure (Y.move rfl) rfl rfl rfl <| LX.pure (Y.move rfl) rfl rfl rfl <| LX.sub (l' := [(0, _), (10, _), (11, _), (72, _)]) ⟨rfl, rfl, rfl, rfl, trivial⟩ ?_
    apply LX.joinAnd 10 82 72 rfl
    · intro hb13
      have hb13p := hb13
      try simp at hb13p
      refine LX.gT rfl rfl rfl hb13 (Y.move rfl) rfl rfl <| LX.gT rfl rfl rfl hb13 (Y.fieldAddr0 Fu.fo32_4 rfl) rfl rfl <| LX.gT rfl rfl rfl hb13 (Y.ldB 0 Fu.one30 rfl rfl rfl) rfl rfl <| LX.gT rfl rfl rfl hb13 (Y.fieldAddr0 Fu.fo32_4 rfl) rfl rfl <| LX.gT rfl rfl rfl hb13 (Y.ldB 0 Fu.one30 rfl rfl rfl) rfl rfl <| LX.gT rfl rfl rfl hb13 (Y.lenSl rfl Ft.un30 rfl) rfl rfl ?_
      have hd0 := hd k x hx (by omega)
      refine LX.gT rfl rfl rfl hb13 (Y.subN rfl rfl (by (simp only []; omega)) (by omega)) rfl rfl <| LX.gT rfl rfl rfl hb13 (Y.cutHiT (b := x.kids.length - 1) (m := (x.kids.take (x.kids.length - 1)).length) Ft.un30 Ft.sz3 rfl rfl (by omega) (by rw [List.length_take]; omega)) rfl rfl <| LX.callQT rfl rfl rfl hb13 (params_q i hi ck (ks := x.kids.take (x.kids.length - 1)) (by rw [List.length_take]; omega) (fun q hq2 => by have := hAk q (List.mem_of_mem_take hq2); omega) (by rw [List.length_take]; have := hkb k x hx; omega) hsb (fun w hw => hq.push hw) (fun w hw => (hka.take (x.kids.length - 1)).push hw)) Fzb.en107 rfl rfl rfl rfl <| LX.pure (Y.pickT rfl hb13 rfl) rfl rfl rfl ?_
      exact LX.left ⟨rfl, rfl, rfl, rfl, rfl, trivial⟩
    · intro hb13
      have hb13p := hb13
      try simp at hb13p
      refine LX.gF rfl rfl rfl hb13 rfl rfl <| LX.gF rfl rfl rfl hb13 rfl rfl <| LX.gF rfl rfl rfl hb13 rfl rfl <| LX.gF rfl rfl rfl hb13 rfl rfl <| LX.gF rfl rfl rfl hb13 rfl rfl <| LX.gF rfl rfl rfl hb13 rfl rfl <| LX.gF rfl rfl rfl hb13 rfl rfl <| LX.gF rfl rfl rfl hb13 rfl rfl <| LX.gF rfl rfl rfl hb13 rfl rfl <| LX.pure (Y.pickF rfl hb13 rfl) rfl rfl rfl ?_
      exact LX.left ⟨rfl, rfl, rfl, rfl, rfl, trivial⟩
    refine LX.pure (Y.move rfl) rfl rfl rfl <| LX.sub (l' := [(0, _), (10, _), (11, _), (83, _)]) ⟨rfl, rfl, rfl, rfl, trivial⟩ ?_
    apply LX.joinAnd 11 94 83 rfl
    · intro hb14
      have hb14p := hb14
      try simp at hb14p
      refine LX.gT rfl rfl rfl hb14 (Y.move rfl) rfl rfl <| LX.gT rfl rfl rfl hb14 (Y.fieldAddr0 Fu.fo32_4 rfl) rfl rfl <| LX.gT rfl rfl rfl hb14 (Y.ldB 0 Fu.one30 rfl rfl rfl) rfl rfl <| LX.gT rfl rfl rfl hb14 (Y.fieldAddr0 Fu.fo32_4 rfl) rfl rfl <| LX.gT rfl rfl rfl hb14 (Y.ldB 0 Fu.one30 rfl rfl rfl) rfl rfl <| LX.gT rfl rfl rfl hb14 (Y.lenSl rfl Ft.un30 rfl) rfl rfl ?_
      have hd0 := hd k x hx (by omega)
      obtain ⟨a0, hav0, hL0, _⟩ := hka.int_at (j := x.kids.length - 1) (by omega)
      have hr0 := hAk _ (getD_mem (j := x.kids.length - 1) (by omega))
      refine LX.gT rfl rfl rfl hb14 (Y.subN rfl rfl (by (simp only []; omega)) (by omega)) rfl rfl <| LX.gT rfl rfl rfl hb14 (Y.idxZ Ft.un30 Ft.sz3 rfl rfl hav0 (j := x.kids.length - 1) rfl (by omega)) rfl rfl <| LX.gT rfl rfl rfl hb14 (Y.ldO1 (v := .int .i64 (x.kids.getD (x.kids.length - 1) 0)) Ft.one3 rfl hL0) rfl rfl <| LX.callQT rfl rfl rfl hb14 (ih _ _ false true false (by omega) (by omega) (by omega)) Fzb.en45 rfl rfl rfl rfl <| LX.pure (Y.pickT rfl hb14 rfl) rfl rfl rfl ?_
      exact LX.left ⟨rfl, rfl, rfl, rfl, rfl, trivial⟩
    · intro hb14
      have hb14p := hb14
      try simp at hb14p
      refine LX.gF rfl rfl rfl hb14 rfl rfl <| LX.gF rfl rfl rfl hb14 rfl rfl <| LX.gF rfl rfl rfl hb14 rfl rfl <| LX.gF rfl rfl rfl hb14 rfl rfl <| LX.gF rfl rfl rfl hb14 rfl rfl <| LX.gF rfl rfl rfl hb14 rfl rfl <| LX.gF rfl rfl rfl hb14 rfl rfl <| LX.gF rfl rfl rfl hb14 rfl rfl <| LX.gF rfl rfl rfl hb14 rfl rfl <| LX.gF rfl rfl rfl hb14 rfl rfl <| LX.pure (Y.pickF rfl hb14 rfl) rfl rfl rfl ?_
      exact LX.left ⟨rfl, rfl, rfl, rfl, rfl, trivial⟩
    refine LX.pure (Y.assign rfl) rfl rfl rfl <| LX.sub (l' := [(10, _)]) ⟨rfl, trivial⟩ <| LX.next <| PX.thenN <| CX.ret <| PX.blockR <| PX.thenR <| PX.ret1 (by simp) Tryz.results45 rfl ?_
    exact fun w hw => ⟨(), congrArg (fun z => Ending.returned (Value.bool z)) (by
      rw [places_1 hx]
      repeat (first | rw [if_pos (by omega)] | rw [if_neg (by omega)])
      try rfl), hw.drop (List.sublist_cons_self _ _)⟩
  try simp at hb12
  refine CX.skip <| PX.blockN <| PX.thenN <| CX.seq <| CX.region <| LX.pure (Y.assign rfl) rfl rfl rfl <| LX.sub (l' := [(10, _)]) ⟨rfl, trivial⟩ <| LX.next <| PX.thenN <| CX.ret <| PX.ret1 (by simp) Tryz.results45 rfl ?_
  exact fun w hw => ⟨(), congrArg (fun z => Ending.returned (Value.bool z)) (by
    rw [places_1 hx]
    repeat (rw [if_neg (by omega)])
    try rfl), hw.drop (List.sublist_cons_self _ _)⟩
theorem places_q {bq : Nat} {al : Option Addr} {cl : Nat} {uv : Value} {l : List Nd} (i : Nat) (hA : Ahead l i) (hi : i ≤ l.length) (hlb : l.length ≤ 9223372036854775807) (hd : ∀ (k : Nat) (x : Nd), l[k]? = some x → x.op = 45 → 0 < x.kids.length) (hkb : ∀ (k : Nat) (x : Nd), l[k]? = some x → x.kids.length ≤ 1048576) (hsb : ∀ (k : Nat) (x : Nd), l[k]? = some x → x.s.length ≤ 9223372036854775807) : ∀ (n : Nat) {W : World → Prop} [Stab W] (kz : Int) (wh df lp : Bool) (_h0 : 0 ≤ kz) (_h1 : kz < i) (_h2 : kz < n) (_hq : ∀ w, W w → Cq w w.heap.size bq al cl uv l ndA), FnQ Tryz.prog 45 #[.pointer (some ⟨bq, 0, none⟩), .int .i64 kz, .bool wh, .bool df, .bool lp] W (.bool (places l n kz wh df lp))
  | 0, _, _, kz, _, _, _, h0, _, h2, _ => absurd h2 (by omega)
  | n + 1, W, _, kz, wh, df, lp, h0, h1, h2, hq => FnC.quiet fun w hw => places_s n i hA hi hlb hd hkb hsb (fun its kj wh2 df2 lp2 hj0 hlt hjn => places_q i hA hi hlb hd hkb hsb n kj wh2 df2 lp2 hj0 hlt hjn (fun w' hw' => (hq w hw).push hw')) kz wh df lp ⟨h0, by omega⟩ ⟨h1, by omega⟩ (hq w hw)
end Go.Proofs.YtfbenelagdcdgaaGreatDoor
