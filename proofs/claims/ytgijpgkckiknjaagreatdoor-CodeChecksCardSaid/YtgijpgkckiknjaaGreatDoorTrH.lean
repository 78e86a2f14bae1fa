/-
  Proved here: what nodes fit; a Def's Params.
-/
import Derived.Test.YtgijpgkckiknjaaGreatDoorTrG
namespace Go.Proofs.YtgijpgkckiknjaaGreatDoor
open Go.SX Go.RowKit Go.Tr Go.Lex
namespace Fza
theorem en158 : Enters Tryz.prog 158 := Enters.of Tryz.func158 (by kernel_rfl) (by kernel_rfl)
theorem en159 : Enters Tryz.prog 159 := Enters.of Tryz.func159 (by kernel_rfl) (by kernel_rfl)
theorem en160 : Enters Tryz.prog 160 := Enters.of Tryz.func160 (by kernel_rfl) (by kernel_rfl)
theorem fa44_3 : FieldOffA Tryz.prog 44 3 3 := fun a w => by kernel_rfl
theorem fo44_3 : FieldOff Tryz.prog 44 3 3 := fun b o w => by kernel_rfl
theorem el26 : Elem Tryz.prog 26 9 1 16 := Elem.of Fy.un26 (z := .string ⟨#[]⟩) (by kernel_rfl) rfl
end Fza
theorem ndFits_c {w0 : World} {base : Nat} {bq : Nat} {al : Option Addr} {cl : Nat} {uv : Value} {l : List Nd} (i : Nat) (hi : i ≤ l.length) (hA : Ahead l i) (n : Nat) (hni : i ≤ n) {x : Nd} {cs : List Value} (hr : ∀ k ∈ x.kids, 0 ≤ k ∧ k < (i : Int)) (hxs : x.s.length ≤ 9223372036854775807)  (hq : Cq w0 base bq al cl uv l ndA) (hx : ndA (Lies w0 base) cs x) : FnC Tryz.prog 124 #[.pointer (some ⟨bq, 0, none⟩), .agg cs.toArray] (WA w0 base []) (fun _ : Unit => .bool (fitsB l nameB n x)) (fun _ => WA w0 base []) := by
  obtain ⟨vk, rfl, hks, hin⟩ := hx
  obtain ⟨ak, ck, rfl, ⟨hkn, hkc⟩, hka⟩ := hks.sl
  refine FnC.of_body (fn := Tryz.f124) [(0, _), (1, _)] Tryz.func124 rfl Tryz.ntmps124 rfl ⟨rfl, rfl, trivial⟩ ?_
  refine CX.seq ?_
  refine CX.region ?_
  refine LX.box rfl rfl rfl rfl rfl ?_
  intro bx0
  refine LX.pure (Y.assign rfl) rfl rfl rfl ?_
  refine LX.sub (l' := [(0, _), (3, _), (4, _)]) ⟨rfl, rfl, rfl, trivial⟩ ?_
  refine LX.next ?_
  refine PX.thenN ?_
  refine CX.seq ?_
  refine CX.seq ?_
  refine CX.region ?_
  refine LX.pure (Y.fieldAddr0 Ft.fo44_0 rfl) rfl rfl rfl ?_
  refine LX.pure (Y.ldB 0 Ft.one3 rfl rfl rfl) rfl rfl rfl ?_
  refine LX.sub (l' := [(0, _), (3, _), (4, _), (6, _)]) ⟨rfl, rfl, rfl, rfl, trivial⟩ ?_
  refine LX.next ?_
  refine PX.thenN ?_
  refine CX.block ?_
  refine CX.sub (l' := [(0, _), (3, _), (4, _), (6, _)]) ⟨rfl, rfl, rfl, rfl, trivial⟩ ?_
  apply CX.seqSw 7
  ·
    refine CX.seq ?_
    refine CX.region ?_
    refine LX.pure (Y.eqI rfl rfl) rfl rfl rfl ?_
    refine LX.pure (Y.assign rfl) rfl rfl rfl ?_
    refine LX.next ?_
    refine PX.thenN ?_
    apply CX.swOr
    · rfl
    · exact ⟨rfl, rfl, rfl, rfl, rfl, trivial⟩
    intro hb1
    try simp at hb1
    refine CX.seq ?_
    refine CX.region ?_
    refine LX.pure (Y.eqI rfl rfl) rfl rfl rfl ?_
    refine LX.pure (Y.assign rfl) rfl rfl rfl ?_
    refine LX.next ?_
    refine PX.thenN ?_
    apply CX.swOr
    · rfl
    · exact ⟨rfl, rfl, rfl, rfl, rfl, trivial⟩
    intro hb2
    try simp at hb2
    refine CX.seq ?_
    refine CX.region ?_
    refine LX.pure (Y.eqI rfl rfl) rfl rfl rfl ?_
    refine LX.pure (Y.assign rfl) rfl rfl rfl ?_
    refine LX.next ?_
    refine PX.thenN ?_
    apply CX.swOr
    · rfl
    · exact ⟨rfl, rfl, rfl, rfl, rfl, trivial⟩
    intro hb3
    try simp at hb3
    refine CX.seq ?_
    refine CX.region ?_
    refine LX.pure (Y.eqI rfl rfl) rfl rfl rfl ?_
    refine LX.pure (Y.assign rfl) rfl rfl rfl ?_
    refine LX.next ?_
    refine PX.thenN ?_
    apply CX.swOr
    · rfl
    · exact ⟨rfl, rfl, rfl, rfl, rfl, trivial⟩
    intro hb4
    try simp at hb4
    refine CX.region ?_
    refine LX.pure (Y.eqI rfl rfl) rfl rfl rfl ?_
    refine LX.pure (Y.assign rfl) rfl rfl rfl ?_
    refine LX.next ?_
    exact PX.sw ⟨rfl, rfl, rfl, rfl, rfl, trivial⟩
  refine CX.cond rfl (fun hb5 => ?_) (fun hb5 => ?_)
  · try simp at hb5
    refine CX.seq ?_
    refine CX.region ?_
    refine LX.pure (Y.fieldAddr0 Fza.fo44_3 rfl) rfl rfl rfl ?_
    refine LX.pure (Y.ldB 0 Fy.one9 rfl rfl rfl) rfl rfl rfl ?_
    refine LX.callQ (name_q _ hxs) Fza.en158 rfl rfl rfl rfl rfl ?_
    refine LX.pure (Y.move rfl) rfl rfl rfl ?_
    refine LX.sub (l' := [(0, _), (3, _), (4, _), (16, _)]) ⟨rfl, rfl, rfl, rfl, trivial⟩ ?_
    apply LX.joinAnd 4 20 16 rfl
    · intro hb6
      have hb6p := hb6
      try simp at hb6p
      refine LX.gT rfl rfl rfl hb6 (Y.move rfl) rfl rfl ?_
      refine LX.gT rfl rfl rfl hb6 (Y.ldAggB 0 Ft.ag44 rfl rfl rfl rfl) rfl rfl ?_
      refine LX.callQT rfl rfl rfl hb6 (kids_q i hi hA n hni hr (fun w hw => hq.push hw) (fun w hw => Kept.mono (fun _ _ h => h.push hw) ⟨_, rfl, hks, hin⟩)) Fza.en159 rfl rfl rfl rfl ?_
      refine LX.pure (Y.pickT rfl hb6 rfl) rfl rfl rfl ?_
      exact LX.left ⟨rfl, rfl, rfl, rfl, rfl, trivial⟩
    · intro hb6
      have hb6p := hb6
      try simp at hb6p
      refine LX.gF rfl rfl rfl hb6 rfl rfl ?_
      refine LX.gF rfl rfl rfl hb6 rfl rfl ?_
      refine LX.gF rfl rfl rfl hb6 rfl rfl ?_
      refine LX.pure (Y.pickF rfl hb6 rfl) rfl rfl rfl ?_
      exact LX.left ⟨rfl, rfl, rfl, rfl, rfl, trivial⟩
    refine LX.pure (Y.assign rfl) rfl rfl rfl ?_
    refine LX.sub (l' := [(0, _), (3, _), (4, _)]) ⟨rfl, rfl, rfl, trivial⟩ ?_
    refine LX.next ?_
    refine PX.thenN ?_
    refine CX.ret ?_
    refine PX.blockR ?_
    refine PX.thenR ?_
    refine PX.ret1 (by simp) Tryz.results124 rfl ?_
    exact fun w hw => ⟨(), congrArg (fun z => Ending.returned (Value.bool z)) (by
      unfold fitsB
      repeat (rw [if_pos (by omega)])
      try rfl), hw.drop (List.sublist_cons_self _ _)⟩
  · try simp at hb5
    refine CX.seq ?_
    refine CX.region ?_
    refine LX.pure (Y.eqI rfl rfl) rfl rfl rfl ?_
    refine LX.pure (Y.assign rfl) rfl rfl rfl ?_
    refine LX.sub (l' := [(0, _), (3, _), (4, _), (6, _), (21, _)]) ⟨rfl, rfl, rfl, rfl, rfl, trivial⟩ ?_
    refine LX.next ?_
    refine PX.thenN ?_
    refine CX.cond rfl (fun hb7 => ?_) (fun hb7 => ?_)
    · try simp at hb7
      refine CX.seq ?_
      refine CX.region ?_
      refine LX.pure (Y.fieldAddr0 Fza.fo44_3 rfl) rfl rfl rfl ?_
      refine LX.pure (Y.ldB 0 Fy.one9 rfl rfl rfl) rfl rfl rfl ?_
      refine LX.callQ (digits_q _ hxs) Fza.en160 rfl rfl rfl rfl rfl ?_
      refine LX.pure (Y.move rfl) rfl rfl rfl ?_
      refine LX.sub (l' := [(0, _), (3, _), (4, _), (26, _)]) ⟨rfl, rfl, rfl, rfl, trivial⟩ ?_
      apply LX.joinAnd 4 30 26 rfl
      · intro hb8
        have hb8p := hb8
        try simp at hb8p
        refine LX.gT rfl rfl rfl hb8 (Y.move rfl) rfl rfl ?_
        refine LX.gT rfl rfl rfl hb8 (Y.ldAggB 0 Ft.ag44 rfl rfl rfl rfl) rfl rfl ?_
        refine LX.callQT rfl rfl rfl hb8 (kids_q i hi hA n hni hr (fun w hw => hq.push hw) (fun w hw => Kept.mono (fun _ _ h => h.push hw) ⟨_, rfl, hks, hin⟩)) Fza.en159 rfl rfl rfl rfl ?_
        refine LX.pure (Y.pickT rfl hb8 rfl) rfl rfl rfl ?_
        exact LX.left ⟨rfl, rfl, rfl, rfl, rfl, trivial⟩
      · intro hb8
        have hb8p := hb8
        try simp at hb8p
        refine LX.gF rfl rfl rfl hb8 rfl rfl ?_
        refine LX.gF rfl rfl rfl hb8 rfl rfl ?_
        refine LX.gF rfl rfl rfl hb8 rfl rfl ?_
        refine LX.pure (Y.pickF rfl hb8 rfl) rfl rfl rfl ?_
        exact LX.left ⟨rfl, rfl, rfl, rfl, rfl, trivial⟩
      refine LX.pure (Y.assign rfl) rfl rfl rfl ?_
      refine LX.sub (l' := [(0, _), (3, _), (4, _)]) ⟨rfl, rfl, rfl, trivial⟩ ?_
      refine LX.next ?_
      refine PX.thenN ?_
      refine CX.ret ?_
      refine PX.blockR ?_
      refine PX.thenR ?_
      refine PX.ret1 (by simp) Tryz.results124 rfl ?_
      exact fun w hw => ⟨(), congrArg (fun z => Ending.returned (Value.bool z)) (by
        unfold fitsB
        repeat (first | rw [if_pos (by omega)] | rw [if_neg (by omega)])
        try rfl), hw.drop (List.sublist_cons_self _ _)⟩
    · try simp at hb7
      refine CX.sub (l' := [(0, _), (3, _), (4, _), (6, _)]) ⟨rfl, rfl, rfl, rfl, trivial⟩ ?_
      apply CX.seqSw 31
      ·
        refine CX.seq ?_
        refine CX.region ?_
        refine LX.pure (Y.eqI rfl rfl) rfl rfl rfl ?_
        refine LX.pure (Y.assign rfl) rfl rfl rfl ?_
        refine LX.next ?_
        refine PX.thenN ?_
        apply CX.swOr
        · rfl
        · exact ⟨rfl, rfl, rfl, rfl, rfl, trivial⟩
        intro hb9
        try simp at hb9
        refine CX.region ?_
        refine LX.pure (Y.eqI rfl rfl) rfl rfl rfl ?_
        refine LX.pure (Y.assign rfl) rfl rfl rfl ?_
        refine LX.next ?_
        exact PX.sw ⟨rfl, rfl, rfl, rfl, rfl, trivial⟩
      refine CX.cond rfl (fun hb10 => ?_) (fun hb10 => ?_)
      · try simp at hb10
        refine CX.seq ?_
        refine CX.region ?_
        refine LX.pure (Y.move rfl) rfl rfl rfl ?_
        refine LX.pure (Y.ldAggB 0 Ft.ag44 rfl rfl rfl rfl) rfl rfl rfl ?_
        refine LX.callQ (kids_q i hi hA n hni hr (fun w hw => hq.push hw) (fun w hw => Kept.mono (fun _ _ h => h.push hw) ⟨_, rfl, hks, hin⟩)) Fza.en159 rfl rfl rfl rfl rfl ?_
        refine LX.pure (Y.assign rfl) rfl rfl rfl ?_
        refine LX.sub (l' := [(0, _), (3, _), (4, _)]) ⟨rfl, rfl, rfl, trivial⟩ ?_
        refine LX.next ?_
        refine PX.thenN ?_
        refine CX.ret ?_
        refine PX.blockR ?_
        refine PX.thenR ?_
        refine PX.ret1 (by simp) Tryz.results124 rfl ?_
        exact fun w hw => ⟨(), congrArg (fun z => Ending.returned (Value.bool z)) (by
          unfold fitsB
          repeat (first | rw [if_pos (by omega)] | rw [if_neg (by omega)])
          try rfl), hw.drop (List.sublist_cons_self _ _)⟩
      · try simp at hb10
        refine CX.skip ?_
        refine PX.blockN ?_
        refine PX.thenN ?_
        refine CX.seq ?_
        refine CX.region ?_
        refine LX.pure (Y.fieldAddr0 Fza.fo44_3 rfl) rfl rfl rfl ?_
        refine LX.pure (Y.ldB 0 Fy.one9 rfl rfl rfl) rfl rfl rfl ?_
        refine LX.pure (Y.eqS rfl rfl) rfl rfl rfl ?_
        refine LX.pure (Y.move rfl) rfl rfl rfl ?_
        refine LX.sub (l' := [(0, _), (3, _), (4, _), (40, _)]) ⟨rfl, rfl, rfl, rfl, trivial⟩ ?_
        apply LX.joinAnd 4 44 40 rfl
        · intro hb11
          have hb11p := hb11
          try simp at hb11p
          refine LX.gT rfl rfl rfl hb11 (Y.move rfl) rfl rfl ?_
          refine LX.gT rfl rfl rfl hb11 (Y.ldAggB 0 Ft.ag44 rfl rfl rfl rfl) rfl rfl ?_
          refine LX.callQT rfl rfl rfl hb11 (kids_q i hi hA n hni hr (fun w hw => hq.push hw) (fun w hw => Kept.mono (fun _ _ h => h.push hw) ⟨_, rfl, hks, hin⟩)) Fza.en159 rfl rfl rfl rfl ?_
          refine LX.pure (Y.pickT rfl hb11 rfl) rfl rfl rfl ?_
          exact LX.left ⟨rfl, rfl, rfl, rfl, rfl, trivial⟩
        · intro hb11
          have hb11p := hb11
          try simp at hb11p
          refine LX.gF rfl rfl rfl hb11 rfl rfl ?_
          refine LX.gF rfl rfl rfl hb11 rfl rfl ?_
          refine LX.gF rfl rfl rfl hb11 rfl rfl ?_
          refine LX.pure (Y.pickF rfl hb11 rfl) rfl rfl rfl ?_
          exact LX.left ⟨rfl, rfl, rfl, rfl, rfl, trivial⟩
        refine LX.pure (Y.assign rfl) rfl rfl rfl ?_
        refine LX.sub (l' := [(4, _)]) ⟨rfl, trivial⟩ ?_
        refine LX.next ?_
        refine PX.thenN ?_
        refine CX.ret ?_
        refine PX.ret1 (by simp) Tryz.results124 rfl ?_
        exact fun w hw => ⟨(), congrArg (fun z => Ending.returned (Value.bool z)) (by
          unfold fitsB
          repeat (rw [if_neg (by omega)])
          try rfl), hw.drop (List.sublist_cons_self _ _)⟩
theorem ndFits_q {W : World → Prop} [Stab W] {bq : Nat} {al : Option Addr} {cl : Nat} {uv : Value} {l : List Nd} (i : Nat) (hi : i ≤ l.length) (hA : Ahead l i) (n : Nat) (hni : i ≤ n) {x : Nd} {cs : List Value} (hr : ∀ k ∈ x.kids, 0 ≤ k ∧ k < (i : Int)) (hxs : x.s.length ≤ 9223372036854775807)  (hq : ∀ w, W w → Cq w w.heap.size bq al cl uv l ndA) (hx : ∀ w, W w → ndA (Lies w w.heap.size) cs x) : FnQ Tryz.prog 124 #[.pointer (some ⟨bq, 0, none⟩), .agg cs.toArray] W (.bool (fitsB l nameB n x)) := FnC.quiet fun w hw => ndFits_c i hi hA n hni hr hxs (hq w hw) (hx w hw)
theorem params_c {w0 : World} {base : Nat} {bq : Nat} {al : Option Addr} {cl : Nat} {uv : Value} {l : List Nd} (i : Nat) (hi : i ≤ l.length) {ak : Option Addr} (ck : Nat) {ks : List Int} (hkn : ks.length ≤ 9223372036854775807) (hr : ∀ k ∈ ks, 0 ≤ k ∧ k < (i : Int)) (hkb : ks.length ≤ 1048576) (hsb : ∀ (k : Nat) (x : Nd), l[k]? = some x → x.s.length ≤ 9223372036854775807)  (hq : Cq w0 base bq al cl uv l ndA) (hk : SlAt 1 intA (Lies w0 base) ak ks) : FnC Tryz.prog 162 #[.pointer (some ⟨bq, 0, none⟩), .slice ak ks.length ck] (WA w0 base []) (fun _ : Unit => .bool (paramsGo l ks [] false)) (fun _ => WA w0 base []) := by
  refine FnC.of_body (fn := Tryz.f162) [(0, _), (1, _)] Tryz.func162 rfl Tryz.ntmps162 rfl ⟨rfl, rfl, trivial⟩ ?_
  refine CX.seq ?_
  refine CX.region ?_
  refine LX.pure (Y.assign rfl) rfl rfl rfl ?_
  refine LX.sub (l' := [(0, _), (1, _), (4, _)]) ⟨rfl, rfl, rfl, trivial⟩ ?_
  refine LX.next ?_
  refine PX.thenN ?_
  refine CX.seq ?_
  refine CX.region ?_
  refine LX.pure (Y.assign rfl) rfl rfl rfl ?_
  refine LX.sub (l' := [(0, _), (1, _), (4, _), (5, _)]) ⟨rfl, rfl, rfl, rfl, trivial⟩ ?_
  refine LX.next ?_
  refine PX.thenN ?_
  refine CX.seq ?_
  refine CX.region ?_
  refine LX.pure (Y.assign rfl) rfl rfl rfl ?_
  refine LX.sub (l' := [(0, _), (1, _), (4, _), (5, _), (6, _)]) ⟨rfl, rfl, rfl, rfl, rfl, trivial⟩ ?_
  refine LX.next ?_
  refine PX.thenN ?_
  refine CX.seq ?_
  refine CX.seq ?_
  refine CX.region ?_
  refine LX.pure (Y.move rfl) rfl rfl rfl ?_
  refine LX.pure (Y.lenSl rfl Ft.un42 rfl) rfl rfl rfl ?_
  refine LX.pure (Y.move rfl) rfl rfl rfl ?_
  refine LX.sub (l' := [(0, _), (4, _), (5, _), (6, _), (10, _), (11, _), (12, _)]) ⟨rfl, rfl, rfl, rfl, rfl, rfl, rfl, trivial⟩ ?_
  refine LX.next ?_
  refine PX.thenN ?_
  refine CX.block ?_
  refine CX.loop (fun s : Nat × List (List UInt8) × Bool × Option Nat × Nat => [(0, .pointer (some ⟨bq, 0, none⟩)), (5, rv s.2.2.2.1 s.2.1.length s.2.2.2.2), (6, .bool s.2.2.1), (10, .slice ak ks.length ck), (11, .int .i64 (ks.length : Int)), (12, .int .i64 (s.1 : Int))]) (fun (s : Nat × List (List UInt8) × Bool × Option Nat × Nat) w => (s.1 ≤ ks.length ∧ s.2.1.length = s.1 ∧ paramsGo l (ks.drop s.1) s.2.1 s.2.2.1 = paramsGo l ks [] false) ∧ WA w0 base [.row s.2.2.2.1 s.2.2.2.2 s.2.1.length 9 1 (s.2.1.map str)] w) (fun s => ks.length - s.1) (0, [], false, none, 0) ⟨rfl, rfl, rfl, rfl, rfl, rfl, trivial⟩ (fun w hw => ⟨⟨Nat.zero_le _, rfl, rfl⟩, hw.nilRow 9 1⟩) ?_
  rintro ⟨j, ns, given, g, cap⟩
  refine CX.have fun ⟨hj0, hns, hgo⟩ => ?_
  try dsimp only at hj0 hns hgo ⊢
  refine CX.seq ?_
  refine CX.region ?_
  refine LX.pure (Y.ltN rfl rfl) rfl rfl rfl ?_
  refine LX.sub (l' := [(0, _), (5, _), (6, _), (10, _), (11, _), (12, _), (13, _)]) ⟨rfl, rfl, rfl, rfl, rfl, rfl, rfl, trivial⟩ ?_
  refine LX.next ?_
  refine PX.thenN ?_
  refine CX.seq ?_
  refine CX.cond rfl (fun hb1 => ?_) (fun hb1 => ?_)
  · try simp at hb1
    have hj : j < ks.length := by omega
    obtain ⟨a0, hav0, hL0, hin0⟩ := hk.int_at hj
    have hrj := hr _ (getD_mem hj)
    obtain ⟨k, hkz⟩ : ∃ k : Nat, ks.getD j 0 = (k : Int) := ⟨(ks.getD j 0).toNat, by omega⟩
    have hkl : k < l.length := by omega
    obtain ⟨x, hx⟩ : ∃ x, l[k]? = some x := ⟨_, List.getElem?_eq_getElem hkl⟩
    obtain ⟨a, cs, hav, hcl, hL, vk, rfl, hks, hin⟩ := hq.nodes k x hx
    obtain ⟨ak2, ck2, rfl, ⟨hkn2, hkc2⟩, hka2⟩ := hks.sl
    have hnd : nd l (ks.getD j 0) = x := by rw [hkz]; exact nd_at hx
    refine CX.skip ?_
    refine PX.thenN ?_
    refine CX.seq ?_
    refine CX.block ?_
    refine CX.seq ?_
    refine CX.region ?_
    refine LX.pure (Y.idxZ Ft.un42 Ft.sz3 rfl rfl hav0 (j := j) rfl hj) rfl rfl rfl ?_
    refine LX.pure (Y.ldO1 Ft.one3 rfl hL0) rfl rfl rfl ?_
    refine LX.pure (Y.assign rfl) rfl rfl rfl ?_
    refine LX.sub (l' := [(0, _), (5, _), (6, _), (8, _), (10, _), (11, _), (12, _)]) ⟨rfl, rfl, rfl, rfl, rfl, rfl, rfl, trivial⟩ ?_
    refine LX.next ?_
    refine PX.thenN ?_
    refine CX.seq ?_
    refine CX.region ?_
    refine LX.pure (Y.move rfl) rfl rfl rfl ?_
    refine LX.pure (Y.nilCheck rfl) rfl rfl rfl ?_
    refine LX.pure (Y.fieldAddr0 Ft.fo208_0 rfl) rfl rfl rfl ?_
    refine LX.pure (Y.ldB0 Ft.one22 rfl hq.blk rfl) rfl rfl rfl ?_
    refine LX.pure (Y.move rfl) rfl rfl rfl ?_
    refine LX.pure (Y.idxZ Ft.un22 Ft.sz44 rfl rfl hav (j := k) hkz hkl) rfl rfl rfl ?_
    refine LX.pure (Y.ldAO (cs := [.int .i64 x.op, .int .i64 x.n, .int .i64 x.pos, str x.s, .slice ak2 x.kids.length ck2]) Ft.ag44 rfl hL rfl) rfl rfl rfl ?_
    refine LX.alloc rfl Fu.zv44 rfl rfl rfl ?_
    intro bx17
    refine LX.storeA 0 Ft.ag44 rfl rfl rfl rfl rfl rfl rfl rfl rfl ?_
    refine LX.sub (l' := [(0, _), (5, _), (6, _), (9, _), (10, _), (11, _), (12, _)]) ⟨rfl, rfl, rfl, rfl, rfl, rfl, rfl, trivial⟩ ?_
    refine LX.next ?_
    refine PX.thenN ?_
    refine CX.seq ?_
    refine CX.seq ?_
    refine CX.region ?_
    refine LX.pure (Y.move rfl) rfl rfl rfl ?_
    refine LX.pure (Y.fieldAddr0 Fza.fo44_3 rfl) rfl rfl rfl ?_
    refine LX.pure (Y.ldB 0 Fy.one9 rfl rfl rfl) rfl rfl rfl ?_
    refine LX.callQ (hasStr_q cap (ss := ns) (by omega) x.s (fun w hw => row_at hw (j := 1) rfl rfl (by decide) (fun i z h => map_A h))) Fy.en130 rfl rfl rfl rfl rfl ?_
    refine LX.pure (Y.move rfl) rfl rfl rfl ?_
    refine LX.sub (l' := [(0, _), (5, _), (6, _), (9, _), (10, _), (11, _), (12, _), (27, _)]) ⟨rfl, rfl, rfl, rfl, rfl, rfl, rfl, rfl, trivial⟩ ?_
    apply LX.joinOr 8 35 27 rfl
    · intro hb2
      have hb2p := hb2
      try simp at hb2p
      refine LX.gF rfl rfl rfl hb2 rfl rfl ?_
      refine LX.gF rfl rfl rfl hb2 rfl rfl ?_
      refine LX.gU rfl rfl rfl rfl rfl ?_
      refine LX.gU rfl rfl rfl rfl rfl ?_
      refine LX.gU rfl rfl rfl rfl rfl ?_
      refine LX.gU rfl rfl rfl rfl rfl ?_
      refine LX.gF rfl rfl rfl hb2 rfl rfl ?_
      refine LX.pure (Y.pickT rfl hb2 rfl) rfl rfl rfl ?_
      exact LX.left ⟨rfl, rfl, rfl, rfl, rfl, rfl, rfl, rfl, rfl, trivial⟩
    · intro hb2
      have hb2p := hb2
      try simp at hb2p
      refine LX.gT rfl rfl rfl hb2 (Y.move rfl) rfl rfl ?_
      refine LX.gT rfl rfl rfl hb2 (Y.move rfl) rfl rfl ?_
      refine LX.sub (l' := [(0, _), (5, _), (6, _), (9, _), (10, _), (11, _), (12, _), (27, _), (29, _)]) ⟨rfl, rfl, rfl, rfl, rfl, rfl, rfl, rfl, rfl, trivial⟩ ?_
      apply LX.joinAnd 5 34 29 rfl
      · intro hb3
        have hb3p := hb3
        try simp at hb3p
        refine LX.gT rfl rfl rfl hb3 (Y.fieldAddr0 Fu.fo44_4 rfl) rfl rfl ?_
        refine LX.gT rfl rfl rfl hb3 (Y.ldB 0 Fu.one42 rfl rfl rfl) rfl rfl ?_
        refine LX.gT rfl rfl rfl hb3 (Y.lenSl rfl Ft.un42 rfl) rfl rfl ?_
        refine LX.gT rfl rfl rfl hb3 (Y.eqN rfl rfl) rfl rfl ?_
        refine LX.gT rfl rfl rfl hb2 (Y.pickT rfl hb3 rfl) rfl rfl ?_
        exact LX.left ⟨rfl, rfl, rfl, rfl, rfl, rfl, rfl, rfl, rfl, rfl, trivial⟩
      · intro hb3
        have hb3p := hb3
        try simp at hb3p
        refine LX.gF rfl rfl rfl hb3 rfl rfl ?_
        refine LX.gF rfl rfl rfl hb3 rfl rfl ?_
        refine LX.gF rfl rfl rfl hb3 rfl rfl ?_
        refine LX.gF rfl rfl rfl hb3 rfl rfl ?_
        refine LX.gT rfl rfl rfl hb2 (Y.pickF rfl hb3 rfl) rfl rfl ?_
        exact LX.left ⟨rfl, rfl, rfl, rfl, rfl, rfl, rfl, rfl, rfl, rfl, trivial⟩
      refine LX.pure (Y.pickF rfl hb2 rfl) rfl rfl rfl ?_
      exact LX.left ⟨rfl, rfl, rfl, rfl, rfl, rfl, rfl, rfl, rfl, trivial⟩
    refine LX.sub (l' := [(0, _), (5, _), (6, _), (9, _), (10, _), (11, _), (12, _), (35, _)]) ⟨rfl, rfl, rfl, rfl, rfl, rfl, rfl, rfl, trivial⟩ ?_
    refine LX.next ?_
    refine PX.thenN ?_
    refine CX.cond rfl (fun hb4 => ?_) (fun hb4 => ?_)
    · try simp at hb4
      have hye : (decide (x.s ∈ ns) || (given && decide (x.kids.length = 0))) = true := by simpa using hb4
      refine CX.seq ?_
      refine CX.region ?_
      refine LX.pure (Y.assign rfl) rfl rfl rfl ?_
      refine LX.sub (l' := [(0, _), (4, _), (5, _), (6, _), (9, _), (10, _), (11, _), (12, _)]) ⟨rfl, rfl, rfl, rfl, rfl, rfl, rfl, rfl, trivial⟩ ?_
      refine LX.next ?_
      refine PX.thenN ?_
      refine CX.ret ?_
      refine PX.thenR ?_
      refine PX.blockR ?_
      refine PX.thenR ?_
      refine PX.thenR ?_
      refine PX.blockR ?_
      refine PX.thenR ?_
      refine PX.ret1 (by simp) Tryz.results162 rfl ?_
      exact fun w hw => ⟨(), by rw [← hgo, drop_getD hj, paramsGo, hnd, if_pos hye], hw.drop (.cons _ (.cons _ (List.Sublist.refl _)))⟩
    · try simp at hb4
      have hne : ¬(decide (x.s ∈ ns) || (given && decide (x.kids.length = 0))) = true := by simpa using hb4
      refine CX.skip ?_
      refine PX.thenN ?_
      refine CX.seq ?_
      refine CX.region ?_
      refine LX.pure (Y.move rfl) rfl rfl rfl ?_
      refine LX.pure (Y.fieldAddr0 Fza.fo44_3 rfl) rfl rfl rfl ?_
      refine LX.pure (Y.ldB 0 Fy.one9 rfl rfl rfl) rfl rfl rfl ?_
      refine LX.buildSlice (e := 9) (size := 1) rfl rfl (fun _ => by kernel_rfl) rfl (by decide) rfl rfl rfl ?_
      intro gt38
      refine LX.appendRows 2 0 Fza.el26 rfl rfl rfl rfl rfl rfl rfl (by omega) (by omega) rfl rfl rfl ?_
      intro g2 cap2
      refine LX.pure (Y.assign rfl) rfl rfl rfl ?_
      refine LX.sub (l' := [(0, _), (5, _), (6, _), (9, _), (10, _), (11, _), (12, _)]) ⟨rfl, rfl, rfl, rfl, rfl, rfl, rfl, trivial⟩ ?_
      refine LX.next ?_
      refine PX.thenN ?_
      refine CX.region ?_
      refine LX.pure (Y.move rfl) rfl rfl rfl ?_
      refine LX.pure (Y.move rfl) rfl rfl rfl ?_
      refine LX.sub (l' := [(0, _), (5, _), (6, _), (9, _), (10, _), (11, _), (12, _), (42, _)]) ⟨rfl, rfl, rfl, rfl, rfl, rfl, rfl, rfl, trivial⟩ ?_
      apply LX.joinOr 5 47 42 rfl
      · intro hb5
        have hb5p := hb5
        try simp at hb5p
        refine LX.gF rfl rfl rfl hb5 rfl rfl ?_
        refine LX.gF rfl rfl rfl hb5 rfl rfl ?_
        refine LX.gF rfl rfl rfl hb5 rfl rfl ?_
        refine LX.gF rfl rfl rfl hb5 rfl rfl ?_
        refine LX.pure (Y.pickT rfl hb5 rfl) rfl rfl rfl ?_
        exact LX.left ⟨rfl, rfl, rfl, rfl, rfl, rfl, rfl, rfl, rfl, trivial⟩
      · intro hb5
        have hb5p := hb5
        try simp at hb5p
        refine LX.gT rfl rfl rfl hb5 (Y.fieldAddr0 Fu.fo44_4 rfl) rfl rfl ?_
        refine LX.gT rfl rfl rfl hb5 (Y.ldB 1 Fu.one42 rfl rfl rfl) rfl rfl ?_
        refine LX.gT rfl rfl rfl hb5 (Y.lenSl rfl Ft.un42 rfl) rfl rfl ?_
        refine LX.gT rfl rfl rfl hb5 (Y.gtN rfl rfl) rfl rfl ?_
        refine LX.pure (Y.pickF rfl hb5 rfl) rfl rfl rfl ?_
        exact LX.left ⟨rfl, rfl, rfl, rfl, rfl, rfl, rfl, rfl, rfl, trivial⟩
      refine LX.pure (Y.assign rfl) rfl rfl rfl ?_
      refine LX.sub (l' := [(0, _), (5, _), (6, _), (10, _), (11, _), (12, _)]) ⟨rfl, rfl, rfl, rfl, rfl, rfl, trivial⟩ ?_
      refine LX.next ?_
      refine PX.blockN ?_
      refine PX.thenN ?_
      refine CX.region ?_
      refine LX.pure (Y.addN rfl rfl (by (simp only []; omega))) rfl rfl rfl ?_
      refine LX.pure (Y.move rfl) rfl rfl rfl ?_
      refine LX.sub (l' := [(0, _), (5, _), (6, _), (10, _), (11, _), (12, _)]) ⟨rfl, rfl, rfl, rfl, rfl, rfl, trivial⟩ ?_
      refine LX.next ?_
      exact PX.again (L := (fun s : Nat × List (List UInt8) × Bool × Option Nat × Nat => [(0, .pointer (some ⟨bq, 0, none⟩)), (5, rv s.2.2.2.1 s.2.1.length s.2.2.2.2), (6, .bool s.2.2.1), (10, .slice ak ks.length ck), (11, .int .i64 (ks.length : Int)), (12, .int .i64 (s.1 : Int))])) (WW := (fun (s : Nat × List (List UInt8) × Bool × Option Nat × Nat) w => (s.1 ≤ ks.length ∧ s.2.1.length = s.1 ∧ paramsGo l (ks.drop s.1) s.2.1 s.2.2.1 = paramsGo l ks [] false) ∧ WA w0 base [.row s.2.2.2.1 s.2.2.2.2 s.2.1.length 9 1 (s.2.1.map str)] w)) (μ := fun s => ks.length - s.1) (i := (j, ns, given, g, cap)) (j + 1, ns ++ [x.s], given || decide (0 < x.kids.length), g2, cap2) (by show ks.length - (j + 1) < ks.length - j; omega) ⟨rfl, by show _ = some (rv g2 (ns ++ [x.s]).length cap2); rw [List.length_append]; rfl, rfl, rfl, rfl, rfl, trivial⟩ (fun w hw => ⟨⟨by show j + 1 ≤ ks.length; omega, by show (ns ++ [x.s]).length = j + 1; rw [List.length_append, hns]; rfl, by rw [← hgo, drop_getD hj, paramsGo, hnd, if_neg hne]⟩, by have h1 := hw.drop (.cons _ (.cons _ (List.Sublist.refl _))); show WA w0 base [.row g2 cap2 (ns ++ [x.s]).length 9 1 ((ns ++ [x.s]).map str)] w; rw [List.length_append, List.map_append]; exact h1⟩)
  · try simp at hb1
    have hje : j = ks.length := by omega
    refine CX.exit ?_
    refine PX.thenE ?_
    refine PX.thenE ?_
    refine PX.blockE ?_
    refine PX.thenN ?_
    refine CX.seq ?_
    refine CX.region ?_
    refine LX.pure (Y.assign rfl) rfl rfl rfl ?_
    refine LX.sub (l' := [(4, _)]) ⟨rfl, trivial⟩ ?_
    refine LX.next ?_
    refine PX.thenN ?_
    refine CX.ret ?_
    refine PX.ret1 (by simp) Tryz.results162 rfl ?_
    exact fun w hw => ⟨(), by rw [← hgo, drop_end hje]; rfl, hw.drop (.cons _ (List.Sublist.refl _))⟩
theorem params_q {W : World → Prop} [Stab W] {bq : Nat} {al : Option Addr} {cl : Nat} {uv : Value} {l : List Nd} (i : Nat) (hi : i ≤ l.length) {ak : Option Addr} (ck : Nat) {ks : List Int} (hkn : ks.length ≤ 9223372036854775807) (hr : ∀ k ∈ ks, 0 ≤ k ∧ k < (i : Int)) (hkb : ks.length ≤ 1048576) (hsb : ∀ (k : Nat) (x : Nd), l[k]? = some x → x.s.length ≤ 9223372036854775807)  (hq : ∀ w, W w → Cq w w.heap.size bq al cl uv l ndA) (hk : ∀ w, W w → SlAt 1 intA (Lies w w.heap.size) ak ks) : FnQ Tryz.prog 162 #[.pointer (some ⟨bq, 0, none⟩), .slice ak ks.length ck] W (.bool (paramsGo l ks [] false)) := FnC.quiet fun w hw => params_c i hi ck hkn hr hkb hsb (hq w hw) (hk w hw)
end Go.Proofs.YtgijpgkckiknjaaGreatDoor
