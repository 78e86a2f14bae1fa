/-
  Proved here: kids that are nobody's.
-/
import Derived.Test.YteibddakpedogaaSh
import Derived.Test.YteibddakpedogaaProg
import Derived.Test.YteibddakpedogaaAsT
set_option linter.unusedSimpArgs false
namespace Go.Proofs.Yteibddakpedogaa
open Go.SX Go.RowKit Go.Tr Go.As Go.Ck
namespace Ta
theorem en55 : Enters Try.prog 55 := Enters.of Try.func55 (by kernel_rfl) (by kernel_rfl)
theorem one3 : One Try.prog 3 := fun w => by kernel_rfl
theorem one4 : One Try.prog 4 := fun w => by kernel_rfl
theorem sz3 : SizeIs Try.prog 3 1 := fun w => by kernel_rfl
theorem sz4 : SizeIs Try.prog 4 1 := fun w => by kernel_rfl
theorem un29 : Try.prog.underlying 29 = some (.slice 3) := by kernel_rfl
theorem un4 : Try.prog.underlying 4 = some .bool := by kernel_rfl
theorem un70 : Try.prog.underlying 70 = some (.slice 4) := by kernel_rfl
end Ta
theorem Bol_c {w0 : World} {base : Nat} {av : Option Addr} (ck : Nat) {ss : List Bool} (hl : ss.length ≤ 9223372036854775807) (s : Bool)  (hk : SlAt 1 bolA (Lies w0 base) av ss) : FnC Try.prog 55 #[.slice av ss.length ck, .bool s] (WA w0 base []) (fun _ : Unit => .int .i64 (idxB s ss 0)) (fun _ => WA w0 base []) := by
  refine FnC.of_body (fn := Try.f55) [(0, _), (1, _)] Try.func55 rfl Try.ntmps55 rfl ⟨rfl, rfl, trivial⟩ ?_
  refine CX.sr <| LX.mv rfl <| LX.su [0, 1, 4] rfl <| LX.nt <| CX.seq <| CX.sr <| LX.mv rfl <| LX.p (Y.lenSl rfl Ta.un70 rfl) rfl <| LX.mv rfl <| LX.su [0, 1, 4, 7, 8] rfl <| LX.nt <| CX.block <| CX.loop (fun j : Nat => [(0, .slice av ss.length ck), (1, .bool s), (7, .int .i64 (ss.length : Int)), (8, .int .i64 (j : Int))]) (fun (j : Nat) w => (j ≤ ss.length ∧ idxB s (ss.drop j) j = idxB s ss 0) ∧ WA w0 base [] w) (fun j => ss.length - j) 0 ⟨rfl, rfl, rfl, rfl, trivial⟩ (fun w hw => ⟨⟨Nat.zero_le _, rfl⟩, hw⟩) ?_
  intro j
  refine CX.have fun ⟨hj0, hall⟩ => ?_
  try dsimp only at hj0 hall ⊢
  refine CX.sr <| LX.p (Y.ltN rfl rfl) rfl <| LX.su [0, 1, 7, 8, 9] rfl <| LX.nt <| CX.seq ?_
  refine CX.cond rfl (fun hb1 => ?_) (fun hb1 => ?_)
  · try simp at hb1
    have hj : j < ss.length := by omega
    obtain ⟨a0, cs0, hav0, hL0⟩ := bolA_at hk hj
    refine CX.skip <| PX.thenN <| CX.seq <| CX.block <| CX.sr <| LX.ms 2 rfl <| LX.su [0, 1, 5, 7, 8] rfl <| LX.nt <| CX.sr <| LX.ms 3 rfl <| LX.p (Y.idxZ Ta.un70 Ta.sz4 rfl rfl hav0 (j := j) rfl hj) rfl <| LX.p (Y.ldO1 Ta.one4 rfl hL0) rfl <| LX.p (Y.eqB rfl rfl Ta.un4) rfl <| LX.su [0, 1, 5, 7, 8, 16] rfl <| LX.nt ?_
    refine CX.cond rfl (fun hb2 => ?_) (fun hb2 => ?_)
    · try simp at hb2
      have heq : s = ss.getD j false := by assumption
      refine CX.sr <| LX.ms 2 rfl <| LX.su [0, 1, 4, 7, 8] rfl <| LX.nt <| CX.ret <| PX.blockR <| PX.thenR <| PX.thenR <| PX.blockR <| PX.thenR <| PX.ret1 (by simp) Try.results55 rfl ?_
      exact fun w hw => ⟨(), by rw [← hall, idxB_hit hj heq], hw⟩
    try simp at hb2
    have hne : s ≠ ss.getD j false := by assumption
    refine CX.skip <| PX.blockN <| PX.thenN <| CX.region <| LX.p (Y.addN rfl rfl (by (simp only []; omega))) rfl <| LX.mv rfl <| LX.su [0, 1, 7, 8] rfl <| LX.next ?_
    exact PX.again (i := j) (j + 1) (by show ss.length - (j + 1) < ss.length - j; omega) ⟨rfl, rfl, rfl, rfl, trivial⟩ (fun w hw => ⟨⟨by omega, by rw [← hall, idxB_next hj hne]⟩, hw⟩)
  try simp at hb1
  have hje : ss.length ≤ j := by omega
  refine CX.exit <| PX.thenE <| PX.thenE <| PX.blockE <| PX.thenN <| CX.sr <| LX.mv rfl <| LX.su [4] rfl <| LX.nt <| CX.ret <| PX.ret1 (by simp) Try.results55 rfl ?_
  exact fun w hw => ⟨(), by rw [← hall, idxB_end hje], hw⟩
theorem Bol_q {W : World → Prop} [Stab W] {av : Option Addr} (ck : Nat) {ss : List Bool} (hl : ss.length ≤ 9223372036854775807) (s : Bool)  (hk : ∀ w, W w → SlAt 1 bolA (Lies w w.heap.size) av ss) : FnQ Try.prog 55 #[.slice av ss.length ck, .bool s] W (.int .i64 (idxB s ss 0)) := FnC.quiet fun w hw => Bol_c ck hl s (hk w hw)
theorem hasBol_c {w0 : World} {base : Nat} {av : Option Addr} (ck : Nat) {ss : List Bool} (hl : ss.length ≤ 9223372036854775807) (s : Bool)  (hk : SlAt 1 bolA (Lies w0 base) av ss) : FnC Try.prog 44 #[.slice av ss.length ck, .bool s] (WA w0 base []) (fun _ : Unit => .bool (decide (s ∈ ss))) (fun _ => WA w0 base []) := by
  refine FnC.of_body (fn := Try.f44) [(0, _), (1, _)] Try.func44 rfl Try.ntmps44 rfl ⟨rfl, rfl, trivial⟩ ?_
  refine CX.sr <| LX.mv rfl <| LX.su [0, 1, 4] rfl <| LX.nt <| CX.sr <| LX.ms 2 rfl <| LX.callQ (Bol_q ck hl s (fun w hw => hk.push hw)) Ta.en55 rfl rfl rfl rfl rfl <| LX.p (Y.geI rfl rfl) rfl <| LX.mv rfl <| LX.su [4] rfl <| LX.nt <| CX.ret <| PX.ret1 (by simp) Try.results44 rfl ?_
  exact fun w hw => ⟨(), by rw [decide_eq_decide.2 (idxB_ge0 s ss 0)], hw⟩
theorem hasBol_q {W : World → Prop} [Stab W] {av : Option Addr} (ck : Nat) {ss : List Bool} (hl : ss.length ≤ 9223372036854775807) (s : Bool)  (hk : ∀ w, W w → SlAt 1 bolA (Lies w w.heap.size) av ss) : FnQ Try.prog 44 #[.slice av ss.length ck, .bool s] W (.bool (decide (s ∈ ss))) := FnC.quiet fun w hw => hasBol_c ck hl s (hk w hw)
theorem fresh_c {w0 : World} {base : Nat} {fr : List It} {ak : Option Addr} (ck : Nat) {ks : List Int} (hkn : ks.length ≤ 9223372036854775807) (hk : SlAt 1 intA (Lies w0 base) ak ks) {n : Nat} (i : Nat) (hi : i ≤ n) (gb cap : Nat) (u : List Bool) (hu : u.length = n) : FnC Try.prog 43 #[.slice ak ks.length ck, .int .i64 (i : Int), rv (some gb) n cap] (WA w0 base (.row (some gb) cap n 4 1 (u.map bv) :: fr)) (fun _ : List Bool => .bool (fresh ks i u).isSome) (fun v w => (∀ v2, fresh ks i u = some v2 → v = v2) ∧ WA w0 base (.row (some gb) cap n 4 1 (v.map bv) :: fr) w) := by
  refine FnC.of_body (fn := Try.f43) [(0, _), (1, _), (2, _)] Try.func43 rfl Try.ntmps43 rfl ⟨rfl, rfl, rfl, trivial⟩ ?_
  refine CX.sr <| LX.mv rfl <| LX.su [0, 1, 2, 6] rfl <| LX.nt <| CX.seq <| CX.sr <| LX.mv rfl <| LX.p (Y.lenSl rfl Ta.un29 rfl) rfl <| LX.mv rfl <| LX.su [1, 2, 6, 9, 10, 11] rfl <| LX.nt <| CX.block <| CX.loop (fun s : Nat × List Bool => [(1, .int .i64 (i : Int)), (2, rv (some gb) n cap), (9, .slice ak ks.length ck), (10, .int .i64 (ks.length : Int)), (11, .int .i64 (s.1 : Int))]) (fun (s : Nat × List Bool) w => (s.1 ≤ ks.length ∧ s.2.length = n ∧ fresh (ks.drop s.1) i s.2 = fresh ks i u) ∧ WA w0 base (.row (some gb) cap n 4 1 (s.2.map bv) :: fr) w) (fun s => ks.length - s.1) (0, u) ⟨rfl, rfl, rfl, rfl, rfl, trivial⟩ (fun w hw => ⟨⟨Nat.zero_le _, hu, rfl⟩, hw⟩) ?_
  rintro ⟨j, v⟩
  refine CX.have fun ⟨hj0, hvl, hfr⟩ => ?_
  try dsimp only at hj0 hvl hfr ⊢
  refine CX.sr <| LX.p (Y.ltN rfl rfl) rfl <| LX.su [1, 2, 9, 10, 11, 12] rfl <| LX.nt <| CX.seq ?_
  refine CX.cond rfl (fun hb1 => ?_) (fun hb1 => ?_)
  · try simp at hb1
    have hj : j < ks.length := by omega
    obtain ⟨a0, hav0, hL0, hin0⟩ := hk.int_at hj
    rw [drop_getD hj, fresh] at hfr
    generalize ks.getD j 0 = kz at hL0 hin0 hfr
    obtain ⟨vb, hvb⟩ : ∃ vb, kz.toNat < n → v[kz.toNat]? = some vb := ⟨v.getD kz.toNat false, fun h => by rw [getD_get (by omega)]; exact List.getElem?_eq_getElem (by omega)⟩
    refine CX.skip <| PX.thenN <| CX.seq <| CX.block <| CX.sr <| LX.p (Y.idxZ Ta.un29 Ta.sz3 rfl rfl hav0 (j := j) rfl hj) rfl <| LX.p (Y.ldO1 Ta.one3 rfl hL0) rfl <| LX.mv rfl <| LX.su [1, 2, 8, 9, 10, 11] rfl <| LX.nt <| CX.seq <| CX.sr <| LX.mv rfl <| LX.p (Y.ltI rfl rfl) rfl <| LX.mv rfl <| LX.su [1, 2, 8, 9, 10, 11, 17] rfl ?_
    apply LX.joinOr 4 21 17 rfl
    · intro hb2
      refine LX.gF rfl rfl rfl hb2 rfl rfl <| LX.gF rfl rfl rfl hb2 rfl rfl <| LX.gF rfl rfl rfl hb2 rfl rfl <| LX.p (Y.pickT rfl hb2 rfl) rfl ?_
      exact LX.left ⟨rfl, rfl, rfl, rfl, rfl, rfl, rfl, rfl, trivial⟩
    · intro hb2
      refine LX.gT rfl rfl rfl hb2 (Y.move rfl) rfl rfl <| LX.gT rfl rfl rfl hb2 (Y.move rfl) rfl rfl <| LX.gT rfl rfl rfl hb2 (Y.geI rfl rfl) rfl rfl <| LX.p (Y.pickF rfl hb2 rfl) rfl ?_
      exact LX.left ⟨rfl, rfl, rfl, rfl, rfl, rfl, rfl, rfl, trivial⟩
    refine LX.mv rfl <| LX.su [1, 2, 8, 9, 10, 11, 22] rfl ?_
    apply LX.joinOr 5 27 22 rfl
    · intro hb3
      refine LX.gF rfl rfl rfl hb3 rfl rfl <| LX.gF rfl rfl rfl hb3 rfl rfl <| LX.gF rfl rfl rfl hb3 rfl rfl <| LX.gF rfl rfl rfl hb3 rfl rfl <| LX.p (Y.pickT rfl hb3 rfl) rfl ?_
      exact LX.left ⟨rfl, rfl, rfl, rfl, rfl, rfl, rfl, rfl, trivial⟩
    · intro hb3
      have hb3p := hb3
      try simp at hb3p
      refine LX.gT rfl rfl rfl hb3 (Y.move rfl) rfl rfl <| LX.gT rfl rfl rfl hb3 (Y.move rfl) rfl rfl ?_
      have hkz : kz = (kz.toNat : Int) := by omega
      have hkn2 : kz.toNat < n := by omega
      refine LX.gT rfl rfl rfl hb3 (Y.idxRZ 0 (i := kz.toNat) Ta.un70 Ta.sz4 rfl rfl hkz rfl hkn2) rfl rfl <| LX.gT rfl rfl rfl hb3 (Y.ldR 0 (v := .bool vb) Ta.one4 rfl rfl (bv_at (hvb hkn2))) rfl rfl <| LX.p (Y.pickF rfl hb3 rfl) rfl ?_
      exact LX.left ⟨rfl, rfl, rfl, rfl, rfl, rfl, rfl, rfl, trivial⟩
    refine LX.su [1, 2, 8, 9, 10, 11, 27] rfl <| LX.nt ?_
    refine CX.cond rfl (fun hb4 => ?_) (fun hb4 => ?_)
    · try simp at hb4
      have hno : kz < 0 ∨ (i : Int) ≤ kz ∨ v[kz.toNat]? = some true := by
        by_cases h1 : kz < 0
        · exact .inl h1
        by_cases h2 : (i : Int) ≤ kz
        · exact .inr (.inl h2)
        · exact .inr (.inr (by rw [hvb (by omega)]; simp_all))
      refine CX.sr <| LX.mv rfl <| LX.su [1, 2, 6, 8, 9, 10, 11] rfl <| LX.nt <| CX.ret <| PX.thenR <| PX.blockR <| PX.thenR <| PX.thenR <| PX.blockR <| PX.thenR <| PX.ret1 (by simp) Try.results43 rfl ?_
      exact fun w hw => ⟨v, by rw [← hfr, if_pos hno]; rfl, (fun v2 h2 => by rw [← hfr, if_pos hno] at h2; cases h2), hw⟩
    try simp at hb4
    have hkz : kz = (kz.toNat : Int) := by omega
    have hkn2 : kz.toNat < n := by omega
    have hno : ¬(kz < 0 ∨ (i : Int) ≤ kz ∨ v[kz.toNat]? = some true) := by
      rw [hvb hkn2]
      rintro (h | h | h)
      · omega
      · omega
      · injection h with h; rw [h] at hb4; exact absurd hb4.2 dc
    refine CX.skip <| PX.thenN <| CX.region <| LX.ms 2 rfl <| LX.p (Y.idxRZ 0 (i := kz.toNat) Ta.un70 Ta.sz4 rfl rfl hkz rfl hkn2) rfl <| LX.storeR 0 Ta.sz4 rfl rfl rfl rfl rfl (by rw [List.length_map]; omega) rfl rfl <| LX.su [1, 2, 9, 10, 11] rfl <| LX.next <| PX.blockN <| PX.thenN <| CX.region <| LX.p (Y.addN rfl rfl (by (simp only []; omega))) rfl <| LX.mv rfl <| LX.su [1, 2, 9, 10, 11] rfl <| LX.next ?_
    exact PX.again (i := (j, v)) (j + 1, v.set kz.toNat true) (by show ks.length - (j + 1) < ks.length - j; omega) ⟨rfl, rfl, rfl, rfl, rfl, trivial⟩ (fun w hw => ⟨⟨by show j + 1 ≤ ks.length; omega, by rw [List.length_set]; exact hvl, by rw [← hfr, if_neg hno]⟩, by have h1 := hw; rw [Nat.mul_one] at h1; rw [← bv_set]; exact h1⟩)
  try simp at hb1
  have hje : j = ks.length := by omega
  rw [drop_end hje, fresh] at hfr
  refine CX.exit <| PX.thenE <| PX.thenE <| PX.blockE <| PX.thenN <| CX.sr <| LX.mv rfl <| LX.su [6] rfl <| LX.nt <| CX.ret <| PX.ret1 (by simp) Try.results43 rfl ?_
  exact fun w hw => ⟨v, by rw [← hfr]; rfl, fun v2 h2 => by rw [← hfr] at h2; cases h2; rfl, hw⟩
end Go.Proofs.Yteibddakpedogaa
