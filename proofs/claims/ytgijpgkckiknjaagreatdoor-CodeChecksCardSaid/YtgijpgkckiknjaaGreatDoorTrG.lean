/-
  Proved here: kids that are nobody's.
-/
import Derived.Test.YtgijpgkckiknjaaGreatDoorTrF
namespace Go.Proofs.YtgijpgkckiknjaaGreatDoor
open Go.SX Go.RowKit Go.Tr Go.Lex
namespace Fz

end Fz
theorem fresh_c {w0 : World} {base : Nat} {fr : List It} {ak : Option Addr} (ck : Nat) {ks : List Int} (hkn : ks.length ≤ 9223372036854775807) (hk : SlAt 1 intA (Lies w0 base) ak ks) {n : Nat} (i : Nat) (hi : i ≤ n) (gb cap : Nat) (u : List Bool) (hu : u.length = n) : FnC Tryz.prog 123 #[.slice ak ks.length ck, .int .i64 (i : Int), rv (some gb) n cap] (WA w0 base (.row (some gb) cap n 4 1 (u.map bv) :: fr)) (fun _ : List Bool => .bool (fresh ks i u).isSome) (fun v w => (∀ v2, fresh ks i u = some v2 → v = v2) ∧ WA w0 base (.row (some gb) cap n 4 1 (v.map bv) :: fr) w) := by
  refine FnC.of_body (fn := Tryz.f123) [(0, _), (1, _), (2, _)] Tryz.func123 rfl Tryz.ntmps123 rfl ⟨rfl, rfl, rfl, trivial⟩ ?_
  refine CX.seq ?_
  refine CX.region ?_
  refine LX.pure (Y.assign rfl) rfl rfl rfl ?_
  refine LX.sub (l' := [(0, _), (1, _), (2, _), (6, _)]) ⟨rfl, rfl, rfl, rfl, trivial⟩ ?_
  refine LX.next ?_
  refine PX.thenN ?_
  refine CX.seq ?_
  refine CX.seq ?_
  refine CX.region ?_
  refine LX.pure (Y.move rfl) rfl rfl rfl ?_
  refine LX.pure (Y.lenSl rfl Ft.un42 rfl) rfl rfl rfl ?_
  refine LX.pure (Y.move rfl) rfl rfl rfl ?_
  refine LX.sub (l' := [(1, _), (2, _), (6, _), (9, _), (10, _), (11, _)]) ⟨rfl, rfl, rfl, rfl, rfl, rfl, trivial⟩ ?_
  refine LX.next ?_
  refine PX.thenN ?_
  refine CX.block ?_
  refine CX.loop (fun s : Nat × List Bool => [(1, .int .i64 (i : Int)), (2, rv (some gb) n cap), (9, .slice ak ks.length ck), (10, .int .i64 (ks.length : Int)), (11, .int .i64 (s.1 : Int))]) (fun (s : Nat × List Bool) w => (s.1 ≤ ks.length ∧ s.2.length = n ∧ fresh (ks.drop s.1) i s.2 = fresh ks i u) ∧ WA w0 base (.row (some gb) cap n 4 1 (s.2.map bv) :: fr) w) (fun s => ks.length - s.1) (0, u) ⟨rfl, rfl, rfl, rfl, rfl, trivial⟩ (fun w hw => ⟨⟨Nat.zero_le _, hu, rfl⟩, hw⟩) ?_
  rintro ⟨j, v⟩
  refine CX.have fun ⟨hj0, hvl, hfr⟩ => ?_
  try dsimp only at hj0 hvl hfr ⊢
  refine CX.seq ?_
  refine CX.region ?_
  refine LX.pure (Y.ltN rfl rfl) rfl rfl rfl ?_
  refine LX.sub (l' := [(1, _), (2, _), (9, _), (10, _), (11, _), (12, _)]) ⟨rfl, rfl, rfl, rfl, rfl, rfl, trivial⟩ ?_
  refine LX.next ?_
  refine PX.thenN ?_
  refine CX.seq ?_
  refine CX.cond rfl (fun hb1 => ?_) (fun hb1 => ?_)
  · try simp at hb1
    have hj : j < ks.length := by omega
    obtain ⟨a0, hav0, hL0, hin0⟩ := hk.int_at hj
    rw [drop_getD hj, fresh] at hfr
    generalize ks.getD j 0 = kz at hL0 hin0 hfr
    obtain ⟨vb, hvb⟩ : ∃ vb, kz.toNat < n → v[kz.toNat]? = some vb := ⟨v.getD kz.toNat false, fun h => by rw [getD_get (by omega)]; exact List.getElem?_eq_getElem (by omega)⟩
    refine CX.skip ?_
    refine PX.thenN ?_
    refine CX.seq ?_
    refine CX.block ?_
    refine CX.seq ?_
    refine CX.region ?_
    refine LX.pure (Y.idxZ Ft.un42 Ft.sz3 rfl rfl hav0 (j := j) rfl hj) rfl rfl rfl ?_
    refine LX.pure (Y.ldO1 Ft.one3 rfl hL0) rfl rfl rfl ?_
    refine LX.pure (Y.assign rfl) rfl rfl rfl ?_
    refine LX.sub (l' := [(1, _), (2, _), (8, _), (9, _), (10, _), (11, _)]) ⟨rfl, rfl, rfl, rfl, rfl, rfl, trivial⟩ ?_
    refine LX.next ?_
    refine PX.thenN ?_
    refine CX.seq ?_
    refine CX.seq ?_
    refine CX.region ?_
    refine LX.pure (Y.move rfl) rfl rfl rfl ?_
    refine LX.pure (Y.ltI rfl rfl) rfl rfl rfl ?_
    refine LX.pure (Y.move rfl) rfl rfl rfl ?_
    refine LX.sub (l' := [(1, _), (2, _), (8, _), (9, _), (10, _), (11, _), (17, _)]) ⟨rfl, rfl, rfl, rfl, rfl, rfl, rfl, trivial⟩ ?_
    apply LX.joinOr 4 21 17 rfl
    · intro hb2
      have hb2p := hb2
      try simp at hb2p
      refine LX.gF rfl rfl rfl hb2 rfl rfl ?_
      refine LX.gF rfl rfl rfl hb2 rfl rfl ?_
      refine LX.gF rfl rfl rfl hb2 rfl rfl ?_
      refine LX.pure (Y.pickT rfl hb2 rfl) rfl rfl rfl ?_
      exact LX.left ⟨rfl, rfl, rfl, rfl, rfl, rfl, rfl, rfl, trivial⟩
    · intro hb2
      have hb2p := hb2
      try simp at hb2p
      refine LX.gT rfl rfl rfl hb2 (Y.move rfl) rfl rfl ?_
      refine LX.gT rfl rfl rfl hb2 (Y.move rfl) rfl rfl ?_
      refine LX.gT rfl rfl rfl hb2 (Y.geI rfl rfl) rfl rfl ?_
      refine LX.pure (Y.pickF rfl hb2 rfl) rfl rfl rfl ?_
      exact LX.left ⟨rfl, rfl, rfl, rfl, rfl, rfl, rfl, rfl, trivial⟩
    refine LX.pure (Y.move rfl) rfl rfl rfl ?_
    refine LX.sub (l' := [(1, _), (2, _), (8, _), (9, _), (10, _), (11, _), (22, _)]) ⟨rfl, rfl, rfl, rfl, rfl, rfl, rfl, trivial⟩ ?_
    apply LX.joinOr 5 27 22 rfl
    · intro hb3
      have hb3p := hb3
      try simp at hb3p
      refine LX.gF rfl rfl rfl hb3 rfl rfl ?_
      refine LX.gF rfl rfl rfl hb3 rfl rfl ?_
      refine LX.gF rfl rfl rfl hb3 rfl rfl ?_
      refine LX.gF rfl rfl rfl hb3 rfl rfl ?_
      refine LX.pure (Y.pickT rfl hb3 rfl) rfl rfl rfl ?_
      exact LX.left ⟨rfl, rfl, rfl, rfl, rfl, rfl, rfl, rfl, trivial⟩
    · intro hb3
      have hb3p := hb3
      try simp at hb3p
      refine LX.gT rfl rfl rfl hb3 (Y.move rfl) rfl rfl ?_
      refine LX.gT rfl rfl rfl hb3 (Y.move rfl) rfl rfl ?_
      have hkz : kz = (kz.toNat : Int) := by omega
      have hkn2 : kz.toNat < n := by omega
      refine LX.gT rfl rfl rfl hb3 (Y.idxRZ 0 (i := kz.toNat) Fy.un98 Fy.sz4 rfl rfl hkz rfl hkn2) rfl rfl ?_
      refine LX.gT rfl rfl rfl hb3 (Y.ldR 0 (v := .bool vb) Fy.one4 rfl rfl (bv_at (hvb hkn2))) rfl rfl ?_
      refine LX.pure (Y.pickF rfl hb3 rfl) rfl rfl rfl ?_
      exact LX.left ⟨rfl, rfl, rfl, rfl, rfl, rfl, rfl, rfl, trivial⟩
    refine LX.sub (l' := [(1, _), (2, _), (8, _), (9, _), (10, _), (11, _), (27, _)]) ⟨rfl, rfl, rfl, rfl, rfl, rfl, rfl, trivial⟩ ?_
    refine LX.next ?_
    refine PX.thenN ?_
    refine CX.cond rfl (fun hb4 => ?_) (fun hb4 => ?_)
    · try simp at hb4
      have hno : kz < 0 ∨ (i : Int) ≤ kz ∨ v[kz.toNat]? = some true := by
        by_cases h1 : kz < 0
        · exact .inl h1
        · by_cases h2 : (i : Int) ≤ kz
          · exact .inr (.inl h2)
          · exact .inr (.inr (by rw [hvb (by omega)]; simp_all))
      refine CX.seq ?_
      refine CX.region ?_
      refine LX.pure (Y.assign rfl) rfl rfl rfl ?_
      refine LX.sub (l' := [(1, _), (2, _), (6, _), (8, _), (9, _), (10, _), (11, _)]) ⟨rfl, rfl, rfl, rfl, rfl, rfl, rfl, trivial⟩ ?_
      refine LX.next ?_
      refine PX.thenN ?_
      refine CX.ret ?_
      refine PX.thenR ?_
      refine PX.blockR ?_
      refine PX.thenR ?_
      refine PX.thenR ?_
      refine PX.blockR ?_
      refine PX.thenR ?_
      refine PX.ret1 (by simp) Tryz.results123 rfl ?_
      exact fun w hw => ⟨v, by rw [← hfr, if_pos hno]; rfl, (fun v2 h2 => by rw [← hfr, if_pos hno] at h2; cases h2), hw⟩
    · try simp at hb4
      have hkz : kz = (kz.toNat : Int) := by omega
      have hkn2 : kz.toNat < n := by omega
      have hno : ¬(kz < 0 ∨ (i : Int) ≤ kz ∨ v[kz.toNat]? = some true) := by
        rw [hvb hkn2]
        rintro (h | h | h)
        · omega
        · omega
        · injection h with h; rw [h] at hb4; exact absurd hb4.2 (by decide)
      refine CX.skip ?_
      refine PX.thenN ?_
      refine CX.region ?_
      refine LX.pure (Y.move rfl) rfl rfl rfl ?_
      refine LX.pure (Y.move rfl) rfl rfl rfl ?_
      refine LX.pure (Y.idxRZ 0 (i := kz.toNat) Fy.un98 Fy.sz4 rfl rfl hkz rfl hkn2) rfl rfl rfl ?_
      refine LX.storeR 0 Fy.sz4 rfl rfl rfl rfl rfl (by rw [List.length_map]; omega) rfl rfl ?_
      refine LX.sub (l' := [(1, _), (2, _), (9, _), (10, _), (11, _)]) ⟨rfl, rfl, rfl, rfl, rfl, trivial⟩ ?_
      refine LX.next ?_
      refine PX.blockN ?_
      refine PX.thenN ?_
      refine CX.region ?_
      refine LX.pure (Y.addN rfl rfl (by (simp only []; omega))) rfl rfl rfl ?_
      refine LX.pure (Y.move rfl) rfl rfl rfl ?_
      refine LX.sub (l' := [(1, _), (2, _), (9, _), (10, _), (11, _)]) ⟨rfl, rfl, rfl, rfl, rfl, trivial⟩ ?_
      refine LX.next ?_
      exact PX.again (L := (fun s : Nat × List Bool => [(1, .int .i64 (i : Int)), (2, rv (some gb) n cap), (9, .slice ak ks.length ck), (10, .int .i64 (ks.length : Int)), (11, .int .i64 (s.1 : Int))])) (WW := (fun (s : Nat × List Bool) w => (s.1 ≤ ks.length ∧ s.2.length = n ∧ fresh (ks.drop s.1) i s.2 = fresh ks i u) ∧ WA w0 base (.row (some gb) cap n 4 1 (s.2.map bv) :: fr) w)) (μ := fun s => ks.length - s.1) (i := (j, v)) (j + 1, v.set kz.toNat true) (by show ks.length - (j + 1) < ks.length - j; omega) ⟨rfl, rfl, rfl, rfl, rfl, trivial⟩ (fun w hw => ⟨⟨by show j + 1 ≤ ks.length; omega, by rw [List.length_set]; exact hvl, by rw [← hfr, if_neg hno]⟩, by have h1 := hw; rw [Nat.mul_one] at h1; rw [← bv_set]; exact h1⟩)
  · try simp at hb1
    have hje : j = ks.length := by omega
    rw [drop_end hje, fresh] at hfr
    refine CX.exit ?_
    refine PX.thenE ?_
    refine PX.thenE ?_
    refine PX.blockE ?_
    refine PX.thenN ?_
    refine CX.seq ?_
    refine CX.region ?_
    refine LX.pure (Y.assign rfl) rfl rfl rfl ?_
    refine LX.sub (l' := [(6, _)]) ⟨rfl, trivial⟩ ?_
    refine LX.next ?_
    refine PX.thenN ?_
    refine CX.ret ?_
    refine PX.ret1 (by simp) Tryz.results123 rfl ?_
    exact fun w hw => ⟨v, by rw [← hfr]; rfl, fun v2 h2 => by rw [← hfr] at h2; cases h2; rfl, hw⟩
end Go.Proofs.YtgijpgkckiknjaaGreatDoor
