/-
  Proved here: where an entry stands; two parts of a row joined.
-/
import Derived.Test.YtifanilblkellaaGreatDoorDdA
import Derived.Test.YtifanilblkellaaGreatDoorDdK
namespace Go.Proofs.YtifanilblkellaaGreatDoor
open Go.SX Go.RowKit Go.Vo Go.Ss Go.Proofs.YtifanilblkellaaGreatDoor.Env Go.Proofs.YtifanilblkellaaGreatDoor.Bsf
namespace Dr
theorem cp89 : CmpT Tryz.prog 89 91 := CmpT.of (by kernel_rfl) (by kernel_rfl) (by kernel_rfl)
theorem en57 : Enters Tryz.prog 57 := Enters.of Tryz.func57 (by kernel_rfl) (by kernel_rfl)
theorem one89 : One Tryz.prog 89 := fun w => by kernel_rfl
theorem sz89 : SizeIs Tryz.prog 89 1 := fun w => by kernel_rfl
theorem un128 : Tryz.prog.underlying 128 = some (.slice 74) := by kernel_rfl
end Dr
theorem index_c {w0 : World} {base : Nat} {a c : It} {r : List It} {ge : Option Nat} {ce i : Nat} {es : List En} {e : En} (hi : es[i]? = some e) (hdis : ∀ j f, j < i → es[j]? = some f → f.eb ≠ e.eb) (h12 : es.length ≤ 12) : FnC Tryz.prog 38 #[rv ge es.length ce, ptrE e] (WA w0 base (a :: .row ge ce es.length 89 1 (es.map ptrE) :: c :: (es.map entI ++ r))) (fun _ : Unit => .int .i64 (i : Int)) (fun _ => WA w0 base (a :: .row ge ce es.length 89 1 (es.map ptrE) :: c :: (es.map entI ++ r))) := by
  have hil := (List.getElem?_eq_some_iff.1 hi).1
  refine FnC.of_body (fn := Tryz.f38) [(0, _), (1, _)] Tryz.func38 rfl Tryz.ntmps38 rfl ⟨rfl, rfl, trivial⟩ ?_
  refine CX.seq ?_
  refine CX.region ?_
  refine LX.pure (Y.assign rfl) rfl rfl rfl ?_
  refine LX.sub (l' := [(0, _), (1, _), (4, _)]) ⟨rfl, rfl, rfl, trivial⟩ ?_
  refine LX.next ?_
  refine PX.thenN ?_
  refine CX.seq ?_
  refine CX.seq ?_
  refine CX.region ?_
  refine LX.pure (Y.move rfl) rfl rfl rfl ?_
  refine LX.pure (Y.lenSl rfl Dq.un74 rfl) rfl rfl rfl ?_
  refine LX.pure (Y.move rfl) rfl rfl rfl ?_
  refine LX.sub (l' := [(0, _), (1, _), (4, _), (7, _), (8, _)]) ⟨rfl, rfl, rfl, rfl, rfl, trivial⟩ ?_
  refine LX.next ?_
  refine PX.thenN ?_
  refine CX.block ?_
  refine CX.loop (fun j : Nat => [(0, rv ge es.length ce), (1, ptrE e), (7, .int .i64 (es.length : Int)), (8, .int .i64 (j : Int))]) (fun (j : Nat) w => j ≤ i ∧ WA w0 base (a :: .row ge ce es.length 89 1 (es.map ptrE) :: c :: (es.map entI ++ r)) w) (fun j => es.length - j) 0 ⟨rfl, rfl, rfl, rfl, trivial⟩ (fun w hw => ⟨Nat.zero_le _, hw⟩) ?_
  intro j
  refine CX.have fun hj0 => ?_
  try dsimp only at hj0 ⊢
  refine CX.seq ?_
  refine CX.region ?_
  first
    | refine LX.pure (Y.ltN rfl rfl) rfl rfl rfl ?_
    | refine LX.pure (Y.ltI rfl rfl) rfl rfl rfl ?_
  refine LX.sub (l' := [(0, _), (1, _), (7, _), (8, _), (9, _)]) ⟨rfl, rfl, rfl, rfl, rfl, trivial⟩ ?_
  refine LX.next ?_
  refine PX.thenN ?_
  refine CX.seq ?_
  refine CX.cond rfl (fun hb1 => ?_) (fun hb1 => ?_)
  · try simp at hb1
    obtain ⟨f, hf⟩ : ∃ f, es[j]? = some f := ⟨_, List.getElem?_eq_getElem (by omega)⟩
    refine CX.skip ?_
    refine PX.thenN ?_
    refine CX.seq ?_
    refine CX.block ?_
    refine CX.seq ?_
    refine CX.region ?_
    refine LX.pure (Y.move rfl) rfl rfl rfl ?_
    refine LX.pure (Y.assign rfl) rfl rfl rfl ?_
    refine LX.sub (l' := [(0, _), (1, _), (5, _), (7, _), (8, _)]) ⟨rfl, rfl, rfl, rfl, rfl, trivial⟩ ?_
    refine LX.next ?_
    refine PX.thenN ?_
    refine CX.seq ?_
    refine CX.region ?_
    refine LX.pure (Y.move rfl) rfl rfl rfl ?_
    refine LX.pure (Y.move rfl) rfl rfl rfl ?_
    refine LX.pure (Y.move rfl) rfl rfl rfl ?_
    refine LX.pure (Y.idxR1 1 Dq.un74 Dr.sz89 rfl rfl rfl (by omega)) rfl rfl rfl ?_
    refine LX.pure (Y.ldR 1 (v := ptrE f) Dr.one89 rfl rfl (ptrs_at hf)) rfl rfl rfl ?_
    refine LX.pure (Y.eqPP Dr.cp89 (ent_at hi) (ent_at hf) rfl rfl) rfl rfl rfl ?_
    refine LX.sub (l' := [(0, _), (1, _), (5, _), (7, _), (8, _), (16, _)]) ⟨rfl, rfl, rfl, rfl, rfl, rfl, trivial⟩ ?_
    refine LX.next ?_
    refine PX.thenN ?_
    refine CX.cond rfl (fun hb2 => ?_) (fun hb2 => ?_)
    · try simp at hb2
      have hji : j = i := by
        rcases Nat.lt_or_ge j i with h | h
        · exact absurd (by simp_all) (hdis j f h hf)
        · omega
      subst hji
      refine CX.seq ?_
      refine CX.region ?_
      refine LX.pure (Y.move rfl) rfl rfl rfl ?_
      refine LX.pure (Y.assign rfl) rfl rfl rfl ?_
      refine LX.sub (l' := [(0, _), (1, _), (4, _), (7, _), (8, _)]) ⟨rfl, rfl, rfl, rfl, rfl, trivial⟩ ?_
      refine LX.next ?_
      refine PX.thenN ?_
      refine CX.ret ?_
      refine PX.blockR ?_
      refine PX.thenR ?_
      refine PX.thenR ?_
      refine PX.blockR ?_
      refine PX.thenR ?_
      refine PX.ret1 (by simp) Tryz.results38 rfl ?_
      exact fun w hw => ⟨(), rfl, hw⟩
    · try simp at hb2
      have hji : j < i := by
        rcases Nat.lt_or_ge j i with h | h
        · exact h
        · obtain rfl : j = i := by omega
          rw [hi] at hf
          cases hf
          simp at hb2
      refine CX.skip ?_
      refine PX.blockN ?_
      refine PX.thenN ?_
      refine CX.region ?_
      first
        | refine LX.pure (Y.addN rfl rfl (by first | omega | (simp only []; omega) | (simp; done) | (simp; omega))) rfl rfl rfl ?_
        | refine LX.pure (Y.add rfl rfl (by first | omega | (simp only []; omega) | (simp; done) | (simp; omega))) rfl rfl rfl ?_
      refine LX.pure (Y.move rfl) rfl rfl rfl ?_
      refine LX.sub (l' := [(0, _), (1, _), (7, _), (8, _)]) ⟨rfl, rfl, rfl, rfl, trivial⟩ ?_
      refine LX.next ?_
      exact PX.again (L := (fun j : Nat => [(0, rv ge es.length ce), (1, ptrE e), (7, .int .i64 (es.length : Int)), (8, .int .i64 (j : Int))])) (WW := (fun (j : Nat) w => j ≤ i ∧ WA w0 base (a :: .row ge ce es.length 89 1 (es.map ptrE) :: c :: (es.map entI ++ r)) w)) (μ := fun j => es.length - j) (i := j) (j + 1) (by show es.length - (j + 1) < es.length - j; omega) ⟨rfl, rfl, rfl, rfl, trivial⟩ (fun w hw => ⟨by show j + 1 ≤ i; omega, hw⟩)
  · try simp at hb1
    exfalso; omega
theorem concat_c {w0 : World} {base : Nat} {a : It} {r : List It} {ge : Option Nat} {ce n i bA : Nat} {ps : List Value} (hps : ps.length = n) (hone : ps.all (·.oneCell') = true) (hi : i < n) (h12 : n ≤ 12) : FnC Tryz.prog 39 #[rv (some bA) 2 2] (WA w0 base (.row (some bA) 2 2 74 1 [pV ge ce n i 0, pV ge ce n i 1] :: a :: .row ge ce n 89 1 ps :: r)) (fun q : Option Nat × Nat => rv q.1 (n - 1) q.2) (fun q => WA w0 base (.row q.1 q.2 (n - 1) 89 1 (ps.eraseIdx i) :: .row (some bA) 2 2 74 1 [pV ge ce n i 0, pV ge ce n i 1] :: a :: .row ge ce n 89 1 ps :: r)) := by
  refine FnC.of_body (fn := Tryz.f39) [(0, _)] Tryz.func39 rfl Tryz.ntmps39 rfl ⟨rfl, trivial⟩ ?_
  refine CX.seq ?_
  refine CX.region ?_
  refine LX.pure (Y.assign rfl) rfl rfl rfl ?_
  refine LX.sub (l' := [(0, _), (2, _)]) ⟨rfl, rfl, trivial⟩ ?_
  refine LX.next ?_
  refine PX.thenN ?_
  refine CX.seq ?_
  refine CX.region ?_
  refine LX.pure (Y.assign rfl) rfl rfl rfl ?_
  refine LX.sub (l' := [(0, _), (2, _), (3, _)]) ⟨rfl, rfl, rfl, trivial⟩ ?_
  refine LX.next ?_
  refine PX.thenN ?_
  refine CX.seq ?_
  refine CX.seq ?_
  refine CX.region ?_
  refine LX.pure (Y.move rfl) rfl rfl rfl ?_
  refine LX.pure (Y.lenSl rfl Dr.un128 rfl) rfl rfl rfl ?_
  refine LX.pure (Y.move rfl) rfl rfl rfl ?_
  refine LX.sub (l' := [(0, _), (2, _), (3, _), (9, _), (10, _), (11, _)]) ⟨rfl, rfl, rfl, rfl, rfl, rfl, trivial⟩ ?_
  refine LX.next ?_
  refine PX.thenN ?_
  refine CX.block ?_
  refine CX.loop (fun k : Nat => [(0, rv (some bA) 2 2), (3, .int .i64 ((pS n i k : Nat) : Int)), (9, rv (some bA) 2 2), (10, .int .i64 2), (11, .int .i64 (k : Int))]) (fun (k : Nat) w => k ≤ 2 ∧ WA w0 base (.row (some bA) 2 2 74 1 [pV ge ce n i 0, pV ge ce n i 1] :: a :: .row ge ce n 89 1 ps :: r) w) (fun k => 2 - k) 0 ⟨rfl, rfl, rfl, rfl, rfl, trivial⟩ (fun w hw => ⟨Nat.zero_le _, hw⟩) ?_
  intro k
  refine CX.have fun hk0 => ?_
  try dsimp only at hk0 ⊢
  refine CX.seq ?_
  refine CX.region ?_
  first
    | refine LX.pure (Y.ltN rfl rfl) rfl rfl rfl ?_
    | refine LX.pure (Y.ltI rfl rfl) rfl rfl rfl ?_
  refine LX.sub (l' := [(0, _), (3, _), (9, _), (10, _), (11, _), (12, _)]) ⟨rfl, rfl, rfl, rfl, rfl, rfl, trivial⟩ ?_
  refine LX.next ?_
  refine PX.thenN ?_
  refine CX.seq ?_
  refine CX.cond rfl (fun hb1 => ?_) (fun hb1 => ?_)
  · try simp at hb1
    have hk2 : k < 2 := by omega
    have hL := pL_le (k := k) hi
    have hS0 := pS_le (k := k) hi
    have hS1 := pS_step hk2 hi
    refine CX.skip ?_
    refine PX.thenN ?_
    refine CX.seq ?_
    refine CX.block ?_
    refine CX.seq ?_
    refine CX.region ?_
    refine LX.pure (Y.idxR1 0 Dr.un128 Dq.sz74 rfl rfl rfl (by omega)) rfl rfl rfl ?_
    refine LX.pure (Y.ldR 0 (v := pV ge ce n i k) Dq.one74 rfl rfl (pV_at (by omega))) rfl rfl rfl ?_
    refine LX.pure (Y.assign rfl) rfl rfl rfl ?_
    refine LX.sub (l' := [(0, _), (3, _), (5, _), (9, _), (10, _), (11, _)]) ⟨rfl, rfl, rfl, rfl, rfl, rfl, trivial⟩ ?_
    refine LX.next ?_
    refine PX.thenN ?_
    refine CX.seq ?_
    refine CX.region ?_
    refine LX.pure (Y.move rfl) rfl rfl rfl ?_
    refine LX.pure (Y.move rfl) rfl rfl rfl ?_
    refine LX.pure (Y.lenSl rfl Dq.un74 rfl) rfl rfl rfl ?_
    refine LX.pure (Y.addN (a := pS n i k) (b := pL n i k) rfl rfl (by omega)) rfl rfl rfl ?_
    refine LX.pure (Y.assign rfl) rfl rfl rfl ?_
    refine LX.sub (l' := [(0, _), (3, _), (9, _), (10, _), (11, _)]) ⟨rfl, rfl, rfl, rfl, rfl, trivial⟩ ?_
    refine LX.next ?_
    refine PX.thenN ?_
    refine CX.seq ?_
    refine CX.region ?_
    refine LX.pure (Y.move rfl) rfl rfl rfl ?_
    first
      | refine LX.pure (Y.ltN rfl rfl) rfl rfl rfl ?_
      | refine LX.pure (Y.ltI rfl rfl) rfl rfl rfl ?_
    refine LX.sub (l' := [(0, _), (3, _), (9, _), (10, _), (11, _), (20, _)]) ⟨rfl, rfl, rfl, rfl, rfl, rfl, trivial⟩ ?_
    refine LX.next ?_
    refine PX.thenN ?_
    refine CX.cond rfl (fun hb2 => ?_) (fun hb2 => ?_)
    · try simp at hb2
      first | done | (exfalso; omega) | (exfalso; simp_all; done) | (exfalso; simp_all; omega)
    · try simp at hb2
      refine CX.skip ?_
      refine PX.blockN ?_
      refine PX.thenN ?_
      refine CX.region ?_
      first
        | refine LX.pure (Y.addN rfl rfl (by first | omega | (simp only []; omega) | (simp; done) | (simp; omega))) rfl rfl rfl ?_
        | refine LX.pure (Y.add rfl rfl (by first | omega | (simp only []; omega) | (simp; done) | (simp; omega))) rfl rfl rfl ?_
      refine LX.pure (Y.move rfl) rfl rfl rfl ?_
      refine LX.sub (l' := [(0, _), (3, _), (9, _), (10, _), (11, _)]) ⟨rfl, rfl, rfl, rfl, rfl, trivial⟩ ?_
      refine LX.next ?_
      exact PX.again (L := (fun k : Nat => [(0, rv (some bA) 2 2), (3, .int .i64 ((pS n i k : Nat) : Int)), (9, rv (some bA) 2 2), (10, .int .i64 2), (11, .int .i64 (k : Int))])) (WW := (fun (k : Nat) w => k ≤ 2 ∧ WA w0 base (.row (some bA) 2 2 74 1 [pV ge ce n i 0, pV ge ce n i 1] :: a :: .row ge ce n 89 1 ps :: r) w)) (μ := fun k => 2 - k) (i := k) (k + 1) (by show 2 - (k + 1) < 2 - k; omega) ⟨rfl, by dsimp only; rw [hS1]; rfl, rfl, rfl, rfl, trivial⟩ (fun w hw => ⟨by show k + 1 ≤ 2; omega, hw⟩)
  · try simp at hb1
    obtain rfl : k = 2 := by omega
    refine CX.exit ?_
    refine PX.thenE ?_
    refine PX.thenE ?_
    refine PX.blockE ?_
    refine PX.thenN ?_
    refine CX.seq ?_
    refine CX.region ?_
    refine LX.pure (Y.move rfl) rfl rfl rfl ?_
    refine LX.call (grow_c (m := pS n i 2) (by have := pS_le (k := 2) hi; omega)) Dr.en57 rfl rfl rfl rfl rfl ?_
    rintro ⟨g6, c6⟩
    refine LX.pure (Y.assign rfl) rfl rfl rfl ?_
    refine LX.sub (l' := [(0, _), (6, _)]) ⟨rfl, rfl, trivial⟩ ?_
    refine LX.next ?_
    refine PX.thenN ?_
    refine CX.seq ?_
    refine CX.seq ?_
    refine CX.region ?_
    refine LX.pure (Y.move rfl) rfl rfl rfl ?_
    refine LX.pure (Y.lenSl rfl Dr.un128 rfl) rfl rfl rfl ?_
    refine LX.pure (Y.move rfl) rfl rfl rfl ?_
    refine LX.sub (l' := [(6, _), (25, _), (26, _), (27, _)]) ⟨rfl, rfl, rfl, rfl, trivial⟩ ?_
    refine LX.next ?_
    refine PX.thenN ?_
    refine CX.block ?_
    refine CX.loop (fun s : Nat × Option Nat × Nat => [(6, rv s.2.1 (pS n i s.1) s.2.2), (25, rv (some bA) 2 2), (26, .int .i64 2), (27, .int .i64 (s.1 : Int))]) (fun (s : Nat × Option Nat × Nat) w => s.1 ≤ 2 ∧ WA w0 base (.row s.2.1 s.2.2 (pS n i s.1) 89 1 (pF ps i s.1) :: .row (some bA) 2 2 74 1 [pV ge ce n i 0, pV ge ce n i 1] :: a :: .row ge ce n 89 1 ps :: r) w) (fun s => 2 - s.1) (0, g6, c6) ⟨rfl, rfl, rfl, rfl, trivial⟩ (fun w hw => ⟨Nat.zero_le _, hw⟩) ?_
    rintro ⟨k, g, c⟩
    refine CX.have fun hk0 => ?_
    try dsimp only at hk0 ⊢
    refine CX.seq ?_
    refine CX.region ?_
    first
      | refine LX.pure (Y.ltN rfl rfl) rfl rfl rfl ?_
      | refine LX.pure (Y.ltI rfl rfl) rfl rfl rfl ?_
    refine LX.sub (l' := [(6, _), (25, _), (26, _), (27, _), (28, _)]) ⟨rfl, rfl, rfl, rfl, rfl, trivial⟩ ?_
    refine LX.next ?_
    refine PX.thenN ?_
    refine CX.seq ?_
    refine CX.cond rfl (fun hb3 => ?_) (fun hb3 => ?_)
    · try simp at hb3
      have hk2 : k < 2 := by omega
      have hL := pL_le (k := k) hi
      have hS0 := pS_le (k := k) hi
      have hS1 := pS_step hk2 hi
      refine CX.skip ?_
      refine PX.thenN ?_
      refine CX.seq ?_
      refine CX.block ?_
      refine CX.seq ?_
      refine CX.region ?_
      refine LX.pure (Y.idxR1 1 Dr.un128 Dq.sz74 rfl rfl rfl (by omega)) rfl rfl rfl ?_
      refine LX.pure (Y.ldR 1 (v := pV ge ce n i k) Dq.one74 rfl rfl (pV_at (by omega))) rfl rfl rfl ?_
      refine LX.pure (Y.assign rfl) rfl rfl rfl ?_
      refine LX.sub (l' := [(6, _), (8, _), (25, _), (26, _), (27, _)]) ⟨rfl, rfl, rfl, rfl, rfl, trivial⟩ ?_
      refine LX.next ?_
      refine PX.thenN ?_
      refine CX.region ?_
      refine LX.pure (Y.move rfl) rfl rfl rfl ?_
      refine LX.pure (Y.move rfl) rfl rfl rfl ?_
      refine LX.appendPart 0 3 (lo := pLo i k) Dq.el74 rfl rfl rfl rfl rfl rfl pA_eq pC_le (pLo_le hi) hone (by omega) (by omega) rfl rfl rfl ?_
      intro g7 c7
      refine LX.pure (Y.assign rfl) rfl rfl rfl ?_
      refine LX.sub (l' := [(6, _), (25, _), (26, _), (27, _)]) ⟨rfl, rfl, rfl, rfl, trivial⟩ ?_
      refine LX.next ?_
      refine PX.blockN ?_
      refine PX.thenN ?_
      refine CX.region ?_
      first
        | refine LX.pure (Y.addN rfl rfl (by first | omega | (simp only []; omega) | (simp; done) | (simp; omega))) rfl rfl rfl ?_
        | refine LX.pure (Y.add rfl rfl (by first | omega | (simp only []; omega) | (simp; done) | (simp; omega))) rfl rfl rfl ?_
      refine LX.pure (Y.move rfl) rfl rfl rfl ?_
      refine LX.sub (l' := [(6, _), (25, _), (26, _), (27, _)]) ⟨rfl, rfl, rfl, rfl, trivial⟩ ?_
      refine LX.next ?_
      exact PX.again (L := (fun s : Nat × Option Nat × Nat => [(6, rv s.2.1 (pS n i s.1) s.2.2), (25, rv (some bA) 2 2), (26, .int .i64 2), (27, .int .i64 (s.1 : Int))])) (WW := (fun (s : Nat × Option Nat × Nat) w => s.1 ≤ 2 ∧ WA w0 base (.row s.2.1 s.2.2 (pS n i s.1) 89 1 (pF ps i s.1) :: .row (some bA) 2 2 74 1 [pV ge ce n i 0, pV ge ce n i 1] :: a :: .row ge ce n 89 1 ps :: r) w)) (μ := fun s => 2 - s.1) (i := (k, g, c)) (k + 1, g7, c7) (by show 2 - (k + 1) < 2 - k; omega) ⟨by dsimp only; rw [hS1]; rfl, rfl, rfl, rfl, trivial⟩ (fun w hw => ⟨by show k + 1 ≤ 2; omega, by dsimp only; rw [hS1, pF_step hps hk2 hi]; exact hw⟩)
    · try simp at hb3
      obtain rfl : k = 2 := by omega
      refine CX.exit ?_
      refine PX.thenE ?_
      refine PX.thenE ?_
      refine PX.blockE ?_
      refine PX.thenN ?_
      refine CX.seq ?_
      refine CX.region ?_
      refine LX.pure (Y.move rfl) rfl rfl rfl ?_
      refine LX.pure (Y.assign rfl) rfl rfl rfl ?_
      refine LX.sub (l' := [(2, _)]) ⟨rfl, trivial⟩ ?_
      refine LX.next ?_
      refine PX.thenN ?_
      refine CX.ret ?_
      refine PX.ret1 (by simp) Tryz.results39 rfl ?_
      exact fun w hw => ⟨(g, c), rfl, hw⟩
end Go.Proofs.YtifanilblkellaaGreatDoor
