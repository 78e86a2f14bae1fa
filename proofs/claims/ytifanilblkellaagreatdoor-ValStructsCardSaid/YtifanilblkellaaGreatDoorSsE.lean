/-
  Proved here: texts: few and small, the same, copied, searched.
-/
import Derived.Test.YtifanilblkellaaGreatDoorSsR
import Derived.Test.YtifanilblkellaaGreatDoorSsD
namespace Go.Proofs.YtifanilblkellaaGreatDoor
open Go.SX Go.RowKit Go.Vo Go.Ss Go.Proofs.YtifanilblkellaaGreatDoor.Env
namespace Fs
theorem en127 : Enters Tryz.prog 127 := Enters.of Tryz.func127 (by kernel_rfl) (by kernel_rfl)
theorem en51 : Enters Tryz.prog 51 := Enters.of Tryz.func51 (by kernel_rfl) (by kernel_rfl)
theorem en76 : Enters Tryz.prog 76 := Enters.of Tryz.func76 (by kernel_rfl) (by kernel_rfl)
theorem en97 : Enters Tryz.prog 97 := Enters.of Tryz.func97 (by kernel_rfl) (by kernel_rfl)
theorem un176 : Tryz.prog.underlying 176 = some (.int .u64) := by kernel_rfl
theorem el58 : Elem Tryz.prog 58 9 1 16 := Elem.of Fp.un58 (z := .string ⟨#[]⟩) (by kernel_rfl) rfl
end Fs
theorem texts_c {w0 : World} {base : Nat} {fr : List It} {av : Option Addr} {ns : List T} {cn : Nat} (hN : Sl w0 base av (ns.map str)) : FnC Tryz.prog 25 #[.slice av ns.length cn, .int .i64 12, .int .i64 30] (WA w0 base fr) (fun _ : Unit => .bool (decide (ns.length ≤ 12 ∧ ∀ s ∈ ns, s.length ≤ 30))) (fun _ => WA w0 base fr) := by
  refine FnC.of_body (fn := Tryz.f25) [(0, _), (1, _), (2, _)] Tryz.func25 rfl Tryz.ntmps25 rfl ⟨rfl, rfl, rfl, trivial⟩ ?_
  refine CX.seq ?_
  refine CX.region ?_
  refine LX.pure (Y.assign rfl) rfl rfl rfl ?_
  refine LX.sub (l' := [(0, _), (1, _), (2, _), (6, _)]) ⟨rfl, rfl, rfl, rfl, trivial⟩ ?_
  refine LX.next ?_
  refine PX.thenN ?_
  refine CX.seq ?_
  refine CX.seq ?_
  refine CX.region ?_
  refine LX.pure (Y.move rfl) rfl rfl rfl ?_
  refine LX.pure (Y.lenSl rfl Fp.un58 rfl) rfl rfl rfl ?_
  refine LX.pure (Y.move rfl) rfl rfl rfl ?_
  first
    | refine LX.pure (Y.gtN rfl rfl) rfl rfl rfl ?_
    | refine LX.pure (Y.gtI rfl rfl) rfl rfl rfl ?_
  refine LX.sub (l' := [(0, _), (2, _), (6, _), (11, _)]) ⟨rfl, rfl, rfl, rfl, trivial⟩ ?_
  refine LX.next ?_
  refine PX.thenN ?_
  refine CX.cond rfl (fun hb1 => ?_) (fun hb1 => ?_)
  · try simp at hb1
    refine CX.seq ?_
    refine CX.region ?_
    refine LX.pure (Y.assign rfl) rfl rfl rfl ?_
    refine LX.sub (l' := [(0, _), (2, _), (6, _)]) ⟨rfl, rfl, rfl, trivial⟩ ?_
    refine LX.next ?_
    refine PX.thenN ?_
    refine CX.ret ?_
    refine PX.thenR ?_
    refine PX.ret1 (by simp) Tryz.results25 rfl ?_
    exact fun w hw => ⟨(), by rw [decide_eq_false (fun h => by omega)], hw⟩
  · try simp at hb1
    have h12 : ns.length ≤ 12 := by omega
    refine CX.skip ?_
    refine PX.thenN ?_
    refine CX.seq ?_
    refine CX.seq ?_
    refine CX.region ?_
    refine LX.pure (Y.assign rfl) rfl rfl rfl ?_
    refine LX.sub (l' := [(0, _), (2, _), (6, _), (7, _)]) ⟨rfl, rfl, rfl, rfl, trivial⟩ ?_
    refine LX.next ?_
    refine PX.thenN ?_
    refine CX.block ?_
    refine CX.loop (fun i : Nat => [(0, .slice av ns.length cn), (2, .int .i64 30), (7, .int .i64 (i : Int))]) (fun (i : Nat) w => (i ≤ ns.length ∧ ∀ j, j < i → (ns.getD j []).length ≤ 30) ∧ WA w0 base fr w) (fun i => ns.length - i) 0 ⟨rfl, rfl, rfl, trivial⟩ (fun w hw => ⟨⟨Nat.zero_le _, fun j hj => absurd hj (Nat.not_lt_zero _)⟩, hw⟩) ?_
    intro i
    refine CX.have fun ⟨hi0, hsm⟩ => ?_
    try dsimp only at hi0 hsm ⊢
    refine CX.seq ?_
    refine CX.seq ?_
    refine CX.region ?_
    refine LX.pure (Y.move rfl) rfl rfl rfl ?_
    refine LX.pure (Y.move rfl) rfl rfl rfl ?_
    refine LX.pure (Y.lenSl rfl Fp.un58 rfl) rfl rfl rfl ?_
    first
      | refine LX.pure (Y.ltN rfl rfl) rfl rfl rfl ?_
      | refine LX.pure (Y.ltI rfl rfl) rfl rfl rfl ?_
    refine LX.sub (l' := [(0, _), (2, _), (7, _), (15, _)]) ⟨rfl, rfl, rfl, rfl, trivial⟩ ?_
    refine LX.next ?_
    refine PX.thenN ?_
    refine CX.cond rfl (fun hb2 => ?_) (fun hb2 => ?_)
    · try simp at hb2
      obtain ⟨a1, ha1, hq1, hc1⟩ := hN.at_ i _ (str_at (i := i) (by omega))
      refine CX.skip ?_
      refine PX.thenN ?_
      refine CX.seq ?_
      refine CX.block ?_
      refine CX.seq ?_
      refine CX.region ?_
      refine LX.pure (Y.move rfl) rfl rfl rfl ?_
      refine LX.pure (Y.move rfl) rfl rfl rfl ?_
      refine LX.pure (Y.idxS Fp.un58 Fp.sz9 rfl rfl (by omega) ha1) rfl rfl rfl ?_
      refine LX.pure (Y.ldO Fp.one9 rfl hc1 hq1) rfl rfl rfl ?_
      refine LX.pure (Y.lenStr rfl Fq.un9 rfl) rfl rfl rfl ?_
      refine LX.pure (Y.move rfl) rfl rfl rfl ?_
      first
        | refine LX.pure (Y.gtN rfl rfl) rfl rfl rfl ?_
        | refine LX.pure (Y.gtI rfl rfl) rfl rfl rfl ?_
      refine LX.sub (l' := [(0, _), (2, _), (7, _), (24, _)]) ⟨rfl, rfl, rfl, rfl, trivial⟩ ?_
      refine LX.next ?_
      refine PX.thenN ?_
      refine CX.cond rfl (fun hb3 => ?_) (fun hb3 => ?_)
      · try simp at hb3
        rw [← List.getD_eq_getElem?_getD] at hb3
        refine CX.seq ?_
        refine CX.region ?_
        refine LX.pure (Y.assign rfl) rfl rfl rfl ?_
        refine LX.sub (l' := [(0, _), (2, _), (6, _), (7, _)]) ⟨rfl, rfl, rfl, rfl, trivial⟩ ?_
        refine LX.next ?_
        refine PX.thenN ?_
        refine CX.ret ?_
        refine PX.blockR ?_
        refine PX.thenR ?_
        refine PX.thenR ?_
        refine PX.blockR ?_
        refine PX.thenR ?_
        refine PX.ret1 (by simp) Tryz.results25 rfl ?_
        exact fun w hw => ⟨(), by rw [decide_eq_false (fun h => by have := h.2 _ (List.mem_of_getElem? (show ns[i]? = some (ns.getD i []) from by rw [List.getD_eq_getElem?_getD, List.getElem?_eq_getElem (by omega)]; rfl)); omega)], hw⟩
      · try simp at hb3
        rw [← List.getD_eq_getElem?_getD] at hb3
        refine CX.skip ?_
        refine PX.blockN ?_
        refine PX.thenN ?_
        refine CX.region ?_
        refine LX.pure (Y.move rfl) rfl rfl rfl ?_
        first
          | refine LX.pure (Y.addN rfl rfl (by first | omega | (simp only []; omega) | (simp; done) | (simp; omega))) rfl rfl rfl ?_
          | refine LX.pure (Y.add rfl rfl (by first | omega | (simp only []; omega) | (simp; done) | (simp; omega))) rfl rfl rfl ?_
        refine LX.pure (Y.assign rfl) rfl rfl rfl ?_
        refine LX.sub (l' := [(0, _), (2, _), (7, _)]) ⟨rfl, rfl, rfl, trivial⟩ ?_
        refine LX.next ?_
        exact PX.again (L := (fun i : Nat => [(0, .slice av ns.length cn), (2, .int .i64 30), (7, .int .i64 (i : Int))])) (WW := (fun (i : Nat) w => (i ≤ ns.length ∧ ∀ j, j < i → (ns.getD j []).length ≤ 30) ∧ WA w0 base fr w)) (μ := fun i => ns.length - i) (i := i) (i + 1) (by show ns.length - (i + 1) < ns.length - i; omega) ⟨rfl, rfl, rfl, trivial⟩ (fun w hw => ⟨⟨by omega, fun j hj => by
          rcases Nat.lt_or_ge j i with h | h
          · exact hsm j h
          · obtain rfl : j = i := by omega
            omega⟩, hw⟩)
    · try simp at hb2
      have hie : i = ns.length := by omega
      refine CX.exit ?_
      refine PX.thenE ?_
      refine PX.thenE ?_
      refine PX.blockE ?_
      refine PX.thenN ?_
      refine CX.seq ?_
      refine CX.region ?_
      refine LX.pure (Y.assign rfl) rfl rfl rfl ?_
      refine LX.sub (l' := [(6, _)]) ⟨rfl, trivial⟩ ?_
      refine LX.next ?_
      refine PX.thenN ?_
      refine CX.ret ?_
      refine PX.ret1 (by simp) Tryz.results25 rfl ?_
      exact fun w hw => ⟨(), by rw [decide_eq_true ⟨h12, fun s hs => by
        obtain ⟨j, hj⟩ := mem_at hs
        have := hsm j (by have := (List.getElem?_eq_some_iff.1 hj).1; omega)
        rw [List.getD_eq_getElem?_getD, hj] at this
        exact this⟩], hw⟩
theorem same_c {w0 : World} {base : Nat} {fr : List It} {S : List T} {av bv : Option Addr} (c1 c2 : Nat) (s1 : Sl w0 base av (S.map str)) (s2 : Sl w0 base bv (S.map str)) (l1 : S.length ≤ 12) : FnC Tryz.prog 29 #[.slice av S.length c1, .slice bv S.length c2] (WA w0 base fr) (fun _ : Unit => .bool true) (fun _ => WA w0 base fr) := by
  refine FnC.of_body (fn := Tryz.f29) [(0, _), (1, _)] Tryz.func29 rfl Tryz.ntmps29 rfl ⟨rfl, rfl, trivial⟩ ?_
  refine CX.seq ?_
  refine CX.region ?_
  refine LX.pure (Y.assign rfl) rfl rfl rfl ?_
  refine LX.sub (l' := [(0, _), (1, _), (4, _)]) ⟨rfl, rfl, rfl, trivial⟩ ?_
  refine LX.next ?_
  refine PX.thenN ?_
  refine CX.seq ?_
  refine CX.seq ?_
  refine CX.region ?_
  refine LX.pure (Y.move rfl) rfl rfl rfl ?_
  refine LX.pure (Y.lenSl rfl Fp.un58 rfl) rfl rfl rfl ?_
  refine LX.pure (Y.move rfl) rfl rfl rfl ?_
  refine LX.pure (Y.lenSl rfl Fp.un58 rfl) rfl rfl rfl ?_
  first
    | refine LX.pure (Y.neN rfl rfl) rfl rfl rfl ?_
    | refine LX.pure (Y.neI rfl rfl) rfl rfl rfl ?_
  refine LX.sub (l' := [(0, _), (1, _), (4, _), (11, _)]) ⟨rfl, rfl, rfl, rfl, trivial⟩ ?_
  refine LX.next ?_
  refine PX.thenN ?_
  refine CX.cond rfl (fun hb1 => ?_) (fun hb1 => ?_)
  · try simp at hb1
    first | done | (exfalso; omega) | (exfalso; simp_all; done) | (exfalso; simp_all; omega)
  · try simp at hb1
    refine CX.skip ?_
    refine PX.thenN ?_
    refine CX.seq ?_
    refine CX.seq ?_
    refine CX.region ?_
    refine LX.pure (Y.assign rfl) rfl rfl rfl ?_
    refine LX.sub (l' := [(0, _), (1, _), (4, _), (5, _)]) ⟨rfl, rfl, rfl, rfl, trivial⟩ ?_
    refine LX.next ?_
    refine PX.thenN ?_
    refine CX.block ?_
    refine CX.loop (fun i : Nat => [(0, .slice av S.length c1), (1, .slice bv S.length c2), (5, .int .i64 (i : Int))]) (fun (i : Nat) w => i ≤ S.length ∧ WA w0 base fr w) (fun i => S.length - i) 0 ⟨rfl, rfl, rfl, trivial⟩ (fun w hw => ⟨Nat.zero_le _, hw⟩) ?_
    intro i
    refine CX.have fun hi0 => ?_
    try dsimp only at hi0 ⊢
    refine CX.seq ?_
    refine CX.seq ?_
    refine CX.region ?_
    refine LX.pure (Y.move rfl) rfl rfl rfl ?_
    refine LX.pure (Y.move rfl) rfl rfl rfl ?_
    refine LX.pure (Y.lenSl rfl Fp.un58 rfl) rfl rfl rfl ?_
    first
      | refine LX.pure (Y.ltN rfl rfl) rfl rfl rfl ?_
      | refine LX.pure (Y.ltI rfl rfl) rfl rfl rfl ?_
    refine LX.sub (l' := [(0, _), (1, _), (5, _), (15, _)]) ⟨rfl, rfl, rfl, rfl, trivial⟩ ?_
    refine LX.next ?_
    refine PX.thenN ?_
    refine CX.cond rfl (fun hb2 => ?_) (fun hb2 => ?_)
    · try simp at hb2
      obtain ⟨a1, ha1, hq1, hc1⟩ := s1.at_ i _ (str_at (i := i) (by omega))
      obtain ⟨a2, ha2, hq2, hc2⟩ := s2.at_ i _ (str_at (i := i) (by omega))
      refine CX.skip ?_
      refine PX.thenN ?_
      refine CX.seq ?_
      refine CX.block ?_
      refine CX.seq ?_
      refine CX.regionQ rfl (by kernel_rfl) ?_
      refine LX.pure (Y.move rfl) rfl rfl rfl ?_
      refine LX.pure (Y.move rfl) rfl rfl rfl ?_
      refine LX.pure (Y.idxS Fp.un58 Fp.sz9 rfl rfl (by omega) ha1) rfl rfl rfl ?_
      refine LX.pure (Y.ldO Fp.one9 rfl hc1 hq1) rfl rfl rfl ?_
      refine LX.pure (Y.move rfl) rfl rfl rfl ?_
      refine LX.pure (Y.move rfl) rfl rfl rfl ?_
      refine LX.pure (Y.idxS Fp.un58 Fp.sz9 rfl rfl (by omega) ha2) rfl rfl rfl ?_
      refine LX.pure (Y.ldO Fp.one9 rfl hc2 hq2) rfl rfl rfl ?_
      refine LX.pure (Y.eqS rfl rfl) rfl rfl rfl ?_
      refine LX.pure (Y.assign rfl) rfl rfl rfl ?_
      refine LX.sub (l' := [(0, _), (1, _), (5, _), (6, _)]) ⟨rfl, rfl, rfl, rfl, trivial⟩ ?_
      refine LX.nextQ ?_
      refine PX.thenN ?_
      refine CX.seq ?_
      refine CX.region ?_
      refine LX.pure (Y.move rfl) rfl rfl rfl ?_
      refine LX.pure (Y.not rfl) rfl rfl rfl ?_
      refine LX.sub (l' := [(0, _), (1, _), (5, _), (28, _)]) ⟨rfl, rfl, rfl, rfl, trivial⟩ ?_
      refine LX.next ?_
      refine PX.thenN ?_
      refine CX.cond rfl (fun hb3 => ?_) (fun hb3 => ?_)
      · try simp at hb3
        first | done | (exfalso; omega) | (exfalso; simp_all; done) | (exfalso; simp_all; omega)
      · try simp at hb3
        refine CX.skip ?_
        refine PX.blockN ?_
        refine PX.thenN ?_
        refine CX.region ?_
        refine LX.pure (Y.move rfl) rfl rfl rfl ?_
        first
          | refine LX.pure (Y.addN rfl rfl (by first | omega | (simp only []; omega) | (simp; done) | (simp; omega))) rfl rfl rfl ?_
          | refine LX.pure (Y.add rfl rfl (by first | omega | (simp only []; omega) | (simp; done) | (simp; omega))) rfl rfl rfl ?_
        refine LX.pure (Y.assign rfl) rfl rfl rfl ?_
        refine LX.sub (l' := [(0, _), (1, _), (5, _)]) ⟨rfl, rfl, rfl, trivial⟩ ?_
        refine LX.next ?_
        exact PX.again (L := (fun i : Nat => [(0, .slice av S.length c1), (1, .slice bv S.length c2), (5, .int .i64 (i : Int))])) (WW := (fun (i : Nat) w => i ≤ S.length ∧ WA w0 base fr w)) (μ := fun i => S.length - i) (i := i) (i + 1) (by show S.length - (i + 1) < S.length - i; omega) ⟨rfl, rfl, rfl, trivial⟩ (fun w hw => ⟨by omega, hw⟩)
    · try simp at hb2
      refine CX.exit ?_
      refine PX.thenE ?_
      refine PX.thenE ?_
      refine PX.blockE ?_
      refine PX.thenN ?_
      refine CX.seq ?_
      refine CX.region ?_
      refine LX.pure (Y.assign rfl) rfl rfl rfl ?_
      refine LX.sub (l' := [(4, _)]) ⟨rfl, trivial⟩ ?_
      refine LX.next ?_
      refine PX.thenN ?_
      refine CX.ret ?_
      refine PX.ret1 (by simp) Tryz.results29 rfl ?_
      exact fun w hw => ⟨(), rfl, hw⟩
theorem cloneN_c {w0 : World} {base : Nat} {fr : List It} {c : Nat} : FnC Tryz.prog 76 #[.slice none 0 c] (WA w0 base fr) (fun _ : Unit => .slice none 0 0) (fun _ => WA w0 base fr) := by
  refine FnC.of_body (fn := Tryz.f76) [(0, _)] Tryz.func76 rfl Tryz.ntmps76 rfl ⟨rfl, trivial⟩ ?_
  refine CX.seq ?_
  refine CX.region ?_
  refine LX.pure (Y.assign rfl) rfl rfl rfl ?_
  refine LX.sub (l' := [(0, _), (2, _)]) ⟨rfl, rfl, trivial⟩ ?_
  refine LX.next ?_
  refine PX.thenN ?_
  refine CX.seq ?_
  refine CX.seq ?_
  refine CX.region ?_
  refine LX.pure (Y.move rfl) rfl rfl rfl ?_
  refine LX.pure (Y.eqSlNil Fp.un58 rfl) rfl rfl rfl ?_
  refine LX.sub (l' := [(0, _), (2, _), (4, _)]) ⟨rfl, rfl, rfl, trivial⟩ ?_
  refine LX.next ?_
  refine PX.thenN ?_
  refine CX.cond rfl (fun hb1 => ?_) (fun hb1 => ?_)
  · try simp at hb1
    refine CX.seq ?_
    refine CX.region ?_
    refine LX.pure (Y.assign rfl) rfl rfl rfl ?_
    refine LX.sub (l' := [(0, _), (2, _)]) ⟨rfl, rfl, trivial⟩ ?_
    refine LX.next ?_
    refine PX.thenN ?_
    refine CX.ret ?_
    refine PX.thenR ?_
    refine PX.ret1 (by simp) Tryz.results76 rfl ?_
    exact fun w hw => ⟨(), rfl, hw⟩
  · try simp at hb1
    first | done | (exfalso; omega) | (exfalso; simp_all; done) | (exfalso; simp_all; omega)
theorem cloneS_c {w0 : World} {base : Nat} {fr : List It} {S : List T} {a : Addr} {c : Nat} (s1 : Sl w0 base (some a) (S.map str)) (l1 : S.length ≤ 12) : FnC Tryz.prog 76 #[.slice (some a) S.length c] (WA w0 base fr) (fun q : Option Nat × Nat => rv q.1 S.length q.2) (fun q => WA w0 base (.row q.1 q.2 S.length 9 1 (S.map str) :: fr)) := by
  refine FnC.of_body (fn := Tryz.f76) [(0, _)] Tryz.func76 rfl Tryz.ntmps76 rfl ⟨rfl, trivial⟩ ?_
  refine CX.seq ?_
  refine CX.region ?_
  refine LX.pure (Y.assign rfl) rfl rfl rfl ?_
  refine LX.sub (l' := [(0, _), (2, _)]) ⟨rfl, rfl, trivial⟩ ?_
  refine LX.next ?_
  refine PX.thenN ?_
  refine CX.seq ?_
  refine CX.seq ?_
  refine CX.region ?_
  refine LX.pure (Y.move rfl) rfl rfl rfl ?_
  refine LX.pure (Y.eqSlNil Fp.un58 rfl) rfl rfl rfl ?_
  refine LX.sub (l' := [(0, _), (2, _), (4, _)]) ⟨rfl, rfl, rfl, trivial⟩ ?_
  refine LX.next ?_
  refine PX.thenN ?_
  refine CX.cond rfl (fun hb1 => ?_) (fun hb1 => ?_)
  · try simp at hb1
    first | done | (exfalso; omega) | (exfalso; simp_all; done) | (exfalso; simp_all; omega)
  · try simp at hb1
    refine CX.skip ?_
    refine PX.thenN ?_
    refine CX.seq ?_
    refine CX.region ?_
    refine LX.buildSlice (e := 9) (size := 1) rfl rfl (fun _ => by kernel_rfl) rfl (by decide) rfl rfl rfl ?_
    intro gt3
    refine LX.pure (Y.move rfl) rfl rfl rfl ?_
    refine LX.append0 0 (k := 0) (a := a) (news := S.map str) Fs.el58 rfl rfl rfl rfl rfl (by simp) (fun w hW q u hu => by
      obtain ⟨a2, e1, e2, e3⟩ := s1.at_ q u hu
      cases e1
      have := hW.old e2 e3
      rwa [Nat.mul_one] at this) (strs_one S) (by omega) (by omega) rfl rfl rfl ?_
    intro g' cap'
    rw [Nat.zero_add]
    refine LX.pure (Y.assign rfl) rfl rfl rfl ?_
    refine LX.sub (l' := [(2, _)]) ⟨rfl, trivial⟩ ?_
    refine LX.next ?_
    refine PX.thenN ?_
    refine CX.ret ?_
    refine PX.ret1 (by simp) Tryz.results76 rfl ?_
    exact fun w hw => ⟨(g', cap'), rfl, hw⟩
theorem clone_c {w0 : World} {base : Nat} {fr : List It} {S : List T} {av : Option Addr} {c : Nat} (s1 : Sl w0 base av (S.map str)) (l1 : S.length ≤ 12) : FnC Tryz.prog 76 #[.slice av S.length c] (WA w0 base fr) (fun q : Option Nat × Nat => rv q.1 S.length q.2) (fun q => WA w0 base (.row q.1 q.2 S.length 9 1 (S.map str) :: fr)) := by
  cases av with
  | some a => exact cloneS_c s1 l1
  | none =>
    obtain rfl : S = [] := by
      cases S with
      | nil => rfl
      | cons x S => obtain ⟨a, h, _⟩ := s1.at_ 0 (str x) rfl; cases h
    exact fun w hw => (cloneN_c w hw).mono fun e w' ⟨_, he, h⟩ => ⟨(none, 0), he, h.nilRow 9 1⟩
theorem fields_c {w0 : World} {base : Nat} {fr : List It} {S : List T} {os : List (Option Nat)} {x : Value} (hx : StV w0 base S os x) (l1 : S.length ≤ 12) : FnC Tryz.prog 51 #[x] (WA w0 base fr) (fun q : Option Nat × Nat => rv q.1 S.length q.2) (fun q => WA w0 base (.row q.1 q.2 S.length 9 1 (S.map str) :: fr)) := by
  obtain ⟨b1, av1, c1, bv1, d1, us1, rfl, hq1, hn1, hf1, sn1, sv1, v1, k1⟩ := hx
  refine FnC.of_body (fn := Tryz.f51) [(0, _)] Tryz.func51 rfl Tryz.ntmps51 rfl ⟨rfl, trivial⟩ ?_
  refine CX.seq ?_
  refine CX.region ?_
  refine LX.pure (Y.assign rfl) rfl rfl rfl ?_
  refine LX.sub (l' := [(0, _), (2, _)]) ⟨rfl, rfl, trivial⟩ ?_
  refine LX.next ?_
  refine PX.thenN ?_
  refine CX.seq ?_
  refine CX.region ?_
  refine LX.pure (Y.move rfl) rfl rfl rfl ?_
  first
    | refine LX.pure (Y.assertYes Fp.nif109 rfl) rfl rfl rfl ?_
    | refine LX.pure (Y.assertNo Fp.nif109 rfl (by decide) Fp.zv109) rfl rfl rfl ?_
  refine LX.pure (Y.move rfl) rfl rfl rfl ?_
  refine LX.pure (Y.extract rfl rfl) rfl rfl rfl ?_
  refine LX.pure (Y.extract rfl rfl) rfl rfl rfl ?_
  refine LX.pure (Y.assign rfl) rfl rfl rfl ?_
  refine LX.pure (Y.assign rfl) rfl rfl rfl ?_
  refine LX.sub (l' := [(2, _), (3, _), (4, _)]) ⟨rfl, rfl, rfl, trivial⟩ ?_
  refine LX.next ?_
  refine PX.thenN ?_
  refine CX.seq ?_
  refine CX.seq ?_
  refine CX.region ?_
  refine LX.pure (Y.move rfl) rfl rfl rfl ?_
  refine LX.pure (Y.not rfl) rfl rfl rfl ?_
  refine LX.sub (l' := [(2, _), (3, _), (11, _)]) ⟨rfl, rfl, rfl, trivial⟩ ?_
  refine LX.next ?_
  refine PX.thenN ?_
  refine CX.cond rfl (fun hb1 => ?_) (fun hb1 => ?_)
  · try simp at hb1
    first | done | (exfalso; omega) | (exfalso; simp_all; done) | (exfalso; simp_all; omega)
  · try simp at hb1
    refine CX.skip ?_
    refine PX.thenN ?_
    refine CX.seq ?_
    refine CX.region ?_
    refine LX.pure (Y.move rfl) rfl rfl rfl ?_
    refine LX.pure (Y.nilCheck rfl) rfl rfl rfl ?_
    first
      | refine LX.pure (Y.fieldAddr0 Fp.fo115_1 rfl) rfl rfl rfl ?_
      | refine LX.pure (Y.fieldAddr Fp.fo115_1 rfl) rfl rfl rfl ?_
    refine LX.pure (Y.ldO Fp.one58 rfl hn1 hq1) rfl rfl rfl ?_
    refine LX.call (clone_c sn1 l1) Fs.en76 rfl rfl rfl rfl rfl ?_
    rintro ⟨g1, e1⟩
    refine LX.pure (Y.assign rfl) rfl rfl rfl ?_
    refine LX.sub (l' := [(2, _)]) ⟨rfl, trivial⟩ ?_
    refine LX.next ?_
    refine PX.thenN ?_
    refine CX.ret ?_
    refine PX.ret1 (by simp) Tryz.results51 rfl ?_
    exact fun w hw => ⟨(g1, e1), rfl, hw⟩
theorem Fields_c {w0 : World} {base : Nat} {fr : List It} {S : List T} {os : List (Option Nat)} {x : Value} (hx : StV w0 base S os x) (l1 : S.length ≤ 12) : FnC Tryz.prog 30 #[x] (WA w0 base fr) (fun q : Option Nat × Nat => rv q.1 S.length q.2) (fun q => WA w0 base (.row q.1 q.2 S.length 9 1 (S.map str) :: fr)) := by
  refine FnC.of_body (fn := Tryz.f30) [(0, _)] Tryz.func30 rfl Tryz.ntmps30 rfl ⟨rfl, trivial⟩ ?_
  refine CX.seq ?_
  refine CX.region ?_
  refine LX.pure (Y.assign rfl) rfl rfl rfl ?_
  refine LX.sub (l' := [(0, _), (2, _)]) ⟨rfl, rfl, trivial⟩ ?_
  refine LX.next ?_
  refine PX.thenN ?_
  refine CX.seq ?_
  refine CX.region ?_
  refine LX.pure (Y.move rfl) rfl rfl rfl ?_
  refine LX.call (fields_c hx l1) Fs.en51 rfl rfl rfl rfl rfl ?_
  rintro ⟨g1, e1⟩
  refine LX.pure (Y.assign rfl) rfl rfl rfl ?_
  refine LX.sub (l' := [(2, _)]) ⟨rfl, trivial⟩ ?_
  refine LX.next ?_
  refine PX.thenN ?_
  refine CX.ret ?_
  refine PX.ret1 (by simp) Tryz.results30 rfl ?_
  exact fun w hw => ⟨(g1, e1), rfl, hw⟩
theorem nan98_q {W : World → Prop} [Stab W] (a : T) : FnQ Tryz.prog 98 #[str a] W (.bool false) := by
  refine FnQ.all fun W' _ hW => ?_
  refine FnC.of_body (fn := Tryz.f98) [(0, _)] Tryz.func98 rfl Tryz.ntmps98 rfl ⟨rfl, trivial⟩ ?_
  refine CX.seq ?_
  refine CX.region ?_
  refine LX.pure (Y.assign rfl) rfl rfl rfl ?_
  refine LX.sub (l' := [(0, _), (2, _)]) ⟨rfl, rfl, trivial⟩ ?_
  refine LX.next ?_
  refine PX.thenN ?_
  refine CX.seq ?_
  refine CX.region ?_
  refine LX.pure (Y.move rfl) rfl rfl rfl ?_
  refine LX.pure (Y.move rfl) rfl rfl rfl ?_
  refine LX.pure (Y.neS rfl rfl) rfl rfl rfl ?_
  refine LX.pure (Y.assign rfl) rfl rfl rfl ?_
  refine LX.sub (l' := [(2, _)]) ⟨rfl, trivial⟩ ?_
  refine LX.next ?_
  refine PX.thenN ?_
  refine CX.ret ?_
  refine PX.ret1 (by simp) Tryz.results98 rfl ?_
  exact fun w hw => ⟨(), by simp, hw⟩
theorem nan127_q {W : World → Prop} [Stab W] (a : T) : FnQ Tryz.prog 127 #[str a] W (.bool false) := by
  refine FnQ.all fun W' _ hW => ?_
  refine FnC.of_body (fn := Tryz.f127) [(0, _)] Tryz.func127 rfl Tryz.ntmps127 rfl ⟨rfl, trivial⟩ ?_
  refine CX.seq ?_
  refine CX.region ?_
  refine LX.pure (Y.assign rfl) rfl rfl rfl ?_
  refine LX.sub (l' := [(0, _), (2, _)]) ⟨rfl, rfl, trivial⟩ ?_
  refine LX.next ?_
  refine PX.thenN ?_
  refine CX.seq ?_
  refine CX.region ?_
  refine LX.pure (Y.move rfl) rfl rfl rfl ?_
  refine LX.pure (Y.move rfl) rfl rfl rfl ?_
  refine LX.pure (Y.neS rfl rfl) rfl rfl rfl ?_
  refine LX.pure (Y.assign rfl) rfl rfl rfl ?_
  refine LX.sub (l' := [(2, _)]) ⟨rfl, trivial⟩ ?_
  refine LX.next ?_
  refine PX.thenN ?_
  refine CX.ret ?_
  refine PX.ret1 (by simp) Tryz.results127 rfl ?_
  exact fun w hw => ⟨(), by simp, hw⟩
theorem cless_q {W : World → Prop} [Stab W] (a b : T) : FnQ Tryz.prog 97 #[str a, str b] W (.bool (Op.bytesLess a b)) := by
  refine FnQ.all fun W' _ hW => ?_
  refine FnC.of_body (fn := Tryz.f97) [(0, _), (1, _)] Tryz.func97 rfl Tryz.ntmps97 rfl ⟨rfl, rfl, trivial⟩ ?_
  refine CX.seq ?_
  refine CX.region ?_
  refine LX.pure (Y.assign rfl) rfl rfl rfl ?_
  refine LX.sub (l' := [(0, _), (1, _), (4, _)]) ⟨rfl, rfl, rfl, trivial⟩ ?_
  refine LX.next ?_
  refine PX.thenN ?_
  refine CX.seq ?_
  refine CX.region ?_
  refine LX.pure (Y.move rfl) rfl rfl rfl ?_
  refine LX.callQ (nan127_q _) Fs.en127 rfl rfl rfl rfl rfl ?_
  refine LX.pure (Y.move rfl) rfl rfl rfl ?_
  refine LX.sub (l' := [(0, _), (1, _), (4, _), (7, _)]) ⟨rfl, rfl, rfl, rfl, trivial⟩ ?_
  apply LX.joinAnd 4 11 7 (y := true) rfl
  · intro hb1
    first | done | cases hb1
  · intro hb1
    have hb1p := hb1
    try simp at hb1p
    refine LX.gF rfl rfl rfl hb1 rfl rfl ?_
    refine LX.gF rfl rfl rfl hb1 rfl rfl ?_
    refine LX.gF rfl rfl rfl hb1 rfl rfl ?_
    refine LX.pure (Y.pickF rfl hb1 rfl) rfl rfl rfl ?_
    exact LX.left ⟨rfl, rfl, rfl, rfl, rfl, trivial⟩
  refine LX.pure (Y.move rfl) rfl rfl rfl ?_
  refine LX.sub (l' := [(0, _), (1, _), (4, _), (12, _)]) ⟨rfl, rfl, rfl, rfl, trivial⟩ ?_
  apply LX.joinOr 4 16 12 rfl
  · intro hb2
    first | done | cases hb2
  · intro hb2
    have hb2p := hb2
    try simp at hb2p
    refine LX.gT rfl rfl rfl hb2 (Y.move rfl) rfl rfl ?_
    refine LX.gT rfl rfl rfl hb2 (Y.move rfl) rfl rfl ?_
    refine LX.gT rfl rfl rfl hb2 (Y.ltS rfl rfl) rfl rfl ?_
    refine LX.pure (Y.pickF rfl hb2 rfl) rfl rfl rfl ?_
    exact LX.left ⟨rfl, rfl, rfl, rfl, rfl, trivial⟩
  refine LX.pure (Y.assign rfl) rfl rfl rfl ?_
  refine LX.sub (l' := [(4, _)]) ⟨rfl, trivial⟩ ?_
  refine LX.next ?_
  refine PX.thenN ?_
  refine CX.ret ?_
  refine PX.ret1 (by simp) Tryz.results97 rfl ?_
  exact fun w hw => ⟨(), rfl, hw⟩
theorem search_c {w0 : World} {base : Nat} {fr : List It} {S : List T} {av : Option Addr} {c1 m : Nat} (s1 : Sl w0 base av (S.map str)) (l1 : S.length ≤ 12) (hinc : Inc S) (hm : m < S.length) : FnC Tryz.prog 77 #[.slice av S.length c1, str (S.getD m [])] (WA w0 base fr) (fun _ : Unit => .tuple #[.int .i64 (m : Int), .bool true]) (fun _ => WA w0 base fr) := by
  refine FnC.of_body (fn := Tryz.f77) [(0, _), (1, _)] Tryz.func77 rfl Tryz.ntmps77 rfl ⟨rfl, rfl, trivial⟩ ?_
  refine CX.seq ?_
  refine CX.region ?_
  refine LX.pure (Y.assign rfl) rfl rfl rfl ?_
  refine LX.pure (Y.assign rfl) rfl rfl rfl ?_
  refine LX.sub (l' := [(0, _), (1, _), (4, _), (5, _)]) ⟨rfl, rfl, rfl, rfl, trivial⟩ ?_
  refine LX.next ?_
  refine PX.thenN ?_
  refine CX.seq ?_
  refine CX.region ?_
  refine LX.pure (Y.move rfl) rfl rfl rfl ?_
  refine LX.pure (Y.lenSl rfl Fp.un58 rfl) rfl rfl rfl ?_
  refine LX.pure (Y.assign rfl) rfl rfl rfl ?_
  refine LX.sub (l' := [(0, _), (1, _), (4, _), (5, _), (6, _)]) ⟨rfl, rfl, rfl, rfl, rfl, trivial⟩ ?_
  refine LX.next ?_
  refine PX.thenN ?_
  refine CX.seq ?_
  refine CX.region ?_
  refine LX.pure (Y.move rfl) rfl rfl rfl ?_
  refine LX.pure (Y.assign rfl) rfl rfl rfl ?_
  refine LX.pure (Y.assign rfl) rfl rfl rfl ?_
  refine LX.sub (l' := [(0, _), (1, _), (4, _), (5, _), (6, _), (7, _), (8, _)]) ⟨rfl, rfl, rfl, rfl, rfl, rfl, rfl, trivial⟩ ?_
  refine LX.next ?_
  refine PX.thenN ?_
  refine CX.seq ?_
  refine CX.block ?_
  refine CX.loop (fun s : Nat × Nat => [(0, .slice av S.length c1), (1, str (S.getD m [])), (6, .int .i64 (S.length : Int)), (7, .int .i64 (s.1 : Int)), (8, .int .i64 (s.2 : Int))]) (fun (s : Nat × Nat) w => (s.1 ≤ m ∧ m ≤ s.2 ∧ s.2 ≤ S.length) ∧ WA w0 base fr w) (fun s => s.2 - s.1) (0, S.length) ⟨rfl, rfl, rfl, rfl, rfl, trivial⟩ (fun w hw => ⟨⟨Nat.zero_le _, by show m ≤ S.length; omega, Nat.le_refl _⟩, hw⟩) ?_
  rintro ⟨lo, hi⟩
  refine CX.have fun ⟨hlo, hhi, hle⟩ => ?_
  try dsimp only at hlo hhi hle ⊢
  refine CX.seq ?_
  refine CX.seq ?_
  refine CX.region ?_
  refine LX.pure (Y.move rfl) rfl rfl rfl ?_
  refine LX.pure (Y.move rfl) rfl rfl rfl ?_
  first
    | refine LX.pure (Y.ltN rfl rfl) rfl rfl rfl ?_
    | refine LX.pure (Y.ltI rfl rfl) rfl rfl rfl ?_
  refine LX.sub (l' := [(0, _), (1, _), (6, _), (7, _), (8, _), (15, _)]) ⟨rfl, rfl, rfl, rfl, rfl, rfl, trivial⟩ ?_
  refine LX.next ?_
  refine PX.thenN ?_
  refine CX.cond rfl (fun hb1 => ?_) (fun hb1 => ?_)
  · try simp at hb1
    obtain ⟨a1, ha1, hq1, hc1⟩ := s1.at_ ((lo + hi) / 2) _ (str_at (i := (lo + hi) / 2) (by omega))
    refine CX.skip ?_
    refine PX.thenN ?_
    refine CX.block ?_
    refine CX.seq ?_
    refine CX.region ?_
    refine LX.pure (Y.move rfl) rfl rfl rfl ?_
    refine LX.pure (Y.move rfl) rfl rfl rfl ?_
    first
      | refine LX.pure (Y.addN rfl rfl (by first | omega | (simp only []; omega) | (simp; done) | (simp; omega))) rfl rfl rfl ?_
      | refine LX.pure (Y.add rfl rfl (by first | omega | (simp only []; omega) | (simp; done) | (simp; omega))) rfl rfl rfl ?_
    refine LX.pure (Y.convN rfl Fo.un3 Fs.un176 (wrap_u64 (by omega))) rfl rfl rfl ?_
    refine LX.pure (Y.shr1U rfl rfl) rfl rfl rfl ?_
    refine LX.pure (Y.convN rfl Fs.un176 Fo.un3 (IntWalk.i64_in _ (by omega))) rfl rfl rfl ?_
    refine LX.pure (Y.assign rfl) rfl rfl rfl ?_
    refine LX.sub (l' := [(0, _), (1, _), (6, _), (7, _), (8, _), (9, _)]) ⟨rfl, rfl, rfl, rfl, rfl, rfl, trivial⟩ ?_
    refine LX.next ?_
    refine PX.thenN ?_
    refine CX.seq ?_
    refine CX.region ?_
    refine LX.pure (Y.move rfl) rfl rfl rfl ?_
    refine LX.pure (Y.move rfl) rfl rfl rfl ?_
    refine LX.pure (Y.idxS Fp.un58 Fp.sz9 rfl rfl (by omega) ha1) rfl rfl rfl ?_
    refine LX.pure (Y.ldO Fp.one9 rfl hc1 hq1) rfl rfl rfl ?_
    refine LX.pure (Y.move rfl) rfl rfl rfl ?_
    refine LX.callQ (cless_q _ _) Fs.en97 rfl rfl rfl rfl rfl ?_
    refine LX.sub (l' := [(0, _), (1, _), (6, _), (7, _), (8, _), (9, _), (27, _)]) ⟨rfl, rfl, rfl, rfl, rfl, rfl, rfl, trivial⟩ ?_
    refine LX.next ?_
    refine PX.thenN ?_
    refine CX.cond rfl (fun hb2 => ?_) (fun hb2 => ?_)
    · try simp at hb2
      rw [Go.Proofs.bytesLess_eq] at hb2
      have hlm := find_lo hinc hm (by omega) (of_decide_eq_true hb2)
      refine CX.region ?_
      refine LX.pure (Y.move rfl) rfl rfl rfl ?_
      first
        | refine LX.pure (Y.addN rfl rfl (by first | omega | (simp only []; omega) | (simp; done) | (simp; omega))) rfl rfl rfl ?_
        | refine LX.pure (Y.add rfl rfl (by first | omega | (simp only []; omega) | (simp; done) | (simp; omega))) rfl rfl rfl ?_
      refine LX.pure (Y.assign rfl) rfl rfl rfl ?_
      refine LX.sub (l' := [(0, _), (1, _), (6, _), (7, _), (8, _)]) ⟨rfl, rfl, rfl, rfl, rfl, trivial⟩ ?_
      refine LX.next ?_
      refine PX.blockN ?_
      exact PX.again (L := (fun s : Nat × Nat => [(0, .slice av S.length c1), (1, str (S.getD m [])), (6, .int .i64 (S.length : Int)), (7, .int .i64 (s.1 : Int)), (8, .int .i64 (s.2 : Int))])) (WW := (fun (s : Nat × Nat) w => (s.1 ≤ m ∧ m ≤ s.2 ∧ s.2 ≤ S.length) ∧ WA w0 base fr w)) (μ := fun s => s.2 - s.1) (i := (lo, hi)) ((lo + hi) / 2 + 1, hi) (by show hi - ((lo + hi) / 2 + 1) < hi - lo; omega) ⟨rfl, rfl, rfl, rfl, rfl, trivial⟩ (fun w hw => ⟨⟨by show (lo + hi) / 2 + 1 ≤ m; omega, hhi, hle⟩, hw⟩)
    · try simp at hb2
      rw [Go.Proofs.bytesLess_eq] at hb2
      have hlm := find_hi hinc hm (of_decide_eq_false hb2)
      refine CX.region ?_
      refine LX.pure (Y.move rfl) rfl rfl rfl ?_
      refine LX.pure (Y.assign rfl) rfl rfl rfl ?_
      refine LX.sub (l' := [(0, _), (1, _), (6, _), (7, _), (8, _)]) ⟨rfl, rfl, rfl, rfl, rfl, trivial⟩ ?_
      refine LX.next ?_
      refine PX.blockN ?_
      exact PX.again (L := (fun s : Nat × Nat => [(0, .slice av S.length c1), (1, str (S.getD m [])), (6, .int .i64 (S.length : Int)), (7, .int .i64 (s.1 : Int)), (8, .int .i64 (s.2 : Int))])) (WW := (fun (s : Nat × Nat) w => (s.1 ≤ m ∧ m ≤ s.2 ∧ s.2 ≤ S.length) ∧ WA w0 base fr w)) (μ := fun s => s.2 - s.1) (i := (lo, hi)) (lo, (lo + hi) / 2) (by show (lo + hi) / 2 - (lo) < hi - lo; omega) ⟨rfl, rfl, rfl, rfl, rfl, trivial⟩ (fun w hw => ⟨⟨hlo, by show m ≤ (lo + hi) / 2; omega, by show (lo + hi) / 2 ≤ S.length; omega⟩, hw⟩)
  · try simp at hb1
    obtain rfl : lo = m := by omega
    obtain ⟨a2, ha2, hq2, hc2⟩ := s1.at_ lo _ (str_at (i := lo) (by omega))
    refine CX.exit ?_
    refine PX.thenE ?_
    refine PX.thenE ?_
    refine PX.blockE ?_
    refine PX.thenN ?_
    refine CX.seq ?_
    refine CX.region ?_
    refine LX.pure (Y.move rfl) rfl rfl rfl ?_
    refine LX.pure (Y.move rfl) rfl rfl rfl ?_
    refine LX.pure (Y.move rfl) rfl rfl rfl ?_
    first
      | refine LX.pure (Y.ltN rfl rfl) rfl rfl rfl ?_
      | refine LX.pure (Y.ltI rfl rfl) rfl rfl rfl ?_
    refine LX.pure (Y.move rfl) rfl rfl rfl ?_
    refine LX.sub (l' := [(0, _), (1, _), (7, _), (31, _), (35, _)]) ⟨rfl, rfl, rfl, rfl, rfl, trivial⟩ ?_
    apply LX.joinAnd 18 53 35 rfl
    · intro hb3
      have hb3p := hb3
      try simp at hb3p
      refine LX.gT rfl rfl rfl hb3 (Y.move rfl) rfl rfl ?_
      refine LX.gT rfl rfl rfl hb3 (Y.move rfl) rfl rfl ?_
      refine LX.gT rfl rfl rfl hb3 (Y.idxS Fp.un58 Fp.sz9 rfl rfl (by omega) ha2) rfl rfl ?_
      refine LX.gT rfl rfl rfl hb3 (Y.ldO Fp.one9 rfl hc2 hq2) rfl rfl ?_
      refine LX.gT rfl rfl rfl hb3 (Y.move rfl) rfl rfl ?_
      refine LX.gT rfl rfl rfl hb3 (Y.eqS rfl rfl) rfl rfl ?_
      refine LX.gT rfl rfl rfl hb3 (Y.move rfl) rfl rfl ?_
      refine LX.sub (l' := [(0, _), (1, _), (7, _), (31, _), (35, _), (42, _)]) ⟨rfl, rfl, rfl, rfl, rfl, rfl, trivial⟩ ?_
      apply LX.joinOr 10 52 42 (y := false) rfl
      · intro hb4
        have hb4p := hb4
        try simp at hb4p
        refine LX.gF rfl rfl rfl hb4 rfl rfl ?_
        refine LX.gF rfl rfl rfl hb4 rfl rfl ?_
        refine LX.gF rfl rfl rfl hb4 rfl rfl ?_
        refine LX.gF rfl rfl rfl hb4 rfl rfl ?_
        refine LX.gF rfl rfl rfl hb4 rfl rfl ?_
        refine LX.gF rfl rfl rfl hb4 rfl rfl ?_
        refine LX.gU rfl rfl rfl rfl rfl ?_
        refine LX.gU rfl rfl rfl rfl rfl ?_
        refine LX.gF rfl rfl rfl hb4 rfl rfl ?_
        refine LX.gT rfl rfl rfl hb3 (Y.pickT rfl hb4 rfl) rfl rfl ?_
        exact LX.left ⟨rfl, rfl, rfl, rfl, rfl, rfl, rfl, trivial⟩
      · intro hb4
        first | done | (exfalso; simp_all; done) | cases hb4
      refine LX.pure (Y.pickT rfl hb3 rfl) rfl rfl rfl ?_
      exact LX.left ⟨rfl, rfl, rfl, rfl, rfl, rfl, trivial⟩
    · intro hb3
      first | done | (exfalso; simp_all; done) | cases hb3
    refine LX.pure (Y.assign rfl) rfl rfl rfl ?_
    refine LX.pure (Y.assign rfl) rfl rfl rfl ?_
    refine LX.sub (l' := [(4, _), (5, _)]) ⟨rfl, rfl, trivial⟩ ?_
    refine LX.next ?_
    refine PX.thenN ?_
    refine CX.ret ?_
    refine PX.ret2 (by simp) Tryz.results77 rfl rfl ?_
    exact fun w hw => ⟨(), by rw [decide_eq_true hm]; simp, hw⟩
end Go.Proofs.YtifanilblkellaaGreatDoor
