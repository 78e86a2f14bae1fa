/-
  Proved here: Structs that cannot be made.
-/
import Derived.Test.YtifanilblkellaaGreatDoorSsB
import Derived.Test.YtifanilblkellaaGreatDoorEnvQ
namespace Go.Proofs.YtifanilblkellaaGreatDoor
open Go.SX Go.RowKit Go.Vo Go.Ss Go.Proofs.YtifanilblkellaaGreatDoor.Env
namespace Fq
theorem one40 : One Tryz.prog 40 := fun w => by kernel_rfl
theorem un108 : Tryz.prog.underlying 108 = some (.map 9 31) := by kernel_rfl
theorem un9 : Tryz.prog.underlying 9 = some .string := by kernel_rfl
end Fq
theorem struct_len {w0 : World} {base : Nat} {fr : List It} {aE : Nat → Addr} (hS : EnvS w0 base aE) {av lv : Option Addr} {n m cn cl : Nat} (hnm : n ≠ m) : FnC Tryz.prog 26 #[.slice av n cn, .slice lv m cl] (WA w0 base fr) (fun _ : Unit => .tuple #[.nilIface, errV (aE 12)]) (fun _ => WA w0 base fr) := by
  refine FnC.of_body (fn := Tryz.f26) [(0, _), (1, _)] Tryz.func26 rfl Tryz.ntmps26 rfl ⟨rfl, rfl, trivial⟩ ?_
  refine CX.seq ?_
  refine CX.region ?_
  refine LX.pure (Y.assign rfl) rfl rfl rfl ?_
  refine LX.pure (Y.assign rfl) rfl rfl rfl ?_
  refine LX.sub (l' := [(0, _), (1, _), (4, _), (5, _)]) ⟨rfl, rfl, rfl, rfl, trivial⟩ ?_
  refine LX.next ?_
  refine PX.thenN ?_
  refine CX.seq ?_
  refine CX.seq ?_
  refine CX.region ?_
  refine LX.pure (Y.move rfl) rfl rfl rfl ?_
  refine LX.pure (Y.lenSl rfl Fp.un58 rfl) rfl rfl rfl ?_
  refine LX.pure (Y.move rfl) rfl rfl rfl ?_
  refine LX.pure (Y.lenSl rfl Fp.un49 rfl) rfl rfl rfl ?_
  first
    | refine LX.pure (Y.neN rfl rfl) rfl rfl rfl ?_
    | refine LX.pure (Y.neI rfl rfl) rfl rfl rfl ?_
  refine LX.sub (l' := [(0, _), (1, _), (4, _), (5, _), (16, _)]) ⟨rfl, rfl, rfl, rfl, rfl, trivial⟩ ?_
  refine LX.next ?_
  refine PX.thenN ?_
  refine CX.cond rfl (fun hb1 => ?_) (fun hb1 => ?_)
  · try simp at hb1
    refine CX.seq ?_
    refine CX.regionQ rfl (by kernel_rfl) ?_
    refine LX.pure (Y.ldO Fq.one40 rfl (hS.at_ 12 1 rfl) (hS.lt 1 (by decide))) rfl rfl rfl ?_
    refine LX.pure (Y.assign rfl) rfl rfl rfl ?_
    refine LX.pure (Y.assign rfl) rfl rfl rfl ?_
    refine LX.sub (l' := [(0, _), (1, _), (4, _), (5, _)]) ⟨rfl, rfl, rfl, rfl, trivial⟩ ?_
    refine LX.nextQ ?_
    refine PX.thenN ?_
    refine CX.ret ?_
    refine PX.thenR ?_
    refine PX.ret2 (by simp) Tryz.results26 rfl rfl ?_
    exact fun w hw => ⟨(), rfl, hw⟩
  · try simp at hb1
    first | done | (exfalso; omega) | (exfalso; simp_all; done)
theorem struct_dup {w0 : World} {base : Nat} {fr : List It} {aE : Nat → Addr} (hS : EnvS w0 base aE) {av lv : Option Addr} {ns : List T} {us : List Value} {cn cl : Nat} (hN : Sl w0 base av (ns.map str)) (hL : Sl w0 base lv us) (hul : us.length = ns.length) (h12 : ns.length ≤ 12) (hnn : ¬ns.Nodup) : FnC Tryz.prog 26 #[.slice av ns.length cn, .slice lv ns.length cl] (WA w0 base fr) (fun _ : Unit => .tuple #[.nilIface, errV (aE 12)]) (fun _ => WA w0 base fr) := by
  refine FnC.of_body (fn := Tryz.f26) [(0, _), (1, _)] Tryz.func26 rfl Tryz.ntmps26 rfl ⟨rfl, rfl, trivial⟩ ?_
  refine CX.seq ?_
  refine CX.region ?_
  refine LX.pure (Y.assign rfl) rfl rfl rfl ?_
  refine LX.pure (Y.assign rfl) rfl rfl rfl ?_
  refine LX.sub (l' := [(0, _), (1, _), (4, _), (5, _)]) ⟨rfl, rfl, rfl, rfl, trivial⟩ ?_
  refine LX.next ?_
  refine PX.thenN ?_
  refine CX.seq ?_
  refine CX.seq ?_
  refine CX.region ?_
  refine LX.pure (Y.move rfl) rfl rfl rfl ?_
  refine LX.pure (Y.lenSl rfl Fp.un58 rfl) rfl rfl rfl ?_
  refine LX.pure (Y.move rfl) rfl rfl rfl ?_
  refine LX.pure (Y.lenSl rfl Fp.un49 rfl) rfl rfl rfl ?_
  first
    | refine LX.pure (Y.neN rfl rfl) rfl rfl rfl ?_
    | refine LX.pure (Y.neI rfl rfl) rfl rfl rfl ?_
  refine LX.sub (l' := [(0, _), (1, _), (4, _), (5, _), (16, _)]) ⟨rfl, rfl, rfl, rfl, rfl, trivial⟩ ?_
  refine LX.next ?_
  refine PX.thenN ?_
  refine CX.cond rfl (fun hb1 => ?_) (fun hb1 => ?_)
  · try simp at hb1
    first | done | (exfalso; omega) | (exfalso; simp_all; done) | (exfalso; simp_all; omega)
  · try simp at hb1
    refine CX.skip ?_
    refine PX.thenN ?_
    refine CX.seq ?_
    refine CX.region ?_
    refine LX.makeMap rfl rfl rfl rfl ?_
    intro bm
    refine LX.pure (Y.assign rfl) rfl rfl rfl ?_
    refine LX.sub (l' := [(0, _), (1, _), (4, _), (5, _), (6, _)]) ⟨rfl, rfl, rfl, rfl, rfl, trivial⟩ ?_
    refine LX.next ?_
    refine PX.thenN ?_
    refine CX.seq ?_
    refine CX.seq ?_
    refine CX.region ?_
    refine LX.pure (Y.move rfl) rfl rfl rfl ?_
    refine LX.pure (Y.lenSl rfl Fp.un58 rfl) rfl rfl rfl ?_
    refine LX.pure (Y.move rfl) rfl rfl rfl ?_
    refine LX.sub (l' := [(0, _), (1, _), (4, _), (5, _), (6, _), (19, _), (20, _), (21, _)]) ⟨rfl, rfl, rfl, rfl, rfl, rfl, rfl, rfl, trivial⟩ ?_
    refine LX.next ?_
    refine PX.thenN ?_
    refine CX.block ?_
    refine CX.loop (fun s : Nat × List T × List Value × List Nat × Nat => [(0, .slice av ns.length cn), (1, .slice lv ns.length cl), (6, .map (some bm)), (19, .slice av ns.length cn), (20, .int .i64 (ns.length : Int)), (21, .int .i64 (s.1 : Int))]) (fun (s : Nat × List T × List Value × List Nat × Nat) w => (Put ns us s.1 s.2.1 s.2.2.1 ∧ s.2.2.2.1.length = s.2.1.length ∧ s.2.2.2.1.Nodup ∧ ∀ q ∈ s.2.2.2.1, q < s.2.2.2.2) ∧ WA w0 base (mapI bm s.2.1 s.2.2.1 s.2.2.2.1 s.2.2.2.2 :: fr) w) (fun s => ns.length - s.1) (0, [], [], [], 0) ⟨rfl, rfl, rfl, rfl, rfl, rfl, trivial⟩ (fun w hw => ⟨⟨Put.start ns us, rfl, List.Pairwise.nil, fun q hq => by cases hq⟩, hw⟩) ?_
    rintro ⟨i, ks, xs, bs, ck⟩
    refine CX.have fun ⟨hput, hbl, hbn, hbk⟩ => ?_
    try dsimp only at hput hbl hbn hbk ⊢
    have hi0 := hput.le
    refine CX.seq ?_
    refine CX.region ?_
    first
      | refine LX.pure (Y.ltN rfl rfl) rfl rfl rfl ?_
      | refine LX.pure (Y.ltI rfl rfl) rfl rfl rfl ?_
    refine LX.sub (l' := [(0, _), (1, _), (6, _), (19, _), (20, _), (21, _), (22, _)]) ⟨rfl, rfl, rfl, rfl, rfl, rfl, rfl, trivial⟩ ?_
    refine LX.next ?_
    refine PX.thenN ?_
    refine CX.seq ?_
    refine CX.cond rfl (fun hb2 => ?_) (fun hb2 => ?_)
    · try simp at hb2
      have hi1 : i < ns.length := by omega
      have hs9 : ns[i]? = some (ns.getD i []) := by rw [List.getD_eq_getElem?_getD, List.getElem?_eq_getElem hi1]; rfl
      obtain ⟨u2, hu2⟩ : ∃ u, us[i]? = some u := ⟨_, List.getElem?_eq_getElem (by omega)⟩
      obtain ⟨a1, ha1, hq1, hc1⟩ := hN.at_ i _ (str_at (i := i) (by omega))
      obtain ⟨a2, ha2, hq2, hc2⟩ := hL.at_ i _ hu2
      refine CX.skip ?_
      refine PX.thenN ?_
      refine CX.seq ?_
      refine CX.block ?_
      refine CX.seq ?_
      refine CX.region ?_
      refine LX.pure (Y.move rfl) rfl rfl rfl ?_
      refine LX.pure (Y.idxS Fp.un58 Fp.sz9 rfl rfl (by omega) ha1) rfl rfl rfl ?_
      refine LX.pure (Y.ldO Fp.one9 rfl hc1 hq1) rfl rfl rfl ?_
      refine LX.pure (Y.assign rfl) rfl rfl rfl ?_
      refine LX.pure (Y.assign rfl) rfl rfl rfl ?_
      refine LX.sub (l' := [(0, _), (1, _), (6, _), (7, _), (8, _), (19, _), (20, _), (21, _)]) ⟨rfl, rfl, rfl, rfl, rfl, rfl, rfl, rfl, trivial⟩ ?_
      refine LX.next ?_
      refine PX.thenN ?_
      refine CX.region ?_
      refine LX.pure (Y.move rfl) rfl rfl rfl ?_
      refine LX.pure (Y.move rfl) rfl rfl rfl ?_
      refine LX.pure (Y.move rfl) rfl rfl rfl ?_
      refine LX.pure (Y.move rfl) rfl rfl rfl ?_
      refine LX.pure (Y.idxS Fp.un49 Fp.sz31 rfl rfl (by omega) ha2) rfl rfl rfl ?_
      refine LX.pure (Y.ldO Fp.one31 rfl hc2 hq2) rfl rfl rfl ?_
      refine LX.mapPut 0 Fq.un108 Fq.un9 rfl rfl rfl rfl rfl hput.len hbl ⟨hbn, hbk⟩ rfl rfl ?_
      intro ks' us' bs' ck' hk' hl1' hl2' hb'
      refine LX.sub (l' := [(0, _), (1, _), (6, _), (19, _), (20, _), (21, _)]) ⟨rfl, rfl, rfl, rfl, rfl, rfl, trivial⟩ ?_
      refine LX.next ?_
      refine PX.blockN ?_
      refine PX.thenN ?_
      refine CX.region ?_
      first
        | refine LX.pure (Y.addN rfl rfl (by first | omega | (simp only []; omega) | (simp; done) | (simp; omega))) rfl rfl rfl ?_
        | refine LX.pure (Y.add rfl rfl (by first | omega | (simp only []; omega) | (simp; done) | (simp; omega))) rfl rfl rfl ?_
      refine LX.pure (Y.move rfl) rfl rfl rfl ?_
      refine LX.sub (l' := [(0, _), (1, _), (6, _), (19, _), (20, _), (21, _)]) ⟨rfl, rfl, rfl, rfl, rfl, rfl, trivial⟩ ?_
      refine LX.next ?_
      exact PX.again (L := (fun s : Nat × List T × List Value × List Nat × Nat => [(0, .slice av ns.length cn), (1, .slice lv ns.length cl), (6, .map (some bm)), (19, .slice av ns.length cn), (20, .int .i64 (ns.length : Int)), (21, .int .i64 (s.1 : Int))])) (WW := (fun (s : Nat × List T × List Value × List Nat × Nat) w => (Put ns us s.1 s.2.1 s.2.2.1 ∧ s.2.2.2.1.length = s.2.1.length ∧ s.2.2.2.1.Nodup ∧ ∀ q ∈ s.2.2.2.1, q < s.2.2.2.2) ∧ WA w0 base (mapI bm s.2.1 s.2.2.1 s.2.2.2.1 s.2.2.2.2 :: fr) w)) (μ := fun s => ns.length - s.1) (i := (i, ks, xs, bs, ck)) (i + 1, ks', us', bs', ck') (by show ns.length - (i + 1) < ns.length - i; omega) ⟨rfl, rfl, rfl, rfl, rfl, rfl, trivial⟩ (fun w hw => ⟨⟨hput.step hs9 hu2 hk' hl1', hl2', hb'⟩, hw⟩)
    · try simp at hb2
      have hie : i = ns.length := by omega
      subst hie
      refine CX.exit ?_
      refine PX.thenE ?_
      refine PX.thenE ?_
      refine PX.blockE ?_
      refine PX.thenN ?_
      refine CX.seq ?_
      refine CX.seq ?_
      refine CX.region ?_
      refine LX.pure (Y.move rfl) rfl rfl rfl ?_
      refine LX.pure (Y.lenMap 0 rfl Fq.un108 rfl rfl hput.len hbl) rfl rfl rfl ?_
      refine LX.pure (Y.move rfl) rfl rfl rfl ?_
      refine LX.pure (Y.lenSl rfl Fp.un58 rfl) rfl rfl rfl ?_
      first
        | refine LX.pure (Y.neN rfl rfl) rfl rfl rfl ?_
        | refine LX.pure (Y.neI rfl rfl) rfl rfl rfl ?_
      refine LX.sub (l' := [(6, _), (37, _)]) ⟨rfl, rfl, trivial⟩ ?_
      refine LX.next ?_
      refine PX.thenN ?_
      refine CX.cond rfl (fun hb3 => ?_) (fun hb3 => ?_)
      · try simp at hb3
        refine CX.seq ?_
        refine CX.regionQ rfl (by kernel_rfl) ?_
        refine LX.pure (Y.ldO Fq.one40 rfl (hS.at_ 12 1 rfl) (hS.lt 1 (by decide))) rfl rfl rfl ?_
        refine LX.pure (Y.assign rfl) rfl rfl rfl ?_
        refine LX.pure (Y.assign rfl) rfl rfl rfl ?_
        refine LX.sub (l' := [(4, _), (5, _), (6, _)]) ⟨rfl, rfl, rfl, trivial⟩ ?_
        refine LX.nextQ ?_
        refine PX.thenN ?_
        refine CX.ret ?_
        refine PX.thenR ?_
        refine PX.ret2 (by simp) Tryz.results26 rfl rfl ?_
        exact fun w hw => ⟨(), rfl, hw.drop (List.sublist_cons_self _ _)⟩
      · try simp at hb3
        exact absurd (by have := (hput.all (by omega)).1; rw [List.take_length] at this; exact this ▸ hput.nd) hnn
end Go.Proofs.YtifanilblkellaaGreatDoor
