/-
  Proved here: keys and numbers in a Dict; a key frozen.
-/
import Derived.Test.YtifanilblkellaaGreatDoorDdF
namespace Go.Proofs.YtifanilblkellaaGreatDoor
open Go.SX Go.RowKit Go.Vo Go.Ss Go.Proofs.YtifanilblkellaaGreatDoor.Env Go.Proofs.YtifanilblkellaaGreatDoor.Bsf Go.EX Go.EB
namespace Dv
theorem cp77 : CmpT Tryz.prog 77 80 := CmpT.of (by kernel_rfl) (by kernel_rfl) (by kernel_rfl)
theorem en44 : Enters Tryz.prog 44 := Enters.of Tryz.func44 (by kernel_rfl) (by kernel_rfl)
theorem fo80_1 : FieldOff Tryz.prog 80 1 0 := fun b o w => by kernel_rfl
theorem one49 : One Tryz.prog 49 := fun w => by kernel_rfl
theorem un101 : Tryz.prog.underlying 101 = some (.map 31 4) := by kernel_rfl
theorem un131 : Tryz.prog.underlying 131 = some (.pointer 133) := by kernel_rfl
theorem un24 : Tryz.prog.underlying 24 = some (.pointer 76) := by kernel_rfl
theorem un31 : Tryz.prog.underlying 31 = some (.interface #[("Kind", 48), ("smithy/val.value", 1)]) := by kernel_rfl
theorem un77 : Tryz.prog.underlying 77 = some (.pointer 80) := by kernel_rfl
theorem zv131 : ∀ w, (zeroValue 131).run Tryz.prog w = .ok (.pointer none) w := fun w => by kernel_rfl
theorem zv24 : ∀ w, (zeroValue 24).run Tryz.prog w = .ok (.pointer none) w := fun w => by kernel_rfl
theorem zv77 : ∀ w, (zeroValue 77).run Tryz.prog w = .ok (.pointer none) w := fun w => by kernel_rfl
theorem nif131 : NotIface Tryz.prog 131 := NotIface.of un131 (fun ms h => by cases h)
theorem nif24 : NotIface Tryz.prog 24 := NotIface.of un24 (fun ms h => by cases h)
theorem nif77 : NotIface Tryz.prog 77 := NotIface.of un77 (fun ms h => by cases h)
end Dv
theorem eeO {ρ : Rho} {w0 : World} {base : Nat} {aE : Nat → Addr} (hS : EnvS w0 base aE) (ho : ∀ i, i < 17 → ρ.opq i = .pointer (some (aE i))) : EE w0 base ρ cfg.E := by
  have key : ∀ i g, sentG[i]? = some g → ∃ u, inst ρ (.iface 286 (.opq i)) = some u ∧ w0.cell? ⟨g, 0, none⟩ = some u ∧ g < base := fun i g hi => ⟨.iface 286 (ρ.opq i), rfl, by rw [ho i (List.getElem?_eq_some_iff.1 hi).1]; exact hS.at_ i g hi, hS.lt g (List.mem_of_getElem? hi)⟩
  intro g v hv
  unfold cfg at hv
  simp only [lookE] at hv
  split at hv
  · rename_i hb
    cases hv
    obtain rfl : 5 = g := by simpa using hb
    exact key 0 _ rfl
  split at hv
  · rename_i hb
    cases hv
    obtain rfl : 4 = g := by simpa using hb
    exact key 1 _ rfl
  split at hv
  · rename_i hb
    cases hv
    obtain rfl : 6 = g := by simpa using hb
    exact key 2 _ rfl
  split at hv
  · rename_i hb
    cases hv
    obtain rfl : 0 = g := by simpa using hb
    exact key 3 _ rfl
  split at hv
  · rename_i hb
    cases hv
    obtain rfl : 7 = g := by simpa using hb
    exact key 4 _ rfl
  split at hv
  · rename_i hb
    cases hv
    obtain rfl : 8 = g := by simpa using hb
    exact key 5 _ rfl
  split at hv
  · rename_i hb
    cases hv
    obtain rfl : 9 = g := by simpa using hb
    exact key 6 _ rfl
  split at hv
  · rename_i hb
    cases hv
    obtain rfl : 2 = g := by simpa using hb
    exact key 7 _ rfl
  split at hv
  · rename_i hb
    cases hv
    obtain rfl : 10 = g := by simpa using hb
    exact key 8 _ rfl
  split at hv
  · rename_i hb
    cases hv
    obtain rfl : 3 = g := by simpa using hb
    exact key 9 _ rfl
  split at hv
  · rename_i hb
    cases hv
    obtain rfl : 11 = g := by simpa using hb
    exact key 10 _ rfl
  split at hv
  · rename_i hb
    cases hv
    obtain rfl : 12 = g := by simpa using hb
    exact key 11 _ rfl
  split at hv
  · rename_i hb
    cases hv
    obtain rfl : 1 = g := by simpa using hb
    exact key 12 _ rfl
  split at hv
  · rename_i hb
    cases hv
    obtain rfl : 13 = g := by simpa using hb
    exact key 13 _ rfl
  split at hv
  · rename_i hb
    cases hv
    obtain rfl : 14 = g := by simpa using hb
    exact key 14 _ rfl
  split at hv
  · rename_i hb
    cases hv
    obtain rfl : 15 = g := by simpa using hb
    exact key 15 _ rfl
  split at hv
  · rename_i hb
    cases hv
    obtain rfl : 16 = g := by simpa using hb
    exact key 16 _ rfl
  cases hv
def rho2 (aE : Nat → Addr) (a b c : Value) (h1 : a.oneCell' = true) (h2 : b.oneCell' = true) (h3 : c.oneCell' = true) : Rho := ⟨[], fun i => if i < 17 then .pointer (some (aE i)) else if i = 20 then a else if i = 21 then b else c, fun i => by
  show Value.oneCell' (if i < 17 then _ else _) = true
  split
  · rfl
  · split
    · exact h1
    · split
      · exact h2
      · exact h3⟩
theorem runFW : pk [] (callB Tryz.prog cfg 300 [] 44 [.iface 82 (.agg [.opq 20, .opq 21]), .opq 22] [] 1) = some (.tup [], [], 1) := by kernel_rfl
theorem runFT : pk [] (callB Tryz.prog cfg 300 [] 44 [.iface 86 (.lit (.string ⟨#[107]⟩)), .opq 22] [] 1) = some (.tup [], [], 1) := by kernel_rfl
theorem tup0 : ∀ (ρ ρ' : Rho) (z : Value), Ext ρ ρ' → inst ρ' (.tup []) = some z → z = .tuple #[] := fun _ _ _ _ h => by
  obtain ⟨us, h1, rfl⟩ := inst_tup h
  cases h1
  rfl
theorem st2 {w : World} {aE : Nat → Addr} (hS : EnvS w w.heap.size aE) {a b c : Value} (h1 : a.oneCell' = true) (h2 : b.oneCell' = true) (h3 : c.oneCell' = true) : St [] 1 (rho2 aE a b c h1 h2 h3) w := ⟨(fun id it h => by cases h), eeO hS (fun i hi => by show (if i < 17 then _ else _) = _; rw [if_pos hi]), (fun id _ => rfl)⟩
theorem frW_q {W : World → Prop} [Stab W] {aE : Nat → Addr} (hS : ∀ w, W w → EnvS w w.heap.size aE) {a b c : Value} (h1 : a.oneCell' = true) (h2 : b.oneCell' = true) (h3 : c.oneCell' = true) : FnQ Tryz.prog 44 #[.iface 82 (.agg #[a, b]), c] W (.tuple #[]) := fun w hw =>
  callL (W := fun w' => w' = w) runFW (tup0 (rho2 aE a b c h1 h2 h3)) (fun w' e => by subst e; exact st2 (hS w' hw) h1 h2 h3) (us := [.iface 82 (.agg #[a, b]), c]) rfl w rfl
theorem frT_q {W : World → Prop} [Stab W] {aE : Nat → Addr} (hS : ∀ w, W w → EnvS w w.heap.size aE) {c : Value} (h3 : c.oneCell' = true) : FnQ Tryz.prog 44 #[.iface 86 (str [107]), c] W (.tuple #[]) := fun w hw =>
  callL (W := fun w' => w' = w) runFT (tup0 (rho2 aE .nilIface .nilIface c rfl rfl h3)) (fun w' e => by subst e; exact st2 (hS w' hw) rfl rfl h3) (us := [.iface 86 (str [107]), c]) rfl w rfl
@[reducible] def dZ (z : Int) (g : Option Nat) (c : Nat) : It := .row g c (digs z.natAbs).length 84 1 (dv (digs z.natAbs))
/-- a number as a value -/
def VI (z : Int) (vv : Value) (ds : List It) : Prop := ∃ g c, vv = .iface 82 (numV z g c) ∧ z.natAbs < 1000 ∧ dZ z g c ∈ ds
/-- a key -/
def KI (k : Nat) (kv : Value) (ds : List It) : Prop := ∃ tb gt ct g c, kv = .iface 77 (.pointer (some ⟨tb, 0, none⟩)) ∧ blk tb [rv (some gt) 2 ct] 80 ∈ ds ∧ It.row (some gt) ct 2 31 1 [.iface 82 (numV (k : Int) g c), .iface 86 (str [107])] ∈ ds ∧ dZ (k : Int) g c ∈ ds ∧ NX k (numV (k : Int) g c)
theorem VI.mono {z : Int} {vv : Value} {ds ds' : List It} (h : VI z vv ds) (hs : ∀ it ∈ ds, it ∈ ds') : VI z vv ds' := by
  obtain ⟨g, c, e, hz, hm⟩ := h
  exact ⟨g, c, e, hz, hs _ hm⟩
theorem KI.mono {k : Nat} {kv : Value} {ds ds' : List It} (h : KI k kv ds) (hs : ∀ it ∈ ds, it ∈ ds') : KI k kv ds' := by
  obtain ⟨tb, gt, ct, g, c, e, h1, h2, h3, h4⟩ := h
  exact ⟨tb, gt, ct, g, c, e, hs _ h1, hs _ h2, hs _ h3, h4⟩
theorem dZ_num {w0 w : World} {base : Nat} {its : List It} {z : Int} {g : Option Nat} {c : Nat} (hw : WA w0 base its w) (h : dZ z g c ∈ its) (hz : z.natAbs < 1000) : NumV w w.heap.size z (numV z g c) := ⟨⟨g, c, rfl, row_at hw h⟩, by omega⟩
theorem KI.kw {w0 w : World} {base : Nat} {its : List It} {k : Nat} {kv : Value} {ds : List It} (hk : k < 12) (h : KI k kv ds) (hs : ∀ it ∈ ds, it ∈ its) (hw : WA w0 base its w) : KW k kv w := by
  obtain ⟨tb, gt, ct, g, c, e, h1, h2, h3, h4⟩ := h
  obtain ⟨j, hj⟩ := List.mem_iff_getElem?.1 (hs _ h1)
  obtain ⟨i, hi⟩ := List.mem_iff_getElem?.1 (hs _ h2)
  have hb := (hw.get hj).2
  have c0 : w.cell? ⟨tb, 0, none⟩ = some (rv (some gt) 2 ct) := by simp [World.cell?, hb]
  have r0 := (hw.rowCell (off := 0) hi rfl).1
  have r1 := (hw.rowCell (off := 1) hi rfl).1
  exact ⟨tb, gt, ct, _, e, World.block_lt_of_cell? _ _ c0, c0, (row_len (hw.get hi)).2, World.block_lt_of_cell? _ _ r0, r0, r1, dZ_num hw (hs _ h3) (by omega), h4⟩
theorem el_at {a b : Value} {j : Nat} (h : j < 2) : [a, b][j]? = some ([a, b].getD j .nilIface) := by
  rcases j with _ | _ | j
  · rfl
  · rfl
  · omega
theorem frE_q {W : World → Prop} [Stab W] {aE : Nat → Addr} (hS : ∀ w, W w → EnvS w w.heap.size aE) {a b c : Value} (h1 : a.oneCell' = true) (h2 : b.oneCell' = true) (h3 : c.oneCell' = true) {j : Nat} (hj : j < 2) : FnQ Tryz.prog 44 #[[.iface 82 (.agg #[a, b]), .iface 86 (str [107])].getD j .nilIface, c] W (.tuple #[]) := by
  rcases j with _ | _ | j
  · exact frW_q hS h1 h2 h3
  · exact frT_q hS h3
  · omega
theorem frK_c {w0 : World} {base : Nat} {r : List It} {aE : Nat → Addr} (hS : EnvS w0 base aE) {bq ck tb gt ct : Nat} {ks us : List Value} {bs : List Nat} {a b : Value} (h1 : a.oneCell' = true) (h2 : b.oneCell' = true) (hb : blk tb [rv (some gt) 2 ct] 80 ∈ r) (hr : It.row (some gt) ct 2 31 1 [.iface 82 (.agg #[a, b]), .iface 86 (str [107])] ∈ r) (hm : MetOk Tryz.prog (WA w0 base r) ks us bs) : FnC Tryz.prog 44 #[.iface 77 (.pointer (some ⟨tb, 0, none⟩)), .map (some bq)] (WA w0 base (metI bq ks us bs ck :: r)) (fun _ : List Value × List Value × List Nat × Nat => .tuple #[]) (fun q w => MetOk Tryz.prog (WA w0 base r) q.1 q.2.1 q.2.2.1 ∧ WA w0 base (metI bq q.1 q.2.1 q.2.2.1 q.2.2.2 :: r) w) := by
  obtain ⟨j1, hj1⟩ := List.mem_iff_getElem?.1 hb
  obtain ⟨j2, hj2⟩ := List.mem_iff_getElem?.1 hr
  have hk0 : KeyIn Tryz.prog (WA w0 base r) (.iface 77 (.pointer (some ⟨tb, 0, none⟩))) := ⟨_, _, tb, rfl, Dv.cp77, fun w hw => ⟨_, _, (hw.get hj1).2⟩⟩
  have hdr : ∀ w, WA w0 base (metI bq ks us bs ck :: r) w → WA w0 base r w := fun w hw => hw.drop (List.sublist_cons_self _ _)
  have hkv := hk0.mono hdr
  have hm2 : MetOk Tryz.prog (WA w0 base (metI bq ks us bs ck :: r)) ks us bs := ⟨fun k hk => (hm.keys k hk).mono hdr, hm.l1, hm.l2, hm.tt⟩
  obtain ⟨q, hq⟩ := met_look (P := Tryz.prog) Dv.un31 hkv hm2
  refine FnC.of_body (fn := Tryz.f44) [(0, _), (1, _)] Tryz.func44 rfl Tryz.ntmps44 rfl ⟨rfl, rfl, trivial⟩ ?_
  refine CX.seq ?_
  refine CX.region ?_
  refine LX.pure (Y.assign rfl) rfl rfl rfl ?_
  refine LX.sub (l' := [(0, _), (1, _), (4, _)]) ⟨rfl, rfl, rfl, trivial⟩ ?_
  refine LX.next ?_
  refine PX.thenN ?_
  refine CX.seq ?_
  refine CX.seq ?_
  refine CX.region ?_
  refine LX.pure (Y.move rfl) rfl rfl rfl ?_
  refine LX.sub (l' := [(0, _), (1, _), (4, _), (15, _)]) ⟨rfl, rfl, rfl, rfl, trivial⟩ ?_
  refine LX.next ?_
  refine PX.thenN ?_
  refine CX.block ?_
  refine CX.seq ?_
  refine CX.region ?_
  first
    | refine LX.pure (Y.assertYes Dv.nif131 rfl) rfl rfl rfl ?_
    | refine LX.pure (Y.assertNo Dv.nif131 rfl (by decide) Dv.zv131) rfl rfl rfl ?_
  refine LX.pure (Y.extract rfl rfl) rfl rfl rfl ?_
  refine LX.pure (Y.extract rfl rfl) rfl rfl rfl ?_
  refine LX.sub (l' := [(0, _), (1, _), (4, _), (15, _), (17, _), (18, _)]) ⟨rfl, rfl, rfl, rfl, rfl, rfl, trivial⟩ ?_
  refine LX.next ?_
  refine PX.thenN ?_
  refine CX.cond rfl (fun hb1 => ?_) (fun hb1 => ?_)
  · try simp at hb1
    first | done | (exfalso; omega) | (exfalso; simp_all; done) | (exfalso; simp_all; omega)
  · try simp at hb1
    refine CX.seq ?_
    refine CX.region ?_
    first
      | refine LX.pure (Y.assertYes Dv.nif24 rfl) rfl rfl rfl ?_
      | refine LX.pure (Y.assertNo Dv.nif24 rfl (by decide) Dv.zv24) rfl rfl rfl ?_
    refine LX.pure (Y.extract rfl rfl) rfl rfl rfl ?_
    refine LX.pure (Y.extract rfl rfl) rfl rfl rfl ?_
    refine LX.sub (l' := [(0, _), (1, _), (4, _), (15, _), (27, _), (28, _)]) ⟨rfl, rfl, rfl, rfl, rfl, rfl, trivial⟩ ?_
    refine LX.next ?_
    refine PX.thenN ?_
    refine CX.cond rfl (fun hb2 => ?_) (fun hb2 => ?_)
    · try simp at hb2
      first | done | (exfalso; omega) | (exfalso; simp_all; done) | (exfalso; simp_all; omega)
    · try simp at hb2
      refine CX.seq ?_
      refine CX.region ?_
      first
        | refine LX.pure (Y.assertYes Dv.nif77 rfl) rfl rfl rfl ?_
        | refine LX.pure (Y.assertNo Dv.nif77 rfl (by decide) Dv.zv77) rfl rfl rfl ?_
      refine LX.pure (Y.extract rfl rfl) rfl rfl rfl ?_
      refine LX.pure (Y.extract rfl rfl) rfl rfl rfl ?_
      refine LX.sub (l' := [(0, _), (1, _), (4, _), (15, _), (54, _), (55, _)]) ⟨rfl, rfl, rfl, rfl, rfl, rfl, trivial⟩ ?_
      refine LX.next ?_
      refine PX.thenN ?_
      refine CX.cond rfl (fun hb3 => ?_) (fun hb3 => ?_)
      · try simp at hb3
        refine CX.seq ?_
        refine CX.region ?_
        refine LX.pure (Y.assign rfl) rfl rfl rfl ?_
        refine LX.sub (l' := [(0, _), (1, _), (4, _), (9, _)]) ⟨rfl, rfl, rfl, rfl, trivial⟩ ?_
        refine LX.next ?_
        refine PX.thenN ?_
        refine CX.region ?_
        refine LX.pure (Y.move rfl) rfl rfl rfl ?_
        refine LX.pure (Y.nilCheck rfl) rfl rfl rfl ?_
        first
          | refine LX.pure (Y.fieldAddr0 Dv.fo80_1 rfl) rfl rfl rfl ?_
          | refine LX.pure (Y.fieldAddr Dv.fo80_1 rfl) rfl rfl rfl ?_
        refine LX.pure (Y.ldB (j1 + 1) Dv.one49 rfl hj1 rfl) rfl rfl rfl ?_
        refine LX.pure (Y.assign rfl) rfl rfl rfl ?_
        refine LX.sub (l' := [(0, _), (1, _), (4, _)]) ⟨rfl, rfl, rfl, trivial⟩ ?_
        refine LX.next ?_
        refine PX.blockN ?_
        refine PX.thenN ?_
        refine CX.seq ?_
        refine CX.seq ?_
        refine CX.region ?_
        refine LX.pure (Y.move rfl) rfl rfl rfl ?_
        refine LX.pure (Y.move rfl) rfl rfl rfl ?_
        refine LX.pure (Y.lookIf 0 Dv.un101 Dv.un31 (by kernel_rfl) rfl rfl rfl hkv hq) rfl rfl rfl ?_
        refine LX.sub (l' := [(0, _), (1, _), (4, _), (74, _)]) ⟨rfl, rfl, rfl, rfl, trivial⟩ ?_
        refine LX.next ?_
        refine PX.thenN ?_
        refine CX.cond rfl (fun hb4 => ?_) (fun hb4 => ?_)
        · try simp at hb4
          refine CX.ret ?_
          refine PX.thenR ?_
          refine PX.ret0 (by simp) Tryz.results44 ?_
          exact fun w hw => ⟨(ks, us, bs, ck), rfl, hm, hw⟩
        · try simp at hb4
          have hqn := hq.elim (fun h => h.1) (fun ⟨_, _, h⟩ => absurd h (by simp_all))
          refine CX.skip ?_
          refine PX.thenN ?_
          refine CX.seq ?_
          refine CX.region ?_
          refine LX.pure (Y.move rfl) rfl rfl rfl ?_
          refine LX.pure (Y.move rfl) rfl rfl rfl ?_
          refine LX.metPut 0 Dv.un101 Dv.un31 rfl rfl rfl rfl rfl hkv hm2 hqn rfl rfl ?_
          refine LX.sub (l' := [(1, _), (4, _)]) ⟨rfl, rfl, trivial⟩ ?_
          refine LX.next ?_
          refine PX.thenN ?_
          refine CX.seq ?_
          refine CX.region ?_
          refine LX.pure (Y.move rfl) rfl rfl rfl ?_
          refine LX.pure (Y.lenSl rfl Du.un49 rfl) rfl rfl rfl ?_
          refine LX.pure (Y.move rfl) rfl rfl rfl ?_
          refine LX.sub (l' := [(1, _), (77, _), (78, _), (79, _)]) ⟨rfl, rfl, rfl, rfl, trivial⟩ ?_
          refine LX.next ?_
          refine PX.thenN ?_
          refine CX.block ?_
          refine CX.loop (fun j : Nat => [(1, .map (some bq)), (77, rv (some gt) 2 ct), (78, .int .i64 2), (79, .int .i64 (j : Int))]) (fun (j : Nat) w => j ≤ 2 ∧ WA w0 base (metI bq (ks ++ [Value.iface 77 (.pointer (some ⟨tb, 0, none⟩))]) (us ++ [Value.bool true]) (bs ++ [ck]) (ck + 1) :: r) w) (fun j => 2 - j) 0 ⟨rfl, rfl, rfl, rfl, trivial⟩ (fun w hw => ⟨Nat.zero_le _, hw⟩) ?_
          intro j
          refine CX.have fun hj0 => ?_
          try dsimp only at hj0 ⊢
          refine CX.seq ?_
          refine CX.region ?_
          first
            | refine LX.pure (Y.ltN rfl rfl) rfl rfl rfl ?_
            | refine LX.pure (Y.ltI rfl rfl) rfl rfl rfl ?_
          refine LX.sub (l' := [(1, _), (77, _), (78, _), (79, _), (80, _)]) ⟨rfl, rfl, rfl, rfl, rfl, trivial⟩ ?_
          refine LX.next ?_
          refine PX.thenN ?_
          refine CX.seq ?_
          refine CX.cond rfl (fun hb5 => ?_) (fun hb5 => ?_)
          · try simp at hb5
            refine CX.skip ?_
            refine PX.thenN ?_
            refine CX.seq ?_
            refine CX.block ?_
            refine CX.seq ?_
            refine CX.region ?_
            refine LX.pure (Y.idxR1 (j2 + 1) Du.un49 Dq.sz31 rfl rfl hj2 (by omega)) rfl rfl rfl ?_
            refine LX.pure (Y.ldR (j2 + 1) Dq.one31 rfl hj2 (el_at (by omega))) rfl rfl rfl ?_
            refine LX.pure (Y.assign rfl) rfl rfl rfl ?_
            refine LX.sub (l' := [(1, _), (14, _), (77, _), (78, _), (79, _)]) ⟨rfl, rfl, rfl, rfl, rfl, trivial⟩ ?_
            refine LX.next ?_
            refine PX.thenN ?_
            refine CX.region ?_
            refine LX.pure (Y.move rfl) rfl rfl rfl ?_
            refine LX.pure (Y.move rfl) rfl rfl rfl ?_
            refine LX.callQ (frE_q (fun w hw => push hS hw) h1 h2 rfl (by omega)) Dv.en44 rfl rfl rfl rfl rfl ?_
            refine LX.sub (l' := [(1, _), (77, _), (78, _), (79, _)]) ⟨rfl, rfl, rfl, rfl, trivial⟩ ?_
            refine LX.next ?_
            refine PX.blockN ?_
            refine PX.thenN ?_
            refine CX.region ?_
            first
              | refine LX.pure (Y.addN rfl rfl (by first | omega | (simp only []; omega) | (simp; done) | (simp; omega))) rfl rfl rfl ?_
              | refine LX.pure (Y.add rfl rfl (by first | omega | (simp only []; omega) | (simp; done) | (simp; omega))) rfl rfl rfl ?_
            refine LX.pure (Y.move rfl) rfl rfl rfl ?_
            refine LX.sub (l' := [(1, _), (77, _), (78, _), (79, _)]) ⟨rfl, rfl, rfl, rfl, trivial⟩ ?_
            refine LX.next ?_
            exact PX.again (L := (fun j : Nat => [(1, .map (some bq)), (77, rv (some gt) 2 ct), (78, .int .i64 2), (79, .int .i64 (j : Int))])) (WW := (fun (j : Nat) w => j ≤ 2 ∧ WA w0 base (metI bq (ks ++ [Value.iface 77 (.pointer (some ⟨tb, 0, none⟩))]) (us ++ [Value.bool true]) (bs ++ [ck]) (ck + 1) :: r) w)) (μ := fun j => 2 - j) (i := j) (j + 1) (by show 2 - (j + 1) < 2 - j; omega) ⟨rfl, rfl, rfl, rfl, trivial⟩ (fun w hw => ⟨by show j + 1 ≤ 2; omega, hw⟩)
          · try simp at hb5
            refine CX.exit ?_
            refine PX.thenE ?_
            refine PX.thenE ?_
            refine PX.blockE ?_
            refine PX.ret0 (by simp) Tryz.results44 ?_
            exact fun w hw => ⟨(_, _, _, _), rfl, ⟨fun k hk => (List.mem_append.1 hk).elim (hm.keys k) (fun h => by rw [List.mem_singleton.1 h]; exact hk0), by simp [hm.l1], by simp [hm.l2], fun u hu => (List.mem_append.1 hu).elim (hm.tt u) (fun h => List.mem_singleton.1 h)⟩, hw⟩
      · try simp at hb3
        first | done | (exfalso; omega) | (exfalso; simp_all; done) | (exfalso; simp_all; omega)
end Go.Proofs.YtifanilblkellaaGreatDoor
