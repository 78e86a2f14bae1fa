/-
  Proved here: what may stand in some places.
-/
import Derived.Test.YtgijpgkckiknjaaGreatDoorTrH
namespace Go.Proofs.YtgijpgkckiknjaaGreatDoor
open Go.SX Go.RowKit Go.Tr Go.Lex
namespace Fzb
theorem en126 : Enters Tryz.prog 126 := Enters.of Tryz.func126 (by kernel_rfl) (by kernel_rfl)
theorem en162 : Enters Tryz.prog 162 := Enters.of Tryz.func162 (by kernel_rfl) (by kernel_rfl)
end Fzb
theorem places_s {w0 : World} {base : Nat} {bq : Nat} {al : Option Addr} {cl : Nat} {uv : Value} {l : List Nd} (n i : Nat) (hA : Ahead l i) (hi : i ≤ l.length) (hlb : l.length ≤ 9223372036854775807) (hd : ∀ (k : Nat) (x : Nd), l[k]? = some x → x.op = 45 → 0 < x.kids.length) (hkb : ∀ (k : Nat) (x : Nd), l[k]? = some x → x.kids.length ≤ 1048576) (hsb : ∀ (k : Nat) (x : Nd), l[k]? = some x → x.s.length ≤ 9223372036854775807) (ih : ∀ its (kz : Int) (wh df lp : Bool), 0 ≤ kz → kz < i → kz < n → FnQ Tryz.prog 126 #[.pointer (some ⟨bq, 0, none⟩), .int .i64 kz, .bool wh, .bool df, .bool lp] (WA w0 base its) (.bool (places l n kz wh df lp))) (kz : Int) (wh df lp : Bool) (h0 : 0 ≤ kz ∧ kz < l.length) (hn : kz < i ∧ kz < (n : Int) + 1) (hq : Cq w0 base bq al cl uv l ndA) : FnC Tryz.prog 126 #[.pointer (some ⟨bq, 0, none⟩), .int .i64 kz, .bool wh, .bool df, .bool lp] (WA w0 base []) (fun _ : Unit => .bool (places l (n + 1) kz wh df lp)) (fun _ => WA w0 base []) := by
  obtain ⟨k, rfl⟩ : ∃ k : Nat, kz = (k : Int) := ⟨kz.toNat, by omega⟩
  have hkl : k < l.length := by omega
  obtain ⟨x, hx⟩ : ∃ x, l[k]? = some x := ⟨_, List.getElem?_eq_getElem hkl⟩
  obtain ⟨a, cs, hav, hcl, hL, vk, rfl, hks, hin⟩ := hq.nodes k x hx
  obtain ⟨ak, ck, rfl, ⟨hkn, hkc⟩, hka⟩ := hks.sl
  have hAk := hA k x (by omega) hx
  refine FnC.of_body (fn := Tryz.f126) [(0, _), (1, _), (2, _), (3, _), (4, _)] Tryz.func126 rfl Tryz.ntmps126 rfl ⟨rfl, rfl, rfl, rfl, rfl, trivial⟩ ?_
  refine CX.seq ?_
  refine CX.region ?_
  refine LX.pure (Y.assign rfl) rfl rfl rfl ?_
  refine LX.sub (l' := [(0, _), (1, _), (2, _), (3, _), (4, _), (10, _)]) ⟨rfl, rfl, rfl, rfl, rfl, rfl, trivial⟩ ?_
  refine LX.next ?_
  refine PX.thenN ?_
  refine CX.seq ?_
  refine CX.region ?_
  refine LX.pure (Y.move rfl) rfl rfl rfl ?_
  refine LX.pure (Y.nilCheck rfl) rfl rfl rfl ?_
  refine LX.pure (Y.fieldAddr0 Ft.fo208_0 rfl) rfl rfl rfl ?_
  refine LX.pure (Y.ldB0 Ft.one22 rfl hq.blk rfl) rfl rfl rfl ?_
  refine LX.pure (Y.move rfl) rfl rfl rfl ?_
  refine LX.pure (Y.idxZ Ft.un22 Ft.sz44 rfl rfl hav (j := k) rfl hkl) rfl rfl rfl ?_
  refine LX.pure (Y.ldAO (cs := [.int .i64 x.op, .int .i64 x.n, .int .i64 x.pos, str x.s, .slice ak x.kids.length ck]) Ft.ag44 rfl hL rfl) rfl rfl rfl ?_
  refine LX.alloc rfl Fu.zv44 rfl rfl rfl ?_
  intro bt
  refine LX.storeA 0 Ft.ag44 rfl rfl rfl rfl rfl rfl rfl rfl rfl ?_
  refine LX.sub (l' := [(0, _), (1, _), (2, _), (3, _), (4, _), (10, _), (11, _)]) ⟨rfl, rfl, rfl, rfl, rfl, rfl, rfl, trivial⟩ ?_
  refine LX.next ?_
  refine PX.thenN ?_
  refine CX.seq ?_
  refine CX.seq ?_
  refine CX.region ?_
  refine LX.pure (Y.fieldAddr0 Ft.fo44_0 rfl) rfl rfl rfl ?_
  refine LX.pure (Y.ldB 0 Ft.one3 rfl rfl rfl) rfl rfl rfl ?_
  refine LX.sub (l' := [(0, _), (1, _), (2, _), (3, _), (4, _), (10, _), (11, _), (23, _)]) ⟨rfl, rfl, rfl, rfl, rfl, rfl, rfl, rfl, trivial⟩ ?_
  refine LX.next ?_
  refine PX.thenN ?_
  refine CX.block ?_
  refine CX.sub (l' := [(0, _), (1, _), (2, _), (3, _), (4, _), (10, _), (11, _), (23, _)]) ⟨rfl, rfl, rfl, rfl, rfl, rfl, rfl, rfl, trivial⟩ ?_
  apply CX.seqSw 24
  ·
    refine CX.seq ?_
    refine CX.region ?_
    refine LX.pure (Y.eqI rfl rfl) rfl rfl rfl ?_
    refine LX.pure (Y.assign rfl) rfl rfl rfl ?_
    refine LX.next ?_
    refine PX.thenN ?_
    apply CX.swOr
    · rfl
    · exact ⟨rfl, rfl, rfl, rfl, rfl, rfl, rfl, rfl, rfl, trivial⟩
    intro hb1
    try simp at hb1
    refine CX.region ?_
    refine LX.pure (Y.eqI rfl rfl) rfl rfl rfl ?_
    refine LX.pure (Y.assign rfl) rfl rfl rfl ?_
    refine LX.next ?_
    exact PX.sw ⟨rfl, rfl, rfl, rfl, rfl, rfl, rfl, rfl, rfl, trivial⟩
  refine CX.cond rfl (fun hb2 => ?_) (fun hb2 => ?_)
  · try simp at hb2
    refine CX.seq ?_
    refine CX.region ?_
    refine LX.pure (Y.move rfl) rfl rfl rfl ?_
    refine LX.pure (Y.assign rfl) rfl rfl rfl ?_
    refine LX.sub (l' := [(10, _)]) ⟨rfl, trivial⟩ ?_
    refine LX.next ?_
    refine PX.thenN ?_
    refine CX.ret ?_
    refine PX.blockR ?_
    refine PX.thenR ?_
    refine PX.ret1 (by simp) Tryz.results126 rfl ?_
    exact fun w hw => ⟨(), congrArg (fun z => Ending.returned (Value.bool z)) (by
      rw [places_1 hx]
      repeat (rw [if_pos (by omega)])
      try rfl), hw.drop (List.sublist_cons_self _ _)⟩
  · try simp at hb2
    refine CX.seq ?_
    refine CX.region ?_
    refine LX.pure (Y.eqI rfl rfl) rfl rfl rfl ?_
    refine LX.pure (Y.assign rfl) rfl rfl rfl ?_
    refine LX.sub (l' := [(0, _), (1, _), (2, _), (3, _), (4, _), (10, _), (11, _), (23, _), (28, _)]) ⟨rfl, rfl, rfl, rfl, rfl, rfl, rfl, rfl, rfl, trivial⟩ ?_
    refine LX.next ?_
    refine PX.thenN ?_
    refine CX.cond rfl (fun hb3 => ?_) (fun hb3 => ?_)
    · try simp at hb3
      refine CX.seq ?_
      refine CX.region ?_
      refine LX.pure (Y.move rfl) rfl rfl rfl ?_
      refine LX.pure (Y.assign rfl) rfl rfl rfl ?_
      refine LX.sub (l' := [(10, _)]) ⟨rfl, trivial⟩ ?_
      refine LX.next ?_
      refine PX.thenN ?_
      refine CX.ret ?_
      refine PX.blockR ?_
      refine PX.thenR ?_
      refine PX.ret1 (by simp) Tryz.results126 rfl ?_
      exact fun w hw => ⟨(), congrArg (fun z => Ending.returned (Value.bool z)) (by
        rw [places_1 hx]
        repeat (first | rw [if_pos (by omega)] | rw [if_neg (by omega)])
        try rfl), hw.drop (List.sublist_cons_self _ _)⟩
    · try simp at hb3
      refine CX.seq ?_
      refine CX.region ?_
      refine LX.pure (Y.eqI rfl rfl) rfl rfl rfl ?_
      refine LX.pure (Y.assign rfl) rfl rfl rfl ?_
      refine LX.sub (l' := [(0, _), (1, _), (2, _), (3, _), (4, _), (10, _), (11, _), (23, _), (31, _)]) ⟨rfl, rfl, rfl, rfl, rfl, rfl, rfl, rfl, rfl, trivial⟩ ?_
      refine LX.next ?_
      refine PX.thenN ?_
      refine CX.cond rfl (fun hb4 => ?_) (fun hb4 => ?_)
      · try simp at hb4
        refine CX.seq ?_
        refine CX.region ?_
        refine LX.pure (Y.move rfl) rfl rfl rfl ?_
        refine LX.pure (Y.assign rfl) rfl rfl rfl ?_
        refine LX.sub (l' := [(10, _)]) ⟨rfl, trivial⟩ ?_
        refine LX.next ?_
        refine PX.thenN ?_
        refine CX.ret ?_
        refine PX.blockR ?_
        refine PX.thenR ?_
        refine PX.ret1 (by simp) Tryz.results126 rfl ?_
        exact fun w hw => ⟨(), congrArg (fun z => Ending.returned (Value.bool z)) (by
          rw [places_1 hx]
          repeat (first | rw [if_pos (by omega)] | rw [if_neg (by omega)])
          try rfl), hw.drop (List.sublist_cons_self _ _)⟩
      · try simp at hb4
        refine CX.sub (l' := [(0, _), (1, _), (2, _), (3, _), (4, _), (10, _), (11, _), (23, _)]) ⟨rfl, rfl, rfl, rfl, rfl, rfl, rfl, rfl, trivial⟩ ?_
        apply CX.seqSw 34
        ·
          refine CX.seq ?_
          refine CX.region ?_
          refine LX.pure (Y.eqI rfl rfl) rfl rfl rfl ?_
          refine LX.pure (Y.assign rfl) rfl rfl rfl ?_
          refine LX.next ?_
          refine PX.thenN ?_
          apply CX.swOr
          · rfl
          · exact ⟨rfl, rfl, rfl, rfl, rfl, rfl, rfl, rfl, rfl, trivial⟩
          intro hb5
          try simp at hb5
          refine CX.seq ?_
          refine CX.region ?_
          refine LX.pure (Y.eqI rfl rfl) rfl rfl rfl ?_
          refine LX.pure (Y.assign rfl) rfl rfl rfl ?_
          refine LX.next ?_
          refine PX.thenN ?_
          apply CX.swOr
          · rfl
          · exact ⟨rfl, rfl, rfl, rfl, rfl, rfl, rfl, rfl, rfl, trivial⟩
          intro hb6
          try simp at hb6
          refine CX.region ?_
          refine LX.pure (Y.eqI rfl rfl) rfl rfl rfl ?_
          refine LX.pure (Y.assign rfl) rfl rfl rfl ?_
          refine LX.next ?_
          exact PX.sw ⟨rfl, rfl, rfl, rfl, rfl, rfl, rfl, rfl, rfl, trivial⟩
        refine CX.cond rfl (fun hb7 => ?_) (fun hb7 => ?_)
        · try simp at hb7
          refine CX.seq ?_
          refine CX.region ?_
          refine LX.pure (Y.fieldAddr0 Fu.fo44_4 rfl) rfl rfl rfl ?_
          refine LX.pure (Y.ldB 0 Fu.one42 rfl rfl rfl) rfl rfl rfl ?_
          refine LX.pure (Y.lenSl rfl Ft.un42 rfl) rfl rfl rfl ?_
          refine LX.pure (Y.move rfl) rfl rfl rfl ?_
          refine LX.sub (l' := [(0, _), (1, _), (2, _), (3, _), (4, _), (10, _), (11, _), (39, _), (40, _), (41, _)]) ⟨rfl, rfl, rfl, rfl, rfl, rfl, rfl, rfl, rfl, rfl, trivial⟩ ?_
          refine LX.next ?_
          refine PX.thenN ?_
          refine CX.block ?_
          refine CX.loop (fun j : Nat => [(0, .pointer (some ⟨bq, 0, none⟩)), (1, .int .i64 (k : Int)), (2, .bool wh), (3, .bool df), (4, .bool lp), (11, .pointer (some ⟨bt, 0, none⟩)), (39, .slice ak x.kids.length ck), (40, .int .i64 (x.kids.length : Int)), (41, .int .i64 (j : Int))]) (fun (j : Nat) w => (j ≤ x.kids.length ∧ (x.kids.drop j).all (fun q => places l n q (wh && decide ((k : Int) = (l.length : Int) - 1)) df (lp || decide (x.op = 44))) = x.kids.all (fun q => places l n q (wh && decide ((k : Int) = (l.length : Int) - 1)) df (lp || decide (x.op = 44)))) ∧ WA w0 base [blk bt [.int .i64 x.op, .int .i64 x.n, .int .i64 x.pos, str x.s, .slice ak x.kids.length ck] 44] w) (fun j => x.kids.length - j) 0 ⟨rfl, rfl, rfl, rfl, rfl, rfl, rfl, rfl, rfl, trivial⟩ (fun w hw => ⟨⟨Nat.zero_le _, rfl⟩, hw⟩) ?_
          intro j
          refine CX.have fun ⟨hj0, hall⟩ => ?_
          try dsimp only at hj0 hall ⊢
          refine CX.seq ?_
          refine CX.region ?_
          refine LX.pure (Y.ltN rfl rfl) rfl rfl rfl ?_
          refine LX.sub (l' := [(0, _), (1, _), (2, _), (3, _), (4, _), (11, _), (39, _), (40, _), (41, _), (42, _)]) ⟨rfl, rfl, rfl, rfl, rfl, rfl, rfl, rfl, rfl, rfl, trivial⟩ ?_
          refine LX.next ?_
          refine PX.thenN ?_
          refine CX.seq ?_
          refine CX.cond rfl (fun hb8 => ?_) (fun hb8 => ?_)
          · try simp at hb8
            have hj : j < x.kids.length := by omega
            obtain ⟨a0, hav0, hL0, hin0⟩ := hka.int_at hj
            have hrj := hAk _ (getD_mem hj)
            generalize hkj : x.kids.getD j 0 = kj at hL0 hin0 hrj
            refine CX.skip ?_
            refine PX.thenN ?_
            refine CX.seq ?_
            refine CX.block ?_
            refine CX.seq ?_
            refine CX.region ?_
            refine LX.pure (Y.idxZ Ft.un42 Ft.sz3 rfl rfl hav0 (j := j) rfl hj) rfl rfl rfl ?_
            refine LX.pure (Y.ldO1 Ft.one3 rfl hL0) rfl rfl rfl ?_
            refine LX.pure (Y.assign rfl) rfl rfl rfl ?_
            refine LX.sub (l' := [(0, _), (1, _), (2, _), (3, _), (4, _), (11, _), (13, _), (39, _), (40, _), (41, _)]) ⟨rfl, rfl, rfl, rfl, rfl, rfl, rfl, rfl, rfl, rfl, trivial⟩ ?_
            refine LX.next ?_
            refine PX.thenN ?_
            refine CX.seq ?_
            refine CX.region ?_
            refine LX.pure (Y.move rfl) rfl rfl rfl ?_
            refine LX.pure (Y.move rfl) rfl rfl rfl ?_
            refine LX.sub (l' := [(0, _), (1, _), (2, _), (3, _), (4, _), (11, _), (13, _), (39, _), (40, _), (41, _), (46, _)]) ⟨rfl, rfl, rfl, rfl, rfl, rfl, rfl, rfl, rfl, rfl, rfl, trivial⟩ ?_
            apply LX.joinAnd 9 55 46 rfl
            · intro hb9
              have hb9p := hb9
              try simp at hb9p
              refine LX.gT rfl rfl rfl hb9 (Y.move rfl) rfl rfl ?_
              refine LX.gT rfl rfl rfl hb9 (Y.move rfl) rfl rfl ?_
              refine LX.gT rfl rfl rfl hb9 (Y.nilCheck rfl) rfl rfl ?_
              refine LX.gT rfl rfl rfl hb9 (Y.fieldAddr0 Ft.fo208_0 rfl) rfl rfl ?_
              refine LX.gT rfl rfl rfl hb9 (Y.ldB0 Ft.one22 rfl hq.blk rfl) rfl rfl ?_
              refine LX.gT rfl rfl rfl hb9 (Y.lenSl rfl Ft.un22 rfl) rfl rfl ?_
              refine LX.gT rfl rfl rfl hb9 (Y.sub rfl rfl (by omega)) rfl rfl ?_
              refine LX.gT rfl rfl rfl hb9 (Y.eqI rfl rfl) rfl rfl ?_
              refine LX.pure (Y.pickT rfl hb9 rfl) rfl rfl rfl ?_
              exact LX.left ⟨rfl, rfl, rfl, rfl, rfl, rfl, rfl, rfl, rfl, rfl, rfl, rfl, trivial⟩
            · intro hb9
              have hb9p := hb9
              try simp at hb9p
              refine LX.gF rfl rfl rfl hb9 rfl rfl ?_
              refine LX.gF rfl rfl rfl hb9 rfl rfl ?_
              refine LX.gF rfl rfl rfl hb9 rfl rfl ?_
              refine LX.gF rfl rfl rfl hb9 rfl rfl ?_
              refine LX.gF rfl rfl rfl hb9 rfl rfl ?_
              refine LX.gF rfl rfl rfl hb9 rfl rfl ?_
              refine LX.gF rfl rfl rfl hb9 rfl rfl ?_
              refine LX.gF rfl rfl rfl hb9 rfl rfl ?_
              refine LX.pure (Y.pickF rfl hb9 rfl) rfl rfl rfl ?_
              exact LX.left ⟨rfl, rfl, rfl, rfl, rfl, rfl, rfl, rfl, rfl, rfl, rfl, rfl, trivial⟩
            refine LX.pure (Y.assign rfl) rfl rfl rfl ?_
            refine LX.sub (l' := [(0, _), (1, _), (2, _), (3, _), (4, _), (11, _), (13, _), (14, _), (39, _), (40, _), (41, _)]) ⟨rfl, rfl, rfl, rfl, rfl, rfl, rfl, rfl, rfl, rfl, rfl, trivial⟩ ?_
            refine LX.next ?_
            refine PX.thenN ?_
            refine CX.seq ?_
            refine CX.region ?_
            refine LX.pure (Y.move rfl) rfl rfl rfl ?_
            refine LX.pure (Y.move rfl) rfl rfl rfl ?_
            refine LX.pure (Y.move rfl) rfl rfl rfl ?_
            refine LX.pure (Y.move rfl) rfl rfl rfl ?_
            refine LX.pure (Y.move rfl) rfl rfl rfl ?_
            refine LX.pure (Y.move rfl) rfl rfl rfl ?_
            refine LX.sub (l' := [(0, _), (1, _), (2, _), (3, _), (4, _), (11, _), (39, _), (40, _), (41, _), (56, _), (57, _), (58, _), (59, _), (61, _)]) ⟨rfl, rfl, rfl, rfl, rfl, rfl, rfl, rfl, rfl, rfl, rfl, rfl, rfl, rfl, trivial⟩ ?_
            apply LX.joinOr 4 65 61 rfl
            · intro hb10
              have hb10p := hb10
              try simp at hb10p
              refine LX.gF rfl rfl rfl hb10 rfl rfl ?_
              refine LX.gF rfl rfl rfl hb10 rfl rfl ?_
              refine LX.gF rfl rfl rfl hb10 rfl rfl ?_
              refine LX.pure (Y.pickT rfl hb10 rfl) rfl rfl rfl ?_
              exact LX.left ⟨rfl, rfl, rfl, rfl, rfl, rfl, rfl, rfl, rfl, rfl, rfl, rfl, rfl, rfl, rfl, trivial⟩
            · intro hb10
              have hb10p := hb10
              try simp at hb10p
              refine LX.gT rfl rfl rfl hb10 (Y.fieldAddr0 Ft.fo44_0 rfl) rfl rfl ?_
              refine LX.gT rfl rfl rfl hb10 (Y.ldB 0 Ft.one3 rfl rfl rfl) rfl rfl ?_
              refine LX.gT rfl rfl rfl hb10 (Y.eqI rfl rfl) rfl rfl ?_
              refine LX.pure (Y.pickF rfl hb10 rfl) rfl rfl rfl ?_
              exact LX.left ⟨rfl, rfl, rfl, rfl, rfl, rfl, rfl, rfl, rfl, rfl, rfl, rfl, rfl, rfl, rfl, trivial⟩
            refine LX.callQ (ih _ _ _ _ _ (by omega) (by omega) (by omega)) Fzb.en126 rfl rfl rfl rfl rfl ?_
            refine LX.pure (Y.not rfl) rfl rfl rfl ?_
            refine LX.sub (l' := [(0, _), (1, _), (2, _), (3, _), (4, _), (11, _), (39, _), (40, _), (41, _), (67, _)]) ⟨rfl, rfl, rfl, rfl, rfl, rfl, rfl, rfl, rfl, rfl, trivial⟩ ?_
            refine LX.next ?_
            refine PX.thenN ?_
            refine CX.cond rfl (fun hb11 => ?_) (fun hb11 => ?_)
            · try simp at hb11
              have hpl : places l n (x.kids.getD j 0) (wh && decide ((k : Int) = (l.length : Int) - 1)) df (lp || decide (x.op = 44)) = false := by rw [hkj]; exact hb11
              refine CX.seq ?_
              refine CX.region ?_
              refine LX.pure (Y.assign rfl) rfl rfl rfl ?_
              refine LX.sub (l' := [(0, _), (1, _), (2, _), (3, _), (4, _), (10, _), (11, _), (39, _), (40, _), (41, _)]) ⟨rfl, rfl, rfl, rfl, rfl, rfl, rfl, rfl, rfl, rfl, trivial⟩ ?_
              refine LX.next ?_
              refine PX.thenN ?_
              refine CX.ret ?_
              refine PX.blockR ?_
              refine PX.thenR ?_
              refine PX.thenR ?_
              refine PX.blockR ?_
              refine PX.blockR ?_
              refine PX.thenR ?_
              refine PX.ret1 (by simp) Tryz.results126 rfl ?_
              exact fun w hw => ⟨(), congrArg (fun z => Ending.returned (Value.bool z)) (by
                rw [places_1 hx]
                repeat (first | rw [if_pos (by omega)] | rw [if_neg (by omega)])
                rw [← hall, all_drop hj, hpl]; rfl), hw.drop (List.sublist_cons_self _ _)⟩
            · try simp at hb11
              have hpl : places l n (x.kids.getD j 0) (wh && decide ((k : Int) = (l.length : Int) - 1)) df (lp || decide (x.op = 44)) = true := by rw [hkj]; exact hb11
              refine CX.skip ?_
              refine PX.blockN ?_
              refine PX.thenN ?_
              refine CX.region ?_
              refine LX.pure (Y.addN rfl rfl (by (simp only []; omega))) rfl rfl rfl ?_
              refine LX.pure (Y.move rfl) rfl rfl rfl ?_
              refine LX.sub (l' := [(0, _), (1, _), (2, _), (3, _), (4, _), (11, _), (39, _), (40, _), (41, _)]) ⟨rfl, rfl, rfl, rfl, rfl, rfl, rfl, rfl, rfl, trivial⟩ ?_
              refine LX.next ?_
              exact PX.again (L := (fun j : Nat => [(0, .pointer (some ⟨bq, 0, none⟩)), (1, .int .i64 (k : Int)), (2, .bool wh), (3, .bool df), (4, .bool lp), (11, .pointer (some ⟨bt, 0, none⟩)), (39, .slice ak x.kids.length ck), (40, .int .i64 (x.kids.length : Int)), (41, .int .i64 (j : Int))])) (WW := (fun (j : Nat) w => (j ≤ x.kids.length ∧ (x.kids.drop j).all (fun q => places l n q (wh && decide ((k : Int) = (l.length : Int) - 1)) df (lp || decide (x.op = 44))) = x.kids.all (fun q => places l n q (wh && decide ((k : Int) = (l.length : Int) - 1)) df (lp || decide (x.op = 44)))) ∧ WA w0 base [blk bt [.int .i64 x.op, .int .i64 x.n, .int .i64 x.pos, str x.s, .slice ak x.kids.length ck] 44] w)) (μ := fun j => x.kids.length - j) (i := j) (j + 1) (by show x.kids.length - (j + 1) < x.kids.length - j; omega) ⟨rfl, rfl, rfl, rfl, rfl, rfl, rfl, rfl, rfl, trivial⟩ (fun w hw => ⟨⟨by omega, by rw [← hall, all_drop hj, hpl]; rfl⟩, hw⟩)
          · try simp at hb8
            have hje : j = x.kids.length := by omega
            refine CX.exit ?_
            refine PX.thenE ?_
            refine PX.thenE ?_
            refine PX.blockE ?_
            refine PX.blockN ?_
            refine PX.thenN ?_
            refine CX.seq ?_
            refine CX.region ?_
            refine LX.pure (Y.assign rfl) rfl rfl rfl ?_
            refine LX.sub (l' := [(10, _)]) ⟨rfl, trivial⟩ ?_
            refine LX.next ?_
            refine PX.thenN ?_
            refine CX.ret ?_
            refine PX.ret1 (by simp) Tryz.results126 rfl ?_
            exact fun w hw => ⟨(), congrArg (fun z => Ending.returned (Value.bool z)) (by
              rw [places_1 hx]
              repeat (first | rw [if_pos (by omega)] | rw [if_neg (by omega)])
              rw [← hall, drop_end hje]; rfl), hw.drop (List.sublist_cons_self _ _)⟩
        · try simp at hb7
          refine CX.seq ?_
          refine CX.region ?_
          refine LX.pure (Y.eqI rfl rfl) rfl rfl rfl ?_
          refine LX.pure (Y.assign rfl) rfl rfl rfl ?_
          refine LX.sub (l' := [(0, _), (2, _), (10, _), (11, _), (69, _)]) ⟨rfl, rfl, rfl, rfl, rfl, trivial⟩ ?_
          refine LX.next ?_
          refine PX.thenN ?_
          refine CX.cond rfl (fun hb12 => ?_) (fun hb12 => ?_)
          · try simp at hb12
            refine CX.seq ?_
            refine CX.region ?_
            refine LX.pure (Y.move rfl) rfl rfl rfl ?_
            refine LX.pure (Y.move rfl) rfl rfl rfl ?_
            refine LX.sub (l' := [(0, _), (10, _), (11, _), (72, _)]) ⟨rfl, rfl, rfl, rfl, trivial⟩ ?_
            apply LX.joinAnd 10 82 72 rfl
            · intro hb13
              have hb13p := hb13
              try simp at hb13p
              refine LX.gT rfl rfl rfl hb13 (Y.move rfl) rfl rfl ?_
              refine LX.gT rfl rfl rfl hb13 (Y.fieldAddr0 Fu.fo44_4 rfl) rfl rfl ?_
              refine LX.gT rfl rfl rfl hb13 (Y.ldB 0 Fu.one42 rfl rfl rfl) rfl rfl ?_
              refine LX.gT rfl rfl rfl hb13 (Y.fieldAddr0 Fu.fo44_4 rfl) rfl rfl ?_
              refine LX.gT rfl rfl rfl hb13 (Y.ldB 0 Fu.one42 rfl rfl rfl) rfl rfl ?_
              refine LX.gT rfl rfl rfl hb13 (Y.lenSl rfl Ft.un42 rfl) rfl rfl ?_
              have hd0 := hd k x hx (by omega)
              refine LX.gT rfl rfl rfl hb13 (Y.subN rfl rfl (by (simp only []; omega)) (by omega)) rfl rfl ?_
              refine LX.gT rfl rfl rfl hb13 (Y.cutHiT (b := x.kids.length - 1) (m := (x.kids.take (x.kids.length - 1)).length) Ft.un42 Ft.sz3 rfl rfl (by omega) (by rw [List.length_take]; omega)) rfl rfl ?_
              refine LX.callQT rfl rfl rfl hb13 (params_q i hi ck (ks := x.kids.take (x.kids.length - 1)) (by rw [List.length_take]; omega) (fun q hq2 => by have := hAk q (List.mem_of_mem_take hq2); omega) (by rw [List.length_take]; have := hkb k x hx; omega) hsb (fun w hw => hq.push hw) (fun w hw => (hka.take (x.kids.length - 1)).push hw)) Fzb.en162 rfl rfl rfl rfl ?_
              refine LX.pure (Y.pickT rfl hb13 rfl) rfl rfl rfl ?_
              exact LX.left ⟨rfl, rfl, rfl, rfl, rfl, trivial⟩
            · intro hb13
              have hb13p := hb13
              try simp at hb13p
              refine LX.gF rfl rfl rfl hb13 rfl rfl ?_
              refine LX.gF rfl rfl rfl hb13 rfl rfl ?_
              refine LX.gF rfl rfl rfl hb13 rfl rfl ?_
              refine LX.gF rfl rfl rfl hb13 rfl rfl ?_
              refine LX.gF rfl rfl rfl hb13 rfl rfl ?_
              refine LX.gF rfl rfl rfl hb13 rfl rfl ?_
              refine LX.gF rfl rfl rfl hb13 rfl rfl ?_
              refine LX.gF rfl rfl rfl hb13 rfl rfl ?_
              refine LX.gF rfl rfl rfl hb13 rfl rfl ?_
              refine LX.pure (Y.pickF rfl hb13 rfl) rfl rfl rfl ?_
              exact LX.left ⟨rfl, rfl, rfl, rfl, rfl, trivial⟩
            refine LX.pure (Y.move rfl) rfl rfl rfl ?_
            refine LX.sub (l' := [(0, _), (10, _), (11, _), (83, _)]) ⟨rfl, rfl, rfl, rfl, trivial⟩ ?_
            apply LX.joinAnd 11 94 83 rfl
            · intro hb14
              have hb14p := hb14
              try simp at hb14p
              refine LX.gT rfl rfl rfl hb14 (Y.move rfl) rfl rfl ?_
              refine LX.gT rfl rfl rfl hb14 (Y.fieldAddr0 Fu.fo44_4 rfl) rfl rfl ?_
              refine LX.gT rfl rfl rfl hb14 (Y.ldB 0 Fu.one42 rfl rfl rfl) rfl rfl ?_
              refine LX.gT rfl rfl rfl hb14 (Y.fieldAddr0 Fu.fo44_4 rfl) rfl rfl ?_
              refine LX.gT rfl rfl rfl hb14 (Y.ldB 0 Fu.one42 rfl rfl rfl) rfl rfl ?_
              refine LX.gT rfl rfl rfl hb14 (Y.lenSl rfl Ft.un42 rfl) rfl rfl ?_
              have hd0 := hd k x hx (by omega)
              obtain ⟨a0, hav0, hL0, _⟩ := hka.int_at (j := x.kids.length - 1) (by omega)
              have hr0 := hAk _ (getD_mem (j := x.kids.length - 1) (by omega))
              refine LX.gT rfl rfl rfl hb14 (Y.subN rfl rfl (by (simp only []; omega)) (by omega)) rfl rfl ?_
              refine LX.gT rfl rfl rfl hb14 (Y.idxZ Ft.un42 Ft.sz3 rfl rfl hav0 (j := x.kids.length - 1) rfl (by omega)) rfl rfl ?_
              refine LX.gT rfl rfl rfl hb14 (Y.ldO1 (v := .int .i64 (x.kids.getD (x.kids.length - 1) 0)) Ft.one3 rfl hL0) rfl rfl ?_
              refine LX.callQT rfl rfl rfl hb14 (ih _ _ false true false (by omega) (by omega) (by omega)) Fzb.en126 rfl rfl rfl rfl ?_
              refine LX.pure (Y.pickT rfl hb14 rfl) rfl rfl rfl ?_
              exact LX.left ⟨rfl, rfl, rfl, rfl, rfl, trivial⟩
            · intro hb14
              have hb14p := hb14
              try simp at hb14p
              refine LX.gF rfl rfl rfl hb14 rfl rfl ?_
              refine LX.gF rfl rfl rfl hb14 rfl rfl ?_
              refine LX.gF rfl rfl rfl hb14 rfl rfl ?_
              refine LX.gF rfl rfl rfl hb14 rfl rfl ?_
              refine LX.gF rfl rfl rfl hb14 rfl rfl ?_
              refine LX.gF rfl rfl rfl hb14 rfl rfl ?_
              refine LX.gF rfl rfl rfl hb14 rfl rfl ?_
              refine LX.gF rfl rfl rfl hb14 rfl rfl ?_
              refine LX.gF rfl rfl rfl hb14 rfl rfl ?_
              refine LX.gF rfl rfl rfl hb14 rfl rfl ?_
              refine LX.pure (Y.pickF rfl hb14 rfl) rfl rfl rfl ?_
              exact LX.left ⟨rfl, rfl, rfl, rfl, rfl, trivial⟩
            refine LX.pure (Y.assign rfl) rfl rfl rfl ?_
            refine LX.sub (l' := [(10, _)]) ⟨rfl, trivial⟩ ?_
            refine LX.next ?_
            refine PX.thenN ?_
            refine CX.ret ?_
            refine PX.blockR ?_
            refine PX.thenR ?_
            refine PX.ret1 (by simp) Tryz.results126 rfl ?_
            exact fun w hw => ⟨(), congrArg (fun z => Ending.returned (Value.bool z)) (by
              rw [places_1 hx]
              repeat (first | rw [if_pos (by omega)] | rw [if_neg (by omega)])
              try rfl), hw.drop (List.sublist_cons_self _ _)⟩
          · try simp at hb12
            refine CX.skip ?_
            refine PX.blockN ?_
            refine PX.thenN ?_
            refine CX.seq ?_
            refine CX.region ?_
            refine LX.pure (Y.assign rfl) rfl rfl rfl ?_
            refine LX.sub (l' := [(10, _)]) ⟨rfl, trivial⟩ ?_
            refine LX.next ?_
            refine PX.thenN ?_
            refine CX.ret ?_
            refine PX.ret1 (by simp) Tryz.results126 rfl ?_
            exact fun w hw => ⟨(), congrArg (fun z => Ending.returned (Value.bool z)) (by
              rw [places_1 hx]
              repeat (rw [if_neg (by omega)])
              try rfl), hw.drop (List.sublist_cons_self _ _)⟩
theorem places_q {bq : Nat} {al : Option Addr} {cl : Nat} {uv : Value} {l : List Nd} (i : Nat) (hA : Ahead l i) (hi : i ≤ l.length) (hlb : l.length ≤ 9223372036854775807) (hd : ∀ (k : Nat) (x : Nd), l[k]? = some x → x.op = 45 → 0 < x.kids.length) (hkb : ∀ (k : Nat) (x : Nd), l[k]? = some x → x.kids.length ≤ 1048576) (hsb : ∀ (k : Nat) (x : Nd), l[k]? = some x → x.s.length ≤ 9223372036854775807) : ∀ (n : Nat) {W : World → Prop} [Stab W] (kz : Int) (wh df lp : Bool) (_h0 : 0 ≤ kz) (_h1 : kz < i) (_h2 : kz < n) (_hq : ∀ w, W w → Cq w w.heap.size bq al cl uv l ndA), FnQ Tryz.prog 126 #[.pointer (some ⟨bq, 0, none⟩), .int .i64 kz, .bool wh, .bool df, .bool lp] W (.bool (places l n kz wh df lp))
  | 0, _, _, kz, _, _, _, h0, _, h2, _ => absurd h2 (by omega)
  | n + 1, W, _, kz, wh, df, lp, h0, h1, h2, hq => FnC.quiet fun w hw => places_s n i hA hi hlb hd hkb hsb (fun its kj wh2 df2 lp2 hj0 hlt hjn => places_q i hA hi hlb hd hkb hsb n kj wh2 df2 lp2 hj0 hlt hjn (fun w' hw' => (hq w hw).push hw')) kz wh df lp ⟨h0, by omega⟩ ⟨h1, by omega⟩ (hq w hw)
end Go.Proofs.YtgijpgkckiknjaaGreatDoor
