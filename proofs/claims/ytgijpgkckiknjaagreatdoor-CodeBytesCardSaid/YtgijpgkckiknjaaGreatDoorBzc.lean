/-
  Proved here: the statement, behind its first().
-/
import Derived.Test.YtgijpgkckiknjaaGreatDoorBzb
namespace Go.Proofs.YtgijpgkckiknjaaGreatDoor
open Go.SX Go.RowKit Go.Ck Go.Lex Go.By
namespace Hz

end Hz
open Go.Proofs.YtgijpgkckiknjaaGreatDoor.Env (EnvS errV sentG)
open Go.Tr (ndA)
theorem ck_nilX {M : Rd} (X : Cx) : CkAt M X ⟨[], [], [], []⟩ ⟨[], 0, 0, 0, [], []⟩ := ⟨fun i x h => (by cases h), fun i x h => (by cases h), fun i x h => (by cases h), fun i x h => (by cases h), fun i x h => (by cases h), fun i x h => (by cases h), ⟨inI0, inI0, inI0⟩⟩
theorem mid_nil : midB ⟨[], [], [], []⟩ := ⟨⟨by decide, ⟨by decide, fun x h => (by cases h)⟩, ⟨by decide, fun x h => (by cases h)⟩, by decide, fun x h => (by cases h)⟩, fun x h => (by cases h)⟩
theorem len_nil : (pgB ⟨[], [], [], []⟩).length ≤ 100000000 := by
  have h : lightB ⟨[], [], [], []⟩ := ⟨⟨by decide, ⟨by decide, fun x h => (by cases h)⟩, ⟨by decide, fun x h => (by cases h)⟩, by decide, fun x h => (by cases h)⟩, fun x h => (by cases h)⟩
  exact light_len h ⟨fun x h => (by cases h), fun x h => (by cases h)⟩
theorem law_err {w0 : World} {base : Nat} {fr : List It} {aE : Nat → Addr} (hS : EnvS w0 base aE) {X : Cx} {p : Pg} (hX : CkAt (Lies w0 base) X p ⟨[], 0, 0, 0, [], []⟩) {ab : Option Addr} {cb : Nat} {b : List UInt8} (hb : SlAt 1 byteA (Lies w0 base) ab b) (hcb : b.length ≤ cb) (hFst : ∀ its, FnQ Tryz.prog 9 #[] (WA w0 base its) (.bool true)) {k pl : Nat} (hr : rPg b = .error (k, pl)) (hk : k < 17) : FnC Tryz.prog 8 #[.agg (X.pcs p).toArray, .slice ab b.length cb] (WA w0 base fr) (fun _ : Unit => .bool true) (fun _ => WA w0 base fr) := by
  refine FnC.of_body (fn := Tryz.f8) [(0, _), (1, _)] Tryz.func8 rfl Tryz.ntmps8 rfl ⟨rfl, rfl, trivial⟩ ?_
  refine CX.seq ?_
  refine CX.region ?_
  refine LX.box rfl rfl rfl rfl rfl ?_
  intro b2
  refine LX.pure (Y.assign rfl) rfl rfl rfl ?_
  refine LX.sub (l' := [(1, _), (2, _), (4, _)]) ⟨rfl, rfl, rfl, trivial⟩ ?_
  refine LX.next ?_
  refine PX.thenN ?_
  refine CX.seq ?_
  refine CX.region ?_
  refine LX.callQ (hFst _) Hy.en9 rfl rfl rfl rfl rfl ?_
  refine LX.pure (Y.assign rfl) rfl rfl rfl ?_
  refine LX.sub (l' := [(1, _), (2, _), (4, _), (5, _)]) ⟨rfl, rfl, rfl, rfl, trivial⟩ ?_
  refine LX.next ?_
  refine PX.thenN ?_
  refine CX.seq ?_
  refine CX.seq ?_
  refine CX.region ?_
  refine LX.pure (Y.move rfl) rfl rfl rfl ?_
  refine LX.pure (Y.not rfl) rfl rfl rfl ?_
  refine LX.sub (l' := [(1, _), (2, _), (4, _), (5, _), (16, _)]) ⟨rfl, rfl, rfl, rfl, rfl, trivial⟩ ?_
  refine LX.next ?_
  refine PX.thenN ?_
  refine CX.cond rfl (fun hb1 => ?_) (fun hb1 => ?_)
  · try simp at hb1
    done
  · try simp at hb1
    refine CX.skip ?_
    refine PX.thenN ?_
    refine CX.seq ?_
    refine CX.seq ?_
    refine CX.region ?_
    refine LX.pure (Y.ldAggB (vs := X.pcs p) 0 Hy.ag28 rfl rfl rfl rfl) rfl rfl rfl ?_
    refine LX.call (light_c hX) Hy.en21 rfl rfl rfl rfl rfl ?_
    intro _
    refine LX.pure (Y.not rfl) rfl rfl rfl ?_
    refine LX.pure (Y.move rfl) rfl rfl rfl ?_
    refine LX.sub (l' := [(1, _), (2, _), (4, _), (5, _), (20, _)]) ⟨rfl, rfl, rfl, rfl, rfl, trivial⟩ ?_
    apply LX.joinOr 4 24 20 rfl
    · intro hb2
      have hb2p := hb2
      try simp at hb2p
      refine LX.gF rfl rfl rfl hb2 rfl rfl ?_
      refine LX.gF rfl rfl rfl hb2 rfl rfl ?_
      refine LX.gF rfl rfl rfl hb2 rfl rfl ?_
      refine LX.pure (Y.pickT rfl hb2 rfl) rfl rfl rfl ?_
      exact LX.left ⟨rfl, rfl, rfl, rfl, rfl, rfl, trivial⟩
    · intro hb2
      have hb2p := hb2
      try simp at hb2p
      refine LX.gT rfl rfl rfl hb2 (Y.move rfl) rfl rfl ?_
      refine LX.gT rfl rfl rfl hb2 (Y.lenSl rfl Hy.un79 rfl) rfl rfl ?_
      refine LX.gT rfl rfl rfl hb2 (Y.gtN rfl rfl) rfl rfl ?_
      refine LX.pure (Y.pickF rfl hb2 rfl) rfl rfl rfl ?_
      exact LX.left ⟨rfl, rfl, rfl, rfl, rfl, rfl, trivial⟩
    refine LX.pure (Y.move rfl) rfl rfl rfl ?_
    refine LX.sub (l' := [(1, _), (2, _), (4, _), (5, _), (25, _)]) ⟨rfl, rfl, rfl, rfl, rfl, trivial⟩ ?_
    apply LX.joinOr 3 28 25 rfl
    · intro hb3
      have hb3p := hb3
      try simp at hb3p
      refine LX.gF rfl rfl rfl hb3 rfl rfl ?_
      refine LX.gF rfl rfl rfl hb3 rfl rfl ?_
      refine LX.pure (Y.pickT rfl hb3 rfl) rfl rfl rfl ?_
      exact LX.left ⟨rfl, rfl, rfl, rfl, rfl, rfl, trivial⟩
    · intro hb3
      have hb3p := hb3
      try simp at hb3p
      refine LX.gT rfl rfl rfl hb3 (Y.move rfl) rfl rfl ?_
      refine LX.gT rfl rfl rfl hb3 (Y.not rfl) rfl rfl ?_
      refine LX.pure (Y.pickF rfl hb3 rfl) rfl rfl rfl ?_
      exact LX.left ⟨rfl, rfl, rfl, rfl, rfl, rfl, trivial⟩
    refine LX.sub (l' := [(1, _), (2, _), (4, _), (5, _), (28, _)]) ⟨rfl, rfl, rfl, rfl, rfl, trivial⟩ ?_
    refine LX.next ?_
    refine PX.thenN ?_
    refine CX.cond rfl (fun hb4 => ?_) (fun hb4 => ?_)
    · try simp at hb4
      refine CX.seq ?_
      refine CX.region ?_
      refine LX.pure (Y.move rfl) rfl rfl rfl ?_
      refine LX.pure (Y.assign rfl) rfl rfl rfl ?_
      refine LX.sub (l' := [(1, _), (2, _), (4, _)]) ⟨rfl, rfl, rfl, trivial⟩ ?_
      refine LX.next ?_
      refine PX.thenN ?_
      refine CX.ret ?_
      refine PX.thenR ?_
      refine PX.ret1 (by simp) Tryz.results8 rfl ?_
      exact fun w hw => ⟨(), rfl, hw.drop (List.sublist_cons_self _ _)⟩
    · try simp at hb4
      obtain ⟨hlb, hbl⟩ : lightB p ∧ b.length ≤ 2000 := by exact hb4
      have hm := mid_of_light hlb
      have hl1 := hlb.1.2.1.1
      have hbn : b.length ≤ 1099511627776 := by omega
      refine CX.skip ?_
      refine PX.thenN ?_
      refine CX.seq ?_
      refine CX.seq ?_
      refine CX.region ?_
      refine LX.pure (Y.assign rfl) rfl rfl rfl ?_
      refine LX.sub (l' := [(1, _), (2, _), (4, _), (6, _)]) ⟨rfl, rfl, rfl, rfl, trivial⟩ ?_
      refine LX.next ?_
      refine PX.thenN ?_
      refine CX.block ?_
      refine CX.loop (fun j : Nat => [(1, .slice ab b.length cb), (2, .pointer (some ⟨b2, 0, none⟩)), (6, .int .i64 (j : Int))]) (fun (j : Nat) w => (j ≤ p.consts.length ∧ ∀ x ∈ p.consts.take j, plainK x) ∧ WA w0 base (blk b2 (X.pcs p) 28 :: fr) w) (fun j => p.consts.length - j) 0 ⟨rfl, rfl, rfl, trivial⟩ (fun w hw => ⟨⟨Nat.zero_le _, fun x h => (by cases h)⟩, hw⟩) ?_
      rintro j
      refine CX.have fun ⟨hj0, hpk⟩ => ?_
      replace hj0 : j ≤ p.consts.length := hj0
      replace hpk : ∀ x ∈ p.consts.take j, plainK x := hpk
      try dsimp only
      refine CX.seq ?_
      refine CX.seq ?_
      refine CX.region ?_
      refine LX.pure (Y.move rfl) rfl rfl rfl ?_
      refine LX.pure (Y.fieldAddr0 Fja.fo28_1 rfl) rfl rfl rfl ?_
      refine LX.pure (Y.ldB 0 Fja.one22 rfl rfl rfl) rfl rfl rfl ?_
      refine LX.pure (Y.lenSl rfl Fj.un22 rfl) rfl rfl rfl ?_
      refine LX.pure (Y.ltN rfl rfl) rfl rfl rfl ?_
      refine LX.sub (l' := [(1, _), (2, _), (6, _), (34, _)]) ⟨rfl, rfl, rfl, rfl, trivial⟩ ?_
      refine LX.next ?_
      refine PX.thenN ?_
      refine CX.cond rfl (fun hb5 => ?_) (fun hb5 => ?_)
      · try simp at hb5
        have hj : j < p.consts.length := by omega
        obtain ⟨x, hx⟩ : ∃ x, p.consts[j]? = some x := ⟨_, List.getElem?_eq_getElem hj⟩
        obtain ⟨a0, cs, hav, hcl, hL, vk, rfl, hks, hin⟩ := hX.hC j x hx
        obtain ⟨ak2, ck2, rfl, ⟨hkn2, hkc2⟩, hka2⟩ := hks.sl
        refine CX.skip ?_
        refine PX.thenN ?_
        refine CX.seq ?_
        refine CX.block ?_
        refine CX.seq ?_
        refine CX.region ?_
        refine LX.pure (Y.fieldAddr0 Fja.fo28_1 rfl) rfl rfl rfl ?_
        refine LX.pure (Y.ldB 0 Fja.one22 rfl rfl rfl) rfl rfl rfl ?_
        refine LX.pure (Y.move rfl) rfl rfl rfl ?_
        refine LX.pure (Y.idxZ Fj.un22 Fj.sz44 rfl rfl hav (j := j) rfl hj) rfl rfl rfl ?_
        refine LX.pure (Y.fieldA Fjc.fa44_1 rfl) rfl rfl rfl ?_
        refine LX.pure (Y.ldFO (v := .int .i64 x.n) Fjb.one3 rfl hL rfl) rfl rfl rfl ?_
        refine LX.pure (Y.neI rfl rfl) rfl rfl rfl ?_
        refine LX.pure (Y.move rfl) rfl rfl rfl ?_
        refine LX.sub (l' := [(1, _), (2, _), (6, _), (44, _)]) ⟨rfl, rfl, rfl, rfl, trivial⟩ ?_
        apply LX.joinOr 8 52 44 rfl
        · intro hb6
          have hb6p := hb6
          try simp at hb6p
          refine LX.gF rfl rfl rfl hb6 rfl rfl ?_
          refine LX.gF rfl rfl rfl hb6 rfl rfl ?_
          refine LX.gF rfl rfl rfl hb6 rfl rfl ?_
          refine LX.gF rfl rfl rfl hb6 rfl rfl ?_
          refine LX.gF rfl rfl rfl hb6 rfl rfl ?_
          refine LX.gF rfl rfl rfl hb6 rfl rfl ?_
          refine LX.gF rfl rfl rfl hb6 rfl rfl ?_
          refine LX.pure (Y.pickT rfl hb6 rfl) rfl rfl rfl ?_
          exact LX.left ⟨rfl, rfl, rfl, rfl, rfl, trivial⟩
        · intro hb6
          have hb6p := hb6
          try simp at hb6p
          refine LX.gT rfl rfl rfl hb6 (Y.fieldAddr0 Fja.fo28_1 rfl) rfl rfl ?_
          refine LX.gT rfl rfl rfl hb6 (Y.ldB 0 Fja.one22 rfl rfl rfl) rfl rfl ?_
          refine LX.gT rfl rfl rfl hb6 (Y.move rfl) rfl rfl ?_
          refine LX.gT rfl rfl rfl hb6 (Y.idxZ Fj.un22 Fj.sz44 rfl rfl hav (j := j) rfl hj) rfl rfl ?_
          refine LX.gT rfl rfl rfl hb6 (Y.fieldA Fjc.fa44_2 rfl) rfl rfl ?_
          refine LX.gT rfl rfl rfl hb6 (Y.ldFO (v := .int .i64 x.pos) Fjb.one3 rfl hL rfl) rfl rfl ?_
          refine LX.gT rfl rfl rfl hb6 (Y.neI rfl rfl) rfl rfl ?_
          refine LX.pure (Y.pickF rfl hb6 rfl) rfl rfl rfl ?_
          exact LX.left ⟨rfl, rfl, rfl, rfl, rfl, trivial⟩
        refine LX.pure (Y.move rfl) rfl rfl rfl ?_
        refine LX.sub (l' := [(1, _), (2, _), (6, _), (53, _)]) ⟨rfl, rfl, rfl, rfl, trivial⟩ ?_
        apply LX.joinOr 9 62 53 rfl
        · intro hb7
          have hb7p := hb7
          try simp at hb7p
          refine LX.gF rfl rfl rfl hb7 rfl rfl ?_
          refine LX.gF rfl rfl rfl hb7 rfl rfl ?_
          refine LX.gF rfl rfl rfl hb7 rfl rfl ?_
          refine LX.gF rfl rfl rfl hb7 rfl rfl ?_
          refine LX.gF rfl rfl rfl hb7 rfl rfl ?_
          refine LX.gF rfl rfl rfl hb7 rfl rfl ?_
          refine LX.gF rfl rfl rfl hb7 rfl rfl ?_
          refine LX.gF rfl rfl rfl hb7 rfl rfl ?_
          refine LX.pure (Y.pickT rfl hb7 rfl) rfl rfl rfl ?_
          exact LX.left ⟨rfl, rfl, rfl, rfl, rfl, trivial⟩
        · intro hb7
          have hb7p := hb7
          try simp at hb7p
          refine LX.gT rfl rfl rfl hb7 (Y.fieldAddr0 Fja.fo28_1 rfl) rfl rfl ?_
          refine LX.gT rfl rfl rfl hb7 (Y.ldB 0 Fja.one22 rfl rfl rfl) rfl rfl ?_
          refine LX.gT rfl rfl rfl hb7 (Y.move rfl) rfl rfl ?_
          refine LX.gT rfl rfl rfl hb7 (Y.idxZ Fj.un22 Fj.sz44 rfl rfl hav (j := j) rfl hj) rfl rfl ?_
          refine LX.gT rfl rfl rfl hb7 (Y.fieldA Fj.fa44_4 rfl) rfl rfl ?_
          refine LX.gT rfl rfl rfl hb7 (Y.ldFO (v := .slice ak2 x.kids.length ck2) Fj.one42 rfl hL rfl) rfl rfl ?_
          refine LX.gT rfl rfl rfl hb7 (Y.lenSl rfl Fj.un42 rfl) rfl rfl ?_
          refine LX.gT rfl rfl rfl hb7 (Y.gtN rfl rfl) rfl rfl ?_
          refine LX.pure (Y.pickF rfl hb7 rfl) rfl rfl rfl ?_
          exact LX.left ⟨rfl, rfl, rfl, rfl, rfl, trivial⟩
        refine LX.sub (l' := [(1, _), (2, _), (6, _), (62, _)]) ⟨rfl, rfl, rfl, rfl, trivial⟩ ?_
        refine LX.next ?_
        refine PX.thenN ?_
        refine CX.cond rfl (fun hb8 => ?_) (fun hb8 => ?_)
        · try simp at hb8
          refine CX.seq ?_
          refine CX.region ?_
          refine LX.pure (Y.assign rfl) rfl rfl rfl ?_
          refine LX.sub (l' := [(1, _), (2, _), (4, _), (6, _)]) ⟨rfl, rfl, rfl, rfl, trivial⟩ ?_
          refine LX.next ?_
          refine PX.thenN ?_
          refine CX.ret ?_
          refine PX.blockR ?_
          refine PX.thenR ?_
          refine PX.thenR ?_
          refine PX.blockR ?_
          refine PX.thenR ?_
          refine PX.ret1 (by simp) Tryz.results8 rfl ?_
          exact fun w hw => ⟨(), rfl, hw.drop (List.sublist_cons_self _ _)⟩
        · try simp at hb8
          have hpx : plainK x := ⟨hb8.1.1, hb8.1.2, hb8.2⟩
          refine CX.skip ?_
          refine PX.blockN ?_
          refine PX.thenN ?_
          refine CX.region ?_
          refine LX.pure (Y.move rfl) rfl rfl rfl ?_
          refine LX.pure (Y.addN rfl rfl (by (simp only []; omega))) rfl rfl rfl ?_
          refine LX.pure (Y.assign rfl) rfl rfl rfl ?_
          refine LX.sub (l' := [(1, _), (2, _), (6, _)]) ⟨rfl, rfl, rfl, trivial⟩ ?_
          refine LX.next ?_
          exact PX.again (L := (fun j : Nat => [(1, .slice ab b.length cb), (2, .pointer (some ⟨b2, 0, none⟩)), (6, .int .i64 (j : Int))])) (WW := (fun (j : Nat) w => (j ≤ p.consts.length ∧ ∀ x ∈ p.consts.take j, plainK x) ∧ WA w0 base (blk b2 (X.pcs p) 28 :: fr) w)) (μ := fun j => p.consts.length - j) (i := j) (j + 1) (by show p.consts.length - (j + 1) < p.consts.length - j; omega) ⟨rfl, rfl, rfl, trivial⟩ (fun w hw => ⟨⟨by show j + 1 ≤ p.consts.length; omega, take_next hpk hx hpx⟩, hw⟩)
      · try simp at hb5
        have hje : j = p.consts.length := by omega
        subst hje
        rw [List.take_length] at hpk
        have hI := light_I hlb (ck_in hX) hpk
        have hlen := light_len hlb (ck_in hX)
        have hback := rPg_rt hI
        refine CX.exit ?_
        refine PX.thenE ?_
        refine PX.thenE ?_
        refine PX.blockE ?_
        refine PX.thenN ?_
        refine CX.seq ?_
        refine CX.region ?_
        refine LX.pure (Y.ldAggB (vs := X.pcs p) 0 Hy.ag28 rfl rfl rfl rfl) rfl rfl rfl ?_
        refine LX.call (wBytes_c hX hm hlen) Hy.en31 rfl rfl rfl rfl rfl ?_
        intro qc
        refine LX.pure (Y.assign rfl) rfl rfl rfl ?_
        refine LX.sub (l' := [(1, _), (2, _), (7, _)]) ⟨rfl, rfl, rfl, trivial⟩ ?_
        refine LX.next ?_
        refine PX.thenN ?_
        refine CX.seq ?_
        refine CX.seq ?_
        refine CX.regionM [(0, .anywhere), (1, .held), (2, .held), (3, .alone), (4, .alone), (5, .alone), (6, .alone)] rfl (by kernel_rfl) ?_
        refine MX.lift0 (i := 0) rfl (Y.move rfl) rfl rfl rfl ?_
        refine MX.lift1 (i := 1) (pend' := []) rfl (fun w hw => by exact hw) (Y.str 0 rfl rfl Hy.un79 Hy.un5 Fj.un9) rfl rfl rfl (by kernel_rfl) ?_
        refine MX.lift1 (i := 2) (pend' := [1]) rfl (fun w hw => by exact hw) (Y.ldAggB (vs := X.pcs p) 1 Hy.ag28 rfl rfl rfl rfl) rfl rfl rfl (by kernel_rfl) ?_
        refine MX.force (i := 3) rfl ?_
        refine LX.call (plain_s hX hm) Hy.en20 rfl rfl rfl rfl rfl ?_
        intro X1
        refine LX.nextM [1] (by kernel_rfl) (fun _ => (fun w hw => by exact hw.2)) ?_
        refine MX.force (i := 4) rfl ?_
        refine LX.call (gBytes_w hm hlen) Hy.en33 rfl rfl rfl rfl rfl ?_
        intro q2
        refine LX.nextM [1] (by kernel_rfl) (fun _ => (fun w hw => by exact hw.drop (List.sublist_cons_self _ _))) ?_
        refine MX.force (i := 5) rfl ?_
        refine LX.pure (Y.str 0 rfl rfl Hy.un79 Hy.un5 Fj.un9) rfl rfl rfl ?_
        refine LX.nextM [1] (by kernel_rfl) (fun _ => (fun w hw => by exact hw.drop (List.sublist_cons_self _ _))) ?_
        refine MX.force (i := 6) rfl ?_
        refine LX.pure (Y.neS rfl rfl) rfl rfl rfl ?_
        refine LX.nextM [] (by kernel_rfl) (fun h => absurd rfl h) ?_
        refine MX.sub (l' := [(1, _), (2, _), (7, _), (71, _)]) ⟨rfl, rfl, rfl, rfl, trivial⟩ ?_
        refine MX.done ?_
        refine PX.thenN ?_
        refine CX.cond rfl (fun hb9 => ?_) (fun hb9 => ?_)
        · try simp at hb9
          done
        · try simp at hb9
          refine CX.skip ?_
          refine PX.thenN ?_
          refine CX.seq ?_
          refine CX.region ?_
          refine LX.pure (Y.move rfl) rfl rfl rfl ?_
          refine LX.world (W' := WA w0 base (.row qc.1 qc.2 (pgB p).length 5 1 ((pgB p).map b8) :: blk b2 (X.pcs p) 28 :: fr)) (fun w hw => hw.drop (List.sublist_cons_self _ _)) ?_
          refine LX.call (readBack_w hS (q := qc) hback hlen) Hy.en32 rfl rfl rfl rfl rfl ?_
          intro X2
          refine LX.riseTo (fun w1 n1 => CkAt (Lies w1 n1) X p ⟨[], 0, 0, 0, [], []⟩ ∧ CkAt (Lies w1 n1) X2 p ⟨[], 0, 0, 0, [], []⟩ ∧ SlAt 1 byteA (Lies w1 n1) ab b ∧ EnvS w1 n1 aE ∧ Lies w1 n1 ⟨b2, 0, none⟩ (X.pcs p) ∧ ∀ w3, WA w1 n1 [] w3 → WA w0 base fr w3) [] (fun w hw => ⟨w, w.heap.size, ⟨CkAt.push hX hw.2, hw.1, hb.push hw.2, envS_push hS hw.2, blk_lies hw.2 (i := 1) rfl, fun w3 h3 => Stab.st w w3 (hw.2.drop (.cons _ (List.sublist_cons_self _ _))) h3.below⟩, WA.start w⟩) fun w1 n1 hΦ => ?_
          obtain ⟨hXa, hX2, hba, hSa, hB2, hEnd⟩ := hΦ
          refine LX.pure (Y.move rfl) rfl rfl rfl ?_
          refine LX.pure (Y.extract rfl rfl) rfl rfl rfl ?_
          refine LX.pure (Y.extract rfl rfl) rfl rfl rfl ?_
          refine LX.alloc rfl Hy.zv28 rfl rfl rfl ?_
          intro b8
          refine LX.storeA 0 Hy.ag28 rfl rfl rfl rfl rfl rfl rfl rfl rfl ?_
          refine LX.pure (Y.assign rfl) rfl rfl rfl ?_
          refine LX.sub (l' := [(1, _), (2, _), (8, _), (9, _)]) ⟨rfl, rfl, rfl, rfl, trivial⟩ ?_
          refine LX.next ?_
          refine PX.thenN ?_
          refine CX.seq ?_
          refine CX.seq ?_
          refine CX.region ?_
          refine LX.pure (Y.move rfl) rfl rfl rfl ?_
          refine LX.pure (Y.neNilNil Hy.un30 rfl) rfl rfl rfl ?_
          refine LX.pure (Y.move rfl) rfl rfl rfl ?_
          refine LX.sub (l' := [(1, _), (2, _), (8, _), (79, _)]) ⟨rfl, rfl, rfl, rfl, trivial⟩ ?_
          apply LX.joinOr 5 84 79 rfl
          · intro hb10
            cases hb10
          · intro hb10
            have hb10p := hb10
            try simp at hb10p
            refine LX.gT rfl rfl rfl hb10 (Y.ldAO (cs := X.pcs p) Hy.ag28 rfl hB2 rfl) rfl rfl ?_
            refine LX.gT rfl rfl rfl hb10 (Y.ldAggB (vs := X2.pcs p) 0 Hy.ag28 rfl rfl rfl rfl) rfl rfl ?_
            refine LX.callT rfl rfl rfl hb10 (same_c hXa hX2 hm) Hy.en30 rfl rfl rfl rfl ?_
            intro _
            refine LX.gT rfl rfl rfl hb10 (Y.not rfl) rfl rfl ?_
            refine LX.pure (Y.pickF rfl hb10 rfl) rfl rfl rfl ?_
            exact LX.leftP ⟨rfl, rfl, rfl, rfl, rfl, trivial⟩
          refine LX.sub (l' := [(1, _), (84, _)]) ⟨rfl, rfl, trivial⟩ ?_
          refine LX.next ?_
          refine PX.thenN ?_
          refine CX.cond rfl (fun hb11 => ?_) (fun hb11 => ?_)
          · try simp at hb11
            done
          · try simp at hb11
            refine CX.skip ?_
            refine PX.thenN ?_
            refine CX.seq ?_
            refine CX.region ?_
            refine LX.pure (Y.move rfl) rfl rfl rfl ?_
            refine LX.call (read_err hSa hba hbn hcb hr) Hy.en32 rfl rfl rfl rfl rfl ?_
            rintro ⟨X3, ax⟩
            refine LX.world (W' := WA w1 n1 (atJ ax pl (errV (aE k)) :: blk b8 (X2.pcs p) 28 :: [])) (fun w hw => hw.2) ?_
            refine LX.pure (Y.move rfl) rfl rfl rfl ?_
            refine LX.pure (Y.extract rfl rfl) rfl rfl rfl ?_
            refine LX.pure (Y.extract rfl rfl) rfl rfl rfl ?_
            refine LX.alloc rfl Hy.zv28 rfl rfl rfl ?_
            intro b10
            refine LX.storeA 0 Hy.ag28 rfl rfl rfl rfl rfl rfl rfl rfl rfl ?_
            refine LX.pure (Y.assign rfl) rfl rfl rfl ?_
            refine LX.sub (l' := [(1, _), (10, _), (11, _)]) ⟨rfl, rfl, rfl, trivial⟩ ?_
            refine LX.next ?_
            refine PX.thenN ?_
            refine CX.seq ?_
            refine CX.region ?_
            refine LX.pure (Y.move rfl) rfl rfl rfl ?_
            refine LX.call (gRead_err hba hbn hcb hr) Hy.en34 rfl rfl rfl rfl rfl ?_
            intro X4
            refine LX.world (W' := WA w1 n1 (blk b10 (X3.pcs ⟨[], [], [], []⟩) 28 :: atJ ax pl (errV (aE k)) :: blk b8 (X2.pcs p) 28 :: [])) (fun w hw => hw.2) ?_
            refine LX.pure (Y.move rfl) rfl rfl rfl ?_
            refine LX.pure (Y.extract rfl rfl) rfl rfl rfl ?_
            refine LX.pure (Y.extract rfl rfl) rfl rfl rfl ?_
            refine LX.alloc rfl Fjf.zv57 rfl rfl rfl ?_
            intro b12
            refine LX.alloc rfl Hy.zv34 rfl rfl rfl ?_
            intro b13
            refine LX.storeA 1 Fjf.ag57 rfl rfl rfl rfl rfl rfl rfl rfl rfl ?_
            refine LX.storeA 0 Hy.ag34 rfl rfl rfl rfl rfl rfl rfl rfl rfl ?_
            refine LX.sub (l' := [(10, _), (11, _), (12, _), (13, _)]) ⟨rfl, rfl, rfl, rfl, trivial⟩ ?_
            refine LX.next ?_
            refine PX.thenN ?_
            refine CX.seq ?_
            refine CX.seq ?_
            refine CX.region ?_
            refine LX.pure (Y.move rfl) rfl rfl rfl ?_
            refine LX.pure (Y.ldAggB (vs := fltC (some (k, pl))) 0 Hy.ag34 rfl rfl rfl rfl) rfl rfl rfl ?_
            refine LX.world (W' := WA w1 n1 (atJ ax pl (errV (aE k)) :: blk b13 (fltC (some (k, pl))) 34 :: blk b12 (X4.pcs ⟨[], [], [], []⟩) 57 :: blk b10 (X3.pcs ⟨[], [], [], []⟩) 28 :: blk b8 (X2.pcs p) 28 :: [])) (fun w hw => (show WA w1 n1 (blk b13 (fltC (some (k, pl))) 34 :: blk b12 (X4.pcs ⟨[], [], [], []⟩) 57 :: blk b10 (X3.pcs ⟨[], [], [], []⟩) 28 :: atJ ax pl (errV (aE k)) :: blk b8 (X2.pcs p) 28 :: []) w from hw).perm (by (refine perm_cnt fun x => ?_; simp only [cnt_append, cnt_cons, cnt_nil]; omega))) ?_
            refine LX.call (sameAt_c hSa (i := k) hk ax pl ⟨101 + k, true, pl, false, []⟩) Hy.en13 rfl rfl rfl rfl rfl ?_
            intro _
            refine LX.pure (Y.not rfl) rfl rfl rfl ?_
            refine LX.sub (l' := [(10, _), (11, _), (12, _), (98, _)]) ⟨rfl, rfl, rfl, rfl, trivial⟩ ?_
            refine LX.next ?_
            refine PX.thenN ?_
            refine CX.cond rfl (fun hb12 => ?_) (fun hb12 => ?_)
            · try simp at hb12
              done
            · try simp at hb12
              refine CX.skip ?_
              refine PX.thenN ?_
              refine CX.seq ?_
              refine CX.regionT (.step 0 .held (.step 4 .held (.step 1 .alone (.step 2 .alone (.fork 3 5 (.step 5 .alone (.step 6 .alone (.step 7 .anywhere (.step 8 .anywhere (.step 9 .alone (.step 10 .alone (.step 11 .alone (.step 12 .alone (.step 13 .alone (.step 14 .alone (.step 15 .alone (.step 16 .alone (.step 17 .anywhere (.step 18 .anywhere .done)))))))))))))) (.fork 3 6 (.step 6 .alone (.step 7 .anywhere (.step 8 .anywhere (.step 9 .alone (.step 10 .alone (.step 11 .alone (.step 12 .alone (.step 13 .alone (.step 14 .alone (.step 15 .alone (.step 16 .alone (.step 17 .anywhere (.step 18 .anywhere .done))))))))))))) (.step 3 .alone (.step 7 .anywhere (.step 8 .anywhere (.step 9 .alone (.step 10 .alone (.step 11 .alone (.step 12 .alone (.step 13 .alone (.step 14 .alone (.step 15 .alone (.step 16 .alone (.step 17 .anywhere (.step 18 .anywhere .done))))))))))))))))))) rfl (by kernel_rfl) ?_
              refine MT.lift1 (i := 0) (pend' := []) rfl (fun w hw => by exact hw) (Y.ldAggB (vs := X3.pcs ⟨[], [], [], []⟩) 3 Hy.ag28 rfl rfl rfl rfl) rfl rfl rfl (by kernel_rfl) ?_
              refine MT.lift1 (i := 4) (pend' := [0]) rfl (fun w hw => by exact hw) (Y.ldAggB (vs := X4.pcs ⟨[], [], [], []⟩) 2 Fjf.ag57 rfl rfl rfl rfl) rfl rfl rfl (by kernel_rfl) ?_
              refine MT.force (i := 1) rfl ?_
              refine LX.call (plain_s (ck_nilX X3) mid_nil) Hy.en20 rfl rfl rfl rfl rfl ?_
              intro X5
              refine LX.nextT [4] (by kernel_rfl) (fun _ => (fun w hw => by exact hw.2)) ?_
              refine MT.force (i := 2) rfl ?_
              refine LX.call (gBytes_w mid_nil len_nil) Hy.en33 rfl rfl rfl rfl rfl ?_
              intro q5
              refine LX.nextT [4] (by kernel_rfl) (fun _ => (fun w hw => by exact hw.drop (List.sublist_cons_self _ _))) ?_
              refine MT.fork (i := 3) (j := 5) rfl rfl ?_ ?_
              ·
                refine LX.pure (Y.str 0 rfl rfl Hy.un79 Hy.un5 Fj.un9) rfl rfl rfl ?_
                refine LX.nextT [4] (by kernel_rfl) (fun _ => (fun w hw => by exact hw.drop (List.sublist_cons_self _ _))) ?_
                refine MT.force (i := 5) rfl ?_
                refine LX.call (gBytes_c (ck_nilX X4) mid_nil len_nil) Hy.en33 rfl rfl rfl rfl rfl ?_
                intro q6
                refine LX.nextT [] (by kernel_rfl) (fun h => absurd rfl h) ?_
                refine MT.force (i := 6) rfl ?_
                refine LX.pure (Y.str 0 rfl rfl Hy.un79 Hy.un5 Fj.un9) rfl rfl rfl ?_
                refine LX.nextT [] (by kernel_rfl) (fun h => absurd rfl h) ?_
                refine MT.lift0 (i := 7) rfl (Y.eqS rfl rfl) rfl rfl rfl ?_
                refine MT.lift0 (i := 8) rfl (Y.move rfl) rfl rfl rfl ?_
                refine MT.caseB (s := 107) rfl (fun hb13 => ?_) (fun hb13 => ?_)
                ·
                  have hb13p := hb13
                  try simp at hb13p
                  refine MT.force (i := 9) rfl ?_
                  refine LX.gT rfl rfl rfl hb13 (Y.move rfl) rfl rfl ?_
                  refine LX.nextT [] (by kernel_rfl) (fun h => absurd rfl h) ?_
                  refine MT.force (i := 10) rfl ?_
                  refine LX.gT rfl rfl rfl hb13 (Y.eqNil Hy.un30 rfl rfl) rfl rfl ?_
                  refine LX.nextT [] (by kernel_rfl) (fun h => absurd rfl h) ?_
                  refine MT.force (i := 11) rfl ?_
                  refine LX.gT rfl rfl rfl hb13 (Y.move rfl) rfl rfl ?_
                  refine LX.nextT [] (by kernel_rfl) (fun h => absurd rfl h) ?_
                  refine MT.caseB (s := 110) rfl (fun hb14 => ?_) (fun hb14 => ?_)
                  ·
                    have hb14p := hb14
                    try simp at hb14p
                  ·
                    have hb14p := hb14
                    try simp at hb14p
                    refine MT.force (i := 12) rfl ?_
                    refine LX.gT rfl rfl rfl hb14 (Y.fieldAddr0 Fja.fo28_0 rfl) rfl rfl ?_
                    refine LX.nextT [] (by kernel_rfl) (fun h => absurd rfl h) ?_
                    refine MT.force (i := 13) rfl ?_
                    refine LX.gT rfl rfl rfl hb14 (Y.ldB 5 Fja.one25 rfl rfl rfl) rfl rfl ?_
                    refine LX.nextT [] (by kernel_rfl) (fun h => absurd rfl h) ?_
                    refine MT.force (i := 14) rfl ?_
                    refine LX.gT rfl rfl rfl hb14 (Y.lenSl rfl Fja.un25 rfl) rfl rfl ?_
                    refine LX.nextT [] (by kernel_rfl) (fun h => absurd rfl h) ?_
                    refine MT.force (i := 15) rfl ?_
                    refine LX.gT rfl rfl rfl hb14 (Y.eqN rfl rfl) rfl rfl ?_
                    refine LX.nextT [] (by kernel_rfl) (fun h => absurd rfl h) ?_
                    refine MT.force (i := 16) rfl ?_
                    refine LX.gT rfl rfl rfl hb13 (Y.pickF rfl hb14 rfl) rfl rfl ?_
                    refine LX.nextT [] (by kernel_rfl) (fun h => absurd rfl h) ?_
                    refine MT.lift0 (i := 17) rfl (Y.pickT rfl hb13 rfl) rfl rfl rfl ?_
                    refine MT.lift0 (i := 18) rfl (Y.assign rfl) rfl rfl rfl ?_
                    refine MT.sub (l' := [(4, _)]) ⟨rfl, trivial⟩ ?_
                    refine MT.done ?_
                    refine PX.thenN ?_
                    refine CX.ret ?_
                    refine PX.ret1 (by simp) Tryz.results8 rfl ?_
                    exact fun w hw => ⟨(), by simp, hEnd w (hw.drop (List.nil_sublist _))⟩
                ·
                  have hb13p := hb13
                  try simp at hb13p
              ·
                refine LX.call (gBytes_c (ck_nilX X4) mid_nil len_nil) Hy.en33 rfl rfl rfl rfl rfl ?_
                intro q6
                refine LX.nextT [] (by kernel_rfl) (fun h => absurd rfl h) ?_
                refine MT.fork (i := 3) (j := 6) rfl rfl ?_ ?_
                ·
                  refine LX.pure (Y.str 1 rfl rfl Hy.un79 Hy.un5 Fj.un9) rfl rfl rfl ?_
                  refine LX.nextT [] (by kernel_rfl) (fun h => absurd rfl h) ?_
                  refine MT.force (i := 6) rfl ?_
                  refine LX.pure (Y.str 0 rfl rfl Hy.un79 Hy.un5 Fj.un9) rfl rfl rfl ?_
                  refine LX.nextT [] (by kernel_rfl) (fun h => absurd rfl h) ?_
                  refine MT.lift0 (i := 7) rfl (Y.eqS rfl rfl) rfl rfl rfl ?_
                  refine MT.lift0 (i := 8) rfl (Y.move rfl) rfl rfl rfl ?_
                  refine MT.caseB (s := 107) rfl (fun hb15 => ?_) (fun hb15 => ?_)
                  ·
                    have hb15p := hb15
                    try simp at hb15p
                    refine MT.force (i := 9) rfl ?_
                    refine LX.gT rfl rfl rfl hb15 (Y.move rfl) rfl rfl ?_
                    refine LX.nextT [] (by kernel_rfl) (fun h => absurd rfl h) ?_
                    refine MT.force (i := 10) rfl ?_
                    refine LX.gT rfl rfl rfl hb15 (Y.eqNil Hy.un30 rfl rfl) rfl rfl ?_
                    refine LX.nextT [] (by kernel_rfl) (fun h => absurd rfl h) ?_
                    refine MT.force (i := 11) rfl ?_
                    refine LX.gT rfl rfl rfl hb15 (Y.move rfl) rfl rfl ?_
                    refine LX.nextT [] (by kernel_rfl) (fun h => absurd rfl h) ?_
                    refine MT.caseB (s := 110) rfl (fun hb16 => ?_) (fun hb16 => ?_)
                    ·
                      have hb16p := hb16
                      try simp at hb16p
                    ·
                      have hb16p := hb16
                      try simp at hb16p
                      refine MT.force (i := 12) rfl ?_
                      refine LX.gT rfl rfl rfl hb16 (Y.fieldAddr0 Fja.fo28_0 rfl) rfl rfl ?_
                      refine LX.nextT [] (by kernel_rfl) (fun h => absurd rfl h) ?_
                      refine MT.force (i := 13) rfl ?_
                      refine LX.gT rfl rfl rfl hb16 (Y.ldB 5 Fja.one25 rfl rfl rfl) rfl rfl ?_
                      refine LX.nextT [] (by kernel_rfl) (fun h => absurd rfl h) ?_
                      refine MT.force (i := 14) rfl ?_
                      refine LX.gT rfl rfl rfl hb16 (Y.lenSl rfl Fja.un25 rfl) rfl rfl ?_
                      refine LX.nextT [] (by kernel_rfl) (fun h => absurd rfl h) ?_
                      refine MT.force (i := 15) rfl ?_
                      refine LX.gT rfl rfl rfl hb16 (Y.eqN rfl rfl) rfl rfl ?_
                      refine LX.nextT [] (by kernel_rfl) (fun h => absurd rfl h) ?_
                      refine MT.force (i := 16) rfl ?_
                      refine LX.gT rfl rfl rfl hb15 (Y.pickF rfl hb16 rfl) rfl rfl ?_
                      refine LX.nextT [] (by kernel_rfl) (fun h => absurd rfl h) ?_
                      refine MT.lift0 (i := 17) rfl (Y.pickT rfl hb15 rfl) rfl rfl rfl ?_
                      refine MT.lift0 (i := 18) rfl (Y.assign rfl) rfl rfl rfl ?_
                      refine MT.sub (l' := [(4, _)]) ⟨rfl, trivial⟩ ?_
                      refine MT.done ?_
                      refine PX.thenN ?_
                      refine CX.ret ?_
                      refine PX.ret1 (by simp) Tryz.results8 rfl ?_
                      exact fun w hw => ⟨(), by simp, hEnd w (hw.drop (List.nil_sublist _))⟩
                  ·
                    have hb15p := hb15
                    try simp at hb15p
                ·
                  refine LX.pure (Y.str 0 rfl rfl Hy.un79 Hy.un5 Fj.un9) rfl rfl rfl ?_
                  refine LX.nextT [] (by kernel_rfl) (fun h => absurd rfl h) ?_
                  refine MT.force (i := 3) rfl ?_
                  refine LX.pure (Y.str 1 rfl rfl Hy.un79 Hy.un5 Fj.un9) rfl rfl rfl ?_
                  refine LX.nextT [] (by kernel_rfl) (fun h => absurd rfl h) ?_
                  refine MT.lift0 (i := 7) rfl (Y.eqS rfl rfl) rfl rfl rfl ?_
                  refine MT.lift0 (i := 8) rfl (Y.move rfl) rfl rfl rfl ?_
                  refine MT.caseB (s := 107) rfl (fun hb17 => ?_) (fun hb17 => ?_)
                  ·
                    have hb17p := hb17
                    try simp at hb17p
                    refine MT.force (i := 9) rfl ?_
                    refine LX.gT rfl rfl rfl hb17 (Y.move rfl) rfl rfl ?_
                    refine LX.nextT [] (by kernel_rfl) (fun h => absurd rfl h) ?_
                    refine MT.force (i := 10) rfl ?_
                    refine LX.gT rfl rfl rfl hb17 (Y.eqNil Hy.un30 rfl rfl) rfl rfl ?_
                    refine LX.nextT [] (by kernel_rfl) (fun h => absurd rfl h) ?_
                    refine MT.force (i := 11) rfl ?_
                    refine LX.gT rfl rfl rfl hb17 (Y.move rfl) rfl rfl ?_
                    refine LX.nextT [] (by kernel_rfl) (fun h => absurd rfl h) ?_
                    refine MT.caseB (s := 110) rfl (fun hb18 => ?_) (fun hb18 => ?_)
                    ·
                      have hb18p := hb18
                      try simp at hb18p
                    ·
                      have hb18p := hb18
                      try simp at hb18p
                      refine MT.force (i := 12) rfl ?_
                      refine LX.gT rfl rfl rfl hb18 (Y.fieldAddr0 Fja.fo28_0 rfl) rfl rfl ?_
                      refine LX.nextT [] (by kernel_rfl) (fun h => absurd rfl h) ?_
                      refine MT.force (i := 13) rfl ?_
                      refine LX.gT rfl rfl rfl hb18 (Y.ldB 5 Fja.one25 rfl rfl rfl) rfl rfl ?_
                      refine LX.nextT [] (by kernel_rfl) (fun h => absurd rfl h) ?_
                      refine MT.force (i := 14) rfl ?_
                      refine LX.gT rfl rfl rfl hb18 (Y.lenSl rfl Fja.un25 rfl) rfl rfl ?_
                      refine LX.nextT [] (by kernel_rfl) (fun h => absurd rfl h) ?_
                      refine MT.force (i := 15) rfl ?_
                      refine LX.gT rfl rfl rfl hb18 (Y.eqN rfl rfl) rfl rfl ?_
                      refine LX.nextT [] (by kernel_rfl) (fun h => absurd rfl h) ?_
                      refine MT.force (i := 16) rfl ?_
                      refine LX.gT rfl rfl rfl hb17 (Y.pickF rfl hb18 rfl) rfl rfl ?_
                      refine LX.nextT [] (by kernel_rfl) (fun h => absurd rfl h) ?_
                      refine MT.lift0 (i := 17) rfl (Y.pickT rfl hb17 rfl) rfl rfl rfl ?_
                      refine MT.lift0 (i := 18) rfl (Y.assign rfl) rfl rfl rfl ?_
                      refine MT.sub (l' := [(4, _)]) ⟨rfl, trivial⟩ ?_
                      refine MT.done ?_
                      refine PX.thenN ?_
                      refine CX.ret ?_
                      refine PX.ret1 (by simp) Tryz.results8 rfl ?_
                      exact fun w hw => ⟨(), by simp, hEnd w (hw.drop (List.nil_sublist _))⟩
                  ·
                    have hb17p := hb17
                    try simp at hb17p
theorem law_c {w0 : World} {base : Nat} {fr : List It} {aE : Nat → Addr} (hS : EnvS w0 base aE) {X : Cx} {p : Pg} (hX : CkAt (Lies w0 base) X p ⟨[], 0, 0, 0, [], []⟩) {ab : Option Addr} {cb : Nat} {b : List UInt8} (hb : SlAt 1 byteA (Lies w0 base) ab b) (hcb : b.length ≤ cb) (hFst : ∀ its, FnQ Tryz.prog 9 #[] (WA w0 base its) (.bool true)) : FnC Tryz.prog 8 #[.agg (X.pcs p).toArray, .slice ab b.length cb] (WA w0 base fr) (fun _ : Unit => .bool true) (fun _ => WA w0 base fr) := by
  cases hr : rPg b with
  | ok r =>
    obtain ⟨h1, h2⟩ := rPg_inv hr
    exact law_ok hS hX hb hcb hFst hr (mid_of_I h2) (fun h => by rw [h1]; omega)
  | error e => exact law_err hS hX hb hcb hFst (k := e.1) (pl := e.2) hr (by have := rPg_13 hr; omega)
end Go.Proofs.YtgijpgkckiknjaaGreatDoor
