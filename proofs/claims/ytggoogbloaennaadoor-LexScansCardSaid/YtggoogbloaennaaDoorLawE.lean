/-
  Proved here: names, the document's names and quotes, and the statement LexNames: their walks.
-/
import Derived.Test.YtggoogbloaennaaDoorFe
import Derived.Test.YtggoogbloaennaaDoorLawQ
import Derived.Test.YtggoogbloaennaaDoorNamP
import Derived.Test.YtggoogbloaennaaDoorMk
import Derived.Test.YtggoogbloaennaaDoorAgg
namespace Go.Proofs.YtggoogbloaennaaDoor
open Go.SX Go.RowKit Go.Lex
theorem digit4_c (W : World → Prop) (c : Nat) : FnC Tryd.prog 52 #[.int .u8 (c : Int)] W (fun _ : Unit => .bool (isDig c)) (fun _ => W) := by
  refine FnC.of_body (fn := Tryd.f52) [(0, _)] Tryd.func52 rfl Tryd.ntmps52 rfl ⟨rfl, trivial⟩ ?_
  refine CX.seq ?_
  refine CX.region ?_
  refine LX.pure (Y.assign rfl) rfl rfl rfl ?_
  refine LX.sub (l' := [(0, _), (2, _)]) ⟨rfl, rfl, trivial⟩ ?_
  refine LX.next ?_
  refine PX.thenN ?_
  refine CX.seq ?_
  refine CX.region ?_
  refine LX.pure (Y.move rfl) rfl rfl rfl ?_
  first
    | refine LX.pure (Y.geN rfl rfl) rfl rfl rfl ?_
    | refine LX.pure (Y.geI rfl rfl) rfl rfl rfl ?_
  refine LX.pure (Y.move rfl) rfl rfl rfl ?_
  refine LX.sub (l' := [(0, _), (2, _), (5, _)]) ⟨rfl, rfl, rfl, trivial⟩ ?_
  apply LX.joinAnd 3 8 5 rfl
  · intro hb1
    have hb1p := hb1
    try simp at hb1p
    refine LX.gT rfl rfl rfl hb1 (Y.move rfl) rfl rfl ?_
    first
      | refine LX.gT rfl rfl rfl hb1 (Y.leN rfl rfl) rfl rfl ?_
      | refine LX.gT rfl rfl rfl hb1 (Y.leI rfl rfl) rfl rfl ?_
    refine LX.pure (Y.pickT rfl hb1 rfl) rfl rfl rfl ?_
    exact LX.left ⟨rfl, rfl, rfl, rfl, trivial⟩
  · intro hb1
    have hb1p := hb1
    try simp at hb1p
    refine LX.gF rfl rfl rfl hb1 rfl rfl ?_
    refine LX.gF rfl rfl rfl hb1 rfl rfl ?_
    refine LX.pure (Y.pickF rfl hb1 rfl) rfl rfl rfl ?_
    exact LX.left ⟨rfl, rfl, rfl, rfl, trivial⟩
  refine LX.pure (Y.assign rfl) rfl rfl rfl ?_
  refine LX.sub (l' := [(2, _)]) ⟨rfl, trivial⟩ ?_
  refine LX.next ?_
  refine PX.thenN ?_
  refine CX.ret ?_
  refine PX.ret1 (by simp) Tryd.results52 rfl ?_
  exact fun w hw => ⟨(), rfl, hw⟩

theorem letter4_c (W : World → Prop) (c : Nat) : FnC Tryd.prog 51 #[.int .u8 (c : Int)] W (fun _ : Unit => .bool (isLet c)) (fun _ => W) := by
  refine FnC.of_body (fn := Tryd.f51) [(0, _)] Tryd.func51 rfl Tryd.ntmps51 rfl ⟨rfl, trivial⟩ ?_
  refine CX.seq ?_
  refine CX.region ?_
  refine LX.pure (Y.assign rfl) rfl rfl rfl ?_
  refine LX.sub (l' := [(0, _), (2, _)]) ⟨rfl, rfl, trivial⟩ ?_
  refine LX.next ?_
  refine PX.thenN ?_
  refine CX.seq ?_
  refine CX.region ?_
  refine LX.pure (Y.move rfl) rfl rfl rfl ?_
  first
    | refine LX.pure (Y.geN rfl rfl) rfl rfl rfl ?_
    | refine LX.pure (Y.geI rfl rfl) rfl rfl rfl ?_
  refine LX.pure (Y.move rfl) rfl rfl rfl ?_
  refine LX.sub (l' := [(0, _), (2, _), (5, _)]) ⟨rfl, rfl, rfl, trivial⟩ ?_
  apply LX.joinAnd 3 8 5 rfl
  · intro hb1
    have hb1p := hb1
    try simp at hb1p
    refine LX.gT rfl rfl rfl hb1 (Y.move rfl) rfl rfl ?_
    first
      | refine LX.gT rfl rfl rfl hb1 (Y.leN rfl rfl) rfl rfl ?_
      | refine LX.gT rfl rfl rfl hb1 (Y.leI rfl rfl) rfl rfl ?_
    refine LX.pure (Y.pickT rfl hb1 rfl) rfl rfl rfl ?_
    exact LX.left ⟨rfl, rfl, rfl, rfl, trivial⟩
  · intro hb1
    have hb1p := hb1
    try simp at hb1p
    refine LX.gF rfl rfl rfl hb1 rfl rfl ?_
    refine LX.gF rfl rfl rfl hb1 rfl rfl ?_
    refine LX.pure (Y.pickF rfl hb1 rfl) rfl rfl rfl ?_
    exact LX.left ⟨rfl, rfl, rfl, rfl, trivial⟩
  refine LX.pure (Y.move rfl) rfl rfl rfl ?_
  refine LX.sub (l' := [(0, _), (2, _), (9, _)]) ⟨rfl, rfl, rfl, trivial⟩ ?_
  apply LX.joinOr 7 16 9 rfl
  · intro hb2
    have hb2p := hb2
    try simp at hb2p
    refine LX.gF rfl rfl rfl hb2 rfl rfl ?_
    refine LX.gF rfl rfl rfl hb2 rfl rfl ?_
    refine LX.gF rfl rfl rfl hb2 rfl rfl ?_
    refine LX.gU rfl rfl rfl rfl rfl ?_
    refine LX.gU rfl rfl rfl rfl rfl ?_
    refine LX.gF rfl rfl rfl hb2 rfl rfl ?_
    refine LX.pure (Y.pickT rfl hb2 rfl) rfl rfl rfl ?_
    exact LX.left ⟨rfl, rfl, rfl, rfl, trivial⟩
  · intro hb2
    have hb2p := hb2
    try simp at hb2p
    refine LX.gT rfl rfl rfl hb2 (Y.move rfl) rfl rfl ?_
    first
      | refine LX.gT rfl rfl rfl hb2 (Y.geN rfl rfl) rfl rfl ?_
      | refine LX.gT rfl rfl rfl hb2 (Y.geI rfl rfl) rfl rfl ?_
    refine LX.gT rfl rfl rfl hb2 (Y.move rfl) rfl rfl ?_
    refine LX.sub (l' := [(0, _), (2, _), (9, _), (12, _)]) ⟨rfl, rfl, rfl, rfl, trivial⟩ ?_
    apply LX.joinAnd 3 15 12 rfl
    · intro hb3
      have hb3p := hb3
      try simp at hb3p
      refine LX.gT rfl rfl rfl hb3 (Y.move rfl) rfl rfl ?_
      first
        | refine LX.gT rfl rfl rfl hb3 (Y.leN rfl rfl) rfl rfl ?_
        | refine LX.gT rfl rfl rfl hb3 (Y.leI rfl rfl) rfl rfl ?_
      refine LX.gT rfl rfl rfl hb2 (Y.pickT rfl hb3 rfl) rfl rfl ?_
      exact LX.left ⟨rfl, rfl, rfl, rfl, rfl, trivial⟩
    · intro hb3
      have hb3p := hb3
      try simp at hb3p
      refine LX.gF rfl rfl rfl hb3 rfl rfl ?_
      refine LX.gF rfl rfl rfl hb3 rfl rfl ?_
      refine LX.gT rfl rfl rfl hb2 (Y.pickF rfl hb3 rfl) rfl rfl ?_
      exact LX.left ⟨rfl, rfl, rfl, rfl, rfl, trivial⟩
    refine LX.pure (Y.pickF rfl hb2 rfl) rfl rfl rfl ?_
    exact LX.left ⟨rfl, rfl, rfl, rfl, trivial⟩
  refine LX.pure (Y.move rfl) rfl rfl rfl ?_
  refine LX.sub (l' := [(0, _), (2, _), (17, _)]) ⟨rfl, rfl, rfl, trivial⟩ ?_
  apply LX.joinOr 3 20 17 rfl
  · intro hb4
    have hb4p := hb4
    try simp at hb4p
    refine LX.gF rfl rfl rfl hb4 rfl rfl ?_
    refine LX.gF rfl rfl rfl hb4 rfl rfl ?_
    refine LX.pure (Y.pickT rfl hb4 rfl) rfl rfl rfl ?_
    exact LX.left ⟨rfl, rfl, rfl, rfl, trivial⟩
  · intro hb4
    have hb4p := hb4
    try simp at hb4p
    refine LX.gT rfl rfl rfl hb4 (Y.move rfl) rfl rfl ?_
    first
      | refine LX.gT rfl rfl rfl hb4 (Y.eqN rfl rfl) rfl rfl ?_
      | refine LX.gT rfl rfl rfl hb4 (Y.eqI rfl rfl) rfl rfl ?_
    refine LX.pure (Y.pickF rfl hb4 rfl) rfl rfl rfl ?_
    exact LX.left ⟨rfl, rfl, rfl, rfl, trivial⟩
  refine LX.pure (Y.assign rfl) rfl rfl rfl ?_
  refine LX.sub (l' := [(2, _)]) ⟨rfl, trivial⟩ ?_
  refine LX.next ?_
  refine PX.thenN ?_
  refine CX.ret ?_
  refine PX.ret1 (by simp) Tryd.results51 rfl ?_
  exact fun w hw => ⟨(), rfl, hw⟩

theorem digit4_q (W : World → Prop) (c : Nat) : FnQ Tryd.prog 52 #[.int .u8 (c : Int)] W (.bool (isDig c)) := fun w _ => ((digit4_c (fun w' => w' = w) c) w rfl).mono fun e w' ⟨_, he, hw⟩ => ⟨he, by rw [hw]; exact Below.refl _ _⟩
theorem letter4_q (W : World → Prop) (c : Nat) : FnQ Tryd.prog 51 #[.int .u8 (c : Int)] W (.bool (isLet c)) := fun w _ => ((letter4_c (fun w' => w' = w) c) w rfl).mono fun e w' ⟨_, he, hw⟩ => ⟨he, by rw [hw]; exact Below.refl _ _⟩

theorem words4_c {W : World → Prop} [Stab W] : FnC Tryd.prog 29 #[] W (fun b : Nat => .slice (some ⟨b, 0, none⟩) 17 17) (fun b w => W w ∧ Cells b 0 (wordsList.map str) w) := by
  refine FnC.of_body (fn := Tryd.f29) [] Tryd.func29 rfl Tryd.ntmps29 rfl trivial ?_
  refine CX.seq ?_
  refine CX.region ?_
  refine LX.pure (Y.assign rfl) rfl rfl rfl ?_
  refine LX.sub (l' := [(0, _)]) ⟨rfl, trivial⟩ ?_
  refine LX.next ?_
  refine PX.thenN ?_
  refine CX.seq ?_
  refine CX.region ?_
  refine LX.buildSliceW (e := 9) rfl rfl (fun _ => by kernel_rfl) rfl rfl rfl ?_
  intro b
  refine LX.pure (Y.assign rfl) rfl rfl rfl ?_
  refine LX.sub (l' := [(0, _)]) ⟨rfl, trivial⟩ ?_
  refine LX.next ?_
  refine PX.thenN ?_
  refine CX.ret ?_
  refine PX.ret1 (by simp) Tryd.results29 rfl ?_
  exact fun w hw => ⟨b, rfl, hw⟩

theorem among_q {W : World → Prop} [Stab W] (b off c : Nat) (ss : List (List UInt8)) (s : List UInt8) (hc : ∀ w, W w → Cells b off (ss.map str) w) (hl : ss.length ≤ 1000000) : FnQ Tryd.prog 53 #[.slice (some ⟨b, off, none⟩) ss.length c, str s] W (.int .i64 (idxI s ss 0)) := by
  refine FnQ.all fun W' _ hW => ?_
  refine FnC.of_body (fn := Tryd.f53) [(0, _), (1, _)] Tryd.func53 rfl Tryd.ntmps53 rfl ⟨rfl, rfl, trivial⟩ ?_
  refine CX.seq ?_
  refine CX.region ?_
  refine LX.pure (Y.assign rfl) rfl rfl rfl ?_
  refine LX.sub (l' := [(0, _), (1, _), (4, _)]) ⟨rfl, rfl, rfl, trivial⟩ ?_
  refine LX.next ?_
  refine PX.thenN ?_
  refine CX.seq ?_
  refine CX.seq ?_
  refine CX.region ?_
  refine LX.pure (Y.assign rfl) rfl rfl rfl ?_
  refine LX.sub (l' := [(0, _), (1, _), (4, _), (5, _)]) ⟨rfl, rfl, rfl, rfl, trivial⟩ ?_
  refine LX.next ?_
  refine PX.thenN ?_
  refine CX.block ?_
  refine CX.loop (τ := Nat) (fun k => [(0, .slice (some ⟨b, off, none⟩) ss.length c), (1, str s), (5, .int .i64 (k : Int))]) (fun k w => (k ≤ ss.length ∧ idxI s (ss.drop k) k = idxI s ss 0) ∧ W' w) (fun k => ss.length - k) 0 ⟨rfl, rfl, rfl, trivial⟩ (fun w hw => ⟨⟨Nat.zero_le _, rfl⟩, hw⟩) ?_
  intro k
  refine CX.have fun ⟨hk, hi⟩ => ?_
  refine CX.seq ?_
  refine CX.seq ?_
  refine CX.region ?_
  refine LX.pure (Y.move rfl) rfl rfl rfl ?_
  refine LX.pure (Y.move rfl) rfl rfl rfl ?_
  refine LX.pure (Y.lenSl rfl F.un53 rfl) rfl rfl rfl ?_
  first
    | refine LX.pure (Y.ltN rfl rfl) rfl rfl rfl ?_
    | refine LX.pure (Y.ltI rfl rfl) rfl rfl rfl ?_
  refine LX.sub (l' := [(0, _), (1, _), (5, _), (9, _)]) ⟨rfl, rfl, rfl, rfl, trivial⟩ ?_
  refine LX.next ?_
  refine PX.thenN ?_
  refine CX.cond rfl (fun hb1 => ?_) (fun hb1 => ?_)
  · try simp at hb1
    refine CX.skip ?_
    refine PX.thenN ?_
    refine CX.seq ?_
    refine CX.block ?_
    refine CX.seq ?_
    refine CX.region ?_
    refine LX.pure (Y.move rfl) rfl rfl rfl ?_
    refine LX.pure (Y.move rfl) rfl rfl rfl ?_
    first
      | refine LX.pure (Y.idxR 0 F.un53 F.sz9 rfl rfl rfl (by first | omega | (simp only []; omega) | (simp; done) | (simp; omega))) rfl rfl rfl ?_
      | refine LX.pure (Y.idxR 1 F.un53 F.sz9 rfl rfl rfl (by first | omega | (simp only []; omega) | (simp; done) | (simp; omega))) rfl rfl rfl ?_
      | refine LX.pure (Y.idxR 2 F.un53 F.sz9 rfl rfl rfl (by first | omega | (simp only []; omega) | (simp; done) | (simp; omega))) rfl rfl rfl ?_
      | refine LX.pure (Y.idxR 3 F.un53 F.sz9 rfl rfl rfl (by first | omega | (simp only []; omega) | (simp; done) | (simp; omega))) rfl rfl rfl ?_
      | refine LX.pure (Y.idx F.un53 F.sz9 rfl rfl (by first | omega | (simp only []; omega) | (simp; done) | (simp; omega))) rfl rfl rfl ?_
    first
      | refine LX.pure (Y.ldB 0 F.one9 rfl rfl rfl) rfl rfl rfl ?_
      | refine LX.pure (Y.ldB 1 F.one9 rfl rfl rfl) rfl rfl rfl ?_
      | refine LX.pure (Y.ldB 2 F.one9 rfl rfl rfl) rfl rfl rfl ?_
      | refine LX.pure (Y.ldB 3 F.one9 rfl rfl rfl) rfl rfl rfl ?_
      | refine LX.pure (Y.load F.one9 rfl (fun w hw => (hc w (hW w hw)) k (str (ss.getD k [])) (by simp [List.getD, show k < ss.length by omega]) |> fun h => by simpa using h)) rfl rfl rfl ?_
    refine LX.pure (Y.move rfl) rfl rfl rfl ?_
    refine LX.pure (Y.eqS rfl rfl) rfl rfl rfl ?_
    refine LX.sub (l' := [(0, _), (1, _), (5, _), (17, _)]) ⟨rfl, rfl, rfl, rfl, trivial⟩ ?_
    refine LX.next ?_
    refine PX.thenN ?_
    refine CX.cond rfl (fun hb2 => ?_) (fun hb2 => ?_)
    · try simp at hb2
      refine CX.seq ?_
      refine CX.region ?_
      refine LX.pure (Y.move rfl) rfl rfl rfl ?_
      refine LX.pure (Y.assign rfl) rfl rfl rfl ?_
      refine LX.sub (l' := [(0, _), (1, _), (4, _), (5, _)]) ⟨rfl, rfl, rfl, rfl, trivial⟩ ?_
      refine LX.next ?_
      refine PX.thenN ?_
      refine CX.ret ?_
      refine PX.blockR ?_
      refine PX.thenR ?_
      refine PX.thenR ?_
      refine PX.blockR ?_
      refine PX.thenR ?_
      refine PX.ret1 (by simp) Tryd.results53 rfl ?_
      exact fun w hw => ⟨(), by rw [← hi, idxI_hit (by omega) (by simpa [List.getD, eq_comm] using ‹_ = s›)], hw⟩
    · try simp at hb2
      refine CX.skip ?_
      refine PX.blockN ?_
      refine PX.thenN ?_
      refine CX.region ?_
      refine LX.pure (Y.move rfl) rfl rfl rfl ?_
      first
        | refine LX.pure (Y.addN rfl rfl (by first | omega | (simp only []; omega) | (simp; done) | (simp; omega))) rfl rfl rfl ?_
        | refine LX.pure (Y.add rfl rfl (by first | omega | (simp only []; omega) | (simp; done) | (simp; omega))) rfl rfl rfl ?_
      refine LX.pure (Y.assign rfl) rfl rfl rfl ?_
      refine LX.sub (l' := [(0, _), (1, _), (5, _)]) ⟨rfl, rfl, rfl, trivial⟩ ?_
      refine LX.next ?_
      exact PX.again (k + 1) (by show ss.length - (k + 1) < ss.length - k; omega) ⟨rfl, rfl, rfl, trivial⟩ (fun w hw => ⟨⟨by omega, (idxI_next (by omega) (fun h => ‹¬ _› (by simpa [List.getD] using h.symm))).trans hi⟩, hw⟩)
  · try simp at hb1
    refine CX.exit ?_
    refine PX.thenE ?_
    refine PX.thenE ?_
    refine PX.blockE ?_
    refine PX.thenN ?_
    refine CX.seq ?_
    refine CX.region ?_
    refine LX.pure (Y.assign rfl) rfl rfl rfl ?_
    refine LX.sub (l' := [(4, _)]) ⟨rfl, trivial⟩ ?_
    refine LX.next ?_
    refine PX.thenN ?_
    refine CX.ret ?_
    refine PX.ret1 (by simp) Tryd.results53 rfl ?_
    exact fun w hw => ⟨(), by rw [← hi, idxI_end (by omega)], hw⟩

theorem plain4_q {W : World → Prop} [Stab W] (s : List UInt8) (hs : s.length ≤ 1000000) : FnQ Tryd.prog 61 #[str s] W (.bool (plainB s)) := by
  refine FnQ.all fun W' _ hW => ?_
  refine FnC.of_body (fn := Tryd.f61) [(0, _)] Tryd.func61 rfl Tryd.ntmps61 rfl ⟨rfl, trivial⟩ ?_
  refine CX.seq ?_
  refine CX.region ?_
  refine LX.pure (Y.assign rfl) rfl rfl rfl ?_
  refine LX.sub (l' := [(0, _), (2, _)]) ⟨rfl, rfl, trivial⟩ ?_
  refine LX.next ?_
  refine PX.thenN ?_
  refine CX.seq ?_
  refine CX.seq ?_
  refine CX.region ?_
  refine LX.pure (Y.assign rfl) rfl rfl rfl ?_
  refine LX.sub (l' := [(0, _), (2, _), (3, _)]) ⟨rfl, rfl, rfl, trivial⟩ ?_
  refine LX.next ?_
  refine PX.thenN ?_
  refine CX.block ?_
  refine CX.loop (τ := Nat) (fun k => [(0, str s), (3, .int .i64 (k : Int))]) (fun k w => (k ≤ s.length ∧ ∀ i, i < k → okN s i) ∧ W' w) (fun k => s.length - k) 0 ⟨rfl, rfl, trivial⟩ (fun w hw => ⟨⟨Nat.zero_le _, fun i hi => absurd hi (Nat.not_lt_zero i)⟩, hw⟩) ?_
  intro k
  refine CX.have fun ⟨hk, hok⟩ => ?_
  refine CX.seq ?_
  refine CX.seq ?_
  refine CX.region ?_
  refine LX.pure (Y.move rfl) rfl rfl rfl ?_
  refine LX.pure (Y.move rfl) rfl rfl rfl ?_
  refine LX.pure (Y.lenStr rfl F.un9 rfl) rfl rfl rfl ?_
  first
    | refine LX.pure (Y.ltN rfl rfl) rfl rfl rfl ?_
    | refine LX.pure (Y.ltI rfl rfl) rfl rfl rfl ?_
  refine LX.sub (l' := [(0, _), (3, _), (7, _)]) ⟨rfl, rfl, rfl, trivial⟩ ?_
  refine LX.next ?_
  refine PX.thenN ?_
  refine CX.cond rfl (fun hb1 => ?_) (fun hb1 => ?_)
  · try simp at hb1
    have hks : k < s.length := hb1
    refine CX.skip ?_
    refine PX.thenN ?_
    refine CX.seq ?_
    refine CX.block ?_
    refine CX.seq ?_
    refine CX.region ?_
    refine LX.pure (Y.move rfl) rfl rfl rfl ?_
    refine LX.pure (Y.move rfl) rfl rfl rfl ?_
    refine LX.pure (Y.index rfl rfl F.un9 (by first | omega | (simp only []; omega) | (simp; done) | (simp; omega))) rfl rfl rfl ?_
    refine LX.callQ (letter4_q _ _) Fe.en51 rfl rfl rfl rfl rfl ?_
    refine LX.pure (Y.not rfl) rfl rfl rfl ?_
    refine LX.pure (Y.move rfl) rfl rfl rfl ?_
    refine LX.sub (l' := [(0, _), (3, _), (15, _)]) ⟨rfl, rfl, rfl, trivial⟩ ?_
    apply LX.joinAnd 10 25 15 rfl
    · intro hb2
      have hb2p := hb2
      try simp at hb2p
      refine LX.gT rfl rfl rfl hb2 (Y.move rfl) rfl rfl ?_
      first
        | refine LX.gT rfl rfl rfl hb2 (Y.gtN rfl rfl) rfl rfl ?_
        | refine LX.gT rfl rfl rfl hb2 (Y.gtI rfl rfl) rfl rfl ?_
      refine LX.gT rfl rfl rfl hb2 (Y.move rfl) rfl rfl ?_
      refine LX.sub (l' := [(0, _), (3, _), (15, _), (18, _)]) ⟨rfl, rfl, rfl, rfl, trivial⟩ ?_
      apply LX.joinAnd 5 23 18 rfl
      · intro hb3
        have hb3p := hb3
        try simp at hb3p
        refine LX.gT rfl rfl rfl hb3 (Y.move rfl) rfl rfl ?_
        refine LX.gT rfl rfl rfl hb3 (Y.move rfl) rfl rfl ?_
        refine LX.gT rfl rfl rfl hb3 (Y.index rfl rfl F.un9 (by first | omega | (simp only []; omega) | (simp; done) | (simp; omega))) rfl rfl ?_
        refine LX.callQT rfl rfl rfl hb3 (digit4_q _ _) Fe.en52 rfl rfl rfl rfl ?_
        refine LX.gT rfl rfl rfl hb2 (Y.pickT rfl hb3 rfl) rfl rfl ?_
        exact LX.left ⟨rfl, rfl, rfl, rfl, rfl, trivial⟩
      · intro hb3
        have hb3p := hb3
        try simp at hb3p
        refine LX.gF rfl rfl rfl hb3 rfl rfl ?_
        refine LX.gF rfl rfl rfl hb3 rfl rfl ?_
        refine LX.gF rfl rfl rfl hb3 rfl rfl ?_
        refine LX.gF rfl rfl rfl hb3 rfl rfl ?_
        refine LX.gT rfl rfl rfl hb2 (Y.pickF rfl hb3 rfl) rfl rfl ?_
        exact LX.left ⟨rfl, rfl, rfl, rfl, rfl, trivial⟩
      refine LX.gT rfl rfl rfl hb2 (Y.not rfl) rfl rfl ?_
      refine LX.pure (Y.pickT rfl hb2 rfl) rfl rfl rfl ?_
      exact LX.left ⟨rfl, rfl, rfl, rfl, trivial⟩
    · intro hb2
      have hb2p := hb2
      try simp at hb2p
      refine LX.gF rfl rfl rfl hb2 rfl rfl ?_
      refine LX.gF rfl rfl rfl hb2 rfl rfl ?_
      refine LX.gF rfl rfl rfl hb2 rfl rfl ?_
      refine LX.gU rfl rfl rfl rfl rfl ?_
      refine LX.gU rfl rfl rfl rfl rfl ?_
      refine LX.gU rfl rfl rfl rfl rfl ?_
      refine LX.gU rfl rfl rfl rfl rfl ?_
      refine LX.gF rfl rfl rfl hb2 rfl rfl ?_
      refine LX.gF rfl rfl rfl hb2 rfl rfl ?_
      refine LX.pure (Y.pickF rfl hb2 rfl) rfl rfl rfl ?_
      exact LX.left ⟨rfl, rfl, rfl, rfl, trivial⟩
    refine LX.sub (l' := [(0, _), (3, _), (25, _)]) ⟨rfl, rfl, rfl, trivial⟩ ?_
    refine LX.next ?_
    refine PX.thenN ?_
    refine CX.cond rfl (fun hb4 => ?_) (fun hb4 => ?_)
    · try simp at hb4
      have hnk : ¬ okN s k := by unfold okN; rintro (h | ⟨h0, h⟩) <;> simp_all
      refine CX.seq ?_
      refine CX.region ?_
      refine LX.pure (Y.assign rfl) rfl rfl rfl ?_
      refine LX.sub (l' := [(0, _), (2, _), (3, _)]) ⟨rfl, rfl, rfl, trivial⟩ ?_
      refine LX.next ?_
      refine PX.thenN ?_
      refine CX.ret ?_
      refine PX.blockR ?_
      refine PX.thenR ?_
      refine PX.thenR ?_
      refine PX.blockR ?_
      refine PX.thenR ?_
      refine PX.ret1 (by simp) Tryd.results61 rfl ?_
      exact fun w hw => ⟨(), by rw [plainB_no hks hnk], hw⟩
    · try simp at hb4
      have hkk : okN s k := (Bool.eq_false_or_eq_true (isLet (bt s k))).elim (fun hl => .inl hl) (fun hl => .inr ⟨by have := (hb4 hl).1; omega, (hb4 hl).2⟩)
      refine CX.skip ?_
      refine PX.blockN ?_
      refine PX.thenN ?_
      refine CX.region ?_
      refine LX.pure (Y.move rfl) rfl rfl rfl ?_
      first
        | refine LX.pure (Y.addN rfl rfl (by first | omega | (simp only []; omega) | (simp; done) | (simp; omega))) rfl rfl rfl ?_
        | refine LX.pure (Y.add rfl rfl (by first | omega | (simp only []; omega) | (simp; done) | (simp; omega))) rfl rfl rfl ?_
      refine LX.pure (Y.assign rfl) rfl rfl rfl ?_
      refine LX.sub (l' := [(0, _), (3, _)]) ⟨rfl, rfl, trivial⟩ ?_
      refine LX.next ?_
      exact PX.again (k + 1) (by show s.length - (k + 1) < s.length - k; omega) ⟨rfl, rfl, trivial⟩ (fun w hw => ⟨⟨by omega, okN_next hok hkk⟩, hw⟩)
  · try simp at hb1
    have hks : k = s.length := by omega
    subst hks
    refine CX.exit ?_
    refine PX.thenE ?_
    refine PX.thenE ?_
    refine PX.blockE ?_
    refine PX.thenN ?_
    refine CX.seq ?_
    refine CX.region ?_
    refine LX.pure (Y.move rfl) rfl rfl rfl ?_
    refine LX.pure (Y.neS rfl rfl) rfl rfl rfl ?_
    refine LX.pure (Y.assign rfl) rfl rfl rfl ?_
    refine LX.sub (l' := [(2, _)]) ⟨rfl, trivial⟩ ?_
    refine LX.next ?_
    refine PX.thenN ?_
    refine CX.ret ?_
    refine PX.ret1 (by simp) Tryd.results61 rfl ?_
    exact fun w hw => ⟨(), by rw [plainB_end hok], hw⟩

theorem name4_q {W : World → Prop} [Stab W] (s : List UInt8) (hs : s.length ≤ 1000000) : FnQ Tryd.prog 26 #[str s] W (.bool (nameB s)) := by
  refine FnQ.all fun W' _ hW => ?_
  refine FnC.of_body (fn := Tryd.f26) [(0, _)] Tryd.func26 rfl Tryd.ntmps26 rfl ⟨rfl, trivial⟩ ?_
  refine CX.seq ?_
  refine CX.region ?_
  refine LX.pure (Y.assign rfl) rfl rfl rfl ?_
  refine LX.sub (l' := [(0, _), (2, _)]) ⟨rfl, rfl, trivial⟩ ?_
  refine LX.next ?_
  refine PX.thenN ?_
  refine CX.seq ?_
  refine CX.region ?_
  refine LX.pure (Y.move rfl) rfl rfl rfl ?_
  refine LX.callQ (plain4_q s hs) Fe.en61 rfl rfl rfl rfl rfl ?_
  refine LX.pure (Y.move rfl) rfl rfl rfl ?_
  refine LX.sub (l' := [(0, _), (2, _), (5, _)]) ⟨rfl, rfl, rfl, trivial⟩ ?_
  apply LX.joinAnd 5 10 5 rfl
  · intro hb1
    have hb1p := hb1
    try simp at hb1p
    refine LX.callT rfl rfl rfl hb1 (words4_c) Fe.en29 rfl rfl rfl rfl ?_
    intro bw
    refine LX.gT rfl rfl rfl hb1 (Y.move rfl) rfl rfl ?_
    refine LX.callQT rfl rfl rfl hb1 (among_q bw 0 17 wordsList s (fun w h => h.2) (by decide)) Fe.en53 rfl rfl rfl rfl ?_
    first
      | refine LX.gT rfl rfl rfl hb1 (Y.ltN rfl rfl) rfl rfl ?_
      | refine LX.gT rfl rfl rfl hb1 (Y.ltI rfl rfl) rfl rfl ?_
    refine LX.pure (Y.pickT rfl hb1 rfl) rfl rfl rfl ?_
    first
    | exact LX.left ⟨rfl, rfl, rfl, rfl, trivial⟩
    | exact LX.leftP ⟨rfl, rfl, rfl, rfl, trivial⟩
    | exact LX.world (fun w h => h.1) (LX.leftP ⟨rfl, rfl, rfl, rfl, trivial⟩)
  · intro hb1
    have hb1p := hb1
    try simp at hb1p
    refine LX.gF rfl rfl rfl hb1 rfl rfl ?_
    refine LX.gF rfl rfl rfl hb1 rfl rfl ?_
    refine LX.gF rfl rfl rfl hb1 rfl rfl ?_
    refine LX.gF rfl rfl rfl hb1 rfl rfl ?_
    refine LX.pure (Y.pickF rfl hb1 rfl) rfl rfl rfl ?_
    first
    | exact LX.left ⟨rfl, rfl, rfl, rfl, trivial⟩
    | exact LX.leftP ⟨rfl, rfl, rfl, rfl, trivial⟩
    | exact LX.world (fun w h => h.1) (LX.leftP ⟨rfl, rfl, rfl, rfl, trivial⟩)
  refine LX.pure (Y.assign rfl) rfl rfl rfl ?_
  refine LX.sub (l' := [(2, _)]) ⟨rfl, trivial⟩ ?_
  refine LX.next ?_
  refine PX.thenN ?_
  refine CX.ret ?_
  refine PX.ret1 (by simp) Tryd.results26 rfl ?_
  exact fun w hw => ⟨(), by unfold nameB; rw [← idx_dec], hw⟩

theorem name_q {W : World → Prop} [Stab W] (s : List UInt8) (hs : s.length ≤ 1000000) : FnQ Tryd.prog 25 #[str s] W (.bool (nameB s)) := by
  refine FnQ.all fun W' _ hW => ?_
  refine FnC.of_body (fn := Tryd.f25) [(0, _)] Tryd.func25 rfl Tryd.ntmps25 rfl ⟨rfl, trivial⟩ ?_
  refine CX.seq ?_
  refine CX.region ?_
  refine LX.pure (Y.assign rfl) rfl rfl rfl ?_
  refine LX.sub (l' := [(0, _), (2, _)]) ⟨rfl, rfl, trivial⟩ ?_
  refine LX.next ?_
  refine PX.thenN ?_
  refine CX.seq ?_
  refine CX.seq ?_
  refine CX.region ?_
  refine LX.pure (Y.move rfl) rfl rfl rfl ?_
  refine LX.pure (Y.lenStr rfl F.un9 rfl) rfl rfl rfl ?_
  refine LX.pure (Y.move rfl) rfl rfl rfl ?_
  refine LX.sub (l' := [(0, _), (2, _), (5, _), (6, _)]) ⟨rfl, rfl, rfl, rfl, trivial⟩ ?_
  refine LX.next ?_
  refine PX.thenN ?_
  refine CX.block ?_
  refine CX.loop (τ := Nat) (fun k => [(0, str s), (5, .int .i64 (s.length : Int)), (6, .int .i64 (k : Int))]) (fun k w => (k ≤ s.length ∧ ∀ i, i < k → okN s i) ∧ W' w) (fun k => s.length - k) 0 ⟨rfl, rfl, rfl, trivial⟩ (fun w hw => ⟨⟨Nat.zero_le _, fun i hi => absurd hi (Nat.not_lt_zero i)⟩, hw⟩) ?_
  intro k
  refine CX.have fun ⟨hk, hok⟩ => ?_
  refine CX.seq ?_
  refine CX.region ?_
  first
    | refine LX.pure (Y.ltN rfl rfl) rfl rfl rfl ?_
    | refine LX.pure (Y.ltI rfl rfl) rfl rfl rfl ?_
  refine LX.sub (l' := [(0, _), (5, _), (6, _), (7, _)]) ⟨rfl, rfl, rfl, rfl, trivial⟩ ?_
  refine LX.next ?_
  refine PX.thenN ?_
  refine CX.seq ?_
  refine CX.cond rfl (fun hb1 => ?_) (fun hb1 => ?_)
  · try simp at hb1
    have hks : k < s.length := hb1
    refine CX.skip ?_
    refine PX.thenN ?_
    refine CX.seq ?_
    refine CX.block ?_
    refine CX.seq ?_
    refine CX.region ?_
    refine LX.pure (Y.move rfl) rfl rfl rfl ?_
    refine LX.pure (Y.assign rfl) rfl rfl rfl ?_
    refine LX.sub (l' := [(0, _), (3, _), (5, _), (6, _)]) ⟨rfl, rfl, rfl, rfl, trivial⟩ ?_
    refine LX.next ?_
    refine PX.thenN ?_
    refine CX.seq ?_
    refine CX.region ?_
    refine LX.pure (Y.move rfl) rfl rfl rfl ?_
    refine LX.pure (Y.move rfl) rfl rfl rfl ?_
    refine LX.pure (Y.index rfl rfl F.un9 (by first | omega | (simp only []; omega) | (simp; done) | (simp; omega))) rfl rfl rfl ?_
    refine LX.callQ (letter_q _ _) F.en58 rfl rfl rfl rfl rfl ?_
    refine LX.pure (Y.not rfl) rfl rfl rfl ?_
    refine LX.pure (Y.move rfl) rfl rfl rfl ?_
    refine LX.sub (l' := [(0, _), (3, _), (5, _), (6, _), (14, _)]) ⟨rfl, rfl, rfl, rfl, rfl, trivial⟩ ?_
    apply LX.joinAnd 10 24 14 rfl
    · intro hb2
      have hb2p := hb2
      try simp at hb2p
      refine LX.gT rfl rfl rfl hb2 (Y.move rfl) rfl rfl ?_
      first
        | refine LX.gT rfl rfl rfl hb2 (Y.eqN rfl rfl) rfl rfl ?_
        | refine LX.gT rfl rfl rfl hb2 (Y.eqI rfl rfl) rfl rfl ?_
      refine LX.gT rfl rfl rfl hb2 (Y.move rfl) rfl rfl ?_
      refine LX.sub (l' := [(0, _), (3, _), (5, _), (6, _), (14, _), (17, _)]) ⟨rfl, rfl, rfl, rfl, rfl, rfl, trivial⟩ ?_
      apply LX.joinOr 6 23 17 rfl
      · intro hb3
        have hb3p := hb3
        try simp at hb3p
        refine LX.gF rfl rfl rfl hb3 rfl rfl ?_
        refine LX.gF rfl rfl rfl hb3 rfl rfl ?_
        refine LX.gF rfl rfl rfl hb3 rfl rfl ?_
        refine LX.gF rfl rfl rfl hb3 rfl rfl ?_
        refine LX.gF rfl rfl rfl hb3 rfl rfl ?_
        refine LX.gT rfl rfl rfl hb2 (Y.pickT rfl hb3 rfl) rfl rfl ?_
        exact LX.left ⟨rfl, rfl, rfl, rfl, rfl, rfl, rfl, trivial⟩
      · intro hb3
        have hb3p := hb3
        try simp at hb3p
        refine LX.gT rfl rfl rfl hb3 (Y.move rfl) rfl rfl ?_
        refine LX.gT rfl rfl rfl hb3 (Y.move rfl) rfl rfl ?_
        refine LX.gT rfl rfl rfl hb3 (Y.index rfl rfl F.un9 (by first | omega | (simp only []; omega) | (simp; done) | (simp; omega))) rfl rfl ?_
        refine LX.callQT rfl rfl rfl hb3 (digit_q _ _) F.en59 rfl rfl rfl rfl ?_
        refine LX.gT rfl rfl rfl hb3 (Y.not rfl) rfl rfl ?_
        refine LX.gT rfl rfl rfl hb2 (Y.pickF rfl hb3 rfl) rfl rfl ?_
        exact LX.left ⟨rfl, rfl, rfl, rfl, rfl, rfl, rfl, trivial⟩
      refine LX.pure (Y.pickT rfl hb2 rfl) rfl rfl rfl ?_
      exact LX.left ⟨rfl, rfl, rfl, rfl, rfl, rfl, trivial⟩
    · intro hb2
      have hb2p := hb2
      try simp at hb2p
      refine LX.gF rfl rfl rfl hb2 rfl rfl ?_
      refine LX.gF rfl rfl rfl hb2 rfl rfl ?_
      refine LX.gF rfl rfl rfl hb2 rfl rfl ?_
      refine LX.gU rfl rfl rfl rfl rfl ?_
      refine LX.gU rfl rfl rfl rfl rfl ?_
      refine LX.gU rfl rfl rfl rfl rfl ?_
      refine LX.gU rfl rfl rfl rfl rfl ?_
      refine LX.gU rfl rfl rfl rfl rfl ?_
      refine LX.gF rfl rfl rfl hb2 rfl rfl ?_
      refine LX.pure (Y.pickF rfl hb2 rfl) rfl rfl rfl ?_
      exact LX.left ⟨rfl, rfl, rfl, rfl, rfl, rfl, trivial⟩
    refine LX.sub (l' := [(0, _), (5, _), (6, _), (24, _)]) ⟨rfl, rfl, rfl, rfl, trivial⟩ ?_
    refine LX.next ?_
    refine PX.thenN ?_
    refine CX.cond rfl (fun hb4 => ?_) (fun hb4 => ?_)
    · try simp at hb4
      have hnk : ¬ okN s k := by unfold okN; rintro (h | ⟨h0, h⟩) <;> simp_all
      refine CX.seq ?_
      refine CX.region ?_
      refine LX.pure (Y.assign rfl) rfl rfl rfl ?_
      refine LX.sub (l' := [(0, _), (2, _), (5, _), (6, _)]) ⟨rfl, rfl, rfl, rfl, trivial⟩ ?_
      refine LX.next ?_
      refine PX.thenN ?_
      refine CX.ret ?_
      refine PX.blockR ?_
      refine PX.thenR ?_
      refine PX.thenR ?_
      refine PX.blockR ?_
      refine PX.thenR ?_
      refine PX.ret1 (by simp) Tryd.results25 rfl ?_
      exact fun w hw => ⟨(), by unfold nameB; rw [plainB_no hks hnk, Bool.false_and], hw⟩
    · try simp at hb4
      have hkk : okN s k := (Bool.eq_false_or_eq_true (isLet (bt s k))).elim (fun hl => .inl hl) (fun hl => .inr ⟨by have := (hb4 hl).1; omega, (hb4 hl).2⟩)
      refine CX.skip ?_
      refine PX.blockN ?_
      refine PX.thenN ?_
      refine CX.region ?_
      first
        | refine LX.pure (Y.addN rfl rfl (by first | omega | (simp only []; omega) | (simp; done) | (simp; omega))) rfl rfl rfl ?_
        | refine LX.pure (Y.add rfl rfl (by first | omega | (simp only []; omega) | (simp; done) | (simp; omega))) rfl rfl rfl ?_
      refine LX.pure (Y.move rfl) rfl rfl rfl ?_
      refine LX.sub (l' := [(0, _), (5, _), (6, _)]) ⟨rfl, rfl, rfl, trivial⟩ ?_
      refine LX.next ?_
      exact PX.again (k + 1) (by show s.length - (k + 1) < s.length - k; omega) ⟨rfl, rfl, rfl, trivial⟩ (fun w hw => ⟨⟨by omega, okN_next hok hkk⟩, hw⟩)
  · try simp at hb1
    have hks : k = s.length := by omega
    subst hks
    refine CX.exit ?_
    refine PX.thenE ?_
    refine PX.thenE ?_
    refine PX.blockE ?_
    refine PX.thenN ?_
    refine CX.seq ?_
    refine CX.region ?_
    refine LX.pure (Y.move rfl) rfl rfl rfl ?_
    refine LX.pure (Y.neS rfl rfl) rfl rfl rfl ?_
    refine LX.pure (Y.move rfl) rfl rfl rfl ?_
    refine LX.sub (l' := [(0, _), (28, _)]) ⟨rfl, rfl, trivial⟩ ?_
    apply LX.joinAnd 5 33 28 rfl
    · intro hb5
      have hb5p := hb5
      try simp at hb5p
      refine LX.callT rfl rfl rfl hb5 (words_c) F.en24 rfl rfl rfl rfl ?_
      intro bw
      refine LX.gT rfl rfl rfl hb5 (Y.move rfl) rfl rfl ?_
      refine LX.callQT rfl rfl rfl hb5 (contains_q bw 0 17 wordsList s (fun w h => h.2) (by decide)) F.en60 rfl rfl rfl rfl ?_
      refine LX.gT rfl rfl rfl hb5 (Y.not rfl) rfl rfl ?_
      refine LX.pure (Y.pickT rfl hb5 rfl) rfl rfl rfl ?_
      first
      | exact LX.left ⟨rfl, rfl, rfl, trivial⟩
      | exact LX.leftP ⟨rfl, rfl, rfl, trivial⟩
      | exact LX.world (fun w h => h.1) (LX.leftP ⟨rfl, rfl, rfl, trivial⟩)
    · intro hb5
      have hb5p := hb5
      try simp at hb5p
      refine LX.gF rfl rfl rfl hb5 rfl rfl ?_
      refine LX.gF rfl rfl rfl hb5 rfl rfl ?_
      refine LX.gF rfl rfl rfl hb5 rfl rfl ?_
      refine LX.gF rfl rfl rfl hb5 rfl rfl ?_
      refine LX.pure (Y.pickF rfl hb5 rfl) rfl rfl rfl ?_
      first
      | exact LX.left ⟨rfl, rfl, rfl, trivial⟩
      | exact LX.leftP ⟨rfl, rfl, rfl, trivial⟩
      | exact LX.world (fun w h => h.1) (LX.leftP ⟨rfl, rfl, rfl, trivial⟩)
    refine LX.pure (Y.assign rfl) rfl rfl rfl ?_
    refine LX.sub (l' := [(2, _)]) ⟨rfl, trivial⟩ ?_
    refine LX.next ?_
    refine PX.thenN ?_
    refine CX.ret ?_
    refine PX.ret1 (by simp) Tryd.results25 rfl ?_
    exact fun w hw => ⟨(), by unfold nameB; rw [plainB_end hok], hw⟩

theorem sameTexts_q {W : World → Prop} [Stab W] (b1 o1 c1 b2 o2 c2 : Nat) (xs ys : List (List UInt8)) (h1 : ∀ w, W w → Cells b1 o1 (xs.map str) w) (h2 : ∀ w, W w → Cells b2 o2 (ys.map str) w) (hl : xs.length ≤ 1000000) : FnQ Tryd.prog 28 #[.slice (some ⟨b1, o1, none⟩) xs.length c1, .slice (some ⟨b2, o2, none⟩) ys.length c2] W (.bool (decide (xs = ys))) := by
  refine FnQ.all fun W' _ hW => ?_
  refine FnC.of_body (fn := Tryd.f28) [(0, _), (1, _)] Tryd.func28 rfl Tryd.ntmps28 rfl ⟨rfl, rfl, trivial⟩ ?_
  refine CX.seq ?_
  refine CX.region ?_
  refine LX.pure (Y.assign rfl) rfl rfl rfl ?_
  refine LX.sub (l' := [(0, _), (1, _), (4, _)]) ⟨rfl, rfl, rfl, trivial⟩ ?_
  refine LX.next ?_
  refine PX.thenN ?_
  refine CX.seq ?_
  refine CX.seq ?_
  refine CX.region ?_
  refine LX.pure (Y.move rfl) rfl rfl rfl ?_
  refine LX.pure (Y.lenSl rfl F.un53 rfl) rfl rfl rfl ?_
  refine LX.pure (Y.move rfl) rfl rfl rfl ?_
  refine LX.pure (Y.lenSl rfl F.un53 rfl) rfl rfl rfl ?_
  first
    | refine LX.pure (Y.neN rfl rfl) rfl rfl rfl ?_
    | refine LX.pure (Y.neI rfl rfl) rfl rfl rfl ?_
  refine LX.sub (l' := [(0, _), (1, _), (4, _), (11, _)]) ⟨rfl, rfl, rfl, rfl, trivial⟩ ?_
  refine LX.next ?_
  refine PX.thenN ?_
  refine CX.cond rfl (fun hb1 => ?_) (fun hb1 => ?_)
  · try simp at hb1
    have hne : ¬ xs = ys := fun h => hb1 (by rw [h])
    refine CX.seq ?_
    refine CX.region ?_
    refine LX.pure (Y.assign rfl) rfl rfl rfl ?_
    refine LX.sub (l' := [(0, _), (1, _), (4, _)]) ⟨rfl, rfl, rfl, trivial⟩ ?_
    refine LX.next ?_
    refine PX.thenN ?_
    refine CX.ret ?_
    refine PX.thenR ?_
    refine PX.ret1 (by simp) Tryd.results28 rfl ?_
    exact fun w hw => ⟨(), by rw [decide_eq_false hne], hw⟩
  · try simp at hb1
    refine CX.skip ?_
    refine PX.thenN ?_
    refine CX.seq ?_
    refine CX.seq ?_
    refine CX.region ?_
    refine LX.pure (Y.assign rfl) rfl rfl rfl ?_
    refine LX.sub (l' := [(0, _), (1, _), (4, _), (5, _)]) ⟨rfl, rfl, rfl, rfl, trivial⟩ ?_
    refine LX.next ?_
    refine PX.thenN ?_
    refine CX.block ?_
    refine CX.loop (τ := Nat) (fun k => [(0, .slice (some ⟨b1, o1, none⟩) xs.length c1), (1, .slice (some ⟨b2, o2, none⟩) ys.length c2), (5, .int .i64 (k : Int))]) (fun k w => (k ≤ xs.length ∧ ∀ i, i < k → xs.getD i [] = ys.getD i []) ∧ W' w) (fun k => xs.length - k) 0 ⟨rfl, rfl, rfl, trivial⟩ (fun w hw => ⟨⟨Nat.zero_le _, fun i hi => absurd hi (Nat.not_lt_zero i)⟩, hw⟩) ?_
    intro k
    refine CX.have fun ⟨hk, hi⟩ => ?_
    refine CX.seq ?_
    refine CX.seq ?_
    refine CX.region ?_
    refine LX.pure (Y.move rfl) rfl rfl rfl ?_
    refine LX.pure (Y.move rfl) rfl rfl rfl ?_
    refine LX.pure (Y.lenSl rfl F.un53 rfl) rfl rfl rfl ?_
    first
      | refine LX.pure (Y.ltN rfl rfl) rfl rfl rfl ?_
      | refine LX.pure (Y.ltI rfl rfl) rfl rfl rfl ?_
    refine LX.sub (l' := [(0, _), (1, _), (5, _), (15, _)]) ⟨rfl, rfl, rfl, rfl, trivial⟩ ?_
    refine LX.next ?_
    refine PX.thenN ?_
    refine CX.cond rfl (fun hb2 => ?_) (fun hb2 => ?_)
    · try simp at hb2
      have hkx : k < xs.length := hb2
      refine CX.skip ?_
      refine PX.thenN ?_
      refine CX.seq ?_
      refine CX.block ?_
      refine CX.seq ?_
      refine CX.regionQ rfl (by kernel_rfl) ?_
      refine LX.pure (Y.move rfl) rfl rfl rfl ?_
      refine LX.pure (Y.move rfl) rfl rfl rfl ?_
      first
        | refine LX.pure (Y.idxR 0 F.un53 F.sz9 rfl rfl rfl (by first | omega | (simp only []; omega) | (simp; done) | (simp; omega))) rfl rfl rfl ?_
        | refine LX.pure (Y.idxR 1 F.un53 F.sz9 rfl rfl rfl (by first | omega | (simp only []; omega) | (simp; done) | (simp; omega))) rfl rfl rfl ?_
        | refine LX.pure (Y.idxR 2 F.un53 F.sz9 rfl rfl rfl (by first | omega | (simp only []; omega) | (simp; done) | (simp; omega))) rfl rfl rfl ?_
        | refine LX.pure (Y.idxR 3 F.un53 F.sz9 rfl rfl rfl (by first | omega | (simp only []; omega) | (simp; done) | (simp; omega))) rfl rfl rfl ?_
        | refine LX.pure (Y.idx F.un53 F.sz9 rfl rfl (by first | omega | (simp only []; omega) | (simp; done) | (simp; omega))) rfl rfl rfl ?_
      first
        | refine LX.pure (Y.ldB 0 F.one9 rfl rfl rfl) rfl rfl rfl ?_
        | refine LX.pure (Y.ldB 1 F.one9 rfl rfl rfl) rfl rfl rfl ?_
        | refine LX.pure (Y.ldB 2 F.one9 rfl rfl rfl) rfl rfl rfl ?_
        | refine LX.pure (Y.ldB 3 F.one9 rfl rfl rfl) rfl rfl rfl ?_
        | refine LX.pure (Y.load F.one9 rfl (fun w hw => (h1 w (hW w hw)) k (str (xs.getD k [])) (by simp [List.getD, show k < xs.length by omega]) |> fun h => by simpa using h)) rfl rfl rfl ?_
        | refine LX.pure (Y.load F.one9 rfl (fun w hw => (h2 w (hW w hw)) k (str (ys.getD k [])) (by simp [List.getD, show k < ys.length by omega]) |> fun h => by simpa using h)) rfl rfl rfl ?_
      refine LX.pure (Y.move rfl) rfl rfl rfl ?_
      refine LX.pure (Y.move rfl) rfl rfl rfl ?_
      first
        | refine LX.pure (Y.idxR 0 F.un53 F.sz9 rfl rfl rfl (by first | omega | (simp only []; omega) | (simp; done) | (simp; omega))) rfl rfl rfl ?_
        | refine LX.pure (Y.idxR 1 F.un53 F.sz9 rfl rfl rfl (by first | omega | (simp only []; omega) | (simp; done) | (simp; omega))) rfl rfl rfl ?_
        | refine LX.pure (Y.idxR 2 F.un53 F.sz9 rfl rfl rfl (by first | omega | (simp only []; omega) | (simp; done) | (simp; omega))) rfl rfl rfl ?_
        | refine LX.pure (Y.idxR 3 F.un53 F.sz9 rfl rfl rfl (by first | omega | (simp only []; omega) | (simp; done) | (simp; omega))) rfl rfl rfl ?_
        | refine LX.pure (Y.idx F.un53 F.sz9 rfl rfl (by first | omega | (simp only []; omega) | (simp; done) | (simp; omega))) rfl rfl rfl ?_
      first
        | refine LX.pure (Y.ldB 0 F.one9 rfl rfl rfl) rfl rfl rfl ?_
        | refine LX.pure (Y.ldB 1 F.one9 rfl rfl rfl) rfl rfl rfl ?_
        | refine LX.pure (Y.ldB 2 F.one9 rfl rfl rfl) rfl rfl rfl ?_
        | refine LX.pure (Y.ldB 3 F.one9 rfl rfl rfl) rfl rfl rfl ?_
        | refine LX.pure (Y.load F.one9 rfl (fun w hw => (h1 w (hW w hw)) k (str (xs.getD k [])) (by simp [List.getD, show k < xs.length by omega]) |> fun h => by simpa using h)) rfl rfl rfl ?_
        | refine LX.pure (Y.load F.one9 rfl (fun w hw => (h2 w (hW w hw)) k (str (ys.getD k [])) (by simp [List.getD, show k < ys.length by omega]) |> fun h => by simpa using h)) rfl rfl rfl ?_
      refine LX.pure (Y.eqS rfl rfl) rfl rfl rfl ?_
      refine LX.pure (Y.assign rfl) rfl rfl rfl ?_
      refine LX.sub (l' := [(0, _), (1, _), (5, _), (6, _)]) ⟨rfl, rfl, rfl, rfl, trivial⟩ ?_
      refine LX.nextQ ?_
      refine PX.thenN ?_
      refine CX.seq ?_
      refine CX.region ?_
      refine LX.pure (Y.move rfl) rfl rfl rfl ?_
      refine LX.pure (Y.not rfl) rfl rfl rfl ?_
      refine LX.sub (l' := [(0, _), (1, _), (5, _), (28, _)]) ⟨rfl, rfl, rfl, rfl, trivial⟩ ?_
      refine LX.next ?_
      refine PX.thenN ?_
      refine CX.cond rfl (fun hb3 => ?_) (fun hb3 => ?_)
      · try simp at hb3
        have hne : ¬ xs = ys := fun h => hb3 (by rw [h])
        refine CX.seq ?_
        refine CX.region ?_
        refine LX.pure (Y.assign rfl) rfl rfl rfl ?_
        refine LX.sub (l' := [(0, _), (1, _), (4, _), (5, _)]) ⟨rfl, rfl, rfl, rfl, trivial⟩ ?_
        refine LX.next ?_
        refine PX.thenN ?_
        refine CX.ret ?_
        refine PX.blockR ?_
        refine PX.thenR ?_
        refine PX.thenR ?_
        refine PX.blockR ?_
        refine PX.thenR ?_
        refine PX.ret1 (by simp) Tryd.results28 rfl ?_
        exact fun w hw => ⟨(), by rw [decide_eq_false hne], hw⟩
      · try simp at hb3
        refine CX.skip ?_
        refine PX.blockN ?_
        refine PX.thenN ?_
        refine CX.region ?_
        refine LX.pure (Y.move rfl) rfl rfl rfl ?_
        first
          | refine LX.pure (Y.addN rfl rfl (by first | omega | (simp only []; omega) | (simp; done) | (simp; omega))) rfl rfl rfl ?_
          | refine LX.pure (Y.add rfl rfl (by first | omega | (simp only []; omega) | (simp; done) | (simp; omega))) rfl rfl rfl ?_
        refine LX.pure (Y.assign rfl) rfl rfl rfl ?_
        refine LX.sub (l' := [(0, _), (1, _), (5, _)]) ⟨rfl, rfl, rfl, trivial⟩ ?_
        refine LX.next ?_
        exact PX.again (k + 1) (by show xs.length - (k + 1) < xs.length - k; omega) ⟨rfl, rfl, rfl, trivial⟩ (fun w hw => ⟨⟨by omega, eqT_next hi (by simpa [List.getD] using hb3)⟩, hw⟩)
    · try simp at hb2
      have hall : xs = ys := eqT_all hb1 (fun i hi2 => hi i (by omega))
      refine CX.exit ?_
      refine PX.thenE ?_
      refine PX.thenE ?_
      refine PX.blockE ?_
      refine PX.thenN ?_
      refine CX.seq ?_
      refine CX.region ?_
      refine LX.pure (Y.assign rfl) rfl rfl rfl ?_
      refine LX.sub (l' := [(4, _)]) ⟨rfl, trivial⟩ ?_
      refine LX.next ?_
      refine PX.thenN ?_
      refine CX.ret ?_
      refine PX.ret1 (by simp) Tryd.results28 rfl ?_
      exact fun w hw => ⟨(), by rw [decide_eq_true hall], hw⟩

theorem quote4_c {w0 : World} {base : Nat} {fr : List It} (s : List UInt8) (hs : s.length ≤ 1000) : FnC Tryd.prog 27 #[str s] (WA w0 base fr) (fun _ : Unit => str (quoteL s)) (fun _ => WA w0 base fr) := by
  refine FnC.of_body (fn := Tryd.f27) [(0, _)] Tryd.func27 rfl Tryd.ntmps27 rfl ⟨rfl, trivial⟩ ?_
  refine CX.seq ?_
  refine CX.region ?_
  refine LX.pure (Y.assign rfl) rfl rfl rfl ?_
  refine LX.sub (l' := [(0, _), (2, _)]) ⟨rfl, rfl, trivial⟩ ?_
  refine LX.next ?_
  refine PX.thenN ?_
  refine CX.seq ?_
  refine CX.region ?_
  refine LX.pure (Y.assign rfl) rfl rfl rfl ?_
  refine LX.sub (l' := [(0, _), (2, _), (3, _)]) ⟨rfl, rfl, rfl, trivial⟩ ?_
  refine LX.next ?_
  refine PX.thenN ?_
  refine CX.seq ?_
  refine CX.region ?_
  refine LX.pure (Y.move rfl) rfl rfl rfl ?_
  refine LX.pure (Y.lenStr rfl F.un9 rfl) rfl rfl rfl ?_
  first
    | refine LX.pure (Y.addN rfl rfl (by first | omega | (simp only []; omega) | (simp; done) | (simp; omega))) rfl rfl rfl ?_
    | refine LX.pure (Y.add rfl rfl (by first | omega | (simp only []; omega) | (simp; done) | (simp; omega))) rfl rfl rfl ?_
  refine LX.make0 (c := s.length + 2) F.el76 rfl rfl rfl (by omega) (by omega) rfl rfl rfl ?_
  intro bm
  refine LX.buildSlice (e := 5) (size := 1) rfl rfl (fun _ => by kernel_rfl) rfl (by decide) rfl rfl rfl ?_
  intro gt6
  first
    | refine LX.appendT 0 F.el76 rfl rfl rfl rfl rfl rfl rfl (by first | omega | (dsimp only; omega)) (by first | omega | (dsimp only; omega)) rfl rfl rfl ?_
    | refine LX.appendT 1 F.el76 rfl rfl rfl rfl rfl rfl rfl (by first | omega | (dsimp only; omega)) (by first | omega | (dsimp only; omega)) rfl rfl rfl ?_
  intro g' cap'
  refine LX.pure (Y.assign rfl) rfl rfl rfl ?_
  refine LX.sub (l' := [(0, _), (2, _), (3, _), (4, _)]) ⟨rfl, rfl, rfl, rfl, trivial⟩ ?_
  refine LX.next ?_
  refine PX.thenN ?_
  refine CX.seq ?_
  refine CX.seq ?_
  refine CX.region ?_
  refine LX.pure (Y.assign rfl) rfl rfl rfl ?_
  refine LX.sub (l' := [(0, _), (2, _), (3, _), (4, _), (5, _)]) ⟨rfl, rfl, rfl, rfl, rfl, trivial⟩ ?_
  refine LX.next ?_
  refine PX.thenN ?_
  refine CX.block ?_
  refine CX.loop (τ := Nat × Option Nat × Nat) (fun t : Nat × Option Nat × Nat => [(0, str s), (3, str hexes), (4, rv t.2.1 (qb s t.1).length t.2.2), (5, .int .i64 (t.1 : Int))]) (fun (t : Nat × Option Nat × Nat) w => t.1 ≤ s.length ∧ WA w0 base (.row t.2.1 t.2.2 (qb s t.1).length 5 1 ((qb s t.1).map b8) :: fr) w) (fun t => s.length - t.1) (0, g', cap') ⟨rfl, rfl, rfl, rfl, trivial⟩ (fun w hw => ⟨Nat.zero_le _, hw⟩) ?_
  rintro ⟨k, g, c⟩
  refine CX.have fun hk => ?_
  dsimp only at hk ⊢
  have hql := qb_len s k
  have hbl := bt_lt s k
  refine CX.seq ?_
  refine CX.seq ?_
  refine CX.region ?_
  refine LX.pure (Y.move rfl) rfl rfl rfl ?_
  refine LX.pure (Y.move rfl) rfl rfl rfl ?_
  refine LX.pure (Y.lenStr rfl F.un9 rfl) rfl rfl rfl ?_
  first
    | refine LX.pure (Y.ltN rfl rfl) rfl rfl rfl ?_
    | refine LX.pure (Y.ltI rfl rfl) rfl rfl rfl ?_
  refine LX.sub (l' := [(0, _), (3, _), (4, _), (5, _), (16, _)]) ⟨rfl, rfl, rfl, rfl, rfl, trivial⟩ ?_
  refine LX.next ?_
  refine PX.thenN ?_
  refine CX.cond rfl (fun hb1 => ?_) (fun hb1 => ?_)
  · try simp at hb1
    have hkl : k < s.length := hb1
    refine CX.skip ?_
    refine PX.thenN ?_
    refine CX.seq ?_
    refine CX.block ?_
    refine CX.seq ?_
    refine CX.region ?_
    refine LX.pure (Y.move rfl) rfl rfl rfl ?_
    refine LX.pure (Y.move rfl) rfl rfl rfl ?_
    refine LX.pure (Y.index rfl rfl F.un9 (by first | omega | (simp only []; omega) | (simp; done) | (simp; omega))) rfl rfl rfl ?_
    refine LX.pure (Y.assign rfl) rfl rfl rfl ?_
    refine LX.sub (l' := [(0, _), (3, _), (4, _), (5, _), (6, _)]) ⟨rfl, rfl, rfl, rfl, rfl, trivial⟩ ?_
    refine LX.next ?_
    refine PX.thenN ?_
    refine CX.block ?_
    refine CX.seq ?_
    refine CX.region ?_
    refine LX.pure (Y.move rfl) rfl rfl rfl ?_
    first
      | refine LX.pure (Y.eqN rfl rfl) rfl rfl rfl ?_
      | refine LX.pure (Y.eqI rfl rfl) rfl rfl rfl ?_
    refine LX.pure (Y.assign rfl) rfl rfl rfl ?_
    refine LX.sub (l' := [(0, _), (3, _), (4, _), (5, _), (6, _), (26, _)]) ⟨rfl, rfl, rfl, rfl, rfl, rfl, trivial⟩ ?_
    refine LX.next ?_
    refine PX.thenN ?_
    refine CX.cond rfl (fun hb2 => ?_) (fun hb2 => ?_)
    · try simp at hb2
      refine CX.region ?_
      refine LX.pure (Y.move rfl) rfl rfl rfl ?_
      refine LX.buildSlice (e := 5) (size := 1) rfl rfl (fun _ => by kernel_rfl) rfl (by decide) rfl rfl rfl ?_
      intro gt22
      first
        | refine LX.appendT 0 F.el76 rfl rfl rfl rfl rfl rfl rfl (by first | omega | (dsimp only; omega)) (by first | omega | (dsimp only; omega)) rfl rfl rfl ?_
        | refine LX.appendT 1 F.el76 rfl rfl rfl rfl rfl rfl rfl (by first | omega | (dsimp only; omega)) (by first | omega | (dsimp only; omega)) rfl rfl rfl ?_
      intro g' cap'
      refine LX.pure (Y.assign rfl) rfl rfl rfl ?_
      refine LX.sub (l' := [(0, _), (3, _), (4, _), (5, _)]) ⟨rfl, rfl, rfl, rfl, trivial⟩ ?_
      refine LX.next ?_
      refine PX.blockN ?_
      refine PX.blockN ?_
      refine PX.thenN ?_
      refine CX.region ?_
      refine LX.pure (Y.move rfl) rfl rfl rfl ?_
      first
        | refine LX.pure (Y.addN rfl rfl (by first | omega | (simp only []; omega) | (simp; done) | (simp; omega))) rfl rfl rfl ?_
        | refine LX.pure (Y.add rfl rfl (by first | omega | (simp only []; omega) | (simp; done) | (simp; omega))) rfl rfl rfl ?_
      refine LX.pure (Y.assign rfl) rfl rfl rfl ?_
      refine LX.sub (l' := [(0, _), (3, _), (4, _), (5, _)]) ⟨rfl, rfl, rfl, rfl, trivial⟩ ?_
      refine LX.next ?_
      have qn := (qb_next hkl).trans (congrArg (qb s k ++ ·) (quoteC_n hb2))
      exact PX.again (L := (fun t : Nat × Option Nat × Nat => [(0, str s), (3, str hexes), (4, rv t.2.1 (qb s t.1).length t.2.2), (5, .int .i64 (t.1 : Int))])) (WW := (fun (t : Nat × Option Nat × Nat) w => t.1 ≤ s.length ∧ WA w0 base (.row t.2.1 t.2.2 (qb s t.1).length 5 1 ((qb s t.1).map b8) :: fr) w)) (μ := fun t => s.length - t.1) (i := (k, g, c)) (k + 1, g', cap') (by show s.length - (k + 1) < s.length - k; omega) ⟨rfl, rfl, by show _ = some (rv g' (qb s (k + 1)).length cap'); rw [qn]; simp only [List.length_append]; rfl, rfl, trivial⟩ (fun w hw => ⟨by show k + 1 ≤ _; omega, by show WA w0 base (.row g' cap' (qb s (k + 1)).length 5 1 ((qb s (k + 1)).map b8) :: fr) w; rw [qn, List.length_append, List.map_append]; exact hw⟩)
    · try simp at hb2
      refine CX.seq ?_
      refine CX.region ?_
      refine LX.pure (Y.move rfl) rfl rfl rfl ?_
      first
        | refine LX.pure (Y.eqN rfl rfl) rfl rfl rfl ?_
        | refine LX.pure (Y.eqI rfl rfl) rfl rfl rfl ?_
      refine LX.pure (Y.assign rfl) rfl rfl rfl ?_
      refine LX.sub (l' := [(0, _), (3, _), (4, _), (5, _), (6, _), (32, _)]) ⟨rfl, rfl, rfl, rfl, rfl, rfl, trivial⟩ ?_
      refine LX.next ?_
      refine PX.thenN ?_
      refine CX.cond rfl (fun hb3 => ?_) (fun hb3 => ?_)
      · try simp at hb3
        refine CX.region ?_
        refine LX.pure (Y.move rfl) rfl rfl rfl ?_
        refine LX.buildSlice (e := 5) (size := 1) rfl rfl (fun _ => by kernel_rfl) rfl (by decide) rfl rfl rfl ?_
        intro gt32
        first
          | refine LX.appendT 0 F.el76 rfl rfl rfl rfl rfl rfl rfl (by first | omega | (dsimp only; omega)) (by first | omega | (dsimp only; omega)) rfl rfl rfl ?_
          | refine LX.appendT 1 F.el76 rfl rfl rfl rfl rfl rfl rfl (by first | omega | (dsimp only; omega)) (by first | omega | (dsimp only; omega)) rfl rfl rfl ?_
        intro g' cap'
        refine LX.pure (Y.assign rfl) rfl rfl rfl ?_
        refine LX.sub (l' := [(0, _), (3, _), (4, _), (5, _)]) ⟨rfl, rfl, rfl, rfl, trivial⟩ ?_
        refine LX.next ?_
        refine PX.blockN ?_
        refine PX.blockN ?_
        refine PX.thenN ?_
        refine CX.region ?_
        refine LX.pure (Y.move rfl) rfl rfl rfl ?_
        first
          | refine LX.pure (Y.addN rfl rfl (by first | omega | (simp only []; omega) | (simp; done) | (simp; omega))) rfl rfl rfl ?_
          | refine LX.pure (Y.add rfl rfl (by first | omega | (simp only []; omega) | (simp; done) | (simp; omega))) rfl rfl rfl ?_
        refine LX.pure (Y.assign rfl) rfl rfl rfl ?_
        refine LX.sub (l' := [(0, _), (3, _), (4, _), (5, _)]) ⟨rfl, rfl, rfl, rfl, trivial⟩ ?_
        refine LX.next ?_
        have qn := (qb_next hkl).trans (congrArg (qb s k ++ ·) (quoteC_t hb2 hb3))
        exact PX.again (L := (fun t : Nat × Option Nat × Nat => [(0, str s), (3, str hexes), (4, rv t.2.1 (qb s t.1).length t.2.2), (5, .int .i64 (t.1 : Int))])) (WW := (fun (t : Nat × Option Nat × Nat) w => t.1 ≤ s.length ∧ WA w0 base (.row t.2.1 t.2.2 (qb s t.1).length 5 1 ((qb s t.1).map b8) :: fr) w)) (μ := fun t => s.length - t.1) (i := (k, g, c)) (k + 1, g', cap') (by show s.length - (k + 1) < s.length - k; omega) ⟨rfl, rfl, by show _ = some (rv g' (qb s (k + 1)).length cap'); rw [qn]; simp only [List.length_append]; rfl, rfl, trivial⟩ (fun w hw => ⟨by show k + 1 ≤ _; omega, by show WA w0 base (.row g' cap' (qb s (k + 1)).length 5 1 ((qb s (k + 1)).map b8) :: fr) w; rw [qn, List.length_append, List.map_append]; exact hw⟩)
      · try simp at hb3
        refine CX.seq ?_
        refine CX.region ?_
        refine LX.pure (Y.move rfl) rfl rfl rfl ?_
        first
          | refine LX.pure (Y.eqN rfl rfl) rfl rfl rfl ?_
          | refine LX.pure (Y.eqI rfl rfl) rfl rfl rfl ?_
        refine LX.pure (Y.move rfl) rfl rfl rfl ?_
        refine LX.sub (l' := [(0, _), (3, _), (4, _), (5, _), (6, _), (41, _)]) ⟨rfl, rfl, rfl, rfl, rfl, rfl, trivial⟩ ?_
        apply LX.joinOr 3 44 41 rfl
        · intro hb4
          have hb4p := hb4
          try simp at hb4p
          refine LX.gF rfl rfl rfl hb4 rfl rfl ?_
          refine LX.gF rfl rfl rfl hb4 rfl rfl ?_
          refine LX.pure (Y.pickT rfl hb4 rfl) rfl rfl rfl ?_
          exact LX.left ⟨rfl, rfl, rfl, rfl, rfl, rfl, rfl, trivial⟩
        · intro hb4
          have hb4p := hb4
          try simp at hb4p
          refine LX.gT rfl rfl rfl hb4 (Y.move rfl) rfl rfl ?_
          first
            | refine LX.gT rfl rfl rfl hb4 (Y.eqN rfl rfl) rfl rfl ?_
            | refine LX.gT rfl rfl rfl hb4 (Y.eqI rfl rfl) rfl rfl ?_
          refine LX.pure (Y.pickF rfl hb4 rfl) rfl rfl rfl ?_
          exact LX.left ⟨rfl, rfl, rfl, rfl, rfl, rfl, rfl, trivial⟩
        refine LX.pure (Y.assign rfl) rfl rfl rfl ?_
        refine LX.sub (l' := [(0, _), (3, _), (4, _), (5, _), (6, _), (38, _)]) ⟨rfl, rfl, rfl, rfl, rfl, rfl, trivial⟩ ?_
        refine LX.next ?_
        refine PX.thenN ?_
        refine CX.cond rfl (fun hb5 => ?_) (fun hb5 => ?_)
        · try simp at hb5
          refine CX.region ?_
          refine LX.pure (Y.move rfl) rfl rfl rfl ?_
          refine LX.pure (Y.move rfl) rfl rfl rfl ?_
          refine LX.buildSlice (e := 5) (size := 1) rfl rfl (fun _ => by kernel_rfl) rfl (by decide) rfl rfl rfl ?_
          intro gt48
          first
            | refine LX.appendT 0 F.el76 rfl rfl rfl rfl rfl rfl rfl (by first | omega | (dsimp only; omega)) (by first | omega | (dsimp only; omega)) rfl rfl rfl ?_
            | refine LX.appendT 1 F.el76 rfl rfl rfl rfl rfl rfl rfl (by first | omega | (dsimp only; omega)) (by first | omega | (dsimp only; omega)) rfl rfl rfl ?_
          intro g' cap'
          refine LX.pure (Y.assign rfl) rfl rfl rfl ?_
          refine LX.sub (l' := [(0, _), (3, _), (4, _), (5, _)]) ⟨rfl, rfl, rfl, rfl, trivial⟩ ?_
          refine LX.next ?_
          refine PX.blockN ?_
          refine PX.blockN ?_
          refine PX.thenN ?_
          refine CX.region ?_
          refine LX.pure (Y.move rfl) rfl rfl rfl ?_
          first
            | refine LX.pure (Y.addN rfl rfl (by first | omega | (simp only []; omega) | (simp; done) | (simp; omega))) rfl rfl rfl ?_
            | refine LX.pure (Y.add rfl rfl (by first | omega | (simp only []; omega) | (simp; done) | (simp; omega))) rfl rfl rfl ?_
          refine LX.pure (Y.assign rfl) rfl rfl rfl ?_
          refine LX.sub (l' := [(0, _), (3, _), (4, _), (5, _)]) ⟨rfl, rfl, rfl, rfl, trivial⟩ ?_
          refine LX.next ?_
          have qn := (qb_next hkl).trans (congrArg (qb s k ++ ·) (quoteC_q hb2 hb3 hb5))
          exact PX.again (L := (fun t : Nat × Option Nat × Nat => [(0, str s), (3, str hexes), (4, rv t.2.1 (qb s t.1).length t.2.2), (5, .int .i64 (t.1 : Int))])) (WW := (fun (t : Nat × Option Nat × Nat) w => t.1 ≤ s.length ∧ WA w0 base (.row t.2.1 t.2.2 (qb s t.1).length 5 1 ((qb s t.1).map b8) :: fr) w)) (μ := fun t => s.length - t.1) (i := (k, g, c)) (k + 1, g', cap') (by show s.length - (k + 1) < s.length - k; omega) ⟨rfl, rfl, by show _ = some (rv g' (qb s (k + 1)).length cap'); rw [qn]; simp only [List.length_append]; rfl, rfl, trivial⟩ (fun w hw => ⟨by show k + 1 ≤ _; omega, by show WA w0 base (.row g' cap' (qb s (k + 1)).length 5 1 ((qb s (k + 1)).map b8) :: fr) w; rw [qn, List.length_append, List.map_append]; exact hw⟩)
        · try simp at hb5
          refine CX.seq ?_
          refine CX.region ?_
          refine LX.pure (Y.move rfl) rfl rfl rfl ?_
          first
            | refine LX.pure (Y.ltN rfl rfl) rfl rfl rfl ?_
            | refine LX.pure (Y.ltI rfl rfl) rfl rfl rfl ?_
          refine LX.pure (Y.move rfl) rfl rfl rfl ?_
          refine LX.sub (l' := [(0, _), (3, _), (4, _), (5, _), (6, _), (52, _)]) ⟨rfl, rfl, rfl, rfl, rfl, rfl, trivial⟩ ?_
          apply LX.joinOr 3 55 52 rfl
          · intro hb6
            have hb6p := hb6
            try simp at hb6p
            refine LX.gF rfl rfl rfl hb6 rfl rfl ?_
            refine LX.gF rfl rfl rfl hb6 rfl rfl ?_
            refine LX.pure (Y.pickT rfl hb6 rfl) rfl rfl rfl ?_
            exact LX.left ⟨rfl, rfl, rfl, rfl, rfl, rfl, rfl, trivial⟩
          · intro hb6
            have hb6p := hb6
            try simp at hb6p
            refine LX.gT rfl rfl rfl hb6 (Y.move rfl) rfl rfl ?_
            first
              | refine LX.gT rfl rfl rfl hb6 (Y.eqN rfl rfl) rfl rfl ?_
              | refine LX.gT rfl rfl rfl hb6 (Y.eqI rfl rfl) rfl rfl ?_
            refine LX.pure (Y.pickF rfl hb6 rfl) rfl rfl rfl ?_
            exact LX.left ⟨rfl, rfl, rfl, rfl, rfl, rfl, rfl, trivial⟩
          refine LX.pure (Y.assign rfl) rfl rfl rfl ?_
          refine LX.sub (l' := [(0, _), (3, _), (4, _), (5, _), (6, _), (49, _)]) ⟨rfl, rfl, rfl, rfl, rfl, rfl, trivial⟩ ?_
          refine LX.next ?_
          refine PX.thenN ?_
          refine CX.cond rfl (fun hb7 => ?_) (fun hb7 => ?_)
          · try simp at hb7
            refine CX.regionM [(0, .anywhere), (1, .anywhere), (2, .anywhere), (3, .anywhere), (4, .anywhere), (5, .anywhere), (6, .anywhere), (7, .anywhere), (8, .anywhere), (9, .alone), (10, .alone), (11, .anywhere)] rfl (by kernel_rfl) ?_
            refine MX.lift0 (i := 0) rfl (Y.move rfl) rfl rfl rfl ?_
            refine MX.lift0 (i := 1) rfl (Y.move rfl) rfl rfl rfl ?_
            refine MX.lift0 (i := 2) rfl (Y.move rfl) rfl rfl rfl ?_
            refine MX.lift0 (i := 3) rfl (Y.shr8 rfl rfl (by decide)) rfl rfl rfl ?_
            refine MX.lift0 (i := 4) rfl (Y.index rfl rfl F.un9 (show bt s k / 2 ^ 4 < 16 by omega)) rfl rfl rfl ?_
            refine MX.lift0 (i := 5) rfl (Y.move rfl) rfl rfl rfl ?_
            refine MX.lift0 (i := 6) rfl (Y.move rfl) rfl rfl rfl ?_
            refine MX.lift0 (i := 7) rfl (show Y _ _ _ _ _ (.int .u8 ((bt s k % 16 : Nat) : Int)) from by rw [← and15]; exact Y.and8 rfl rfl (bt_lt _ _) (by decide)) rfl rfl rfl ?_
            refine MX.lift0 (i := 8) rfl (Y.index rfl rfl F.un9 (show bt s k % 16 < 16 by omega)) rfl rfl rfl ?_
            refine MX.force (i := 9) rfl ?_
            refine LX.buildSlice (e := 5) (size := 1) rfl rfl (fun _ => by kernel_rfl) rfl (by decide) rfl rfl rfl ?_
            intro gt71
            refine LX.nextM [] (by kernel_rfl) (fun h => absurd rfl h) ?_
            refine MX.force (i := 10) rfl ?_
            first
              | refine LX.appendT 0 F.el76 rfl rfl rfl rfl rfl rfl rfl (by first | omega | (dsimp only; omega)) (by first | omega | (dsimp only; omega)) rfl rfl rfl ?_
              | refine LX.appendT 1 F.el76 rfl rfl rfl rfl rfl rfl rfl (by first | omega | (dsimp only; omega)) (by first | omega | (dsimp only; omega)) rfl rfl rfl ?_
            intro g' cap'
            refine LX.nextM [] (by kernel_rfl) (fun h => absurd rfl h) ?_
            refine MX.lift0 (i := 11) rfl (Y.assign rfl) rfl rfl rfl ?_
            refine MX.sub (l' := [(0, _), (3, _), (4, _), (5, _)]) ⟨rfl, rfl, rfl, rfl, trivial⟩ ?_
            refine MX.done ?_
            refine PX.blockN ?_
            refine PX.blockN ?_
            refine PX.thenN ?_
            refine CX.region ?_
            refine LX.pure (Y.move rfl) rfl rfl rfl ?_
            first
              | refine LX.pure (Y.addN rfl rfl (by first | omega | (simp only []; omega) | (simp; done) | (simp; omega))) rfl rfl rfl ?_
              | refine LX.pure (Y.add rfl rfl (by first | omega | (simp only []; omega) | (simp; done) | (simp; omega))) rfl rfl rfl ?_
            refine LX.pure (Y.assign rfl) rfl rfl rfl ?_
            refine LX.sub (l' := [(0, _), (3, _), (4, _), (5, _)]) ⟨rfl, rfl, rfl, rfl, trivial⟩ ?_
            refine LX.next ?_
            have qn := (qb_next hkl).trans (congrArg (qb s k ++ ·) (quoteC_x hb2 hb3 (fun h => h.elim hb5.1 hb5.2) hb7))
            exact PX.again (L := (fun t : Nat × Option Nat × Nat => [(0, str s), (3, str hexes), (4, rv t.2.1 (qb s t.1).length t.2.2), (5, .int .i64 (t.1 : Int))])) (WW := (fun (t : Nat × Option Nat × Nat) w => t.1 ≤ s.length ∧ WA w0 base (.row t.2.1 t.2.2 (qb s t.1).length 5 1 ((qb s t.1).map b8) :: fr) w)) (μ := fun t => s.length - t.1) (i := (k, g, c)) (k + 1, g', cap') (by show s.length - (k + 1) < s.length - k; omega) ⟨rfl, rfl, by show _ = some (rv g' (qb s (k + 1)).length cap'); rw [qn]; simp only [List.length_append]; rfl, rfl, trivial⟩ (fun w hw => ⟨by show k + 1 ≤ _; omega, by show WA w0 base (.row g' cap' (qb s (k + 1)).length 5 1 ((qb s (k + 1)).map b8) :: fr) w; rw [qn, List.length_append, List.map_append]; exact hw⟩)
          · try simp at hb7
            refine CX.region ?_
            refine LX.pure (Y.move rfl) rfl rfl rfl ?_
            refine LX.pure (Y.move rfl) rfl rfl rfl ?_
            refine LX.buildSlice (e := 5) (size := 1) rfl rfl (fun _ => by kernel_rfl) rfl (by decide) rfl rfl rfl ?_
            intro gt79
            first
              | refine LX.appendT 0 F.el76 rfl rfl rfl rfl rfl rfl rfl (by first | omega | (dsimp only; omega)) (by first | omega | (dsimp only; omega)) rfl rfl rfl ?_
              | refine LX.appendT 1 F.el76 rfl rfl rfl rfl rfl rfl rfl (by first | omega | (dsimp only; omega)) (by first | omega | (dsimp only; omega)) rfl rfl rfl ?_
            intro g' cap'
            refine LX.pure (Y.assign rfl) rfl rfl rfl ?_
            refine LX.sub (l' := [(0, _), (3, _), (4, _), (5, _)]) ⟨rfl, rfl, rfl, rfl, trivial⟩ ?_
            refine LX.next ?_
            refine PX.blockN ?_
            refine PX.blockN ?_
            refine PX.thenN ?_
            refine CX.region ?_
            refine LX.pure (Y.move rfl) rfl rfl rfl ?_
            first
              | refine LX.pure (Y.addN rfl rfl (by first | omega | (simp only []; omega) | (simp; done) | (simp; omega))) rfl rfl rfl ?_
              | refine LX.pure (Y.add rfl rfl (by first | omega | (simp only []; omega) | (simp; done) | (simp; omega))) rfl rfl rfl ?_
            refine LX.pure (Y.assign rfl) rfl rfl rfl ?_
            refine LX.sub (l' := [(0, _), (3, _), (4, _), (5, _)]) ⟨rfl, rfl, rfl, rfl, trivial⟩ ?_
            refine LX.next ?_
            have qn := (qb_next hkl).trans (congrArg (qb s k ++ ·) (quoteC_c hb2 hb3 (fun h => h.elim hb5.1 hb5.2) (fun h => h.elim (fun h => absurd h (Nat.not_lt.2 hb7.1)) hb7.2)))
            exact PX.again (L := (fun t : Nat × Option Nat × Nat => [(0, str s), (3, str hexes), (4, rv t.2.1 (qb s t.1).length t.2.2), (5, .int .i64 (t.1 : Int))])) (WW := (fun (t : Nat × Option Nat × Nat) w => t.1 ≤ s.length ∧ WA w0 base (.row t.2.1 t.2.2 (qb s t.1).length 5 1 ((qb s t.1).map b8) :: fr) w)) (μ := fun t => s.length - t.1) (i := (k, g, c)) (k + 1, g', cap') (by show s.length - (k + 1) < s.length - k; omega) ⟨rfl, rfl, by show _ = some (rv g' (qb s (k + 1)).length cap'); rw [qn]; simp only [List.length_append]; rfl, rfl, trivial⟩ (fun w hw => ⟨by show k + 1 ≤ _; omega, by show WA w0 base (.row g' cap' (qb s (k + 1)).length 5 1 ((qb s (k + 1)).map b8) :: fr) w; rw [qn, List.length_append, List.map_append]; exact hw⟩)
  · try simp at hb1
    have hkl : k = s.length := by omega
    subst hkl
    refine CX.exit ?_
    refine PX.thenE ?_
    refine PX.thenE ?_
    refine PX.blockE ?_
    refine PX.thenN ?_
    refine CX.seq ?_
    refine CX.region ?_
    refine LX.pure (Y.move rfl) rfl rfl rfl ?_
    refine LX.buildSlice (e := 5) (size := 1) rfl rfl (fun _ => by kernel_rfl) rfl (by decide) rfl rfl rfl ?_
    intro gt86
    first
      | refine LX.appendT 0 F.el76 rfl rfl rfl rfl rfl rfl rfl (by first | omega | (dsimp only; omega)) (by first | omega | (dsimp only; omega)) rfl rfl rfl ?_
      | refine LX.appendT 1 F.el76 rfl rfl rfl rfl rfl rfl rfl (by first | omega | (dsimp only; omega)) (by first | omega | (dsimp only; omega)) rfl rfl rfl ?_
    intro g' cap'
    refine LX.world (W' := WA w0 base (.row g' cap' ((qb s s.length).length + 1) 5 1 ((qb s s.length ++ [34]).map b8) :: fr)) (fun w hw => by rw [List.map_append]; exact hw) ?_
    first
      | refine LX.pure (Y.str 0 rfl rfl F.un76 F.un5 F.un9) rfl rfl rfl ?_
      | refine LX.pure (Y.str 1 rfl rfl F.un76 F.un5 F.un9) rfl rfl rfl ?_
    refine LX.pure (Y.assign rfl) rfl rfl rfl ?_
    refine LX.sub (l' := [(2, _)]) ⟨rfl, trivial⟩ ?_
    refine LX.next ?_
    refine PX.thenN ?_
    refine CX.ret ?_
    refine PX.ret1 (by simp) Tryd.results27 rfl ?_
    exact fun w hw => ⟨(), by rw [← qb_all], hw.drop (List.sublist_cons_self _ _)⟩

theorem quote_q {W : World → Prop} (s : List UInt8) (hs : s.length ≤ 1000) : FnQ Tryd.prog 23 #[str s] W (str (quoteL s)) :=
  FnQ.of (τ := Unit) (W' := fun _ _ => True) (fun w _ w1 h1 => (quote_c s hs w1 h1).mono fun e w' ⟨x, he, h⟩ => ⟨x, he, trivial, h⟩) (fun _ _ _ => rfl)
theorem quote4_q {W : World → Prop} (s : List UInt8) (hs : s.length ≤ 1000) : FnQ Tryd.prog 27 #[str s] W (str (quoteL s)) :=
  FnQ.of (τ := Unit) (W' := fun _ _ => True) (fun w _ w1 h1 => (quote4_c s hs w1 h1).mono fun e w' ⟨x, he, h⟩ => ⟨x, he, trivial, h⟩) (fun _ _ _ => rfl)

theorem names_c {w0 : World} {base : Nat} {fr : List It} {eLex eLim : Value} (hE : EnvLex w0 base eLex) (hM : EnvLim w0 base eLim) (s : List UInt8) : FnC Tryd.prog 10 #[str s] (WA w0 base fr) (fun _ : Unit => .bool true) (fun _ => WA w0 base fr) := by
  refine FnC.of_body (fn := Tryd.f10) [(0, _)] Tryd.func10 rfl Tryd.ntmps10 rfl ⟨rfl, trivial⟩ ?_
  refine CX.seq ?_
  refine CX.region ?_
  refine LX.pure (Y.assign rfl) rfl rfl rfl ?_
  refine LX.sub (l' := [(0, _), (2, _)]) ⟨rfl, rfl, trivial⟩ ?_
  refine LX.next ?_
  refine PX.thenN ?_
  refine CX.seq ?_
  refine CX.region ?_
  refine LX.call (first_c hE hM) F.en19 rfl rfl rfl rfl rfl ?_
  intro _
  refine LX.pure (Y.assign rfl) rfl rfl rfl ?_
  refine LX.sub (l' := [(0, _), (2, _), (3, _)]) ⟨rfl, rfl, rfl, trivial⟩ ?_
  refine LX.next ?_
  refine PX.thenN ?_
  refine CX.seq ?_
  refine CX.seq ?_
  refine CX.region ?_
  refine LX.pure (Y.move rfl) rfl rfl rfl ?_
  refine LX.pure (Y.not rfl) rfl rfl rfl ?_
  refine LX.sub (l' := [(0, _), (2, _), (3, _), (8, _)]) ⟨rfl, rfl, rfl, rfl, trivial⟩ ?_
  refine LX.next ?_
  refine PX.thenN ?_
  refine CX.cond rfl (fun hb1 => ?_) (fun hb1 => ?_)
  · try simp at hb1
    first | done | cases hb1
  · try simp at hb1
    refine CX.skip ?_
    refine PX.thenN ?_
    refine CX.seq ?_
    refine CX.seq ?_
    refine CX.region ?_
    refine LX.pure (Y.move rfl) rfl rfl rfl ?_
    refine LX.pure (Y.lenStr rfl F.un9 rfl) rfl rfl rfl ?_
    first
      | refine LX.pure (Y.gtN rfl rfl) rfl rfl rfl ?_
      | refine LX.pure (Y.gtI rfl rfl) rfl rfl rfl ?_
    refine LX.pure (Y.move rfl) rfl rfl rfl ?_
    refine LX.sub (l' := [(0, _), (2, _), (3, _), (12, _)]) ⟨rfl, rfl, rfl, rfl, trivial⟩ ?_
    apply LX.joinOr 3 15 12 rfl
    · intro hb2
      have hb2p := hb2
      try simp at hb2p
      refine LX.gF rfl rfl rfl hb2 rfl rfl ?_
      refine LX.gF rfl rfl rfl hb2 rfl rfl ?_
      refine LX.pure (Y.pickT rfl hb2 rfl) rfl rfl rfl ?_
      exact LX.left ⟨rfl, rfl, rfl, rfl, rfl, trivial⟩
    · intro hb2
      have hb2p := hb2
      try simp at hb2p
      refine LX.gT rfl rfl rfl hb2 (Y.move rfl) rfl rfl ?_
      refine LX.gT rfl rfl rfl hb2 (Y.not rfl) rfl rfl ?_
      refine LX.pure (Y.pickF rfl hb2 rfl) rfl rfl rfl ?_
      exact LX.left ⟨rfl, rfl, rfl, rfl, rfl, trivial⟩
    refine LX.sub (l' := [(0, _), (2, _), (3, _), (15, _)]) ⟨rfl, rfl, rfl, rfl, trivial⟩ ?_
    refine LX.next ?_
    refine PX.thenN ?_
    refine CX.cond rfl (fun hb3 => ?_) (fun hb3 => ?_)
    · try simp at hb3
      refine CX.seq ?_
      refine CX.region ?_
      refine LX.pure (Y.move rfl) rfl rfl rfl ?_
      refine LX.pure (Y.assign rfl) rfl rfl rfl ?_
      refine LX.sub (l' := [(0, _), (2, _)]) ⟨rfl, rfl, trivial⟩ ?_
      refine LX.next ?_
      refine PX.thenN ?_
      refine CX.ret ?_
      refine PX.thenR ?_
      refine PX.ret1 (by simp) Tryd.results10 rfl ?_
      exact fun w hw => ⟨(), rfl, hw⟩
    · try simp at hb3
      have hs300 : s.length ≤ 300 := hb3
      refine CX.skip ?_
      refine PX.thenN ?_
      refine CX.seq ?_
      refine CX.region ?_
      refine LX.call (words_c) F.en24 rfl rfl rfl rfl rfl ?_
      intro bw
      refine LX.pure (Y.assign rfl) rfl rfl rfl ?_
      refine LX.sub (l' := [(0, _), (2, _), (4, _)]) ⟨rfl, rfl, rfl, trivial⟩ ?_
      refine LX.next ?_
      refine PX.thenN ?_
      refine CX.seq ?_
      refine CX.seq ?_
      refine CX.region ?_
      refine LX.pure (Y.assign rfl) rfl rfl rfl ?_
      refine LX.sub (l' := [(0, _), (2, _), (4, _), (5, _)]) ⟨rfl, rfl, rfl, rfl, trivial⟩ ?_
      refine LX.next ?_
      refine PX.thenN ?_
      refine CX.block ?_
      refine CX.loop (τ := Nat) (fun k => [(0, str s), (4, .slice (some ⟨bw, 0, none⟩) 17 17), (5, .int .i64 (k : Int))]) (fun k w => k ≤ 17 ∧ (fun w => WA w0 base fr w ∧ Cells bw 0 (wordsList.map str) w) w) (fun k => 17 - k) 0 ⟨rfl, rfl, rfl, trivial⟩ (fun w hw => ⟨Nat.zero_le _, hw⟩) ?_
      intro k
      refine CX.have fun hk => ?_
      refine CX.seq ?_
      refine CX.seq ?_
      refine CX.region ?_
      refine LX.pure (Y.move rfl) rfl rfl rfl ?_
      refine LX.pure (Y.move rfl) rfl rfl rfl ?_
      refine LX.pure (Y.lenSl rfl F.un53 rfl) rfl rfl rfl ?_
      first
        | refine LX.pure (Y.ltN rfl rfl) rfl rfl rfl ?_
        | refine LX.pure (Y.ltI rfl rfl) rfl rfl rfl ?_
      refine LX.sub (l' := [(0, _), (4, _), (5, _), (21, _)]) ⟨rfl, rfl, rfl, rfl, trivial⟩ ?_
      refine LX.next ?_
      refine PX.thenN ?_
      refine CX.cond rfl (fun hb4 => ?_) (fun hb4 => ?_)
      · try simp at hb4
        have hk17 : k < 17 := hb4
        refine CX.skip ?_
        refine PX.thenN ?_
        refine CX.seq ?_
        refine CX.block ?_
        refine CX.seq ?_
        refine CX.region ?_
        refine LX.pure (Y.move rfl) rfl rfl rfl ?_
        refine LX.pure (Y.move rfl) rfl rfl rfl ?_
        first
          | refine LX.pure (Y.idxR 0 F.un53 F.sz9 rfl rfl rfl (by first | omega | exact hk17)) rfl rfl rfl ?_
          | refine LX.pure (Y.idxR 1 F.un53 F.sz9 rfl rfl rfl (by first | omega | exact hk17)) rfl rfl rfl ?_
          | refine LX.pure (Y.idx F.un53 F.sz9 rfl rfl (by first | omega | exact hk17)) rfl rfl rfl ?_
        first
          | refine LX.pure (Y.ldB 0 F.one9 rfl rfl rfl) rfl rfl rfl ?_
          | refine LX.pure (Y.ldB 1 F.one9 rfl rfl rfl) rfl rfl rfl ?_
          | refine LX.pure (Y.load F.one9 rfl (fun w hw => hw.2 k (str (wordsList.getD k [])) (by simp [List.getD, show k < wordsList.length from hk17]) |> fun h => by simpa using h)) rfl rfl rfl ?_
        refine LX.callQ (name_q _ (by first | omega | exact Nat.le_trans (words_len _ hk17) (by decide))) Fe.en25 rfl rfl rfl rfl rfl ?_
        refine LX.sub (l' := [(0, _), (4, _), (5, _), (28, _)]) ⟨rfl, rfl, rfl, rfl, trivial⟩ ?_
        refine LX.next ?_
        refine PX.thenN ?_
        refine CX.cond rfl (fun hb5 => ?_) (fun hb5 => ?_)
        · try simp at hb5
          first | done | (exfalso; have hw5 := words_no k hk17; simp only [List.getD] at hw5; rw [hw5] at hb5; cases hb5)
        · try simp at hb5
          refine CX.skip ?_
          refine PX.blockN ?_
          refine PX.thenN ?_
          refine CX.region ?_
          refine LX.pure (Y.move rfl) rfl rfl rfl ?_
          first
            | refine LX.pure (Y.addN rfl rfl (by first | omega | (simp only []; omega) | (simp; done) | (simp; omega))) rfl rfl rfl ?_
            | refine LX.pure (Y.add rfl rfl (by first | omega | (simp only []; omega) | (simp; done) | (simp; omega))) rfl rfl rfl ?_
          refine LX.pure (Y.assign rfl) rfl rfl rfl ?_
          refine LX.sub (l' := [(0, _), (4, _), (5, _)]) ⟨rfl, rfl, rfl, trivial⟩ ?_
          refine LX.next ?_
          exact PX.again (k + 1) (by show 17 - (k + 1) < 17 - k; omega) ⟨rfl, rfl, rfl, trivial⟩ (fun w hw => ⟨by omega, hw⟩)
      · try simp at hb4
        refine CX.exit ?_
        refine PX.thenE ?_
        refine PX.thenE ?_
        refine PX.blockE ?_
        refine PX.thenN ?_
        refine CX.seq ?_
        refine CX.region ?_
        refine LX.pure (Y.move rfl) rfl rfl rfl ?_
        refine LX.callQ (name_q _ (by first | omega | exact Nat.le_trans (words_len _ hk17) (by decide))) Fe.en25 rfl rfl rfl rfl rfl ?_
        refine LX.pure (Y.move rfl) rfl rfl rfl ?_
        refine LX.callQ (name4_q _ (by omega)) Fe.en26 rfl rfl rfl rfl rfl ?_
        refine LX.pure (Y.eqB rfl rfl Fe.un4) rfl rfl rfl ?_
        refine LX.pure (Y.move rfl) rfl rfl rfl ?_
        refine LX.sub (l' := [(0, _), (4, _), (34, _)]) ⟨rfl, rfl, rfl, trivial⟩ ?_
        apply LX.joinAnd 6 40 34 rfl
        · intro hb6
          have hb6p := hb6
          try simp at hb6p
          refine LX.gT rfl rfl rfl hb6 (Y.move rfl) rfl rfl ?_
          refine LX.callQT rfl rfl rfl hb6 (quote_q _ (by omega)) Fe.en23 rfl rfl rfl rfl ?_
          refine LX.gT rfl rfl rfl hb6 (Y.move rfl) rfl rfl ?_
          refine LX.callQT rfl rfl rfl hb6 (quote4_q _ (by omega)) Fe.en27 rfl rfl rfl rfl ?_
          refine LX.gT rfl rfl rfl hb6 (Y.eqS rfl rfl) rfl rfl ?_
          refine LX.pure (Y.pickT rfl hb6 rfl) rfl rfl rfl ?_
          exact LX.left ⟨rfl, rfl, rfl, rfl, trivial⟩
        · intro hb6
          exfalso; simp at hb6
        refine LX.pure (Y.move rfl) rfl rfl rfl ?_
        refine LX.sub (l' := [(4, _), (41, _)]) ⟨rfl, rfl, trivial⟩ ?_
        apply LX.joinAnd 4 45 41 rfl
        · intro hb7
          have hb7p := hb7
          try simp at hb7p
          refine LX.gT rfl rfl rfl hb7 (Y.move rfl) rfl rfl ?_
          refine LX.callT rfl rfl rfl hb7 (words4_c) Fe.en29 rfl rfl rfl rfl ?_
          intro bx
          refine LX.callQT rfl rfl rfl hb7 (sameTexts_q bw 0 17 bx 0 17 wordsList wordsList (fun w h => h.1.2) (fun w h => h.2) (by decide)) Fe.en28 rfl rfl rfl rfl ?_
          refine LX.pure (Y.pickT rfl hb7 rfl) rfl rfl rfl ?_
          first
          | exact LX.left ⟨rfl, rfl, rfl, trivial⟩
          | exact LX.leftP ⟨rfl, rfl, rfl, trivial⟩
          | exact LX.world (fun w h => h.1) (LX.leftP ⟨rfl, rfl, rfl, trivial⟩)
        · intro hb7
          exfalso; simp at hb7
        refine LX.pure (Y.assign rfl) rfl rfl rfl ?_
        refine LX.sub (l' := [(2, _)]) ⟨rfl, trivial⟩ ?_
        refine LX.next ?_
        refine PX.thenN ?_
        refine CX.ret ?_
        refine PX.ret1 (by simp) Tryd.results10 rfl ?_
        exact fun w hw => ⟨(), by simp, hw.1⟩

end Go.Proofs.YtggoogbloaennaaDoor
