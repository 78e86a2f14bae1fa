/-
  Proved here: of any three lists of numbers, or of texts, less is an order.
-/
import Derived.Test.YtljaoofbklkglaaGreatDoorVoD
namespace Go.Proofs.YtljaoofbklkglaaGreatDoor
open Go.SX Go.RowKit Go.Vo
namespace Ft
theorem en4 : Enters Tryz.prog 4 := Enters.of Tryz.func4 (by kernel_rfl) (by kernel_rfl)
theorem en5 : Enters Tryz.prog 5 := Enters.of Tryz.func5 (by kernel_rfl) (by kernel_rfl)
theorem en6 : Enters Tryz.prog 6 := Enters.of Tryz.func6 (by kernel_rfl) (by kernel_rfl)
theorem en7 : Enters Tryz.prog 7 := Enters.of Tryz.func7 (by kernel_rfl) (by kernel_rfl)
end Ft
theorem listOf_re {W : World → Prop} [Stab W] {t : Bool} {a0 : Option Addr} (cap : Nat) {zs : List Int} (hA : ∀ w, W w → IntsAt w w.heap.size a0 zs) (h12 : zs.length ≤ 12) : FnC Tryz.prog 5 #[.slice a0 zs.length cap, .bool t] W (fun v : Value => v) (fun v w => LsW t zs v w ∧ W w) :=
  fun w hw => (listOf_c (fr := []) cap (hA w hw) h12 w (WA.start w)).mono fun _ w' ⟨v, he, h1, h2⟩ => ⟨v, he, h1, Stab.st w w' hw h2.below⟩
theorem Less_re {W : World → Prop} [Stab W] {t : Bool} {xs ys : List Int} {x y : Value} (hx : ∀ w, W w → LsW t xs x w) (hy : ∀ w, W w → LsW t ys y w) (l1 : xs.length ≤ 12) (l2 : ys.length ≤ 12) : FnC Tryz.prog 6 #[x, y] W (fun _ : Unit => .tuple #[.bool (lexLt (kk t xs) (kk t ys)), .nilIface]) (fun _ => W) :=
  FnC.re fun w hw => Less_c (hx w hw) (hy w hw) l1 l2
theorem Equal_re {W : World → Prop} [Stab W] {t : Bool} {xs ys : List Int} {x y : Value} (hx : ∀ w, W w → LsW t xs x w) (hy : ∀ w, W w → LsW t ys y w) (l1 : xs.length ≤ 12) (l2 : ys.length ≤ 12) : FnC Tryz.prog 7 #[x, y] W (fun _ : Unit => .tuple #[.bool (decide (kk t xs = kk t ys)), .nilIface]) (fun _ => W) :=
  FnC.re fun w hw => Equal_c (hx w hw) (hy w hw) l1 l2
theorem orders_c {w0 : World} {base : Nat} (hF : FnC Tryz.prog 4 #[] (WA w0 base []) (fun _ : Unit => .bool true) (fun _ => WA w0 base [])) {t : Bool} {a0 b0 c0 : Option Addr} (ca cb cc : Nat) {la lb lc : List Int} (hA : IntsAt w0 base a0 la) (hB : IntsAt w0 base b0 lb) (hC : IntsAt w0 base c0 lc) : FnC Tryz.prog 3 #[.slice a0 la.length ca, .slice b0 lb.length cb, .slice c0 lc.length cc, .bool t] (WA w0 base []) (fun _ : Unit => .bool true) (fun _ => WA w0 base []) := by
  refine FnC.of_body (fn := Tryz.f3) [(0, _), (1, _), (2, _), (3, _)] Tryz.func3 rfl Tryz.ntmps3 rfl ⟨rfl, rfl, rfl, rfl, trivial⟩ ?_
  refine CX.seq (CX.region ?_)
  refine LX.pure (Y.assign rfl) rfl rfl rfl ?_
  refine LX.sub (l' := [(0, _), (1, _), (2, _), (3, _), (8, _)]) ⟨rfl, rfl, rfl, rfl, rfl, trivial⟩ ?_
  refine LX.next (PX.thenN (CX.seq (CX.region ?_)))
  refine LX.call (hF) Ft.en4 rfl rfl rfl rfl rfl ?_
  intro _
  refine LX.pure (Y.assign rfl) rfl rfl rfl ?_
  refine LX.sub (l' := [(0, _), (1, _), (2, _), (3, _), (8, _), (9, _)]) ⟨rfl, rfl, rfl, rfl, rfl, rfl, trivial⟩ ?_
  refine LX.next (PX.thenN (CX.seq (CX.seq (CX.region ?_))))
  refine LX.pure (Y.move rfl) rfl rfl rfl ?_
  refine LX.pure (Y.not rfl) rfl rfl rfl ?_
  refine LX.sub (l' := [(0, _), (1, _), (2, _), (3, _), (8, _), (9, _), (27, _)]) ⟨rfl, rfl, rfl, rfl, rfl, rfl, rfl, trivial⟩ ?_
  refine LX.next (PX.thenN ?_)
  refine CX.cond rfl (fun hb1 => ?_) (fun hb1 => ?_)
  · try simp at hb1
    first | done | (exfalso; omega) | (exfalso; simp_all; done) | (exfalso; simp_all; omega)
  · try simp at hb1
    refine CX.skip (PX.thenN (CX.seq (CX.seq (CX.region ?_))))
    refine LX.pure (Y.move rfl) rfl rfl rfl ?_
    refine LX.pure (Y.lenSl rfl Fs.un22 rfl) rfl rfl rfl ?_
    first
      | refine LX.pure (Y.gtN rfl rfl) rfl rfl rfl ?_
      | refine LX.pure (Y.gtI rfl rfl) rfl rfl rfl ?_
    refine LX.pure (Y.move rfl) rfl rfl rfl ?_
    refine LX.sub (l' := [(0, _), (1, _), (2, _), (3, _), (8, _), (9, _), (31, _)]) ⟨rfl, rfl, rfl, rfl, rfl, rfl, rfl, trivial⟩ ?_
    apply LX.joinOr 4 35 31 rfl
    · intro hb2
      have hb2p := hb2
      try simp at hb2p
      refine LX.gF rfl rfl rfl hb2 rfl rfl ?_
      refine LX.gF rfl rfl rfl hb2 rfl rfl ?_
      refine LX.gF rfl rfl rfl hb2 rfl rfl ?_
      refine LX.pure (Y.pickT rfl hb2 rfl) rfl rfl rfl ?_
      exact LX.left ⟨rfl, rfl, rfl, rfl, rfl, rfl, rfl, rfl, trivial⟩
    · intro hb2
      have hb2p := hb2
      try simp at hb2p
      refine LX.gT rfl rfl rfl hb2 (Y.move rfl) rfl rfl ?_
      refine LX.gT rfl rfl rfl hb2 (Y.lenSl rfl Fs.un22 rfl) rfl rfl ?_
      first
        | refine LX.gT rfl rfl rfl hb2 (Y.gtN rfl rfl) rfl rfl ?_
        | refine LX.gT rfl rfl rfl hb2 (Y.gtI rfl rfl) rfl rfl ?_
      refine LX.pure (Y.pickF rfl hb2 rfl) rfl rfl rfl ?_
      exact LX.left ⟨rfl, rfl, rfl, rfl, rfl, rfl, rfl, rfl, trivial⟩
    refine LX.pure (Y.move rfl) rfl rfl rfl ?_
    refine LX.sub (l' := [(0, _), (1, _), (2, _), (3, _), (8, _), (9, _), (36, _)]) ⟨rfl, rfl, rfl, rfl, rfl, rfl, rfl, trivial⟩ ?_
    apply LX.joinOr 4 40 36 rfl
    · intro hb3
      have hb3p := hb3
      try simp at hb3p
      refine LX.gF rfl rfl rfl hb3 rfl rfl ?_
      refine LX.gF rfl rfl rfl hb3 rfl rfl ?_
      refine LX.gF rfl rfl rfl hb3 rfl rfl ?_
      refine LX.pure (Y.pickT rfl hb3 rfl) rfl rfl rfl ?_
      exact LX.left ⟨rfl, rfl, rfl, rfl, rfl, rfl, rfl, rfl, trivial⟩
    · intro hb3
      have hb3p := hb3
      try simp at hb3p
      refine LX.gT rfl rfl rfl hb3 (Y.move rfl) rfl rfl ?_
      refine LX.gT rfl rfl rfl hb3 (Y.lenSl rfl Fs.un22 rfl) rfl rfl ?_
      first
        | refine LX.gT rfl rfl rfl hb3 (Y.gtN rfl rfl) rfl rfl ?_
        | refine LX.gT rfl rfl rfl hb3 (Y.gtI rfl rfl) rfl rfl ?_
      refine LX.pure (Y.pickF rfl hb3 rfl) rfl rfl rfl ?_
      exact LX.left ⟨rfl, rfl, rfl, rfl, rfl, rfl, rfl, rfl, trivial⟩
    refine LX.pure (Y.move rfl) rfl rfl rfl ?_
    refine LX.sub (l' := [(0, _), (1, _), (2, _), (3, _), (8, _), (9, _), (41, _)]) ⟨rfl, rfl, rfl, rfl, rfl, rfl, rfl, trivial⟩ ?_
    apply LX.joinOr 3 44 41 rfl
    · intro hb4
      have hb4p := hb4
      try simp at hb4p
      refine LX.gF rfl rfl rfl hb4 rfl rfl ?_
      refine LX.gF rfl rfl rfl hb4 rfl rfl ?_
      refine LX.pure (Y.pickT rfl hb4 rfl) rfl rfl rfl ?_
      exact LX.left ⟨rfl, rfl, rfl, rfl, rfl, rfl, rfl, rfl, trivial⟩
    · intro hb4
      have hb4p := hb4
      try simp at hb4p
      refine LX.gT rfl rfl rfl hb4 (Y.move rfl) rfl rfl ?_
      refine LX.gT rfl rfl rfl hb4 (Y.not rfl) rfl rfl ?_
      refine LX.pure (Y.pickF rfl hb4 rfl) rfl rfl rfl ?_
      exact LX.left ⟨rfl, rfl, rfl, rfl, rfl, rfl, rfl, rfl, trivial⟩
    refine LX.sub (l' := [(0, _), (1, _), (2, _), (3, _), (8, _), (9, _), (44, _)]) ⟨rfl, rfl, rfl, rfl, rfl, rfl, rfl, trivial⟩ ?_
    refine LX.next (PX.thenN ?_)
    refine CX.cond rfl (fun hb5 => ?_) (fun hb5 => ?_)
    · try simp at hb5
      refine CX.seq (CX.region ?_)
      refine LX.pure (Y.move rfl) rfl rfl rfl ?_
      refine LX.pure (Y.assign rfl) rfl rfl rfl ?_
      refine LX.sub (l' := [(0, _), (1, _), (2, _), (3, _), (8, _)]) ⟨rfl, rfl, rfl, rfl, rfl, trivial⟩ ?_
      refine LX.next (PX.thenN (CX.ret (PX.thenR ?_)))
      refine PX.ret1 (by simp) Tryz.results3 rfl ?_
      exact fun w hw => ⟨(), rfl, hw⟩
    · try simp at hb5
      have l1 : la.length ≤ 12 := by first | omega | (simp_all; omega)
      have l2 : lb.length ≤ 12 := by first | omega | (simp_all; omega)
      have l3 : lc.length ≤ 12 := by first | omega | (simp_all; omega)
      refine CX.skip (PX.thenN (CX.seq (CX.region ?_)))
      refine LX.pure (Y.move rfl) rfl rfl rfl ?_
      refine LX.pure (Y.move rfl) rfl rfl rfl ?_
      refine LX.call (listOf_re ca (fun w hw => hA.push hw) l1) Ft.en5 rfl rfl rfl rfl rfl ?_
      intro x
      refine LX.pure (Y.assign rfl) rfl rfl rfl ?_
      refine LX.sub (l' := [(1, _), (2, _), (3, _), (8, _), (10, _)]) ⟨rfl, rfl, rfl, rfl, rfl, trivial⟩ ?_
      refine LX.next (PX.thenN (CX.seq (CX.region ?_)))
      refine LX.pure (Y.move rfl) rfl rfl rfl ?_
      refine LX.pure (Y.move rfl) rfl rfl rfl ?_
      refine LX.call (listOf_re cb (fun w hw => hB.push hw.2) l2) Ft.en5 rfl rfl rfl rfl rfl ?_
      intro y
      refine LX.pure (Y.assign rfl) rfl rfl rfl ?_
      refine LX.sub (l' := [(2, _), (3, _), (8, _), (10, _), (11, _)]) ⟨rfl, rfl, rfl, rfl, rfl, trivial⟩ ?_
      refine LX.next (PX.thenN (CX.seq (CX.region ?_)))
      refine LX.pure (Y.move rfl) rfl rfl rfl ?_
      refine LX.pure (Y.move rfl) rfl rfl rfl ?_
      refine LX.call (listOf_re cc (fun w hw => hC.push hw.2.2) l3) Ft.en5 rfl rfl rfl rfl rfl ?_
      intro z
      refine LX.pure (Y.assign rfl) rfl rfl rfl ?_
      refine LX.sub (l' := [(8, _), (10, _), (11, _), (12, _)]) ⟨rfl, rfl, rfl, rfl, trivial⟩ ?_
      refine LX.next (PX.thenN (CX.seq (CX.region ?_)))
      refine LX.pure (Y.move rfl) rfl rfl rfl ?_
      refine LX.pure (Y.move rfl) rfl rfl rfl ?_
      refine LX.call (Less_re (fun w hw => hw.2.2.1) (fun w hw => hw.2.1) l1 l2) Ft.en6 rfl rfl rfl rfl rfl ?_
      intro _
      refine LX.pure (Y.move rfl) rfl rfl rfl ?_
      refine LX.pure (Y.extract rfl rfl) rfl rfl rfl ?_
      refine LX.pure (Y.extract rfl rfl) rfl rfl rfl ?_
      refine LX.pure (Y.assign rfl) rfl rfl rfl ?_
      refine LX.pure (Y.assign rfl) rfl rfl rfl ?_
      refine LX.sub (l' := [(8, _), (10, _), (11, _), (12, _), (13, _), (14, _)]) ⟨rfl, rfl, rfl, rfl, rfl, rfl, trivial⟩ ?_
      refine LX.next (PX.thenN (CX.seq (CX.region ?_)))
      refine LX.pure (Y.move rfl) rfl rfl rfl ?_
      refine LX.pure (Y.move rfl) rfl rfl rfl ?_
      refine LX.call (Less_re (fun w hw => hw.2.1) (fun w hw => hw.2.2.1) l2 l1) Ft.en6 rfl rfl rfl rfl rfl ?_
      intro _
      refine LX.pure (Y.move rfl) rfl rfl rfl ?_
      refine LX.pure (Y.extract rfl rfl) rfl rfl rfl ?_
      refine LX.pure (Y.extract rfl rfl) rfl rfl rfl ?_
      refine LX.pure (Y.assign rfl) rfl rfl rfl ?_
      refine LX.pure (Y.assign rfl) rfl rfl rfl ?_
      refine LX.sub (l' := [(8, _), (10, _), (11, _), (12, _), (13, _), (14, _), (15, _), (16, _)]) ⟨rfl, rfl, rfl, rfl, rfl, rfl, rfl, rfl, trivial⟩ ?_
      refine LX.next (PX.thenN (CX.seq (CX.region ?_)))
      refine LX.pure (Y.move rfl) rfl rfl rfl ?_
      refine LX.pure (Y.move rfl) rfl rfl rfl ?_
      refine LX.call (Less_re (fun w hw => hw.2.1) (fun w hw => hw.1) l2 l3) Ft.en6 rfl rfl rfl rfl rfl ?_
      intro _
      refine LX.pure (Y.move rfl) rfl rfl rfl ?_
      refine LX.pure (Y.extract rfl rfl) rfl rfl rfl ?_
      refine LX.pure (Y.extract rfl rfl) rfl rfl rfl ?_
      refine LX.pure (Y.assign rfl) rfl rfl rfl ?_
      refine LX.pure (Y.assign rfl) rfl rfl rfl ?_
      refine LX.sub (l' := [(8, _), (10, _), (11, _), (12, _), (13, _), (14, _), (15, _), (16, _), (17, _), (18, _)]) ⟨rfl, rfl, rfl, rfl, rfl, rfl, rfl, rfl, rfl, rfl, trivial⟩ ?_
      refine LX.next (PX.thenN (CX.seq (CX.region ?_)))
      refine LX.pure (Y.move rfl) rfl rfl rfl ?_
      refine LX.pure (Y.move rfl) rfl rfl rfl ?_
      refine LX.call (Less_re (fun w hw => hw.2.2.1) (fun w hw => hw.1) l1 l3) Ft.en6 rfl rfl rfl rfl rfl ?_
      intro _
      refine LX.pure (Y.move rfl) rfl rfl rfl ?_
      refine LX.pure (Y.extract rfl rfl) rfl rfl rfl ?_
      refine LX.pure (Y.extract rfl rfl) rfl rfl rfl ?_
      refine LX.pure (Y.assign rfl) rfl rfl rfl ?_
      refine LX.pure (Y.assign rfl) rfl rfl rfl ?_
      refine LX.sub (l' := [(8, _), (10, _), (11, _), (13, _), (14, _), (15, _), (16, _), (17, _), (18, _), (19, _), (20, _)]) ⟨rfl, rfl, rfl, rfl, rfl, rfl, rfl, rfl, rfl, rfl, rfl, trivial⟩ ?_
      refine LX.next (PX.thenN (CX.seq (CX.region ?_)))
      refine LX.pure (Y.move rfl) rfl rfl rfl ?_
      refine LX.pure (Y.move rfl) rfl rfl rfl ?_
      refine LX.call (Less_re (fun w hw => hw.2.2.1) (fun w hw => hw.2.2.1) l1 l1) Ft.en6 rfl rfl rfl rfl rfl ?_
      intro _
      refine LX.pure (Y.move rfl) rfl rfl rfl ?_
      refine LX.pure (Y.extract rfl rfl) rfl rfl rfl ?_
      refine LX.pure (Y.extract rfl rfl) rfl rfl rfl ?_
      refine LX.pure (Y.assign rfl) rfl rfl rfl ?_
      refine LX.pure (Y.assign rfl) rfl rfl rfl ?_
      refine LX.sub (l' := [(8, _), (10, _), (11, _), (13, _), (14, _), (15, _), (16, _), (17, _), (18, _), (19, _), (20, _), (21, _), (22, _)]) ⟨rfl, rfl, rfl, rfl, rfl, rfl, rfl, rfl, rfl, rfl, rfl, rfl, rfl, trivial⟩ ?_
      refine LX.next (PX.thenN (CX.seq (CX.region ?_)))
      refine LX.pure (Y.move rfl) rfl rfl rfl ?_
      refine LX.pure (Y.move rfl) rfl rfl rfl ?_
      refine LX.call (Equal_re (fun w hw => hw.2.2.1) (fun w hw => hw.2.1) l1 l2) Ft.en7 rfl rfl rfl rfl rfl ?_
      intro _
      refine LX.pure (Y.move rfl) rfl rfl rfl ?_
      refine LX.pure (Y.extract rfl rfl) rfl rfl rfl ?_
      refine LX.pure (Y.extract rfl rfl) rfl rfl rfl ?_
      refine LX.pure (Y.assign rfl) rfl rfl rfl ?_
      refine LX.pure (Y.assign rfl) rfl rfl rfl ?_
      refine LX.sub (l' := [(8, _), (13, _), (14, _), (15, _), (16, _), (17, _), (18, _), (19, _), (20, _), (21, _), (22, _), (23, _), (24, _)]) ⟨rfl, rfl, rfl, rfl, rfl, rfl, rfl, rfl, rfl, rfl, rfl, rfl, rfl, trivial⟩ ?_
      refine LX.next (PX.thenN (CX.seq (CX.seq (CX.region ?_))))
      refine LX.pure (Y.move rfl) rfl rfl rfl ?_
      first
        | refine LX.pure (Y.neNil Fp.un28 rfl rfl) rfl rfl rfl ?_
        | refine LX.pure (Y.neNilNil Fp.un28 rfl) rfl rfl rfl ?_
      refine LX.pure (Y.move rfl) rfl rfl rfl ?_
      refine LX.sub (l' := [(8, _), (13, _), (15, _), (16, _), (17, _), (18, _), (19, _), (20, _), (21, _), (22, _), (23, _), (24, _), (93, _)]) ⟨rfl, rfl, rfl, rfl, rfl, rfl, rfl, rfl, rfl, rfl, rfl, rfl, rfl, trivial⟩ ?_
      apply LX.joinOr 3 96 93 rfl
      · intro hb6
        first | done | cases hb6
      · intro hb6
        have hb6p := hb6
        try simp at hb6p
        refine LX.gT rfl rfl rfl hb6 (Y.move rfl) rfl rfl ?_
        first
          | refine LX.gT rfl rfl rfl hb6 (Y.neNil Fp.un28 rfl rfl) rfl rfl ?_
          | refine LX.gT rfl rfl rfl hb6 (Y.neNilNil Fp.un28 rfl) rfl rfl ?_
        refine LX.pure (Y.pickF rfl hb6 rfl) rfl rfl rfl ?_
        exact LX.left ⟨rfl, rfl, rfl, rfl, rfl, rfl, rfl, rfl, rfl, rfl, rfl, rfl, rfl, rfl, trivial⟩
      refine LX.pure (Y.move rfl) rfl rfl rfl ?_
      refine LX.sub (l' := [(8, _), (13, _), (15, _), (17, _), (18, _), (19, _), (20, _), (21, _), (22, _), (23, _), (24, _), (97, _)]) ⟨rfl, rfl, rfl, rfl, rfl, rfl, rfl, rfl, rfl, rfl, rfl, rfl, trivial⟩ ?_
      apply LX.joinOr 3 100 97 rfl
      · intro hb7
        first | done | cases hb7
      · intro hb7
        have hb7p := hb7
        try simp at hb7p
        refine LX.gT rfl rfl rfl hb7 (Y.move rfl) rfl rfl ?_
        first
          | refine LX.gT rfl rfl rfl hb7 (Y.neNil Fp.un28 rfl rfl) rfl rfl ?_
          | refine LX.gT rfl rfl rfl hb7 (Y.neNilNil Fp.un28 rfl) rfl rfl ?_
        refine LX.pure (Y.pickF rfl hb7 rfl) rfl rfl rfl ?_
        exact LX.left ⟨rfl, rfl, rfl, rfl, rfl, rfl, rfl, rfl, rfl, rfl, rfl, rfl, rfl, trivial⟩
      refine LX.pure (Y.move rfl) rfl rfl rfl ?_
      refine LX.sub (l' := [(8, _), (13, _), (15, _), (17, _), (19, _), (20, _), (21, _), (22, _), (23, _), (24, _), (101, _)]) ⟨rfl, rfl, rfl, rfl, rfl, rfl, rfl, rfl, rfl, rfl, rfl, trivial⟩ ?_
      apply LX.joinOr 3 104 101 rfl
      · intro hb8
        first | done | cases hb8
      · intro hb8
        have hb8p := hb8
        try simp at hb8p
        refine LX.gT rfl rfl rfl hb8 (Y.move rfl) rfl rfl ?_
        first
          | refine LX.gT rfl rfl rfl hb8 (Y.neNil Fp.un28 rfl rfl) rfl rfl ?_
          | refine LX.gT rfl rfl rfl hb8 (Y.neNilNil Fp.un28 rfl) rfl rfl ?_
        refine LX.pure (Y.pickF rfl hb8 rfl) rfl rfl rfl ?_
        exact LX.left ⟨rfl, rfl, rfl, rfl, rfl, rfl, rfl, rfl, rfl, rfl, rfl, rfl, trivial⟩
      refine LX.pure (Y.move rfl) rfl rfl rfl ?_
      refine LX.sub (l' := [(8, _), (13, _), (15, _), (17, _), (19, _), (21, _), (22, _), (23, _), (24, _), (105, _)]) ⟨rfl, rfl, rfl, rfl, rfl, rfl, rfl, rfl, rfl, rfl, trivial⟩ ?_
      apply LX.joinOr 3 108 105 rfl
      · intro hb9
        first | done | cases hb9
      · intro hb9
        have hb9p := hb9
        try simp at hb9p
        refine LX.gT rfl rfl rfl hb9 (Y.move rfl) rfl rfl ?_
        first
          | refine LX.gT rfl rfl rfl hb9 (Y.neNil Fp.un28 rfl rfl) rfl rfl ?_
          | refine LX.gT rfl rfl rfl hb9 (Y.neNilNil Fp.un28 rfl) rfl rfl ?_
        refine LX.pure (Y.pickF rfl hb9 rfl) rfl rfl rfl ?_
        exact LX.left ⟨rfl, rfl, rfl, rfl, rfl, rfl, rfl, rfl, rfl, rfl, rfl, trivial⟩
      refine LX.pure (Y.move rfl) rfl rfl rfl ?_
      refine LX.sub (l' := [(8, _), (13, _), (15, _), (17, _), (19, _), (21, _), (23, _), (24, _), (109, _)]) ⟨rfl, rfl, rfl, rfl, rfl, rfl, rfl, rfl, rfl, trivial⟩ ?_
      apply LX.joinOr 3 112 109 rfl
      · intro hb10
        first | done | cases hb10
      · intro hb10
        have hb10p := hb10
        try simp at hb10p
        refine LX.gT rfl rfl rfl hb10 (Y.move rfl) rfl rfl ?_
        first
          | refine LX.gT rfl rfl rfl hb10 (Y.neNil Fp.un28 rfl rfl) rfl rfl ?_
          | refine LX.gT rfl rfl rfl hb10 (Y.neNilNil Fp.un28 rfl) rfl rfl ?_
        refine LX.pure (Y.pickF rfl hb10 rfl) rfl rfl rfl ?_
        exact LX.left ⟨rfl, rfl, rfl, rfl, rfl, rfl, rfl, rfl, rfl, rfl, trivial⟩
      refine LX.sub (l' := [(8, _), (13, _), (15, _), (17, _), (19, _), (21, _), (23, _), (112, _)]) ⟨rfl, rfl, rfl, rfl, rfl, rfl, rfl, rfl, trivial⟩ ?_
      refine LX.next (PX.thenN ?_)
      refine CX.cond rfl (fun hb11 => ?_) (fun hb11 => ?_)
      · try simp at hb11
        first | done | (exfalso; omega) | (exfalso; simp_all; done) | (exfalso; simp_all; omega)
      · try simp at hb11
        refine CX.skip (PX.thenN (CX.seq (CX.region ?_)))
        refine LX.pure (Y.move rfl) rfl rfl rfl ?_
        refine LX.pure (Y.not rfl) rfl rfl rfl ?_
        refine LX.pure (Y.move rfl) rfl rfl rfl ?_
        refine LX.sub (l' := [(8, _), (13, _), (15, _), (17, _), (19, _), (23, _), (115, _)]) ⟨rfl, rfl, rfl, rfl, rfl, rfl, rfl, trivial⟩ ?_
        apply LX.joinAnd 6 121 115 rfl
        · intro hb12
          have hb12p := hb12
          try simp at hb12p
          refine LX.gT rfl rfl rfl hb12 (Y.move rfl) rfl rfl ?_
          refine LX.gT rfl rfl rfl hb12 (Y.move rfl) rfl rfl ?_
          refine LX.sub (l' := [(8, _), (13, _), (15, _), (17, _), (19, _), (23, _), (115, _), (117, _)]) ⟨rfl, rfl, rfl, rfl, rfl, rfl, rfl, rfl, trivial⟩ ?_
          apply LX.joinAnd 2 119 117 rfl
          · intro hb13
            have hb13p := hb13
            try simp at hb13p
            refine LX.gT rfl rfl rfl hb13 (Y.move rfl) rfl rfl ?_
            refine LX.gT rfl rfl rfl hb12 (Y.pickT rfl hb13 rfl) rfl rfl ?_
            exact LX.left ⟨rfl, rfl, rfl, rfl, rfl, rfl, rfl, rfl, rfl, trivial⟩
          · intro hb13
            have hb13p := hb13
            try simp at hb13p
            refine LX.gF rfl rfl rfl hb13 rfl rfl ?_
            refine LX.gT rfl rfl rfl hb12 (Y.pickF rfl hb13 rfl) rfl rfl ?_
            exact LX.left ⟨rfl, rfl, rfl, rfl, rfl, rfl, rfl, rfl, rfl, trivial⟩
          refine LX.gT rfl rfl rfl hb12 (Y.not rfl) rfl rfl ?_
          refine LX.pure (Y.pickT rfl hb12 rfl) rfl rfl rfl ?_
          exact LX.left ⟨rfl, rfl, rfl, rfl, rfl, rfl, rfl, rfl, trivial⟩
        · intro hb12
          have hb12p := hb12
          try simp at hb12p
          refine LX.gF rfl rfl rfl hb12 rfl rfl ?_
          refine LX.gF rfl rfl rfl hb12 rfl rfl ?_
          refine LX.gU rfl rfl rfl rfl rfl ?_
          refine LX.gF rfl rfl rfl hb12 rfl rfl ?_
          refine LX.gF rfl rfl rfl hb12 rfl rfl ?_
          refine LX.pure (Y.pickF rfl hb12 rfl) rfl rfl rfl ?_
          exact LX.left ⟨rfl, rfl, rfl, rfl, rfl, rfl, rfl, rfl, trivial⟩
        refine LX.pure (Y.move rfl) rfl rfl rfl ?_
        refine LX.sub (l' := [(8, _), (13, _), (15, _), (17, _), (19, _), (23, _), (122, _)]) ⟨rfl, rfl, rfl, rfl, rfl, rfl, rfl, trivial⟩ ?_
        apply LX.joinAnd 9 131 122 rfl
        · intro hb14
          have hb14p := hb14
          try simp at hb14p
          refine LX.gT rfl rfl rfl hb14 (Y.move rfl) rfl rfl ?_
          refine LX.gT rfl rfl rfl hb14 (Y.move rfl) rfl rfl ?_
          refine LX.gT rfl rfl rfl hb14 (Y.not rfl) rfl rfl ?_
          refine LX.gT rfl rfl rfl hb14 (Y.move rfl) rfl rfl ?_
          refine LX.sub (l' := [(8, _), (13, _), (15, _), (17, _), (19, _), (23, _), (122, _), (123, _), (126, _)]) ⟨rfl, rfl, rfl, rfl, rfl, rfl, rfl, rfl, rfl, trivial⟩ ?_
          apply LX.joinAnd 3 129 126 rfl
          · intro hb15
            have hb15p := hb15
            try simp at hb15p
            refine LX.gT rfl rfl rfl hb15 (Y.move rfl) rfl rfl ?_
            refine LX.gT rfl rfl rfl hb15 (Y.not rfl) rfl rfl ?_
            refine LX.gT rfl rfl rfl hb14 (Y.pickT rfl hb15 rfl) rfl rfl ?_
            exact LX.left ⟨rfl, rfl, rfl, rfl, rfl, rfl, rfl, rfl, rfl, rfl, trivial⟩
          · intro hb15
            have hb15p := hb15
            try simp at hb15p
            refine LX.gF rfl rfl rfl hb15 rfl rfl ?_
            refine LX.gF rfl rfl rfl hb15 rfl rfl ?_
            refine LX.gT rfl rfl rfl hb14 (Y.pickF rfl hb15 rfl) rfl rfl ?_
            exact LX.left ⟨rfl, rfl, rfl, rfl, rfl, rfl, rfl, rfl, rfl, rfl, trivial⟩
          refine LX.gT rfl rfl rfl hb14 (Y.eqB rfl rfl Fo.un4) rfl rfl ?_
          refine LX.pure (Y.pickT rfl hb14 rfl) rfl rfl rfl ?_
          exact LX.left ⟨rfl, rfl, rfl, rfl, rfl, rfl, rfl, rfl, trivial⟩
        · intro hb14
          have hb14p := hb14
          try simp at hb14p
          refine LX.gF rfl rfl rfl hb14 rfl rfl ?_
          refine LX.gF rfl rfl rfl hb14 rfl rfl ?_
          refine LX.gF rfl rfl rfl hb14 rfl rfl ?_
          refine LX.gF rfl rfl rfl hb14 rfl rfl ?_
          refine LX.gU rfl rfl rfl rfl rfl ?_
          refine LX.gU rfl rfl rfl rfl rfl ?_
          refine LX.gF rfl rfl rfl hb14 rfl rfl ?_
          refine LX.gF rfl rfl rfl hb14 rfl rfl ?_
          refine LX.pure (Y.pickF rfl hb14 rfl) rfl rfl rfl ?_
          exact LX.left ⟨rfl, rfl, rfl, rfl, rfl, rfl, rfl, rfl, trivial⟩
        refine LX.pure (Y.move rfl) rfl rfl rfl ?_
        refine LX.sub (l' := [(8, _), (13, _), (17, _), (19, _), (132, _)]) ⟨rfl, rfl, rfl, rfl, rfl, trivial⟩ ?_
        apply LX.joinAnd 10 142 132 rfl
        · intro hb16
          have hb16p := hb16
          try simp at hb16p
          refine LX.gT rfl rfl rfl hb16 (Y.move rfl) rfl rfl ?_
          refine LX.gT rfl rfl rfl hb16 (Y.not rfl) rfl rfl ?_
          refine LX.gT rfl rfl rfl hb16 (Y.move rfl) rfl rfl ?_
          refine LX.sub (l' := [(8, _), (13, _), (17, _), (19, _), (132, _), (135, _)]) ⟨rfl, rfl, rfl, rfl, rfl, rfl, trivial⟩ ?_
          apply LX.joinOr 3 138 135 rfl
          · intro hb17
            have hb17p := hb17
            try simp at hb17p
            refine LX.gF rfl rfl rfl hb17 rfl rfl ?_
            refine LX.gF rfl rfl rfl hb17 rfl rfl ?_
            refine LX.gT rfl rfl rfl hb16 (Y.pickT rfl hb17 rfl) rfl rfl ?_
            exact LX.left ⟨rfl, rfl, rfl, rfl, rfl, rfl, rfl, trivial⟩
          · intro hb17
            have hb17p := hb17
            try simp at hb17p
            refine LX.gT rfl rfl rfl hb17 (Y.move rfl) rfl rfl ?_
            refine LX.gT rfl rfl rfl hb17 (Y.not rfl) rfl rfl ?_
            refine LX.gT rfl rfl rfl hb16 (Y.pickF rfl hb17 rfl) rfl rfl ?_
            exact LX.left ⟨rfl, rfl, rfl, rfl, rfl, rfl, rfl, trivial⟩
          refine LX.gT rfl rfl rfl hb16 (Y.move rfl) rfl rfl ?_
          refine LX.sub (l' := [(8, _), (13, _), (17, _), (19, _), (132, _), (139, _)]) ⟨rfl, rfl, rfl, rfl, rfl, rfl, trivial⟩ ?_
          apply LX.joinOr 2 141 139 rfl
          · intro hb18
            have hb18p := hb18
            try simp at hb18p
            refine LX.gF rfl rfl rfl hb18 rfl rfl ?_
            refine LX.gT rfl rfl rfl hb16 (Y.pickT rfl hb18 rfl) rfl rfl ?_
            exact LX.left ⟨rfl, rfl, rfl, rfl, rfl, rfl, rfl, trivial⟩
          · intro hb18
            have hb18p := hb18
            try simp at hb18p
            refine LX.gT rfl rfl rfl hb18 (Y.move rfl) rfl rfl ?_
            refine LX.gT rfl rfl rfl hb16 (Y.pickF rfl hb18 rfl) rfl rfl ?_
            exact LX.left ⟨rfl, rfl, rfl, rfl, rfl, rfl, rfl, trivial⟩
          refine LX.pure (Y.pickT rfl hb16 rfl) rfl rfl rfl ?_
          exact LX.left ⟨rfl, rfl, rfl, rfl, rfl, rfl, trivial⟩
        · intro hb16
          have hb16p := hb16
          try simp at hb16p
          refine LX.gF rfl rfl rfl hb16 rfl rfl ?_
          refine LX.gF rfl rfl rfl hb16 rfl rfl ?_
          refine LX.gF rfl rfl rfl hb16 rfl rfl ?_
          refine LX.gU rfl rfl rfl rfl rfl ?_
          refine LX.gU rfl rfl rfl rfl rfl ?_
          refine LX.gF rfl rfl rfl hb16 rfl rfl ?_
          refine LX.gF rfl rfl rfl hb16 rfl rfl ?_
          refine LX.gU rfl rfl rfl rfl rfl ?_
          refine LX.gF rfl rfl rfl hb16 rfl rfl ?_
          refine LX.pure (Y.pickF rfl hb16 rfl) rfl rfl rfl ?_
          exact LX.left ⟨rfl, rfl, rfl, rfl, rfl, rfl, trivial⟩
        refine LX.pure (Y.assign rfl) rfl rfl rfl ?_
        refine LX.sub (l' := [(8, _)]) ⟨rfl, trivial⟩ ?_
        refine LX.next (PX.thenN (CX.ret ?_))
        refine PX.ret1 (by simp) Tryz.results3 rfl ?_
        exact fun w hw => ⟨(), by have := orders (kk t la) (kk t lb) (kk t lc); simp_all, hw.2.2.2⟩
end Go.Proofs.YtljaoofbklkglaaGreatDoor
