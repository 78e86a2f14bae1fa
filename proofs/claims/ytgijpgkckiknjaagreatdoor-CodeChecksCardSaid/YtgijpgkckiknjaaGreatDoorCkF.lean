/-
  Proved here: the first instruction that may not be.
-/
import Derived.Test.YtgijpgkckiknjaaGreatDoorCkE
import Derived.Test.YtgijpgkckiknjaaGreatDoorCkQ
namespace Go.Proofs.YtgijpgkckiknjaaGreatDoor
open Go.SX Go.RowKit Go.Ck Go.Lex
namespace Fs
theorem ag53 : AggT Tryz.prog 53 4 := AggT.of (by kernel_rfl) (by kernel_rfl)
theorem en49 : Enters Tryz.prog 49 := Enters.of Tryz.func49 (by kernel_rfl) (by kernel_rfl)
theorem en50 : Enters Tryz.prog 50 := Enters.of Tryz.func50 (by kernel_rfl) (by kernel_rfl)
theorem one113 : One Tryz.prog 113 := fun w => by kernel_rfl
theorem sz53 : SizeIs Tryz.prog 53 4 := fun w => by kernel_rfl
end Fs
open Go.Tr (EnvV)
theorem chk1_c {w0 : World} {base : Nat} {fr : List It} {X : Cx} {p : Pg} {f : Fc} (hX : CkAt (Lies w0 base) X p f) (bv bc : Nat) (i : Ins) : FnC Tryz.prog 49 #[insV i, .pointer (some ⟨bv, 0, none⟩)] (WA w0 base (blk bv [.pointer (some ⟨bc, 0, none⟩)] 113 :: blk bc (X.all p f) 115 :: fr)) (fun _ : Unit => .bool (!decide (fits p f i))) (fun _ => WA w0 base (blk bv [.pointer (some ⟨bc, 0, none⟩)] 113 :: blk bc (X.all p f) 115 :: fr)) := by
  refine FnC.of_body (fn := Tryz.f49) [(0, _), (1, _)] Tryz.func49 rfl Tryz.ntmps49 rfl ⟨rfl, rfl, trivial⟩ ?_
  refine CX.seq ?_
  refine CX.region ?_
  refine LX.box rfl rfl rfl rfl rfl ?_
  intro bxi
  refine LX.pure (Y.assign rfl) rfl rfl rfl ?_
  refine LX.sub (l' := [(1, _), (2, _), (3, _)]) ⟨rfl, rfl, rfl, trivial⟩ ?_
  refine LX.next ?_
  refine PX.thenN ?_
  refine CX.seq ?_
  refine CX.region ?_
  refine LX.pure (Y.ldB 1 Fs.one113 rfl rfl rfl) rfl rfl rfl ?_
  refine LX.pure (Y.ldAggB (vs := insCs i) 0 Fs.ag53 rfl rfl rfl rfl) rfl rfl rfl ?_
  refine LX.world (W' := WA w0 base (blk bc (X.all p f) 115 :: [blk bxi (insCs i) 53, blk bv [.pointer (some ⟨bc, 0, none⟩)] 113] ++ fr)) (fun w hw => hw.perm (List.perm_middle (l₁ := [blk bxi _ _, _])).symm) ?_
  refine LX.call (fits_c hX bc i) Fs.en50 rfl rfl rfl rfl rfl ?_
  intro _
  refine LX.pure (Y.not rfl) rfl rfl rfl ?_
  refine LX.pure (Y.assign rfl) rfl rfl rfl ?_
  refine LX.sub (l' := [(3, _)]) ⟨rfl, trivial⟩ ?_
  refine LX.next ?_
  refine PX.thenN ?_
  refine CX.ret ?_
  refine PX.ret1 (by simp) Tryz.results49 rfl ?_
  exact fun w hw => ⟨(), rfl, (hw.drop (.cons_cons _ (.cons _ (List.Sublist.refl _))) : WA w0 base (_ :: _ :: fr) w).perm (.swap _ _ _)⟩
theorem idxF_c {w0 : World} {base : Nat} {fr : List It} {X : Cx} {p : Pg} {f : Fc} (hX : CkAt (Lies w0 base) X p f) (hlc : f.code.length ≤ 9223372036854775807) (bv bc : Nat) : FnC Tryz.prog 48 #[.slice X.ad f.code.length X.cd, .func (.func 49) #[] #[.pointer (some ⟨bv, 0, none⟩)]] (WA w0 base (blk bv [.pointer (some ⟨bc, 0, none⟩)] 113 :: blk bc (X.all p f) 115 :: fr)) (fun _ : Unit => .int .i64 (ixZ (firstBad p f))) (fun _ => WA w0 base (blk bv [.pointer (some ⟨bc, 0, none⟩)] 113 :: blk bc (X.all p f) 115 :: fr)) := by
  refine FnC.of_body (fn := Tryz.f48) [(0, _), (1, _)] Tryz.func48 rfl Tryz.ntmps48 rfl ⟨rfl, rfl, trivial⟩ ?_
  refine CX.seq ?_
  refine CX.region ?_
  refine LX.pure (Y.assign rfl) rfl rfl rfl ?_
  refine LX.sub (l' := [(0, _), (1, _), (4, _)]) ⟨rfl, rfl, rfl, trivial⟩ ?_
  refine LX.next ?_
  refine PX.thenN ?_
  refine CX.seq ?_
  refine CX.seq ?_
  refine CX.region ?_
  refine LX.pure (Y.move rfl) rfl rfl rfl ?_
  refine LX.pure (Y.lenSl rfl Fr.un49 rfl) rfl rfl rfl ?_
  refine LX.pure (Y.move rfl) rfl rfl rfl ?_
  refine LX.sub (l' := [(0, _), (1, _), (4, _), (7, _), (8, _)]) ⟨rfl, rfl, rfl, rfl, rfl, trivial⟩ ?_
  refine LX.next ?_
  refine PX.thenN ?_
  refine CX.block ?_
  refine CX.loop (fun j : Nat => [(0, .slice X.ad f.code.length X.cd), (1, .func (.func 49) #[] #[.pointer (some ⟨bv, 0, none⟩)]), (7, .int .i64 (f.code.length : Int)), (8, .int .i64 (j : Int))]) (fun (j : Nat) w => (j ≤ f.code.length ∧ ∀ y ∈ f.code.take j, fits p f y) ∧ WA w0 base (blk bv [.pointer (some ⟨bc, 0, none⟩)] 113 :: blk bc (X.all p f) 115 :: fr) w) (fun j => f.code.length - j) 0 ⟨rfl, rfl, rfl, rfl, trivial⟩ (fun w hw => ⟨⟨Nat.zero_le _, fun g hg => by cases hg⟩, hw⟩) ?_
  intro j
  refine CX.have fun ⟨hj0, hall⟩ => ?_
  try dsimp only at hj0 hall ⊢
  refine CX.seq ?_
  refine CX.region ?_
  refine LX.pure (Y.ltN rfl rfl) rfl rfl rfl ?_
  refine LX.sub (l' := [(0, _), (1, _), (7, _), (8, _), (9, _)]) ⟨rfl, rfl, rfl, rfl, rfl, trivial⟩ ?_
  refine LX.next ?_
  refine PX.thenN ?_
  refine CX.seq ?_
  refine CX.cond rfl (fun hb1 => ?_) (fun hb1 => ?_)
  · try simp at hb1
    have hj : j < f.code.length := by omega
    obtain ⟨i, hi⟩ : ∃ i, f.code[j]? = some i := ⟨_, List.getElem?_eq_getElem hj⟩
    obtain ⟨a, cs, hav, hcl, hL, rfl, hin1, hin2, hin3, hin4⟩ := hX.hD j i hi
    refine CX.skip ?_
    refine PX.thenN ?_
    refine CX.seq ?_
    refine CX.block ?_
    refine CX.seq ?_
    refine CX.region ?_
    refine LX.pure (Y.move rfl) rfl rfl rfl ?_
    refine LX.pure (Y.assign rfl) rfl rfl rfl ?_
    refine LX.sub (l' := [(0, _), (1, _), (5, _), (7, _), (8, _)]) ⟨rfl, rfl, rfl, rfl, rfl, trivial⟩ ?_
    refine LX.next ?_
    refine PX.thenN ?_
    refine CX.seq ?_
    refine CX.region ?_
    refine LX.pure (Y.move rfl) rfl rfl rfl ?_
    refine LX.pure (Y.move rfl) rfl rfl rfl ?_
    refine LX.pure (Y.move rfl) rfl rfl rfl ?_
    refine LX.pure (Y.idxZ Fr.un49 Fs.sz53 rfl rfl hav (j := j) rfl hj) rfl rfl rfl ?_
    refine LX.pure (Y.ldAO (cs := insCs i) Fs.ag53 rfl hL rfl) rfl rfl rfl ?_
    refine LX.callV (fst := #[]) (vs := [insV i]) (cap := #[.pointer (some ⟨bv, 0, none⟩)]) (chk1_c hX bv bc i) Fs.en49 rfl rfl rfl rfl rfl rfl ?_
    intro _
    refine LX.sub (l' := [(0, _), (1, _), (5, _), (7, _), (8, _), (16, _)]) ⟨rfl, rfl, rfl, rfl, rfl, rfl, trivial⟩ ?_
    refine LX.next ?_
    refine PX.thenN ?_
    refine CX.cond rfl (fun hb2 => ?_) (fun hb2 => ?_)
    · try simp at hb2
      have hno : ¬fits p f i := by simpa using hb2
      refine CX.seq ?_
      refine CX.region ?_
      refine LX.pure (Y.move rfl) rfl rfl rfl ?_
      refine LX.pure (Y.assign rfl) rfl rfl rfl ?_
      refine LX.sub (l' := [(0, _), (1, _), (4, _), (7, _), (8, _)]) ⟨rfl, rfl, rfl, rfl, rfl, trivial⟩ ?_
      refine LX.next ?_
      refine PX.thenN ?_
      refine CX.ret ?_
      refine PX.blockR ?_
      refine PX.thenR ?_
      refine PX.thenR ?_
      refine PX.blockR ?_
      refine PX.thenR ?_
      refine PX.ret1 (by simp) Tryz.results48 rfl ?_
      exact fun w hw => ⟨(), by rw [firstBad_some hi hno hall]; rfl, hw⟩
    · try simp at hb2
      have hok : fits p f i := by simpa using hb2
      refine CX.skip ?_
      refine PX.blockN ?_
      refine PX.thenN ?_
      refine CX.region ?_
      refine LX.pure (Y.addN rfl rfl (by (simp only []; omega))) rfl rfl rfl ?_
      refine LX.pure (Y.move rfl) rfl rfl rfl ?_
      refine LX.sub (l' := [(0, _), (1, _), (7, _), (8, _)]) ⟨rfl, rfl, rfl, rfl, trivial⟩ ?_
      refine LX.next ?_
      exact PX.again (L := (fun j : Nat => [(0, .slice X.ad f.code.length X.cd), (1, .func (.func 49) #[] #[.pointer (some ⟨bv, 0, none⟩)]), (7, .int .i64 (f.code.length : Int)), (8, .int .i64 (j : Int))])) (WW := (fun (j : Nat) w => (j ≤ f.code.length ∧ ∀ y ∈ f.code.take j, fits p f y) ∧ WA w0 base (blk bv [.pointer (some ⟨bc, 0, none⟩)] 113 :: blk bc (X.all p f) 115 :: fr) w)) (μ := fun j => f.code.length - j) (i := j) (j + 1) (by show f.code.length - (j + 1) < f.code.length - j; omega) ⟨rfl, rfl, rfl, rfl, trivial⟩ (fun w hw => ⟨⟨by omega, fun y hy => by
        rw [List.take_add_one, hi] at hy
        rcases List.mem_append.1 hy with hy | hy
        · exact hall y hy
        · obtain rfl : y = i := by simpa using hy
          exact hok⟩, hw⟩)
  · try simp at hb1
    have hcs : ∀ x ∈ f.code, fits p f x := by rw [List.take_of_length_le (show f.code.length ≤ j by omega)] at hall; exact hall
    refine CX.exit ?_
    refine PX.thenE ?_
    refine PX.thenE ?_
    refine PX.blockE ?_
    refine PX.thenN ?_
    refine CX.seq ?_
    refine CX.region ?_
    refine LX.pure (Y.assign rfl) rfl rfl rfl ?_
    refine LX.sub (l' := [(4, _)]) ⟨rfl, trivial⟩ ?_
    refine LX.next ?_
    refine PX.thenN ?_
    refine CX.ret ?_
    refine PX.ret1 (by simp) Tryz.results48 rfl ?_
    exact fun w hw => ⟨(), by rw [firstBad_no hcs]; rfl, hw⟩
end Go.Proofs.YtgijpgkckiknjaaGreatDoor
