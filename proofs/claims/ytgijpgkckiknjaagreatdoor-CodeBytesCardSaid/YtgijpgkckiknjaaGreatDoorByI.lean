/-
  Proved here: the first number is written.
-/
import Derived.Test.YtgijpgkckiknjaaGreatDoorByT
import Derived.Test.YtgijpgkckiknjaaGreatDoorByY
namespace Go.Proofs.YtgijpgkckiknjaaGreatDoor
open Go.SX Go.RowKit Go.Ck Go.Lex Go.By
namespace Gbi

end Gbi
theorem wNumI_c {w0 : World} {base : Nat} {fr : List It} {bw gt ct : Nat} {bs : List UInt8} {ns : List Int} (hns : ∀ n ∈ ns, inI n) (hb : bs.length ≤ 1099511627776) (hn : ns.length ≤ 10) (hn0 : 0 < ns.length) {q : Option Nat × Nat} {I : It} (hI : AppR 5 I q bs.length (bs.map b8)) : FnC Tryz.prog 75 #[.pointer (some ⟨bw, 0, none⟩), .slice (some ⟨gt, 0, none⟩) ns.length ct] (WA w0 base (.row (some gt) ct ns.length 3 1 (ns.map iv) :: blk bw [rv q.1 bs.length q.2] 153 :: I :: fr)) (fun _ : Option Nat × Nat => .tuple #[]) (fun q => WA w0 base (.row (some gt) ct ns.length 3 1 (ns.map iv) :: blk bw [rv q.1 (bs ++ ns.flatMap num).length q.2] 153 :: .row q.1 q.2 (bs ++ ns.flatMap num).length 5 1 ((bs ++ ns.flatMap num).map b8) :: fr)) := by
  refine FnC.of_body (fn := Tryz.f75) [(0, _), (1, _)] Tryz.func75 rfl Tryz.ntmps75 rfl ⟨rfl, rfl, trivial⟩ ?_
  refine CX.seq ?_
  refine CX.region ?_
  refine LX.pure (Y.move rfl) rfl rfl rfl ?_
  refine LX.pure (Y.lenSl rfl Fj.un42 rfl) rfl rfl rfl ?_
  refine LX.pure (Y.move rfl) rfl rfl rfl ?_
  refine LX.sub (l' := [(0, _), (7, _), (8, _), (9, _)]) ⟨rfl, rfl, rfl, rfl, trivial⟩ ?_
  refine LX.next ?_
  refine PX.thenN ?_
  refine CX.block ?_
  refine CX.loop (fun s : Nat × (Option Nat × Nat) × It => [(0, .pointer (some ⟨bw, 0, none⟩)), (7, .slice (some ⟨gt, 0, none⟩) ns.length ct), (8, .int .i64 (ns.length : Int)), (9, .int .i64 (s.1 : Int))]) (fun (s : Nat × (Option Nat × Nat) × It) w => (s.1 ≤ ns.length ∧ AppR 5 s.2.2 s.2.1 (bs ++ (ns.take s.1).flatMap num).length ((bs ++ (ns.take s.1).flatMap num).map b8) ∧ (0 < s.1 → s.2.2 = .row s.2.1.1 s.2.1.2 (bs ++ (ns.take s.1).flatMap num).length 5 1 ((bs ++ (ns.take s.1).flatMap num).map b8))) ∧ WA w0 base (.row (some gt) ct ns.length 3 1 (ns.map iv) :: blk bw [rv s.2.1.1 (bs ++ (ns.take s.1).flatMap num).length s.2.1.2] 153 :: s.2.2 :: fr) w) (fun s => ns.length - s.1) (0, q, I) ⟨rfl, rfl, rfl, rfl, trivial⟩ (fun w hw => ⟨⟨Nat.zero_le _, by rw [show bs ++ (ns.take 0).flatMap num = bs by simp]; exact hI, fun h => absurd h (Nat.lt_irrefl _)⟩, by rw [show bs ++ (ns.take 0).flatMap num = bs by simp]; exact hw⟩) ?_
  rintro ⟨j, q, I⟩
  refine CX.have fun hj0 => ?_
  obtain ⟨hj0, hI, hI2⟩ := hj0
  try dsimp only at hj0 hI hI2 ⊢
  refine CX.seq ?_
  refine CX.region ?_
  refine LX.pure (Y.ltN rfl rfl) rfl rfl rfl ?_
  refine LX.sub (l' := [(0, _), (7, _), (8, _), (9, _), (10, _)]) ⟨rfl, rfl, rfl, rfl, rfl, trivial⟩ ?_
  refine LX.next ?_
  refine PX.thenN ?_
  refine CX.seq ?_
  refine CX.cond rfl (fun hb1 => ?_) (fun hb1 => ?_)
  · try simp at hb1
    have hj : j < ns.length := by omega
    have hin := hns _ (getD_mem hj)
    have hlj := flat_len hns j
    refine CX.skip ?_
    refine PX.thenN ?_
    refine CX.seq ?_
    refine CX.block ?_
    refine CX.seq ?_
    refine CX.region ?_
    refine LX.pure (Y.idxR 0 Fj.un42 Fjb.sz3 rfl rfl rfl hj) rfl rfl rfl ?_
    refine LX.pure (Y.ldR 0 (v := .int .i64 (ns.getD j 0)) Fjb.one3 rfl rfl (ints_at hj)) rfl rfl rfl ?_
    refine LX.pure (Y.assign rfl) rfl rfl rfl ?_
    refine LX.sub (l' := [(0, _), (5, _), (7, _), (8, _), (9, _)]) ⟨rfl, rfl, rfl, rfl, rfl, trivial⟩ ?_
    refine LX.next ?_
    refine PX.thenN ?_
    refine CX.seq ?_
    refine CX.region ?_
    refine LX.pure (Y.move rfl) rfl rfl rfl ?_
    refine LX.pure (Y.convU64 rfl Gb.un3 Gb.un228) rfl rfl rfl ?_
    refine LX.pure (Y.shl64 rfl rfl (by decide)) rfl rfl rfl ?_
    refine LX.pure (Y.move rfl) rfl rfl rfl ?_
    refine LX.pure (Y.shrI rfl rfl (by decide)) rfl rfl rfl ?_
    refine LX.pure (Y.convU64 rfl Gb.un3 Gb.un228) rfl rfl rfl ?_
    refine LX.pure (Y.xor64 rfl rfl (by omega) (low_lt _)) rfl rfl rfl ?_
    refine LX.pure (Y.assign rfl) rfl rfl rfl ?_
    refine LX.sub (l' := [(0, _), (6, _), (7, _), (8, _), (9, _)]) ⟨rfl, rfl, rfl, rfl, rfl, trivial⟩ ?_
    refine LX.next ?_
    refine PX.thenN ?_
    refine CX.seq ?_
    refine CX.block ?_
    refine CX.loop (fun s : (List UInt8 × Nat) × (Option Nat × Nat) × It => [(0, .pointer (some ⟨bw, 0, none⟩)), (6, .int .u64 (s.1.2 : Int)), (7, .slice (some ⟨gt, 0, none⟩) ns.length ct), (8, .int .i64 (ns.length : Int)), (9, .int .i64 (j : Int))]) (fun (s : (List UInt8 × Nat) × (Option Nat × Nat) × It) w => (s.1.1 ++ leb s.1.2 = num (ns.getD j 0) ∧ AppR 5 s.2.2 s.2.1 (bs ++ ((ns.take j).flatMap num ++ s.1.1)).length ((bs ++ ((ns.take j).flatMap num ++ s.1.1)).map b8)) ∧ WA w0 base (.row (some gt) ct ns.length 3 1 (ns.map iv) :: blk bw [rv s.2.1.1 (bs ++ ((ns.take j).flatMap num ++ s.1.1)).length s.2.1.2] 153 :: s.2.2 :: fr) w) (fun s => s.1.2) (([], _), q, I) ⟨rfl, rfl, rfl, rfl, rfl, trivial⟩ (fun w hw => ⟨⟨by rw [zig_eq hin.1 hin.2]; rfl, by rw [show bs ++ ((ns.take j).flatMap num ++ []) = bs ++ (ns.take j).flatMap num by simp]; exact hI⟩, by rw [show bs ++ ((ns.take j).flatMap num ++ []) = bs ++ (ns.take j).flatMap num by simp]; exact hw⟩) ?_
    clear hI hI2
    rintro ⟨⟨pre, u⟩, q, I⟩
    refine CX.have fun hdone => ?_
    obtain ⟨hdone, hI⟩ := hdone
    try dsimp only at hdone hI ⊢
    have hpl := pre_len hin hdone
    have hlt : (bs ++ ((ns.take j).flatMap num ++ pre)).length ≤ 1099511627976 := by simp only [List.length_append]; omega
    refine CX.seq ?_
    refine CX.seq ?_
    refine CX.region ?_
    refine LX.pure (Y.move rfl) rfl rfl rfl ?_
    refine LX.pure (Y.geN rfl rfl) rfl rfl rfl ?_
    refine LX.sub (l' := [(0, _), (6, _), (7, _), (8, _), (9, _), (21, _)]) ⟨rfl, rfl, rfl, rfl, rfl, rfl, trivial⟩ ?_
    refine LX.next ?_
    refine PX.thenN ?_
    refine CX.cond rfl (fun hb2 => ?_) (fun hb2 => ?_)
    · try simp at hb2
      have hu : 128 ≤ u := by omega
      refine CX.skip ?_
      refine PX.thenN ?_
      refine CX.block ?_
      refine CX.seq ?_
      refine CX.region ?_
      refine LX.pure (Y.move rfl) rfl rfl rfl ?_
      refine LX.pure (Y.move rfl) rfl rfl rfl ?_
      refine LX.pure (Y.nilCheck rfl) rfl rfl rfl ?_
      refine LX.pure (Y.fieldAddr0 Gb.fo153_0 rfl) rfl rfl rfl ?_
      refine LX.pure (Y.ldB 1 Gb.one79 rfl rfl rfl) rfl rfl rfl ?_
      refine LX.pure (Y.move rfl) rfl rfl rfl ?_
      refine LX.pure (Y.convU8 rfl Gb.un228 Gb.un5) rfl rfl rfl ?_
      refine LX.pure (Y.or8 rfl rfl (by omega) (by decide)) rfl rfl rfl ?_
      refine LX.buildSlice (e := 5) (size := 1) rfl rfl (fun _ => by kernel_rfl) rfl (by decide) rfl rfl rfl ?_
      intro gt25
      refine LX.appendI 2 Gb.el79 hI rfl rfl rfl rfl rfl rfl rfl (by decide) (by omega) (by omega) rfl rfl rfl ?_
      intro g' cap'
      refine LX.pure (Y.nilCheck rfl) rfl rfl rfl ?_
      refine LX.pure (Y.fieldAddr0 Gb.fo153_0 rfl) rfl rfl rfl ?_
      refine LX.storeB 1 Gb.sz79 rfl rfl rfl rfl rfl rfl rfl rfl ?_
      refine LX.sub (l' := [(0, _), (6, _), (7, _), (8, _), (9, _)]) ⟨rfl, rfl, rfl, rfl, rfl, trivial⟩ ?_
      refine LX.next ?_
      refine PX.thenN ?_
      refine CX.region ?_
      refine LX.pure (Y.move rfl) rfl rfl rfl ?_
      refine LX.pure (Y.shr64 rfl rfl (by decide)) rfl rfl rfl ?_
      refine LX.pure (Y.assign rfl) rfl rfl rfl ?_
      refine LX.sub (l' := [(0, _), (6, _), (7, _), (8, _), (9, _)]) ⟨rfl, rfl, rfl, rfl, rfl, trivial⟩ ?_
      refine LX.next ?_
      refine PX.blockN ?_
      exact PX.again (L := (fun s : (List UInt8 × Nat) × (Option Nat × Nat) × It => [(0, .pointer (some ⟨bw, 0, none⟩)), (6, .int .u64 (s.1.2 : Int)), (7, .slice (some ⟨gt, 0, none⟩) ns.length ct), (8, .int .i64 (ns.length : Int)), (9, .int .i64 (j : Int))])) (WW := (fun (s : (List UInt8 × Nat) × (Option Nat × Nat) × It) w => (s.1.1 ++ leb s.1.2 = num (ns.getD j 0) ∧ AppR 5 s.2.2 s.2.1 (bs ++ ((ns.take j).flatMap num ++ s.1.1)).length ((bs ++ ((ns.take j).flatMap num ++ s.1.1)).map b8)) ∧ WA w0 base (.row (some gt) ct ns.length 3 1 (ns.map iv) :: blk bw [rv s.2.1.1 (bs ++ ((ns.take j).flatMap num ++ s.1.1)).length s.2.1.2] 153 :: s.2.2 :: fr) w)) (μ := fun s => s.1.2) (i := ((pre, u), q, I)) ((pre ++ [(u % 128 + 128).toUInt8], u / 128), (g', cap'), .row g' cap' (bs ++ ((ns.take j).flatMap num ++ (pre ++ [(u % 128 + 128).toUInt8]))).length 5 1 ((bs ++ ((ns.take j).flatMap num ++ (pre ++ [(u % 128 + 128).toUInt8]))).map b8)) (by show u / 128 < u; omega) ⟨rfl, rfl, rfl, rfl, rfl, trivial⟩ (fun w hw => ⟨⟨by show (pre ++ [_]) ++ leb (u / 128) = _; rw [← hdone, leb_ge (u := u) (by omega), List.append_assoc]; rfl, .inl rfl⟩, by have h1 := next_byte (WW := fun bs => WA w0 base (.row (some gt) ct ns.length 3 1 (ns.map iv) :: blk bw [rv g' bs.length cap'] 153 :: .row g' cap' bs.length 5 1 (bs.map b8) :: fr) w) (u := u) bs ((ns.take j).flatMap num) pre; refine h1 ?_; show WA w0 base (_ :: blk bw [rv g' ((bs ++ ((ns.take j).flatMap num ++ pre)) ++ [(u % 128 + 128).toUInt8]).length cap'] _ :: .row g' cap' ((bs ++ ((ns.take j).flatMap num ++ pre)) ++ [(u % 128 + 128).toUInt8]).length _ 1 (((bs ++ ((ns.take j).flatMap num ++ pre)) ++ [(u % 128 + 128).toUInt8]).map b8) :: fr) w; rw [map_b8_len, ← map_b8 _ (show u % 128 + 128 < 256 by omega), ← or_byte u]; exact hw⟩)
    · try simp at hb2
      have hu : u < 128 := by omega
      refine CX.exit ?_
      refine PX.thenE ?_
      refine PX.thenE ?_
      refine PX.blockE ?_
      refine PX.thenN ?_
      refine CX.region ?_
      refine LX.pure (Y.move rfl) rfl rfl rfl ?_
      refine LX.pure (Y.move rfl) rfl rfl rfl ?_
      refine LX.pure (Y.nilCheck rfl) rfl rfl rfl ?_
      refine LX.pure (Y.fieldAddr0 Gb.fo153_0 rfl) rfl rfl rfl ?_
      refine LX.pure (Y.ldB 1 Gb.one79 rfl rfl rfl) rfl rfl rfl ?_
      refine LX.pure (Y.move rfl) rfl rfl rfl ?_
      refine LX.pure (Y.convU8 rfl Gb.un228 Gb.un5) rfl rfl rfl ?_
      refine LX.buildSlice (e := 5) (size := 1) rfl rfl (fun _ => by kernel_rfl) rfl (by decide) rfl rfl rfl ?_
      intro gt40
      refine LX.appendI 2 Gb.el79 hI rfl rfl rfl rfl rfl rfl rfl (by decide) (by omega) (by omega) rfl rfl rfl ?_
      intro g' cap'
      refine LX.pure (Y.nilCheck rfl) rfl rfl rfl ?_
      refine LX.pure (Y.fieldAddr0 Gb.fo153_0 rfl) rfl rfl rfl ?_
      refine LX.storeB 1 Gb.sz79 rfl rfl rfl rfl rfl rfl rfl rfl ?_
      refine LX.sub (l' := [(0, _), (7, _), (8, _), (9, _)]) ⟨rfl, rfl, rfl, rfl, trivial⟩ ?_
      refine LX.next ?_
      refine PX.blockN ?_
      refine PX.thenN ?_
      refine CX.region ?_
      refine LX.pure (Y.addN rfl rfl (by (simp only []; omega))) rfl rfl rfl ?_
      refine LX.pure (Y.move rfl) rfl rfl rfl ?_
      refine LX.sub (l' := [(0, _), (7, _), (8, _), (9, _)]) ⟨rfl, rfl, rfl, rfl, trivial⟩ ?_
      refine LX.next ?_
      exact PX.again (L := (fun s : Nat × (Option Nat × Nat) × It => [(0, .pointer (some ⟨bw, 0, none⟩)), (7, .slice (some ⟨gt, 0, none⟩) ns.length ct), (8, .int .i64 (ns.length : Int)), (9, .int .i64 (s.1 : Int))])) (WW := (fun (s : Nat × (Option Nat × Nat) × It) w => (s.1 ≤ ns.length ∧ AppR 5 s.2.2 s.2.1 (bs ++ (ns.take s.1).flatMap num).length ((bs ++ (ns.take s.1).flatMap num).map b8) ∧ (0 < s.1 → s.2.2 = .row s.2.1.1 s.2.1.2 (bs ++ (ns.take s.1).flatMap num).length 5 1 ((bs ++ (ns.take s.1).flatMap num).map b8))) ∧ WA w0 base (.row (some gt) ct ns.length 3 1 (ns.map iv) :: blk bw [rv s.2.1.1 (bs ++ (ns.take s.1).flatMap num).length s.2.1.2] 153 :: s.2.2 :: fr) w)) (μ := fun s => ns.length - s.1) (i := (j, q, I)) (j + 1, (g', cap'), .row g' cap' (bs ++ (ns.take (j + 1)).flatMap num).length 5 1 ((bs ++ (ns.take (j + 1)).flatMap num).map b8)) (by show ns.length - (j + 1) < ns.length - j; omega) ⟨rfl, rfl, rfl, rfl, trivial⟩ (fun w hw => ⟨⟨by show j + 1 ≤ ns.length; omega, .inl rfl, fun _ => rfl⟩, by have h1 := last_byte (WW := fun bs => WA w0 base (.row (some gt) ct ns.length 3 1 (ns.map iv) :: blk bw [rv g' bs.length cap'] 153 :: .row g' cap' bs.length 5 1 (bs.map b8) :: fr) w) (bs := bs) hu hdone hj; refine h1 ?_; show WA w0 base (_ :: blk bw [rv g' ((bs ++ ((ns.take j).flatMap num ++ pre)) ++ [u.toUInt8]).length cap'] _ :: .row g' cap' ((bs ++ ((ns.take j).flatMap num ++ pre)) ++ [u.toUInt8]).length _ 1 (((bs ++ ((ns.take j).flatMap num ++ pre)) ++ [u.toUInt8]).map b8) :: fr) w; rw [map_b8_len, ← map_b8 _ (show u < 256 by omega)]; have hw2 := hw; rw [show u % 256 = u from Nat.mod_eq_of_lt (by omega)] at hw2; exact hw2⟩)
  · try simp at hb1
    have hje : j = ns.length := by omega
    subst hje
    rw [List.take_length]
    refine CX.exit ?_
    refine PX.thenE ?_
    refine PX.thenE ?_
    refine PX.blockE ?_
    refine PX.ret0 (by simp) Tryz.results75 ?_
    exact fun w hw => ⟨q, rfl, by have h3 := hI2 hn0; rw [List.take_length] at h3; rw [h3] at hw; exact hw⟩
end Go.Proofs.YtgijpgkckiknjaaGreatDoor
