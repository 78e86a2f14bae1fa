/-
  Proved here: the document's numbers and texts are written.
-/
import Derived.Test.YtgijpgkckiknjaaGreatDoorByV
namespace Go.Proofs.YtgijpgkckiknjaaGreatDoor
open Go.SX Go.RowKit Go.Ck Go.Lex Go.By
namespace Ha
theorem en87 : Enters Tryz.prog 87 := Enters.of Tryz.func87 (by kernel_rfl) (by kernel_rfl)
theorem en88 : Enters Tryz.prog 88 := Enters.of Tryz.func88 (by kernel_rfl) (by kernel_rfl)
theorem un228 : Tryz.prog.underlying 228 = some (.int .u64) := by kernel_rfl
theorem un3 : Tryz.prog.underlying 3 = some (.int .i64) := by kernel_rfl
theorem un5 : Tryz.prog.underlying 5 = some (.int .u8) := by kernel_rfl
theorem un79 : Tryz.prog.underlying 79 = some (.slice 5) := by kernel_rfl
theorem el79 : Elem Tryz.prog 79 5 1 1 := Elem.of un79 (z := .int .u8 0) (by kernel_rfl) rfl
end Ha
theorem gNum_c {w0 : World} {base : Nat} {fr : List It} {bs : List UInt8} {n : Int} (hin : inI n) (hb : bs.length ≤ 1099511627776) (q : Option Nat × Nat) : FnC Tryz.prog 87 #[rv q.1 bs.length q.2, .int .i64 n] (WA w0 base (.row q.1 q.2 bs.length 5 1 (bs.map b8) :: fr)) (fun q : Option Nat × Nat => rv q.1 (bs ++ num n).length q.2) (fun q => WA w0 base (.row q.1 q.2 (bs ++ num n).length 5 1 ((bs ++ num n).map b8) :: fr)) := by
  refine FnC.of_body (fn := Tryz.f87) [(0, _), (1, _)] Tryz.func87 rfl Tryz.ntmps87 rfl ⟨rfl, rfl, trivial⟩ ?_
  refine CX.seq ?_
  refine CX.region ?_
  refine LX.pure (Y.assign rfl) rfl rfl rfl ?_
  refine LX.sub (l' := [(0, _), (1, _), (4, _)]) ⟨rfl, rfl, rfl, trivial⟩ ?_
  refine LX.next ?_
  refine PX.thenN ?_
  refine CX.seq ?_
  refine CX.region ?_
  refine LX.pure (Y.move rfl) rfl rfl rfl ?_
  refine LX.pure (Y.convU64 rfl Ha.un3 Ha.un228) rfl rfl rfl ?_
  refine LX.pure (Y.shl64 rfl rfl (by decide)) rfl rfl rfl ?_
  refine LX.pure (Y.move rfl) rfl rfl rfl ?_
  refine LX.pure (Y.shrI rfl rfl (by decide)) rfl rfl rfl ?_
  refine LX.pure (Y.convU64 rfl Ha.un3 Ha.un228) rfl rfl rfl ?_
  refine LX.pure (Y.xor64 rfl rfl (by omega) (low_lt _)) rfl rfl rfl ?_
  refine LX.pure (Y.assign rfl) rfl rfl rfl ?_
  refine LX.sub (l' := [(0, _), (4, _), (5, _)]) ⟨rfl, rfl, rfl, trivial⟩ ?_
  refine LX.next ?_
  refine PX.thenN ?_
  refine CX.seq ?_
  refine CX.block ?_
  refine CX.loop (fun s : (List UInt8 × Nat) × Option Nat × Nat => [(0, rv s.2.1 (bs ++ s.1.1).length s.2.2), (5, .int .u64 (s.1.2 : Int))]) (fun (s : (List UInt8 × Nat) × Option Nat × Nat) w => s.1.1 ++ leb s.1.2 = num n ∧ WA w0 base (.row s.2.1 s.2.2 (bs ++ s.1.1).length 5 1 ((bs ++ s.1.1).map b8) :: fr) w) (fun s => s.1.2) (([], _), q) ⟨by show get _ 0 = some (rv q.1 (bs ++ []).length q.2); rw [List.append_nil]; rfl, rfl, trivial⟩ (fun w hw => ⟨by rw [zig_eq hin.1 hin.2]; rfl, by show WA w0 base (.row q.1 q.2 (bs ++ []).length 5 1 ((bs ++ []).map b8) :: fr) w; rw [List.append_nil]; exact hw⟩) ?_
  rintro ⟨⟨pre, u⟩, q⟩
  refine CX.have fun hdone => ?_
  replace hdone : pre ++ leb u = num n := hdone
  try dsimp only
  have hpl := pre_len hin hdone
  have hlt : (bs ++ pre).length ≤ 1099511627790 := by rw [List.length_append]; omega
  refine CX.seq ?_
  refine CX.seq ?_
  refine CX.region ?_
  refine LX.pure (Y.move rfl) rfl rfl rfl ?_
  refine LX.pure (Y.geN rfl rfl) rfl rfl rfl ?_
  refine LX.sub (l' := [(0, _), (5, _), (14, _)]) ⟨rfl, rfl, rfl, trivial⟩ ?_
  refine LX.next ?_
  refine PX.thenN ?_
  refine CX.cond rfl (fun hb1 => ?_) (fun hb1 => ?_)
  · try simp at hb1
    have hu : 128 ≤ u := by omega
    refine CX.skip ?_
    refine PX.thenN ?_
    refine CX.block ?_
    refine CX.seq ?_
    refine CX.region ?_
    refine LX.pure (Y.move rfl) rfl rfl rfl ?_
    refine LX.pure (Y.move rfl) rfl rfl rfl ?_
    refine LX.pure (Y.convU8 rfl Ha.un228 Ha.un5) rfl rfl rfl ?_
    refine LX.pure (Y.or8 rfl rfl (by omega) (by decide)) rfl rfl rfl ?_
    refine LX.buildSlice (e := 5) (size := 1) rfl rfl (fun _ => by kernel_rfl) rfl (by decide) rfl rfl rfl ?_
    intro gt15
    refine LX.appendT 0 Ha.el79 rfl rfl rfl rfl rfl rfl rfl (by omega) (by omega) rfl rfl rfl ?_
    intro g' cap'
    refine LX.world (W' := WA w0 base (.row (g', cap').1 (g', cap').2 (bs ++ (pre ++ [(u % 128 + 128).toUInt8])).length 5 1 ((bs ++ (pre ++ [(u % 128 + 128).toUInt8])).map b8) :: fr)) (fun w hw => ?_) ?_
    · show WA w0 base (.row g' cap' (bs ++ (pre ++ [(u % 128 + 128).toUInt8])).length 5 1 ((bs ++ (pre ++ [(u % 128 + 128).toUInt8])).map b8) :: fr) w
      rw [← List.append_assoc, map_b8_len, ← map_b8 _ (show u % 128 + 128 < 256 by omega), ← or_byte u]; exact hw
    rw [show (bs ++ pre).length + 1 = (bs ++ (pre ++ [(u % 128 + 128).toUInt8])).length by rw [← List.append_assoc, map_b8_len]]
    refine LX.pure (Y.assign rfl) rfl rfl rfl ?_
    refine LX.sub (l' := [(0, _), (5, _)]) ⟨rfl, rfl, trivial⟩ ?_
    refine LX.next ?_
    refine PX.thenN ?_
    refine CX.region ?_
    refine LX.pure (Y.move rfl) rfl rfl rfl ?_
    refine LX.pure (Y.shr64 rfl rfl (by decide)) rfl rfl rfl ?_
    refine LX.pure (Y.assign rfl) rfl rfl rfl ?_
    refine LX.sub (l' := [(0, _), (5, _)]) ⟨rfl, rfl, trivial⟩ ?_
    refine LX.next ?_
    refine PX.blockN ?_
    exact PX.again (L := (fun s : (List UInt8 × Nat) × Option Nat × Nat => [(0, rv s.2.1 (bs ++ s.1.1).length s.2.2), (5, .int .u64 (s.1.2 : Int))])) (WW := (fun (s : (List UInt8 × Nat) × Option Nat × Nat) w => s.1.1 ++ leb s.1.2 = num n ∧ WA w0 base (.row s.2.1 s.2.2 (bs ++ s.1.1).length 5 1 ((bs ++ s.1.1).map b8) :: fr) w)) (μ := fun s => s.1.2) (i := ((pre, u), q)) ((pre ++ [(u % 128 + 128).toUInt8], u / 128), (g', cap')) (by show u / 128 < u; omega) ⟨rfl, rfl, trivial⟩ (fun w hw => ⟨by show (pre ++ [_]) ++ leb (u / 128) = _; rw [← hdone, leb_ge (u := u) (by omega), List.append_assoc]; rfl, hw⟩)
  · try simp at hb1
    have hu : u < 128 := by omega
    have hfin : pre ++ [u.toUInt8] = num n := by rw [← hdone, leb_lt hu]
    refine CX.exit ?_
    refine PX.thenE ?_
    refine PX.thenE ?_
    refine PX.blockE ?_
    refine PX.thenN ?_
    refine CX.seq ?_
    refine CX.region ?_
    refine LX.pure (Y.move rfl) rfl rfl rfl ?_
    refine LX.pure (Y.move rfl) rfl rfl rfl ?_
    refine LX.pure (Y.convU8 rfl Ha.un228 Ha.un5) rfl rfl rfl ?_
    refine LX.buildSlice (e := 5) (size := 1) rfl rfl (fun _ => by kernel_rfl) rfl (by decide) rfl rfl rfl ?_
    intro gt24
    refine LX.appendT 0 Ha.el79 rfl rfl rfl rfl rfl rfl rfl (by omega) (by omega) rfl rfl rfl ?_
    intro g' cap'
    refine LX.world (W' := WA w0 base (.row (g', cap').1 (g', cap').2 (bs ++ (pre ++ [u.toUInt8])).length 5 1 ((bs ++ (pre ++ [u.toUInt8])).map b8) :: fr)) (fun w hw => ?_) ?_
    · show WA w0 base (.row g' cap' (bs ++ (pre ++ [u.toUInt8])).length 5 1 ((bs ++ (pre ++ [u.toUInt8])).map b8) :: fr) w
      rw [← List.append_assoc, map_b8_len, ← map_b8 _ (show u < 256 by omega)]; have hw2 := hw; rw [show u % 256 = u from Nat.mod_eq_of_lt (by omega)] at hw2; exact hw2
    rw [show (bs ++ pre).length + 1 = (bs ++ (pre ++ [u.toUInt8])).length by rw [← List.append_assoc, map_b8_len]]
    refine LX.pure (Y.assign rfl) rfl rfl rfl ?_
    refine LX.sub (l' := [(4, _)]) ⟨rfl, trivial⟩ ?_
    refine LX.next ?_
    refine PX.thenN ?_
    refine CX.ret ?_
    refine PX.ret1 (by simp) Tryz.results87 rfl ?_
    exact fun w hw => ⟨(g', cap'), by rw [← hfin], by rw [← hfin]; exact hw⟩
theorem gText_c {w0 : World} {base : Nat} {fr : List It} {bs s : List UInt8} (hb : bs.length ≤ 100000000) (hs : s.length ≤ 1048576) (q : Option Nat × Nat) : FnC Tryz.prog 88 #[rv q.1 bs.length q.2, str s] (WA w0 base (.row q.1 q.2 bs.length 5 1 (bs.map b8) :: fr)) (fun q : Option Nat × Nat => rv q.1 (bs ++ txt s).length q.2) (fun q => WA w0 base (.row q.1 q.2 (bs ++ txt s).length 5 1 ((bs ++ txt s).map b8) :: fr)) := by
  refine FnC.of_body (fn := Tryz.f88) [(0, _), (1, _)] Tryz.func88 rfl Tryz.ntmps88 rfl ⟨rfl, rfl, trivial⟩ ?_
  refine CX.seq ?_
  refine CX.region ?_
  refine LX.pure (Y.assign rfl) rfl rfl rfl ?_
  refine LX.sub (l' := [(0, _), (1, _), (4, _)]) ⟨rfl, rfl, rfl, trivial⟩ ?_
  refine LX.next ?_
  refine PX.thenN ?_
  refine CX.seq ?_
  refine CX.region ?_
  refine LX.pure (Y.move rfl) rfl rfl rfl ?_
  refine LX.pure (Y.move rfl) rfl rfl rfl ?_
  refine LX.pure (Y.lenStr rfl Fj.un9 rfl) rfl rfl rfl ?_
  refine LX.call (gNum_c (n := (s.length : Int)) (len_inI hs) (by omega) q) Ha.en87 rfl rfl rfl rfl rfl ?_
  intro q
  have hnl := num_len2 hs
  refine LX.pure (Y.move rfl) rfl rfl rfl ?_
  obtain ⟨inf8, hi1, hi2, hi3, hi4⟩ := Gc.inf8
  refine LX.appendS 0 Ha.un79 Fj.un9 hi1 hi2 hi3 hi4 rfl rfl rfl rfl rfl (by simp only [List.length_append]; omega) rfl rfl rfl ?_
  intro g' cap'
  refine LX.pure (Y.assign rfl) rfl rfl rfl ?_
  refine LX.sub (l' := [(4, _)]) ⟨rfl, trivial⟩ ?_
  refine LX.next ?_
  refine PX.thenN ?_
  refine CX.ret ?_
  refine PX.ret1 (by simp) Tryz.results88 rfl ?_
  exact fun w hw => ⟨(g', cap'), by rw [show bs ++ txt s = (bs ++ num s.length) ++ s by unfold txt; rw [List.append_assoc], List.length_append (bs := s)], by have h1 := hw; rw [show bs ++ txt s = (bs ++ num s.length) ++ s by unfold txt; rw [List.append_assoc], ← map_app, List.length_append (bs := s)]; exact h1⟩
theorem gTexts_c {w0 : World} {base : Nat} {fr : List It} {ak : Option Addr} (ck : Nat) {bs : List UInt8} {ks : List (List UInt8)} (hkl : ks.length ≤ 1048576) (hk : SlAt 1 strA (Lies w0 base) ak ks) (hs : ∀ s ∈ ks, s.length ≤ 1048576) (htl : bs.length + (txts ks).length ≤ 100000000) (q : Option Nat × Nat) : FnC Tryz.prog 89 #[rv q.1 bs.length q.2, .slice ak ks.length ck] (WA w0 base (.row q.1 q.2 bs.length 5 1 (bs.map b8) :: fr)) (fun q : Option Nat × Nat => rv q.1 (bs ++ txts ks).length q.2) (fun q => WA w0 base (.row q.1 q.2 (bs ++ txts ks).length 5 1 ((bs ++ txts ks).map b8) :: fr)) := by
  refine FnC.of_body (fn := Tryz.f89) [(0, _), (1, _)] Tryz.func89 rfl Tryz.ntmps89 rfl ⟨rfl, rfl, trivial⟩ ?_
  refine CX.seq ?_
  refine CX.region ?_
  refine LX.pure (Y.assign rfl) rfl rfl rfl ?_
  refine LX.sub (l' := [(0, _), (1, _), (4, _)]) ⟨rfl, rfl, rfl, trivial⟩ ?_
  refine LX.next ?_
  refine PX.thenN ?_
  refine CX.seq ?_
  refine CX.region ?_
  refine LX.pure (Y.move rfl) rfl rfl rfl ?_
  refine LX.pure (Y.move rfl) rfl rfl rfl ?_
  refine LX.pure (Y.lenSl rfl Fj.un26 rfl) rfl rfl rfl ?_
  refine LX.call (gNum_c (n := (ks.length : Int)) (len_inI hkl) (by omega) q) Ha.en87 rfl rfl rfl rfl rfl ?_
  intro q
  have hnl := num_len2 hkl
  rw [← (show bs ++ (num ks.length ++ (ks.take 0).flatMap txt) = bs ++ num ks.length by simp)]
  refine LX.pure (Y.assign rfl) rfl rfl rfl ?_
  refine LX.sub (l' := [(0, _), (1, _), (4, _)]) ⟨rfl, rfl, rfl, trivial⟩ ?_
  refine LX.next ?_
  refine PX.thenN ?_
  refine CX.seq ?_
  refine CX.seq ?_
  refine CX.region ?_
  refine LX.pure (Y.assign rfl) rfl rfl rfl ?_
  refine LX.sub (l' := [(0, _), (1, _), (4, _), (5, _)]) ⟨rfl, rfl, rfl, rfl, trivial⟩ ?_
  refine LX.next ?_
  refine PX.thenN ?_
  refine CX.block ?_
  refine CX.loop (fun s : Nat × Option Nat × Nat => [(0, rv s.2.1 (bs ++ (num ks.length ++ (ks.take s.1).flatMap txt)).length s.2.2), (1, .slice ak ks.length ck), (5, .int .i64 (s.1 : Int))]) (fun (s : Nat × Option Nat × Nat) w => s.1 ≤ ks.length ∧ WA w0 base (.row s.2.1 s.2.2 (bs ++ (num ks.length ++ (ks.take s.1).flatMap txt)).length 5 1 ((bs ++ (num ks.length ++ (ks.take s.1).flatMap txt)).map b8) :: fr) w) (fun s => ks.length - s.1) (0, q) ⟨rfl, rfl, rfl, trivial⟩ (fun w hw => ⟨Nat.zero_le _, hw⟩) ?_
  rintro ⟨j, q⟩
  refine CX.have fun hj0 => ?_
  replace hj0 : j ≤ ks.length := hj0
  try dsimp only
  refine CX.seq ?_
  refine CX.seq ?_
  refine CX.region ?_
  refine LX.pure (Y.move rfl) rfl rfl rfl ?_
  refine LX.pure (Y.move rfl) rfl rfl rfl ?_
  refine LX.pure (Y.lenSl rfl Fj.un26 rfl) rfl rfl rfl ?_
  refine LX.pure (Y.ltN rfl rfl) rfl rfl rfl ?_
  refine LX.sub (l' := [(0, _), (1, _), (5, _), (13, _)]) ⟨rfl, rfl, rfl, rfl, trivial⟩ ?_
  refine LX.next ?_
  refine PX.thenN ?_
  refine CX.cond rfl (fun hb1 => ?_) (fun hb1 => ?_)
  · try simp at hb1
    have hj : j < ks.length := by omega
    obtain ⟨a0, _, hav, hL⟩ := Go.Tr.strA_at hk hj
    have hx : ks[j]? = some (ks.getD j []) := by rw [List.getD_eq_getElem?_getD, List.getElem?_eq_getElem hj]; rfl
    have hsj := hs _ (List.mem_of_getElem? hx)
    have hlj := flat_at_le (f := txt) hx
    have hlt := htl
    rw [show (txts ks).length = (num ks.length).length + (ks.flatMap txt).length from List.length_append] at hlt
    have hnl := num_len2 hkl
    refine CX.skip ?_
    refine PX.thenN ?_
    refine CX.seq ?_
    refine CX.block ?_
    refine CX.region ?_
    refine LX.pure (Y.move rfl) rfl rfl rfl ?_
    refine LX.pure (Y.move rfl) rfl rfl rfl ?_
    refine LX.pure (Y.move rfl) rfl rfl rfl ?_
    refine LX.pure (Y.idxZ Fj.un26 Fj.sz9 rfl rfl hav (j := j) rfl hj) rfl rfl rfl ?_
    refine LX.pure (Y.ldO1 (v := str (ks.getD j [])) Fj.one9 rfl hL) rfl rfl rfl ?_
    refine LX.call (gText_c (s := ks.getD j []) (by simp only [List.length_append]; omega) hsj q) Ha.en88 rfl rfl rfl rfl rfl ?_
    intro q2
    rw [show (bs ++ (num ks.length ++ (ks.take j).flatMap txt)) ++ txt (ks.getD j []) = (bs ++ (num ks.length ++ (ks.take (j + 1)).flatMap txt)) by rw [flat_next hx]; simp only [List.append_assoc]]
    refine LX.pure (Y.assign rfl) rfl rfl rfl ?_
    refine LX.sub (l' := [(0, _), (1, _), (5, _)]) ⟨rfl, rfl, rfl, trivial⟩ ?_
    refine LX.next ?_
    refine PX.blockN ?_
    refine PX.thenN ?_
    refine CX.region ?_
    refine LX.pure (Y.move rfl) rfl rfl rfl ?_
    refine LX.pure (Y.addN rfl rfl (by (simp only []; omega))) rfl rfl rfl ?_
    refine LX.pure (Y.assign rfl) rfl rfl rfl ?_
    refine LX.sub (l' := [(0, _), (1, _), (5, _)]) ⟨rfl, rfl, rfl, trivial⟩ ?_
    refine LX.next ?_
    exact PX.again (L := (fun s : Nat × Option Nat × Nat => [(0, rv s.2.1 (bs ++ (num ks.length ++ (ks.take s.1).flatMap txt)).length s.2.2), (1, .slice ak ks.length ck), (5, .int .i64 (s.1 : Int))])) (WW := (fun (s : Nat × Option Nat × Nat) w => s.1 ≤ ks.length ∧ WA w0 base (.row s.2.1 s.2.2 (bs ++ (num ks.length ++ (ks.take s.1).flatMap txt)).length 5 1 ((bs ++ (num ks.length ++ (ks.take s.1).flatMap txt)).map b8) :: fr) w)) (μ := fun s => ks.length - s.1) (i := (j, q)) (j + 1, q2) (by show ks.length - (j + 1) < ks.length - j; omega) ⟨rfl, rfl, rfl, trivial⟩ (fun w hw => ⟨by show j + 1 ≤ ks.length; omega, hw⟩)
  · try simp at hb1
    have hje : j = ks.length := by omega
    subst hje
    rw [List.take_length]
    refine CX.exit ?_
    refine PX.thenE ?_
    refine PX.thenE ?_
    refine PX.blockE ?_
    refine PX.thenN ?_
    refine CX.seq ?_
    refine CX.region ?_
    refine LX.pure (Y.move rfl) rfl rfl rfl ?_
    refine LX.pure (Y.assign rfl) rfl rfl rfl ?_
    refine LX.sub (l' := [(4, _)]) ⟨rfl, trivial⟩ ?_
    refine LX.next ?_
    refine PX.thenN ?_
    refine CX.ret ?_
    refine PX.ret1 (by simp) Tryz.results89 rfl ?_
    exact fun w hw => ⟨q, rfl, hw⟩
end Go.Proofs.YtgijpgkckiknjaaGreatDoor
