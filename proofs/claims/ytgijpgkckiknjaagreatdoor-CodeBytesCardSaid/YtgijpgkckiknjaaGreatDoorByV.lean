/-
  Proved here: lists of texts are written.
-/
import Derived.Test.YtgijpgkckiknjaaGreatDoorByU
namespace Go.Proofs.YtgijpgkckiknjaaGreatDoor
open Go.SX Go.RowKit Go.Ck Go.Lex Go.By
namespace Gd
theorem en76 : Enters Tryz.prog 76 := Enters.of Tryz.func76 (by kernel_rfl) (by kernel_rfl)
end Gd
theorem flat_take_le {α : Type} (f : α → List UInt8) (l : List α) (j : Nat) : ((l.take j).flatMap f).length ≤ (l.flatMap f).length := by
  conv => rhs; rw [← List.take_append_drop j l, List.flatMap_append, List.length_append]
  omega
theorem flat_next {α : Type} {f : α → List UInt8} {l : List α} {j : Nat} {x : α} (h : l[j]? = some x) : (l.take (j + 1)).flatMap f = (l.take j).flatMap f ++ f x := by
  rw [List.take_add_one, h, List.flatMap_append]; simp
theorem flat_at_le {α : Type} {f : α → List UInt8} {l : List α} {j : Nat} {x : α} (h : l[j]? = some x) : ((l.take j).flatMap f).length + (f x).length ≤ (l.flatMap f).length := by
  have h1 := flat_take_le f l (j + 1)
  rw [flat_next h, List.length_append] at h1; exact h1
theorem wTexts_c {w0 : World} {base : Nat} {fr : List It} {bw : Nat} {ak : Option Addr} (ck : Nat) {bs : List UInt8} {ks : List (List UInt8)} (hkl : ks.length ≤ 1048576) (hk : SlAt 1 strA (Lies w0 base) ak ks) (hs : ∀ s ∈ ks, s.length ≤ 1048576) (hb : bs.length + (txts ks).length ≤ 100000000) (q : Option Nat × Nat) : FnC Tryz.prog 77 #[.pointer (some ⟨bw, 0, none⟩), .slice ak ks.length ck] (WA w0 base (blk bw [rv q.1 bs.length q.2] 153 :: .row q.1 q.2 bs.length 5 1 (bs.map b8) :: fr)) (fun _ : Option Nat × Nat => .tuple #[]) (fun q => WA w0 base (blk bw [rv q.1 (bs ++ txts ks).length q.2] 153 :: .row q.1 q.2 (bs ++ txts ks).length 5 1 ((bs ++ txts ks).map b8) :: fr)) := by
  have hnl := num_len2 hkl
  have htl : (txts ks).length = (num ks.length).length + (ks.flatMap txt).length := by unfold txts; rw [List.length_append]
  refine FnC.of_body (fn := Tryz.f77) [(0, _), (1, _)] Tryz.func77 rfl Tryz.ntmps77 rfl ⟨rfl, rfl, trivial⟩ ?_
  refine CX.seq ?_
  refine CX.region ?_
  refine LX.pure (Y.move rfl) rfl rfl rfl ?_
  refine LX.pure (Y.move rfl) rfl rfl rfl ?_
  refine LX.pure (Y.lenSl rfl Fj.un26 rfl) rfl rfl rfl ?_
  refine LX.buildSlice (e := 3) (size := 1) rfl rfl (fun _ => by kernel_rfl) rfl (by decide) rfl rfl rfl ?_
  intro gt3
  refine LX.call (wNum_c (ns := [(ks.length : Int)]) (fun n hn => by cases List.mem_singleton.1 hn; exact len_inI hkl) (by omega) (by simp) q) Gc.en75 rfl rfl rfl rfl rfl ?_
  intro q
  rw [one_num]
  refine LX.world (fun w hw => hw.drop (List.sublist_cons_self _ _)) ?_
  refine LX.sub (l' := [(0, _), (1, _)]) ⟨rfl, rfl, trivial⟩ ?_
  refine LX.next ?_
  refine PX.thenN ?_
  refine CX.seq ?_
  refine CX.region ?_
  refine LX.pure (Y.move rfl) rfl rfl rfl ?_
  refine LX.pure (Y.lenSl rfl Fj.un26 rfl) rfl rfl rfl ?_
  refine LX.pure (Y.move rfl) rfl rfl rfl ?_
  refine LX.sub (l' := [(0, _), (11, _), (12, _), (13, _)]) ⟨rfl, rfl, rfl, rfl, trivial⟩ ?_
  refine LX.next ?_
  refine PX.thenN ?_
  refine CX.block ?_
  refine CX.loop (fun s : Nat × Option Nat × Nat => [(0, .pointer (some ⟨bw, 0, none⟩)), (11, .slice ak ks.length ck), (12, .int .i64 (ks.length : Int)), (13, .int .i64 (s.1 : Int))]) (fun (s : Nat × Option Nat × Nat) w => s.1 ≤ ks.length ∧ WA w0 base (blk bw [rv s.2.1 (bs ++ (num ks.length ++ (ks.take s.1).flatMap txt)).length s.2.2] 153 :: .row s.2.1 s.2.2 (bs ++ (num ks.length ++ (ks.take s.1).flatMap txt)).length 5 1 ((bs ++ (num ks.length ++ (ks.take s.1).flatMap txt)).map b8) :: fr) w) (fun s => ks.length - s.1) (0, q) ⟨rfl, rfl, rfl, rfl, trivial⟩ (fun w hw => ⟨Nat.zero_le _, by rw [show bs ++ (num ks.length ++ (ks.take 0).flatMap txt) = bs ++ num ks.length by simp]; exact hw⟩) ?_
  rintro ⟨j, q⟩
  refine CX.have fun hj0 => ?_
  try dsimp only at hj0 ⊢
  refine CX.seq ?_
  refine CX.region ?_
  refine LX.pure (Y.ltN rfl rfl) rfl rfl rfl ?_
  refine LX.sub (l' := [(0, _), (11, _), (12, _), (13, _), (14, _)]) ⟨rfl, rfl, rfl, rfl, rfl, trivial⟩ ?_
  refine LX.next ?_
  refine PX.thenN ?_
  refine CX.seq ?_
  refine CX.cond rfl (fun hb1 => ?_) (fun hb1 => ?_)
  · try simp at hb1
    have hj : j < ks.length := by omega
    obtain ⟨a0, _, hav, hL⟩ := Go.Tr.strA_at hk hj
    have hx : ks[j]? = some (ks.getD j []) := by rw [List.getD_eq_getElem?_getD, List.getElem?_eq_getElem hj]; rfl
    have hsj := hs _ (List.mem_of_getElem? hx)
    have hlj := flat_at_le (f := txt) hx
    refine CX.skip ?_
    refine PX.thenN ?_
    refine CX.seq ?_
    refine CX.block ?_
    refine CX.seq ?_
    refine CX.region ?_
    refine LX.pure (Y.idxZ Fj.un26 Fj.sz9 rfl rfl hav (j := j) rfl hj) rfl rfl rfl ?_
    refine LX.pure (Y.ldO1 (v := str (ks.getD j [])) Fj.one9 rfl hL) rfl rfl rfl ?_
    refine LX.pure (Y.assign rfl) rfl rfl rfl ?_
    refine LX.sub (l' := [(0, _), (5, _), (11, _), (12, _), (13, _)]) ⟨rfl, rfl, rfl, rfl, rfl, trivial⟩ ?_
    refine LX.next ?_
    refine PX.thenN ?_
    refine CX.region ?_
    refine LX.pure (Y.move rfl) rfl rfl rfl ?_
    refine LX.pure (Y.move rfl) rfl rfl rfl ?_
    refine LX.call (wText_c (s := ks.getD j []) (by simp only [List.length_append]; omega) hsj q) Gd.en76 rfl rfl rfl rfl rfl ?_
    intro q2
    refine LX.sub (l' := [(0, _), (11, _), (12, _), (13, _)]) ⟨rfl, rfl, rfl, rfl, trivial⟩ ?_
    refine LX.next ?_
    refine PX.blockN ?_
    refine PX.thenN ?_
    refine CX.region ?_
    refine LX.pure (Y.addN rfl rfl (by (simp only []; omega))) rfl rfl rfl ?_
    refine LX.pure (Y.move rfl) rfl rfl rfl ?_
    refine LX.sub (l' := [(0, _), (11, _), (12, _), (13, _)]) ⟨rfl, rfl, rfl, rfl, trivial⟩ ?_
    refine LX.next ?_
    exact PX.again (L := (fun s : Nat × Option Nat × Nat => [(0, .pointer (some ⟨bw, 0, none⟩)), (11, .slice ak ks.length ck), (12, .int .i64 (ks.length : Int)), (13, .int .i64 (s.1 : Int))])) (WW := (fun (s : Nat × Option Nat × Nat) w => s.1 ≤ ks.length ∧ WA w0 base (blk bw [rv s.2.1 (bs ++ (num ks.length ++ (ks.take s.1).flatMap txt)).length s.2.2] 153 :: .row s.2.1 s.2.2 (bs ++ (num ks.length ++ (ks.take s.1).flatMap txt)).length 5 1 ((bs ++ (num ks.length ++ (ks.take s.1).flatMap txt)).map b8) :: fr) w)) (μ := fun s => ks.length - s.1) (i := (j, q)) (j + 1, q2) (by show ks.length - (j + 1) < ks.length - j; omega) ⟨rfl, rfl, rfl, rfl, trivial⟩ (fun w hw => ⟨by show j + 1 ≤ ks.length; omega, by show WA w0 base (blk bw [rv q2.1 (bs ++ (num ks.length ++ (ks.take (j + 1)).flatMap txt)).length q2.2] 153 :: .row q2.1 q2.2 (bs ++ (num ks.length ++ (ks.take (j + 1)).flatMap txt)).length 5 1 ((bs ++ (num ks.length ++ (ks.take (j + 1)).flatMap txt)).map b8) :: fr) w; rw [flat_next hx, show bs ++ (num ks.length ++ ((ks.take j).flatMap txt ++ txt (ks.getD j []))) = (bs ++ (num ks.length ++ (ks.take j).flatMap txt)) ++ txt (ks.getD j []) by simp only [List.append_assoc]]; exact hw⟩)
  · try simp at hb1
    have hje : j = ks.length := by omega
    subst hje
    rw [List.take_length]
    refine CX.exit ?_
    refine PX.thenE ?_
    refine PX.thenE ?_
    refine PX.blockE ?_
    refine PX.ret0 (by simp) Tryz.results77 ?_
    exact fun w hw => ⟨q, rfl, hw⟩
end Go.Proofs.YtgijpgkckiknjaaGreatDoor
