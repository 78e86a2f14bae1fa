/-
  Proved here: programs are written.
-/
import Derived.Test.YtgijpgkckiknjaaGreatDoorByV
import Derived.Test.YtgijpgkckiknjaaGreatDoorByI
namespace Go.Proofs.YtgijpgkckiknjaaGreatDoor
open Go.SX Go.RowKit Go.Ck Go.Lex Go.By
namespace Ge
theorem en77 : Enters Tryz.prog 77 := Enters.of Tryz.func77 (by kernel_rfl) (by kernel_rfl)
end Ge
theorem head3 : head.length = 3 := rfl
theorem pg_len (p : Pg) : (pgB p).length = 3 + (num p.consts.length).length + (p.consts.flatMap cB).length + (txts p.globals).length + (txts p.names).length + (num p.funcs.length).length + (p.funcs.flatMap fnB).length := by
  unfold pgB
  simp only [List.length_append, head3]
  omega
theorem cB_len (x : Nd) : (cB x).length = (num x.op).length + (txt x.s).length := by unfold cB; rw [List.length_append]
theorem fn_len (f : Fc) : (fnB f).length = (txt f.name).length + ((num f.params).length + ((num f.given).length + ((num f.slots).length + ((txts f.names).length + ((num f.code.length).length + (f.code.flatMap insB).length))))) := by unfold fnB; simp only [List.length_append]
theorem three (a b c : Int) : [a, b, c].flatMap num = num a ++ (num b ++ num c) := by simp
theorem four (a b c d : Int) : [a, b, c, d].flatMap num = num a ++ (num b ++ (num c ++ num d)) := by simp
theorem ins_len (i : Ins) : (insB i).length = (num i.op).length + ((num i.a).length + ((num i.b).length + (num i.pos).length)) := by unfold insB; simp only [List.length_append]
theorem mem3 {a b c : Int} (h1 : inI a) (h2 : inI b) (h3 : inI c) : ∀ n ∈ [a, b, c], inI n := by simp [h1, h2, h3]
theorem mem4 {a b c d : Int} (h1 : inI a) (h2 : inI b) (h3 : inI c) (h4 : inI d) : ∀ n ∈ [a, b, c, d], inI n := by simp [h1, h2, h3, h4]
theorem mem1 {n : Nat} (h : n ≤ 1048576) : ∀ z ∈ [(n : Int)], inI z := fun z hz => by cases List.mem_singleton.1 hz; exact len_inI h
theorem memI {n : Int} (h : inI n) : ∀ z ∈ [n], inI z := fun z hz => by cases List.mem_singleton.1 hz; exact h
open Go.Tr (ndA)
theorem wBytes_c {w0 : World} {base : Nat} {fr : List It} {X : Cx} {p : Pg} (hX : CkAt (Lies w0 base) X p ⟨[], 0, 0, 0, [], []⟩) (hm : midB p) (hlen : (pgB p).length ≤ 100000000) : FnC Tryz.prog 31 #[.agg (X.pcs p).toArray] (WA w0 base fr) (fun q : Option Nat × Nat => rv q.1 (pgB p).length q.2) (fun q => WA w0 base (.row q.1 q.2 (pgB p).length 5 1 ((pgB p).map b8) :: fr)) := by
  obtain ⟨⟨hf1, ⟨hc1, hc2⟩, ⟨hg1, hg2⟩, hn1, hn2⟩, _⟩ := id hm
  have hpl := pg_len p
  have hpg : pgB p = ((((head ++ (num p.consts.length ++ p.consts.flatMap cB)) ++ txts p.globals) ++ txts p.names) ++ num p.funcs.length) ++ p.funcs.flatMap fnB := by unfold pgB; simp only [List.append_assoc]
  refine FnC.of_body (fn := Tryz.f31) [(0, _)] Tryz.func31 rfl Tryz.ntmps31 rfl ⟨rfl, trivial⟩ ?_
  refine CX.seq ?_
  refine CX.region ?_
  refine LX.box rfl rfl rfl rfl rfl ?_
  intro bx0
  refine LX.pure (Y.assign rfl) rfl rfl rfl ?_
  refine LX.sub (l' := [(1, _), (2, _)]) ⟨rfl, rfl, trivial⟩ ?_
  refine LX.next ?_
  refine PX.thenN ?_
  refine CX.seq ?_
  refine CX.region ?_
  refine LX.buildSlice (e := 5) (size := 1) rfl rfl (fun _ => by kernel_rfl) rfl (by decide) rfl rfl rfl ?_
  intro gt2
  refine LX.convM 0 Gb.un79 Gb.un5 rfl rfl rfl rfl (by decide) rfl rfl rfl ?_
  refine LX.pure (Y.build (v := .agg #[rv (some gt2) 3 3]) rfl (fun _ => by kernel_rfl)) rfl rfl rfl ?_
  refine LX.box rfl rfl rfl rfl rfl ?_
  intro bx5
  refine LX.pure (Y.assign rfl) rfl rfl rfl ?_
  refine LX.sub (l' := [(1, _), (2, _), (3, _)]) ⟨rfl, rfl, rfl, trivial⟩ ?_
  refine LX.next ?_
  refine PX.thenN ?_
  refine CX.seq ?_
  refine CX.region ?_
  refine LX.pure (Y.move rfl) rfl rfl rfl ?_
  refine LX.pure (Y.fieldAddr0 Fja.fo28_1 rfl) rfl rfl rfl ?_
  refine LX.pure (Y.ldB 2 Fja.one22 rfl rfl rfl) rfl rfl rfl ?_
  refine LX.pure (Y.lenSl rfl Fj.un22 rfl) rfl rfl rfl ?_
  refine LX.buildSlice (e := 3) (size := 1) rfl rfl (fun _ => by kernel_rfl) rfl (by decide) rfl rfl rfl ?_
  intro gt11
  refine LX.world (W' := WA w0 base (.row (some gt11) ([(p.consts.length : Int)] : List Int).length ([(p.consts.length : Int)] : List Int).length 3 1 ([(p.consts.length : Int)].map iv) :: blk bx5 [rv (some gt2) head.length 3] 153 :: .obj gt2 (.cells (head.map b8).toArray 5 (3, 4)) :: blk bx0 (X.pcs p) 28 :: fr)) (fun w hw => hw) ?_
  refine LX.call (wNumI_c (q := (some gt2, 3)) (ns := [(p.consts.length : Int)]) (mem1 hc1) (by simp only [List.length_append, head3]; omega) (by simp) (by simp) (.inr ⟨gt2, (3, 4), rfl, rfl, rfl⟩) (fr := blk bx0 (X.pcs p) 28 :: fr)) Gc.en75 rfl rfl rfl rfl rfl ?_
  intro q
  rw [one_num]
  refine LX.world (fun w hw => hw.drop (List.sublist_cons_self _ _)) ?_
  refine LX.sub (l' := [(1, _), (2, _), (3, _)]) ⟨rfl, rfl, rfl, trivial⟩ ?_
  refine LX.next ?_
  refine PX.thenN ?_
  refine CX.seq ?_
  refine CX.seq ?_
  refine CX.region ?_
  refine LX.pure (Y.fieldAddr0 Fja.fo28_1 rfl) rfl rfl rfl ?_
  refine LX.pure (Y.ldB 2 Fja.one22 rfl rfl rfl) rfl rfl rfl ?_
  refine LX.pure (Y.lenSl rfl Fj.un22 rfl) rfl rfl rfl ?_
  refine LX.pure (Y.move rfl) rfl rfl rfl ?_
  refine LX.sub (l' := [(1, _), (2, _), (3, _), (21, _), (22, _), (23, _)]) ⟨rfl, rfl, rfl, rfl, rfl, rfl, trivial⟩ ?_
  refine LX.next ?_
  refine PX.thenN ?_
  refine CX.block ?_
  refine CX.loop (fun s : Nat × Option Nat × Nat => [(1, .pointer (some ⟨bx0, 0, none⟩)), (3, .pointer (some ⟨bx5, 0, none⟩)), (21, .slice X.ac p.consts.length X.cc), (22, .int .i64 (p.consts.length : Int)), (23, .int .i64 (s.1 : Int))]) (fun (s : Nat × Option Nat × Nat) w => s.1 ≤ p.consts.length ∧ WA w0 base (blk bx5 [rv s.2.1 (head ++ (num p.consts.length ++ (p.consts.take s.1).flatMap cB)).length s.2.2] 153 :: .row s.2.1 s.2.2 (head ++ (num p.consts.length ++ (p.consts.take s.1).flatMap cB)).length 5 1 ((head ++ (num p.consts.length ++ (p.consts.take s.1).flatMap cB)).map b8) :: blk bx0 (X.pcs p) 28 :: fr) w) (fun s => p.consts.length - s.1) (0, q) ⟨rfl, rfl, rfl, rfl, rfl, trivial⟩ (fun w hw => ⟨Nat.zero_le _, by rw [show (head ++ (num p.consts.length ++ (p.consts.take 0).flatMap cB)) = head ++ num p.consts.length by simp]; exact hw⟩) ?_
  rintro ⟨j, q⟩
  refine CX.have fun hj0 => ?_
  try dsimp only at hj0 ⊢
  refine CX.seq ?_
  refine CX.region ?_
  refine LX.pure (Y.ltN rfl rfl) rfl rfl rfl ?_
  refine LX.sub (l' := [(1, _), (3, _), (21, _), (22, _), (23, _), (24, _)]) ⟨rfl, rfl, rfl, rfl, rfl, rfl, trivial⟩ ?_
  refine LX.next ?_
  refine PX.thenN ?_
  refine CX.seq ?_
  refine CX.cond rfl (fun hb1 => ?_) (fun hb1 => ?_)
  · try simp at hb1
    have hj : j < p.consts.length := by omega
    obtain ⟨x, hx⟩ : ∃ x, p.consts[j]? = some x := ⟨_, List.getElem?_eq_getElem hj⟩
    obtain ⟨a, cs, hav, hcl, hL, vk, rfl, hks, hin⟩ := hX.hC j x hx
    obtain ⟨ak2, ck2, rfl, ⟨hkn2, hkc2⟩, hka2⟩ := hks.sl
    have hxs := (hc2 x (List.mem_of_getElem? hx)).2
    have hlj := flat_at_le (f := cB) hx
    have hcl2 := cB_len x
    refine CX.skip ?_
    refine PX.thenN ?_
    refine CX.seq ?_
    refine CX.block ?_
    refine CX.seq ?_
    refine CX.region ?_
    refine LX.pure (Y.idxZ Fj.un22 Fj.sz44 rfl rfl hav (j := j) rfl hj) rfl rfl rfl ?_
    refine LX.pure (Y.ldAO (cs := [.int .i64 x.op, .int .i64 x.n, .int .i64 x.pos, str x.s, .slice ak2 x.kids.length ck2]) Fjc.ag44 rfl hL rfl) rfl rfl rfl ?_
    refine LX.alloc rfl Fjc.zv44 rfl rfl rfl ?_
    intro b5x
    refine LX.storeA 0 Fjc.ag44 rfl rfl rfl rfl rfl rfl rfl rfl rfl ?_
    refine LX.world (W' := WA w0 base (blk bx5 [rv q.1 (head ++ (num p.consts.length ++ (p.consts.take j).flatMap cB)).length q.2] 153 :: .row q.1 q.2 (head ++ (num p.consts.length ++ (p.consts.take j).flatMap cB)).length 5 1 ((head ++ (num p.consts.length ++ (p.consts.take j).flatMap cB)).map b8) :: blk b5x [.int .i64 x.op, .int .i64 x.n, .int .i64 x.pos, str x.s, .slice ak2 x.kids.length ck2] 44 :: blk bx0 (X.pcs p) 28 :: fr)) (fun w hw => (show WA w0 base (blk b5x [.int .i64 x.op, .int .i64 x.n, .int .i64 x.pos, str x.s, .slice ak2 x.kids.length ck2] 44 :: blk bx5 [rv q.1 (head ++ (num p.consts.length ++ (p.consts.take j).flatMap cB)).length q.2] 153 :: .row q.1 q.2 (head ++ (num p.consts.length ++ (p.consts.take j).flatMap cB)).length 5 1 ((head ++ (num p.consts.length ++ (p.consts.take j).flatMap cB)).map b8) :: blk bx0 (X.pcs p) 28 :: fr) w from hw).perm (by (refine perm_cnt fun x => ?_; simp only [cnt_append, cnt_cons, cnt_nil]; omega))) ?_
    refine LX.sub (l' := [(1, _), (3, _), (5, _), (21, _), (22, _), (23, _)]) ⟨rfl, rfl, rfl, rfl, rfl, rfl, trivial⟩ ?_
    refine LX.next ?_
    refine PX.thenN ?_
    refine CX.seq ?_
    refine CX.region ?_
    refine LX.pure (Y.move rfl) rfl rfl rfl ?_
    refine LX.pure (Y.fieldAddr0 Fjc.fo44_0 rfl) rfl rfl rfl ?_
    refine LX.pure (Y.ldB 2 Fjb.one3 rfl rfl rfl) rfl rfl rfl ?_
    refine LX.buildSlice (e := 3) (size := 1) rfl rfl (fun _ => by kernel_rfl) rfl (by decide) rfl rfl rfl ?_
    intro gt25
    refine LX.call (wNum_c (ns := [x.op]) (memI hin.1) (by simp only [List.length_append, head3]; omega) (by simp) q (fr := blk b5x [.int .i64 x.op, .int .i64 x.n, .int .i64 x.pos, str x.s, .slice ak2 x.kids.length ck2] 44 :: blk bx0 (X.pcs p) 28 :: fr)) Gc.en75 rfl rfl rfl rfl rfl ?_
    intro q
    rw [one_num]
    refine LX.world (fun w hw => hw.drop (List.sublist_cons_self _ _)) ?_
    refine LX.sub (l' := [(1, _), (3, _), (5, _), (21, _), (22, _), (23, _)]) ⟨rfl, rfl, rfl, rfl, rfl, rfl, trivial⟩ ?_
    refine LX.next ?_
    refine PX.thenN ?_
    refine CX.region ?_
    refine LX.pure (Y.move rfl) rfl rfl rfl ?_
    refine LX.pure (Y.fieldAddr0 Fj.fo44_3 rfl) rfl rfl rfl ?_
    refine LX.pure (Y.ldB 2 Fj.one9 rfl rfl rfl) rfl rfl rfl ?_
    refine LX.call (wText_c (s := x.s) (by simp only [List.length_append, head3]; omega) hxs q) Gd.en76 rfl rfl rfl rfl rfl ?_
    intro q2
    refine LX.sub (l' := [(1, _), (3, _), (21, _), (22, _), (23, _)]) ⟨rfl, rfl, rfl, rfl, rfl, trivial⟩ ?_
    refine LX.next ?_
    refine PX.blockN ?_
    refine PX.thenN ?_
    refine CX.region ?_
    refine LX.pure (Y.addN rfl rfl (by (simp only []; omega))) rfl rfl rfl ?_
    refine LX.pure (Y.move rfl) rfl rfl rfl ?_
    refine LX.sub (l' := [(1, _), (3, _), (21, _), (22, _), (23, _)]) ⟨rfl, rfl, rfl, rfl, rfl, trivial⟩ ?_
    refine LX.next ?_
    exact PX.again (L := (fun s : Nat × Option Nat × Nat => [(1, .pointer (some ⟨bx0, 0, none⟩)), (3, .pointer (some ⟨bx5, 0, none⟩)), (21, .slice X.ac p.consts.length X.cc), (22, .int .i64 (p.consts.length : Int)), (23, .int .i64 (s.1 : Int))])) (WW := (fun (s : Nat × Option Nat × Nat) w => s.1 ≤ p.consts.length ∧ WA w0 base (blk bx5 [rv s.2.1 (head ++ (num p.consts.length ++ (p.consts.take s.1).flatMap cB)).length s.2.2] 153 :: .row s.2.1 s.2.2 (head ++ (num p.consts.length ++ (p.consts.take s.1).flatMap cB)).length 5 1 ((head ++ (num p.consts.length ++ (p.consts.take s.1).flatMap cB)).map b8) :: blk bx0 (X.pcs p) 28 :: fr) w)) (μ := fun s => p.consts.length - s.1) (i := (j, q)) (j + 1, q2) (by show p.consts.length - (j + 1) < p.consts.length - j; omega) ⟨rfl, rfl, rfl, rfl, rfl, trivial⟩ (fun w hw => ⟨by show j + 1 ≤ p.consts.length; omega, by show WA w0 base (blk bx5 [rv q2.1 (head ++ (num p.consts.length ++ (p.consts.take (j + 1)).flatMap cB)).length q2.2] 153 :: .row q2.1 q2.2 (head ++ (num p.consts.length ++ (p.consts.take (j + 1)).flatMap cB)).length 5 1 ((head ++ (num p.consts.length ++ (p.consts.take (j + 1)).flatMap cB)).map b8) :: blk bx0 (X.pcs p) 28 :: fr) w; rw [flat_next hx, show head ++ (num p.consts.length ++ ((p.consts.take j).flatMap cB ++ cB x)) = ((head ++ (num p.consts.length ++ (p.consts.take j).flatMap cB)) ++ num x.op) ++ txt x.s by unfold cB; simp only [List.append_assoc]]; exact hw.drop (.cons_cons _ (.cons_cons _ (List.sublist_cons_self _ _)))⟩)
  · try simp at hb1
    have hje : j = p.consts.length := by omega
    subst hje
    rw [List.take_length]
    refine CX.exit ?_
    refine PX.thenE ?_
    refine PX.thenE ?_
    refine PX.blockE ?_
    refine PX.thenN ?_
    refine CX.seq ?_
    refine CX.region ?_
    refine LX.pure (Y.move rfl) rfl rfl rfl ?_
    refine LX.pure (Y.fieldAddr0 Fja.fo28_2 rfl) rfl rfl rfl ?_
    refine LX.pure (Y.ldB 2 Fja.one26 rfl rfl rfl) rfl rfl rfl ?_
    refine LX.call (wTexts_c X.cg hg1 hX.hG hg2 (by simp only [List.length_append, head3]; omega) q) Ge.en77 rfl rfl rfl rfl rfl ?_
    intro q
    refine LX.sub (l' := [(1, _), (3, _)]) ⟨rfl, rfl, trivial⟩ ?_
    refine LX.next ?_
    refine PX.thenN ?_
    refine CX.seq ?_
    refine CX.region ?_
    refine LX.pure (Y.move rfl) rfl rfl rfl ?_
    refine LX.pure (Y.fieldAddr0 Fja.fo28_3 rfl) rfl rfl rfl ?_
    refine LX.pure (Y.ldB 2 Fja.one26 rfl rfl rfl) rfl rfl rfl ?_
    refine LX.call (wTexts_c X.cn hn1 hX.hN hn2 (by simp only [List.length_append, head3]; omega) q) Ge.en77 rfl rfl rfl rfl rfl ?_
    intro q
    refine LX.sub (l' := [(1, _), (3, _)]) ⟨rfl, rfl, trivial⟩ ?_
    refine LX.next ?_
    refine PX.thenN ?_
    refine CX.seq ?_
    refine CX.region ?_
    refine LX.pure (Y.move rfl) rfl rfl rfl ?_
    refine LX.pure (Y.fieldAddr0 Fja.fo28_0 rfl) rfl rfl rfl ?_
    refine LX.pure (Y.ldB 2 Fja.one25 rfl rfl rfl) rfl rfl rfl ?_
    refine LX.pure (Y.lenSl rfl Fja.un25 rfl) rfl rfl rfl ?_
    refine LX.buildSlice (e := 3) (size := 1) rfl rfl (fun _ => by kernel_rfl) rfl (by decide) rfl rfl rfl ?_
    intro gt45
    refine LX.call (wNum_c (ns := [(p.funcs.length : Int)]) (mem1 hf1) (by simp only [List.length_append, head3]; omega) (by simp) q (fr := blk bx0 (X.pcs p) 28 :: fr)) Gc.en75 rfl rfl rfl rfl rfl ?_
    intro q
    rw [one_num]
    refine LX.world (fun w hw => hw.drop (List.sublist_cons_self _ _)) ?_
    refine LX.sub (l' := [(1, _), (3, _)]) ⟨rfl, rfl, trivial⟩ ?_
    refine LX.next ?_
    refine PX.thenN ?_
    refine CX.seq ?_
    refine CX.seq ?_
    refine CX.region ?_
    refine LX.pure (Y.fieldAddr0 Fja.fo28_0 rfl) rfl rfl rfl ?_
    refine LX.pure (Y.ldB 2 Fja.one25 rfl rfl rfl) rfl rfl rfl ?_
    refine LX.pure (Y.lenSl rfl Fja.un25 rfl) rfl rfl rfl ?_
    refine LX.pure (Y.move rfl) rfl rfl rfl ?_
    refine LX.sub (l' := [(3, _), (52, _), (53, _), (54, _)]) ⟨rfl, rfl, rfl, rfl, trivial⟩ ?_
    refine LX.next ?_
    refine PX.thenN ?_
    refine CX.block ?_
    refine CX.loop (fun s : Nat × Option Nat × Nat => [(3, .pointer (some ⟨bx5, 0, none⟩)), (52, .slice X.af p.funcs.length X.cf), (53, .int .i64 (p.funcs.length : Int)), (54, .int .i64 (s.1 : Int))]) (fun (s : Nat × Option Nat × Nat) w => s.1 ≤ p.funcs.length ∧ WA w0 base (blk bx5 [rv s.2.1 (((((head ++ (num p.consts.length ++ p.consts.flatMap cB)) ++ txts p.globals) ++ txts p.names) ++ num p.funcs.length) ++ (p.funcs.take s.1).flatMap fnB).length s.2.2] 153 :: .row s.2.1 s.2.2 (((((head ++ (num p.consts.length ++ p.consts.flatMap cB)) ++ txts p.globals) ++ txts p.names) ++ num p.funcs.length) ++ (p.funcs.take s.1).flatMap fnB).length 5 1 ((((((head ++ (num p.consts.length ++ p.consts.flatMap cB)) ++ txts p.globals) ++ txts p.names) ++ num p.funcs.length) ++ (p.funcs.take s.1).flatMap fnB).map b8) :: blk bx0 (X.pcs p) 28 :: fr) w) (fun s => p.funcs.length - s.1) (0, q) ⟨rfl, rfl, rfl, rfl, trivial⟩ (fun w hw => ⟨Nat.zero_le _, by rw [show (((((head ++ (num p.consts.length ++ p.consts.flatMap cB)) ++ txts p.globals) ++ txts p.names) ++ num p.funcs.length) ++ (p.funcs.take 0).flatMap fnB) = ((((head ++ (num p.consts.length ++ p.consts.flatMap cB)) ++ txts p.globals) ++ txts p.names) ++ num p.funcs.length) by simp]; exact hw⟩) ?_
    rintro ⟨j, q⟩
    refine CX.have fun hj0 => ?_
    try dsimp only at hj0 ⊢
    refine CX.seq ?_
    refine CX.region ?_
    refine LX.pure (Y.ltN rfl rfl) rfl rfl rfl ?_
    refine LX.sub (l' := [(3, _), (52, _), (53, _), (54, _), (55, _)]) ⟨rfl, rfl, rfl, rfl, rfl, trivial⟩ ?_
    refine LX.next ?_
    refine PX.thenN ?_
    refine CX.seq ?_
    refine CX.cond rfl (fun hb2 => ?_) (fun hb2 => ?_)
    · try simp at hb2
      have hj : j < p.funcs.length := by omega
      obtain ⟨g, hg⟩ : ∃ g, p.funcs[j]? = some g := ⟨_, List.getElem?_eq_getElem hj⟩
      obtain ⟨a, cs, hav, hcl, hL, vn2, vc2, rfl, hnm, hcd, hi1, hi2, hi3⟩ := hX.hF j g hg
      obtain ⟨an2, cn2, rfl, ⟨hn1, hn2⟩, hna⟩ := hnm.sl
      obtain ⟨ad2, cd2, rfl, ⟨hd1, hd2⟩, hda⟩ := hcd.sl
      obtain ⟨hgc, hgn, hgm⟩ := hm.2 g (List.mem_of_getElem? hg)
      have hlj := flat_at_le (f := fnB) hg
      have hcl2 := fn_len g
      refine CX.skip ?_
      refine PX.thenN ?_
      refine CX.seq ?_
      refine CX.block ?_
      refine CX.seq ?_
      refine CX.region ?_
      refine LX.pure (Y.idxZ Fja.un25 Fja.sz51 rfl rfl hav (j := j) rfl hj) rfl rfl rfl ?_
      refine LX.pure (Y.ldAO (cs := [str g.name, .int .i64 g.params, .int .i64 g.given, .int .i64 g.slots, .slice an2 g.names.length cn2, .slice ad2 g.code.length cd2]) Fjf.ag51 rfl hL rfl) rfl rfl rfl ?_
      refine LX.alloc rfl Fjf.zv51 rfl rfl rfl ?_
      intro b7x
      refine LX.storeA 0 Fjf.ag51 rfl rfl rfl rfl rfl rfl rfl rfl rfl ?_
      refine LX.world (W' := WA w0 base (blk bx5 [rv q.1 (((((head ++ (num p.consts.length ++ p.consts.flatMap cB)) ++ txts p.globals) ++ txts p.names) ++ num p.funcs.length) ++ (p.funcs.take j).flatMap fnB).length q.2] 153 :: .row q.1 q.2 (((((head ++ (num p.consts.length ++ p.consts.flatMap cB)) ++ txts p.globals) ++ txts p.names) ++ num p.funcs.length) ++ (p.funcs.take j).flatMap fnB).length 5 1 ((((((head ++ (num p.consts.length ++ p.consts.flatMap cB)) ++ txts p.globals) ++ txts p.names) ++ num p.funcs.length) ++ (p.funcs.take j).flatMap fnB).map b8) :: blk b7x [str g.name, .int .i64 g.params, .int .i64 g.given, .int .i64 g.slots, .slice an2 g.names.length cn2, .slice ad2 g.code.length cd2] 51 :: blk bx0 (X.pcs p) 28 :: fr)) (fun w hw => (show WA w0 base (blk b7x [str g.name, .int .i64 g.params, .int .i64 g.given, .int .i64 g.slots, .slice an2 g.names.length cn2, .slice ad2 g.code.length cd2] 51 :: blk bx5 [rv q.1 (((((head ++ (num p.consts.length ++ p.consts.flatMap cB)) ++ txts p.globals) ++ txts p.names) ++ num p.funcs.length) ++ (p.funcs.take j).flatMap fnB).length q.2] 153 :: .row q.1 q.2 (((((head ++ (num p.consts.length ++ p.consts.flatMap cB)) ++ txts p.globals) ++ txts p.names) ++ num p.funcs.length) ++ (p.funcs.take j).flatMap fnB).length 5 1 ((((((head ++ (num p.consts.length ++ p.consts.flatMap cB)) ++ txts p.globals) ++ txts p.names) ++ num p.funcs.length) ++ (p.funcs.take j).flatMap fnB).map b8) :: blk bx0 (X.pcs p) 28 :: fr) w from hw).perm (by (refine perm_cnt fun x => ?_; simp only [cnt_append, cnt_cons, cnt_nil]; omega))) ?_
      refine LX.sub (l' := [(3, _), (7, _), (52, _), (53, _), (54, _)]) ⟨rfl, rfl, rfl, rfl, rfl, trivial⟩ ?_
      refine LX.next ?_
      refine PX.thenN ?_
      refine CX.seq ?_
      refine CX.region ?_
      refine LX.pure (Y.move rfl) rfl rfl rfl ?_
      refine LX.pure (Y.fieldAddr0 Fja.fo51_0 rfl) rfl rfl rfl ?_
      refine LX.pure (Y.ldB 2 Fj.one9 rfl rfl rfl) rfl rfl rfl ?_
      refine LX.call (wText_c (s := g.name) (by simp only [List.length_append, head3]; omega) hgn q) Gd.en76 rfl rfl rfl rfl rfl ?_
      intro q
      refine LX.sub (l' := [(3, _), (7, _), (52, _), (53, _), (54, _)]) ⟨rfl, rfl, rfl, rfl, rfl, trivial⟩ ?_
      refine LX.next ?_
      refine PX.thenN ?_
      refine CX.seq ?_
      refine CX.region ?_
      refine LX.pure (Y.move rfl) rfl rfl rfl ?_
      refine LX.pure (Y.fieldAddr0 Fjf.fo51_1 rfl) rfl rfl rfl ?_
      refine LX.pure (Y.ldB 2 Fjb.one3 rfl rfl rfl) rfl rfl rfl ?_
      refine LX.pure (Y.fieldAddr0 Fjf.fo51_2 rfl) rfl rfl rfl ?_
      refine LX.pure (Y.ldB 2 Fjb.one3 rfl rfl rfl) rfl rfl rfl ?_
      refine LX.pure (Y.fieldAddr0 Fjf.fo51_3 rfl) rfl rfl rfl ?_
      refine LX.pure (Y.ldB 2 Fjb.one3 rfl rfl rfl) rfl rfl rfl ?_
      refine LX.buildSlice (e := 3) (size := 1) rfl rfl (fun _ => by kernel_rfl) rfl (by decide) rfl rfl rfl ?_
      intro gt67
      refine LX.call (wNum_c (ns := [g.params, g.given, g.slots]) (mem3 hi1 hi2 hi3) (by simp only [List.length_append, head3]; omega) (by simp) q (fr := blk b7x [str g.name, .int .i64 g.params, .int .i64 g.given, .int .i64 g.slots, .slice an2 g.names.length cn2, .slice ad2 g.code.length cd2] 51 :: blk bx0 (X.pcs p) 28 :: fr)) Gc.en75 rfl rfl rfl rfl rfl ?_
      intro q
      rw [three]
      refine LX.world (fun w hw => hw.drop (List.sublist_cons_self _ _)) ?_
      refine LX.sub (l' := [(3, _), (7, _), (52, _), (53, _), (54, _)]) ⟨rfl, rfl, rfl, rfl, rfl, trivial⟩ ?_
      refine LX.next ?_
      refine PX.thenN ?_
      refine CX.seq ?_
      refine CX.region ?_
      refine LX.pure (Y.move rfl) rfl rfl rfl ?_
      refine LX.pure (Y.fieldAddr0 Fja.fo51_4 rfl) rfl rfl rfl ?_
      refine LX.pure (Y.ldB 2 Fja.one26 rfl rfl rfl) rfl rfl rfl ?_
      refine LX.call (wTexts_c cn2 hgm.1 hna hgm.2 (by simp only [List.length_append, head3]; omega) q) Ge.en77 rfl rfl rfl rfl rfl ?_
      intro q
      refine LX.sub (l' := [(3, _), (7, _), (52, _), (53, _), (54, _)]) ⟨rfl, rfl, rfl, rfl, rfl, trivial⟩ ?_
      refine LX.next ?_
      refine PX.thenN ?_
      refine CX.seq ?_
      refine CX.region ?_
      refine LX.pure (Y.move rfl) rfl rfl rfl ?_
      refine LX.pure (Y.fieldAddr0 Fja.fo51_5 rfl) rfl rfl rfl ?_
      refine LX.pure (Y.ldB 2 Fja.one49 rfl rfl rfl) rfl rfl rfl ?_
      refine LX.pure (Y.lenSl rfl Fja.un49 rfl) rfl rfl rfl ?_
      refine LX.buildSlice (e := 3) (size := 1) rfl rfl (fun _ => by kernel_rfl) rfl (by decide) rfl rfl rfl ?_
      intro gt77
      refine LX.call (wNum_c (ns := [(g.code.length : Int)]) (mem1 hgc) (by simp only [List.length_append, head3]; omega) (by simp) q (fr := blk b7x [str g.name, .int .i64 g.params, .int .i64 g.given, .int .i64 g.slots, .slice an2 g.names.length cn2, .slice ad2 g.code.length cd2] 51 :: blk bx0 (X.pcs p) 28 :: fr)) Gc.en75 rfl rfl rfl rfl rfl ?_
      intro q
      rw [one_num]
      refine LX.world (fun w hw => hw.drop (List.sublist_cons_self _ _)) ?_
      refine LX.sub (l' := [(3, _), (7, _), (52, _), (53, _), (54, _)]) ⟨rfl, rfl, rfl, rfl, rfl, trivial⟩ ?_
      refine LX.next ?_
      refine PX.thenN ?_
      refine CX.seq ?_
      refine CX.region ?_
      refine LX.pure (Y.fieldAddr0 Fja.fo51_5 rfl) rfl rfl rfl ?_
      refine LX.pure (Y.ldB 2 Fja.one49 rfl rfl rfl) rfl rfl rfl ?_
      refine LX.pure (Y.lenSl rfl Fja.un49 rfl) rfl rfl rfl ?_
      refine LX.pure (Y.move rfl) rfl rfl rfl ?_
      refine LX.sub (l' := [(3, _), (52, _), (53, _), (54, _), (82, _), (83, _), (84, _)]) ⟨rfl, rfl, rfl, rfl, rfl, rfl, rfl, trivial⟩ ?_
      refine LX.next ?_
      refine PX.thenN ?_
      refine CX.block ?_
      refine CX.loop (fun s : Nat × Option Nat × Nat => [(3, .pointer (some ⟨bx5, 0, none⟩)), (52, .slice X.af p.funcs.length X.cf), (53, .int .i64 (p.funcs.length : Int)), (54, .int .i64 (j : Int)), (82, .slice ad2 g.code.length cd2), (83, .int .i64 (g.code.length : Int)), (84, .int .i64 (s.1 : Int))]) (fun (s : Nat × Option Nat × Nat) w => s.1 ≤ g.code.length ∧ WA w0 base (blk bx5 [rv s.2.1 ((((((((((head ++ (num p.consts.length ++ p.consts.flatMap cB)) ++ txts p.globals) ++ txts p.names) ++ num p.funcs.length) ++ (p.funcs.take j).flatMap fnB) ++ txt g.name) ++ (num g.params ++ (num g.given ++ num g.slots))) ++ txts g.names) ++ num g.code.length) ++ (g.code.take s.1).flatMap insB).length s.2.2] 153 :: .row s.2.1 s.2.2 ((((((((((head ++ (num p.consts.length ++ p.consts.flatMap cB)) ++ txts p.globals) ++ txts p.names) ++ num p.funcs.length) ++ (p.funcs.take j).flatMap fnB) ++ txt g.name) ++ (num g.params ++ (num g.given ++ num g.slots))) ++ txts g.names) ++ num g.code.length) ++ (g.code.take s.1).flatMap insB).length 5 1 (((((((((((head ++ (num p.consts.length ++ p.consts.flatMap cB)) ++ txts p.globals) ++ txts p.names) ++ num p.funcs.length) ++ (p.funcs.take j).flatMap fnB) ++ txt g.name) ++ (num g.params ++ (num g.given ++ num g.slots))) ++ txts g.names) ++ num g.code.length) ++ (g.code.take s.1).flatMap insB).map b8) :: blk b7x [str g.name, .int .i64 g.params, .int .i64 g.given, .int .i64 g.slots, .slice an2 g.names.length cn2, .slice ad2 g.code.length cd2] 51 :: blk bx0 (X.pcs p) 28 :: fr) w) (fun s => g.code.length - s.1) (0, q) ⟨rfl, rfl, rfl, rfl, rfl, rfl, rfl, trivial⟩ (fun w hw => ⟨Nat.zero_le _, by rw [show ((((((((((head ++ (num p.consts.length ++ p.consts.flatMap cB)) ++ txts p.globals) ++ txts p.names) ++ num p.funcs.length) ++ (p.funcs.take j).flatMap fnB) ++ txt g.name) ++ (num g.params ++ (num g.given ++ num g.slots))) ++ txts g.names) ++ num g.code.length) ++ (g.code.take 0).flatMap insB) = (((((((((head ++ (num p.consts.length ++ p.consts.flatMap cB)) ++ txts p.globals) ++ txts p.names) ++ num p.funcs.length) ++ (p.funcs.take j).flatMap fnB) ++ txt g.name) ++ (num g.params ++ (num g.given ++ num g.slots))) ++ txts g.names) ++ num g.code.length) by simp]; exact hw⟩) ?_
      rintro ⟨k, q⟩
      refine CX.have fun hk0 => ?_
      try dsimp only at hk0 ⊢
      refine CX.seq ?_
      refine CX.region ?_
      refine LX.pure (Y.ltN rfl rfl) rfl rfl rfl ?_
      refine LX.sub (l' := [(3, _), (52, _), (53, _), (54, _), (82, _), (83, _), (84, _), (85, _)]) ⟨rfl, rfl, rfl, rfl, rfl, rfl, rfl, rfl, trivial⟩ ?_
      refine LX.next ?_
      refine PX.thenN ?_
      refine CX.seq ?_
      refine CX.cond rfl (fun hb3 => ?_) (fun hb3 => ?_)
      · try simp at hb3
        have hk : k < g.code.length := by omega
        obtain ⟨i, hi⟩ : ∃ i, g.code[k]? = some i := ⟨_, List.getElem?_eq_getElem hk⟩
        obtain ⟨aI, csI, havI, hclI, hLI, rfl, hin1, hin2, hin3, hin4⟩ := hda k i hi
        have hlk := flat_at_le (f := insB) hi
        have hil := ins_len i
        refine CX.skip ?_
        refine PX.thenN ?_
        refine CX.seq ?_
        refine CX.block ?_
        refine CX.seq ?_
        refine CX.region ?_
        refine LX.pure (Y.idxZ Fja.un49 Fjf.sz53 rfl rfl havI (j := k) rfl hk) rfl rfl rfl ?_
        refine LX.pure (Y.ldAO (cs := insCs i) Fjf.ag53 rfl hLI rfl) rfl rfl rfl ?_
        refine LX.alloc rfl Fjf.zv53 rfl rfl rfl ?_
        intro b9x
        refine LX.storeA 0 Fjf.ag53 rfl rfl rfl rfl rfl rfl rfl rfl rfl ?_
        refine LX.world (W' := WA w0 base (blk bx5 [rv q.1 ((((((((((head ++ (num p.consts.length ++ p.consts.flatMap cB)) ++ txts p.globals) ++ txts p.names) ++ num p.funcs.length) ++ (p.funcs.take j).flatMap fnB) ++ txt g.name) ++ (num g.params ++ (num g.given ++ num g.slots))) ++ txts g.names) ++ num g.code.length) ++ (g.code.take k).flatMap insB).length q.2] 153 :: .row q.1 q.2 ((((((((((head ++ (num p.consts.length ++ p.consts.flatMap cB)) ++ txts p.globals) ++ txts p.names) ++ num p.funcs.length) ++ (p.funcs.take j).flatMap fnB) ++ txt g.name) ++ (num g.params ++ (num g.given ++ num g.slots))) ++ txts g.names) ++ num g.code.length) ++ (g.code.take k).flatMap insB).length 5 1 (((((((((((head ++ (num p.consts.length ++ p.consts.flatMap cB)) ++ txts p.globals) ++ txts p.names) ++ num p.funcs.length) ++ (p.funcs.take j).flatMap fnB) ++ txt g.name) ++ (num g.params ++ (num g.given ++ num g.slots))) ++ txts g.names) ++ num g.code.length) ++ (g.code.take k).flatMap insB).map b8) :: blk b9x (insCs i) 53 :: blk b7x [str g.name, .int .i64 g.params, .int .i64 g.given, .int .i64 g.slots, .slice an2 g.names.length cn2, .slice ad2 g.code.length cd2] 51 :: blk bx0 (X.pcs p) 28 :: fr)) (fun w hw => (show WA w0 base (blk b9x (insCs i) 53 :: blk bx5 [rv q.1 ((((((((((head ++ (num p.consts.length ++ p.consts.flatMap cB)) ++ txts p.globals) ++ txts p.names) ++ num p.funcs.length) ++ (p.funcs.take j).flatMap fnB) ++ txt g.name) ++ (num g.params ++ (num g.given ++ num g.slots))) ++ txts g.names) ++ num g.code.length) ++ (g.code.take k).flatMap insB).length q.2] 153 :: .row q.1 q.2 ((((((((((head ++ (num p.consts.length ++ p.consts.flatMap cB)) ++ txts p.globals) ++ txts p.names) ++ num p.funcs.length) ++ (p.funcs.take j).flatMap fnB) ++ txt g.name) ++ (num g.params ++ (num g.given ++ num g.slots))) ++ txts g.names) ++ num g.code.length) ++ (g.code.take k).flatMap insB).length 5 1 (((((((((((head ++ (num p.consts.length ++ p.consts.flatMap cB)) ++ txts p.globals) ++ txts p.names) ++ num p.funcs.length) ++ (p.funcs.take j).flatMap fnB) ++ txt g.name) ++ (num g.params ++ (num g.given ++ num g.slots))) ++ txts g.names) ++ num g.code.length) ++ (g.code.take k).flatMap insB).map b8) :: blk b7x [str g.name, .int .i64 g.params, .int .i64 g.given, .int .i64 g.slots, .slice an2 g.names.length cn2, .slice ad2 g.code.length cd2] 51 :: blk bx0 (X.pcs p) 28 :: fr) w from hw).perm (by (refine perm_cnt fun x => ?_; simp only [cnt_append, cnt_cons, cnt_nil]; omega))) ?_
        refine LX.sub (l' := [(3, _), (9, _), (52, _), (53, _), (54, _), (82, _), (83, _), (84, _)]) ⟨rfl, rfl, rfl, rfl, rfl, rfl, rfl, rfl, trivial⟩ ?_
        refine LX.next ?_
        refine PX.thenN ?_
        refine CX.region ?_
        refine LX.pure (Y.move rfl) rfl rfl rfl ?_
        refine LX.pure (Y.fieldAddr0 Fjf.fo53_0 rfl) rfl rfl rfl ?_
        refine LX.pure (Y.ldB 2 Fjb.one3 rfl rfl rfl) rfl rfl rfl ?_
        refine LX.pure (Y.fieldAddr0 Fjf.fo53_1 rfl) rfl rfl rfl ?_
        refine LX.pure (Y.ldB 2 Fjb.one3 rfl rfl rfl) rfl rfl rfl ?_
        refine LX.pure (Y.fieldAddr0 Fjf.fo53_2 rfl) rfl rfl rfl ?_
        refine LX.pure (Y.ldB 2 Fjb.one3 rfl rfl rfl) rfl rfl rfl ?_
        refine LX.pure (Y.fieldAddr0 Fjf.fo53_3 rfl) rfl rfl rfl ?_
        refine LX.pure (Y.ldB 2 Fjb.one3 rfl rfl rfl) rfl rfl rfl ?_
        refine LX.buildSlice (e := 3) (size := 1) rfl rfl (fun _ => by kernel_rfl) rfl (by decide) rfl rfl rfl ?_
        intro gt97
        refine LX.call (wNum_c (ns := [i.op, i.a, i.b, i.pos]) (mem4 hin1 hin2 hin3 hin4) (by simp only [List.length_append, head3]; omega) (by simp) q (fr := blk b9x (insCs i) 53 :: blk b7x [str g.name, .int .i64 g.params, .int .i64 g.given, .int .i64 g.slots, .slice an2 g.names.length cn2, .slice ad2 g.code.length cd2] 51 :: blk bx0 (X.pcs p) 28 :: fr)) Gc.en75 rfl rfl rfl rfl rfl ?_
        intro q
        rw [four]
        refine LX.world (fun w hw => hw.drop (List.sublist_cons_self _ _)) ?_
        refine LX.sub (l' := [(3, _), (52, _), (53, _), (54, _), (82, _), (83, _), (84, _)]) ⟨rfl, rfl, rfl, rfl, rfl, rfl, rfl, trivial⟩ ?_
        refine LX.next ?_
        refine PX.blockN ?_
        refine PX.thenN ?_
        refine CX.region ?_
        refine LX.pure (Y.addN rfl rfl (by (simp only []; omega))) rfl rfl rfl ?_
        refine LX.pure (Y.move rfl) rfl rfl rfl ?_
        refine LX.sub (l' := [(3, _), (52, _), (53, _), (54, _), (82, _), (83, _), (84, _)]) ⟨rfl, rfl, rfl, rfl, rfl, rfl, rfl, trivial⟩ ?_
        refine LX.next ?_
        exact PX.again (L := (fun s : Nat × Option Nat × Nat => [(3, .pointer (some ⟨bx5, 0, none⟩)), (52, .slice X.af p.funcs.length X.cf), (53, .int .i64 (p.funcs.length : Int)), (54, .int .i64 (j : Int)), (82, .slice ad2 g.code.length cd2), (83, .int .i64 (g.code.length : Int)), (84, .int .i64 (s.1 : Int))])) (WW := (fun (s : Nat × Option Nat × Nat) w => s.1 ≤ g.code.length ∧ WA w0 base (blk bx5 [rv s.2.1 ((((((((((head ++ (num p.consts.length ++ p.consts.flatMap cB)) ++ txts p.globals) ++ txts p.names) ++ num p.funcs.length) ++ (p.funcs.take j).flatMap fnB) ++ txt g.name) ++ (num g.params ++ (num g.given ++ num g.slots))) ++ txts g.names) ++ num g.code.length) ++ (g.code.take s.1).flatMap insB).length s.2.2] 153 :: .row s.2.1 s.2.2 ((((((((((head ++ (num p.consts.length ++ p.consts.flatMap cB)) ++ txts p.globals) ++ txts p.names) ++ num p.funcs.length) ++ (p.funcs.take j).flatMap fnB) ++ txt g.name) ++ (num g.params ++ (num g.given ++ num g.slots))) ++ txts g.names) ++ num g.code.length) ++ (g.code.take s.1).flatMap insB).length 5 1 (((((((((((head ++ (num p.consts.length ++ p.consts.flatMap cB)) ++ txts p.globals) ++ txts p.names) ++ num p.funcs.length) ++ (p.funcs.take j).flatMap fnB) ++ txt g.name) ++ (num g.params ++ (num g.given ++ num g.slots))) ++ txts g.names) ++ num g.code.length) ++ (g.code.take s.1).flatMap insB).map b8) :: blk b7x [str g.name, .int .i64 g.params, .int .i64 g.given, .int .i64 g.slots, .slice an2 g.names.length cn2, .slice ad2 g.code.length cd2] 51 :: blk bx0 (X.pcs p) 28 :: fr) w)) (μ := fun s => g.code.length - s.1) (i := (k, q)) (k + 1, q) (by show g.code.length - (k + 1) < g.code.length - k; omega) ⟨rfl, rfl, rfl, rfl, rfl, rfl, rfl, trivial⟩ (fun w hw => ⟨by show k + 1 ≤ g.code.length; omega, by show WA w0 base (blk bx5 [rv q.1 ((((((((((head ++ (num p.consts.length ++ p.consts.flatMap cB)) ++ txts p.globals) ++ txts p.names) ++ num p.funcs.length) ++ (p.funcs.take j).flatMap fnB) ++ txt g.name) ++ (num g.params ++ (num g.given ++ num g.slots))) ++ txts g.names) ++ num g.code.length) ++ (g.code.take (k + 1)).flatMap insB).length q.2] 153 :: .row q.1 q.2 ((((((((((head ++ (num p.consts.length ++ p.consts.flatMap cB)) ++ txts p.globals) ++ txts p.names) ++ num p.funcs.length) ++ (p.funcs.take j).flatMap fnB) ++ txt g.name) ++ (num g.params ++ (num g.given ++ num g.slots))) ++ txts g.names) ++ num g.code.length) ++ (g.code.take (k + 1)).flatMap insB).length 5 1 (((((((((((head ++ (num p.consts.length ++ p.consts.flatMap cB)) ++ txts p.globals) ++ txts p.names) ++ num p.funcs.length) ++ (p.funcs.take j).flatMap fnB) ++ txt g.name) ++ (num g.params ++ (num g.given ++ num g.slots))) ++ txts g.names) ++ num g.code.length) ++ (g.code.take (k + 1)).flatMap insB).map b8) :: blk b7x [str g.name, .int .i64 g.params, .int .i64 g.given, .int .i64 g.slots, .slice an2 g.names.length cn2, .slice ad2 g.code.length cd2] 51 :: blk bx0 (X.pcs p) 28 :: fr) w; rw [flat_next hi, ← List.append_assoc]; exact hw.drop (.cons_cons _ (.cons_cons _ (List.sublist_cons_self _ _)))⟩)
      · try simp at hb3
        have hke : k = g.code.length := by omega
        subst hke
        rw [List.take_length]
        refine CX.exit ?_
        refine PX.thenE ?_
        refine PX.thenE ?_
        refine PX.blockE ?_
        refine PX.blockN ?_
        refine PX.thenN ?_
        refine CX.region ?_
        refine LX.pure (Y.addN rfl rfl (by (simp only []; omega))) rfl rfl rfl ?_
        refine LX.pure (Y.move rfl) rfl rfl rfl ?_
        refine LX.sub (l' := [(3, _), (52, _), (53, _), (54, _)]) ⟨rfl, rfl, rfl, rfl, trivial⟩ ?_
        refine LX.next ?_
        exact PX.again (L := (fun s : Nat × Option Nat × Nat => [(3, .pointer (some ⟨bx5, 0, none⟩)), (52, .slice X.af p.funcs.length X.cf), (53, .int .i64 (p.funcs.length : Int)), (54, .int .i64 (s.1 : Int))])) (WW := (fun (s : Nat × Option Nat × Nat) w => s.1 ≤ p.funcs.length ∧ WA w0 base (blk bx5 [rv s.2.1 (((((head ++ (num p.consts.length ++ p.consts.flatMap cB)) ++ txts p.globals) ++ txts p.names) ++ num p.funcs.length) ++ (p.funcs.take s.1).flatMap fnB).length s.2.2] 153 :: .row s.2.1 s.2.2 (((((head ++ (num p.consts.length ++ p.consts.flatMap cB)) ++ txts p.globals) ++ txts p.names) ++ num p.funcs.length) ++ (p.funcs.take s.1).flatMap fnB).length 5 1 ((((((head ++ (num p.consts.length ++ p.consts.flatMap cB)) ++ txts p.globals) ++ txts p.names) ++ num p.funcs.length) ++ (p.funcs.take s.1).flatMap fnB).map b8) :: blk bx0 (X.pcs p) 28 :: fr) w)) (μ := fun s => p.funcs.length - s.1) (i := (j, q)) (j + 1, q) (by show p.funcs.length - (j + 1) < p.funcs.length - j; omega) ⟨rfl, rfl, rfl, rfl, trivial⟩ (fun w hw => ⟨by show j + 1 ≤ p.funcs.length; omega, by show WA w0 base (blk bx5 [rv q.1 (((((head ++ (num p.consts.length ++ p.consts.flatMap cB)) ++ txts p.globals) ++ txts p.names) ++ num p.funcs.length) ++ (p.funcs.take (j + 1)).flatMap fnB).length q.2] 153 :: .row q.1 q.2 (((((head ++ (num p.consts.length ++ p.consts.flatMap cB)) ++ txts p.globals) ++ txts p.names) ++ num p.funcs.length) ++ (p.funcs.take (j + 1)).flatMap fnB).length 5 1 ((((((head ++ (num p.consts.length ++ p.consts.flatMap cB)) ++ txts p.globals) ++ txts p.names) ++ num p.funcs.length) ++ (p.funcs.take (j + 1)).flatMap fnB).map b8) :: blk bx0 (X.pcs p) 28 :: fr) w; rw [flat_next hg, show ((((head ++ (num p.consts.length ++ p.consts.flatMap cB)) ++ txts p.globals) ++ txts p.names) ++ num p.funcs.length) ++ ((p.funcs.take j).flatMap fnB ++ fnB g) = (((((((((head ++ (num p.consts.length ++ p.consts.flatMap cB)) ++ txts p.globals) ++ txts p.names) ++ num p.funcs.length) ++ (p.funcs.take j).flatMap fnB) ++ txt g.name) ++ (num g.params ++ (num g.given ++ num g.slots))) ++ txts g.names) ++ num g.code.length) ++ g.code.flatMap insB by unfold fnB; simp only [List.append_assoc]]; exact hw.drop (.cons_cons _ (.cons_cons _ (List.sublist_cons_self _ _)))⟩)
    · try simp at hb2
      have hje : j = p.funcs.length := by omega
      subst hje
      rw [List.take_length]
      refine CX.exit ?_
      refine PX.thenE ?_
      refine PX.thenE ?_
      refine PX.blockE ?_
      refine PX.thenN ?_
      refine CX.seq ?_
      refine CX.region ?_
      refine LX.pure (Y.move rfl) rfl rfl rfl ?_
      refine LX.pure (Y.nilCheck rfl) rfl rfl rfl ?_
      refine LX.pure (Y.fieldAddr0 Gb.fo153_0 rfl) rfl rfl rfl ?_
      refine LX.pure (Y.ldB 0 Gb.one79 rfl rfl rfl) rfl rfl rfl ?_
      refine LX.pure (Y.assign rfl) rfl rfl rfl ?_
      refine LX.sub (l' := [(2, _)]) ⟨rfl, trivial⟩ ?_
      refine LX.next ?_
      refine PX.thenN ?_
      refine CX.ret ?_
      refine PX.ret1 (by simp) Tryz.results31 rfl ?_
      exact fun w hw => ⟨q, by rw [hpg], by have h1 : WA w0 base (blk bx5 [rv q.1 (((((head ++ (num p.consts.length ++ p.consts.flatMap cB)) ++ txts p.globals) ++ txts p.names) ++ num p.funcs.length) ++ p.funcs.flatMap fnB).length q.2] 153 :: .row q.1 q.2 (((((head ++ (num p.consts.length ++ p.consts.flatMap cB)) ++ txts p.globals) ++ txts p.names) ++ num p.funcs.length) ++ p.funcs.flatMap fnB).length 5 1 ((((((head ++ (num p.consts.length ++ p.consts.flatMap cB)) ++ txts p.globals) ++ txts p.names) ++ num p.funcs.length) ++ p.funcs.flatMap fnB).map b8) :: blk bx0 (X.pcs p) 28 :: fr) w := hw; rw [hpg]; exact h1.drop (.cons _ (.cons_cons _ (List.sublist_cons_self _ _)))⟩
end Go.Proofs.YtgijpgkckiknjaaGreatDoor
