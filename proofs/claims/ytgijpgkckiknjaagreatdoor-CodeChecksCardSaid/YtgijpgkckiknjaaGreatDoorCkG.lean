/-
  Proved here: a program is checked.
-/
import Derived.Test.YtgijpgkckiknjaaGreatDoorCkF
import Derived.Test.YtgijpgkckiknjaaGreatDoorMg
namespace Go.Proofs.YtgijpgkckiknjaaGreatDoor
open Go.SX Go.RowKit Go.Ck Go.Lex
namespace Fsa
theorem ag28 : AggT Tryz.prog 28 4 := AggT.of (by kernel_rfl) (by kernel_rfl)
theorem en46 : Enters Tryz.prog 46 := Enters.of Tryz.func46 (by kernel_rfl) (by kernel_rfl)
theorem en47 : Enters Tryz.prog 47 := Enters.of Tryz.func47 (by kernel_rfl) (by kernel_rfl)
theorem en48 : Enters Tryz.prog 48 := Enters.of Tryz.func48 (by kernel_rfl) (by kernel_rfl)
theorem en51 : Enters Tryz.prog 51 := Enters.of Tryz.func51 (by kernel_rfl) (by kernel_rfl)
theorem fa115_1 : FieldOffA Tryz.prog 115 1 4 := fun a w => by kernel_rfl
theorem fo115_1 : FieldOff Tryz.prog 115 1 4 := fun b o w => by kernel_rfl
theorem sz113 : SizeIs Tryz.prog 113 1 := fun w => by kernel_rfl
theorem zv113 : ∀ w, (zeroValue 113).run Tryz.prog w = .ok (.pointer none) w := fun w => by kernel_rfl
end Fsa
open Go.Tr (EnvV)
theorem len6 {r : List Value} (h : r.length = 6) : ∃ a b c d e f, r = [a, b, c, d, e, f] := by
  match r, h with
  | [a, b, c, d, e, f], _ => exact ⟨a, b, c, d, e, f, rfl⟩
theorem check_c {w0 : World} {base : Nat} {fr : List It} {X : Cx} {p : Pg} (hX : CkAt (Lies w0 base) X p ⟨[], 0, 0, 0, [], []⟩) (hlf : p.funcs.length ≤ 1048576 ∧ p.consts.length ≤ 1048576) (hkb : ∀ x ∈ p.consts, x.kids.length ≤ 1048576) (hxs : ∀ x ∈ p.consts, x.s.length ≤ 9223372036854775807) {eS : Value} (hE : EnvV w0 base 1 eS) (hl20 : p.funcs.length ≤ 20) (hlx : p.globals.length ≤ 1048576 ∧ p.names.length ≤ 1048576) (hlg : ∀ g ∈ p.funcs, g.code.length ≤ 300) : FnC Tryz.prog 16 #[.agg (X.pcs p).toArray] (WA w0 base fr) (fun b : Nat => vE (chk p) b) (fun b => WA w0 base (iE (chk p) b eS ++ fr)) := by
  refine FnC.of_body (fn := Tryz.f16) [(0, _)] Tryz.func16 rfl Tryz.ntmps16 rfl ⟨rfl, trivial⟩ ?_
  refine CX.seq ?_
  refine CX.region ?_
  refine LX.box rfl rfl rfl rfl rfl ?_
  intro b1
  refine LX.pure (Y.assign rfl) rfl rfl rfl ?_
  refine LX.sub (l' := [(1, _), (2, _)]) ⟨rfl, rfl, trivial⟩ ?_
  refine LX.next ?_
  refine PX.thenN ?_
  refine CX.seq ?_
  refine CX.region ?_
  refine LX.pure (Y.ldAggB (vs := X.pcs p) 0 Fsa.ag28 rfl rfl rfl rfl) rfl rfl rfl ?_
  refine LX.pure (Y.build (v := .agg (X.pcs p ++ [str [], .int .i64 0, .int .i64 0, .int .i64 0, .slice none 0 0, .slice none 0 0]).toArray) rfl (fun _ => by kernel_rfl)) rfl rfl rfl ?_
  refine LX.box rfl rfl rfl rfl rfl ?_
  intro bc
  refine LX.alloc rfl Fsa.zv113 rfl rfl rfl ?_
  intro bv
  refine LX.storeB 0 Fsa.sz113 rfl rfl rfl rfl rfl rfl rfl rfl ?_
  refine LX.sub (l' := [(1, _), (2, _), (3, _)]) ⟨rfl, rfl, rfl, trivial⟩ ?_
  refine LX.next ?_
  refine PX.thenN ?_
  refine CX.seq ?_
  refine CX.region ?_
  refine LX.pure (Y.assign rfl) rfl rfl rfl ?_
  refine LX.sub (l' := [(1, _), (2, _), (3, _), (4, _)]) ⟨rfl, rfl, rfl, rfl, trivial⟩ ?_
  refine LX.next ?_
  refine PX.thenN ?_
  refine CX.seq ?_
  refine CX.seq ?_
  refine CX.region ?_
  refine LX.pure (Y.fieldAddr0 Fr.fo28_0 rfl) rfl rfl rfl ?_
  refine LX.pure (Y.ldB 2 Fr.one25 rfl rfl rfl) rfl rfl rfl ?_
  refine LX.pure (Y.lenSl rfl Fr.un25 rfl) rfl rfl rfl ?_
  refine LX.pure (Y.move rfl) rfl rfl rfl ?_
  refine LX.sub (l' := [(1, _), (2, _), (3, _), (4, _), (14, _), (15, _), (16, _)]) ⟨rfl, rfl, rfl, rfl, rfl, rfl, rfl, trivial⟩ ?_
  refine LX.next ?_
  refine PX.thenN ?_
  refine CX.block ?_
  refine CX.loop (fun j : Nat => [(1, .pointer (some ⟨b1, 0, none⟩)), (3, .pointer (some ⟨bv, 0, none⟩)), (4, .int .i64 ((total (p.funcs.take j) : Nat) : Int)), (14, .slice X.af p.funcs.length X.cf), (15, .int .i64 (p.funcs.length : Int)), (16, .int .i64 (j : Int))]) (fun (j : Nat) w => j ≤ p.funcs.length ∧ WA w0 base (blk bv [.pointer (some ⟨bc, 0, none⟩)] 113 :: blk bc ((X.pcs p) ++ [str [], .int .i64 0, .int .i64 0, .int .i64 0, .slice none 0 0, .slice none 0 0]) 115 :: blk b1 (X.pcs p) 28 :: fr) w) (fun j => p.funcs.length - j) 0 ⟨rfl, rfl, rfl, rfl, rfl, rfl, trivial⟩ (fun w hw => ⟨Nat.zero_le _, hw⟩) ?_
  intro j
  refine CX.have fun hj0 => ?_
  try dsimp only at hj0 ⊢
  refine CX.seq ?_
  refine CX.region ?_
  refine LX.pure (Y.ltN rfl rfl) rfl rfl rfl ?_
  refine LX.sub (l' := [(1, _), (3, _), (4, _), (14, _), (15, _), (16, _), (17, _)]) ⟨rfl, rfl, rfl, rfl, rfl, rfl, rfl, trivial⟩ ?_
  refine LX.next ?_
  refine PX.thenN ?_
  refine CX.seq ?_
  refine CX.cond rfl (fun hb1 => ?_) (fun hb1 => ?_)
  · try simp at hb1
    have hj : j < p.funcs.length := by omega
    obtain ⟨g, hg⟩ : ∃ g, p.funcs[j]? = some g := ⟨_, List.getElem?_eq_getElem hj⟩
    obtain ⟨a, cs, hav, hcl, hL, vn2, vc2, rfl, hnm, hcd, hi1, hi2, hi3⟩ := hX.hF j g hg
    obtain ⟨an2, cn2, rfl, ⟨hn1, hn2⟩, hna⟩ := hnm.sl
    obtain ⟨ad2, cd2, rfl, ⟨hd1, hd2⟩, hda⟩ := hcd.sl
    have htl : total (p.funcs.take j) ≤ 6000 := by
      have h1 := total_le (c := 300) (p.funcs.take j) (fun f hf => hlg f (List.mem_of_mem_take hf))
      rw [List.length_take] at h1
      omega
    have hgc := hlg g (List.mem_of_getElem? hg)
    have htk := total_take hg
    refine CX.skip ?_
    refine PX.thenN ?_
    refine CX.seq ?_
    refine CX.block ?_
    refine CX.seq ?_
    refine CX.region ?_
    refine LX.pure (Y.idxZ Fr.un25 Fr.sz51 rfl rfl hav (j := j) rfl hj) rfl rfl rfl ?_
    refine LX.pure (Y.ldAO (cs := [str g.name, .int .i64 g.params, .int .i64 g.given, .int .i64 g.slots, .slice an2 g.names.length cn2, .slice ad2 g.code.length cd2]) Fr.ag51 rfl hL rfl) rfl rfl rfl ?_
    refine LX.alloc rfl Fr.zv51 rfl rfl rfl ?_
    intro bx15
    refine LX.storeA 0 Fr.ag51 rfl rfl rfl rfl rfl rfl rfl rfl rfl ?_
    refine LX.sub (l' := [(1, _), (3, _), (4, _), (6, _), (14, _), (15, _), (16, _)]) ⟨rfl, rfl, rfl, rfl, rfl, rfl, rfl, trivial⟩ ?_
    refine LX.next ?_
    refine PX.thenN ?_
    refine CX.region ?_
    refine LX.pure (Y.move rfl) rfl rfl rfl ?_
    refine LX.pure (Y.fieldAddr0 Fr.fo51_5 rfl) rfl rfl rfl ?_
    refine LX.pure (Y.ldB 0 Fr.one49 rfl rfl rfl) rfl rfl rfl ?_
    refine LX.pure (Y.lenSl rfl Fr.un49 rfl) rfl rfl rfl ?_
    refine LX.pure (Y.addN rfl rfl (by omega)) rfl rfl rfl ?_
    refine LX.pure (Y.assign rfl) rfl rfl rfl ?_
    refine LX.sub (l' := [(1, _), (3, _), (4, _), (14, _), (15, _), (16, _)]) ⟨rfl, rfl, rfl, rfl, rfl, rfl, trivial⟩ ?_
    refine LX.next ?_
    refine PX.blockN ?_
    refine PX.thenN ?_
    refine CX.region ?_
    refine LX.pure (Y.addN rfl rfl (by (simp only []; omega))) rfl rfl rfl ?_
    refine LX.pure (Y.move rfl) rfl rfl rfl ?_
    refine LX.sub (l' := [(1, _), (3, _), (4, _), (14, _), (15, _), (16, _)]) ⟨rfl, rfl, rfl, rfl, rfl, rfl, trivial⟩ ?_
    refine LX.next ?_
    exact PX.again (L := (fun j : Nat => [(1, .pointer (some ⟨b1, 0, none⟩)), (3, .pointer (some ⟨bv, 0, none⟩)), (4, .int .i64 ((total (p.funcs.take j) : Nat) : Int)), (14, .slice X.af p.funcs.length X.cf), (15, .int .i64 (p.funcs.length : Int)), (16, .int .i64 (j : Int))])) (WW := (fun (j : Nat) w => j ≤ p.funcs.length ∧ WA w0 base (blk bv [.pointer (some ⟨bc, 0, none⟩)] 113 :: blk bc ((X.pcs p) ++ [str [], .int .i64 0, .int .i64 0, .int .i64 0, .slice none 0 0, .slice none 0 0]) 115 :: blk b1 (X.pcs p) 28 :: fr) w)) (μ := fun j => p.funcs.length - j) (i := j) (j + 1) (by show p.funcs.length - (j + 1) < p.funcs.length - j; omega) ⟨rfl, rfl, by show _ = some (Value.int .i64 ((total (p.funcs.take (j + 1)) : Nat) : Int)); rw [htk]; rfl, rfl, rfl, rfl, trivial⟩ (fun w hw => ⟨by omega, hw.drop (List.sublist_cons_self _ _)⟩)
  · try simp at hb1
    have hje : j = p.funcs.length := by omega
    have htt : total (p.funcs.take j) = total p.funcs := by rw [hje, List.take_length]
    have h0 : CkAt (Lies w0 base) { X with am := none, cm := 0, ad := none, cd := 0 } p ⟨[], 0, 0, 0, [], []⟩ := ⟨hX.hF, hX.hC, hX.hG, hX.hN, (fun i x h => by cases h), (fun i x h => by cases h), by constructor <;> decide, by constructor <;> decide, by constructor <;> decide⟩
    refine CX.exit ?_
    refine PX.thenE ?_
    refine PX.thenE ?_
    refine PX.blockE ?_
    refine PX.thenN ?_
    refine CX.seq ?_
    refine CX.seq ?_
    refine CX.region ?_
    refine LX.pure (Y.ldB 0 Fs.one113 rfl rfl rfl) rfl rfl rfl ?_
    refine LX.world (W' := WA w0 base (blk bc (Cx.all { X with am := none, cm := 0, ad := none, cd := 0 } p ⟨[], 0, 0, 0, [], []⟩) 115 :: blk bv [.pointer (some ⟨bc, 0, none⟩)] 113 :: blk b1 (X.pcs p) 28 :: fr)) (fun w hw => hw.perm (.swap _ _ _)) ?_
    refine LX.call (whole_c (h0 ) hlf hkb hxs hE bc) Fsa.en46 rfl rfl rfl rfl rfl ?_
    intro _
    refine LX.world (W' := WA w0 base (blk bv [.pointer (some ⟨bc, 0, none⟩)] 113 :: blk bc ((X.pcs p) ++ [str [], .int .i64 0, .int .i64 0, .int .i64 0, .slice none 0 0, .slice none 0 0]) 115 :: blk b1 (X.pcs p) 28 :: fr)) (fun w hw => hw.perm (.swap _ _ _)) ?_
    refine LX.pure (Y.not rfl) rfl rfl rfl ?_
    refine LX.sub (l' := [(1, _), (3, _), (4, _), (28, _)]) ⟨rfl, rfl, rfl, rfl, trivial⟩ ?_
    refine LX.next ?_
    refine PX.thenN ?_
    refine CX.cond rfl (fun hb2 => ?_) (fun hb2 => ?_)
    · try simp at hb2
      have hnw : ¬wholeOk p := by simpa using hb2
      refine CX.seq ?_
      refine CX.region ?_
      refine LX.pure (Y.move rfl) rfl rfl rfl ?_
      refine LX.call (bad_c hE _) Fsa.en47 rfl rfl rfl rfl rfl ?_
      intro bb
      refine LX.pure (Y.assign rfl) rfl rfl rfl ?_
      refine LX.sub (l' := [(1, _), (2, _), (3, _)]) ⟨rfl, rfl, rfl, trivial⟩ ?_
      refine LX.next ?_
      refine PX.thenN ?_
      refine CX.ret ?_
      refine PX.thenR ?_
      refine PX.ret1 (by simp) Tryz.results16 rfl ?_
      have hr : chk p = some (total p.funcs) := by unfold chk; rw [if_neg hnw]
      exact fun w hw => ⟨bb, by rw [hr]; rfl, by rw [hr, ← htt]; exact hw.drop (.cons_cons _ (.cons _ (.cons _ (.cons _ (List.Sublist.refl _)))))⟩
    · try simp at hb2
      have hwk : wholeOk p := by simpa using hb2
      clear hj0 htt hb1
      clear hje
      refine CX.skip ?_
      refine PX.thenN ?_
      refine CX.seq ?_
      refine CX.region ?_
      refine LX.pure (Y.assign rfl) rfl rfl rfl ?_
      refine LX.sub (l' := [(1, _), (3, _), (4, _)]) ⟨rfl, rfl, rfl, trivial⟩ ?_
      refine LX.next ?_
      refine PX.thenN ?_
      refine CX.seq ?_
      refine CX.seq ?_
      refine CX.region ?_
      refine LX.pure (Y.fieldAddr0 Fr.fo28_0 rfl) rfl rfl rfl ?_
      refine LX.pure (Y.ldB 2 Fr.one25 rfl rfl rfl) rfl rfl rfl ?_
      refine LX.pure (Y.lenSl rfl Fr.un25 rfl) rfl rfl rfl ?_
      refine LX.pure (Y.move rfl) rfl rfl rfl ?_
      refine LX.sub (l' := [(3, _), (4, _), (32, _), (33, _), (34, _)]) ⟨rfl, rfl, rfl, rfl, rfl, trivial⟩ ?_
      refine LX.next ?_
      refine PX.thenN ?_
      refine CX.block ?_
      refine CX.loop (fun s : Nat × List Value => [(3, .pointer (some ⟨bv, 0, none⟩)), (4, .int .i64 ((total (p.funcs.take s.1) : Nat) : Int)), (32, .slice X.af p.funcs.length X.cf), (33, .int .i64 (p.funcs.length : Int)), (34, .int .i64 (s.1 : Int))]) (fun (s : Nat × List Value) w => (s.1 ≤ p.funcs.length ∧ s.2.length = 6 ∧ Ck.scan p (p.funcs.drop s.1) (total (p.funcs.take s.1)) = Ck.scan p p.funcs 0) ∧ WA w0 base (blk bv [.pointer (some ⟨bc, 0, none⟩)] 113 :: blk bc ((X.pcs p) ++ s.2) 115 :: blk b1 (X.pcs p) 28 :: fr) w) (fun s => p.funcs.length - s.1) (0, [str [], .int .i64 0, .int .i64 0, .int .i64 0, .slice none 0 0, .slice none 0 0]) ⟨rfl, rfl, rfl, rfl, rfl, trivial⟩ (fun w hw => ⟨⟨Nat.zero_le _, rfl, rfl⟩, hw⟩) ?_
      rintro ⟨j, r⟩
      refine CX.have fun ⟨hj0, hr6, hsc⟩ => ?_
      try dsimp only at hj0 hr6 hsc ⊢
      refine CX.seq ?_
      refine CX.region ?_
      refine LX.pure (Y.ltN rfl rfl) rfl rfl rfl ?_
      refine LX.sub (l' := [(3, _), (4, _), (32, _), (33, _), (34, _), (35, _)]) ⟨rfl, rfl, rfl, rfl, rfl, rfl, trivial⟩ ?_
      refine LX.next ?_
      refine PX.thenN ?_
      refine CX.seq ?_
      refine CX.cond rfl (fun hb3 => ?_) (fun hb3 => ?_)
      · try simp at hb3
        have hj : j < p.funcs.length := by omega
        obtain ⟨g, hg⟩ : ∃ g, p.funcs[j]? = some g := ⟨_, List.getElem?_eq_getElem hj⟩
        obtain ⟨a, cs, hav, hcl, hL, vn2, vc2, rfl, hnm, hcd, hi1, hi2, hi3⟩ := hX.hF j g hg
        obtain ⟨an2, cn2, rfl, ⟨hn1, hn2⟩, hna⟩ := hnm.sl
        obtain ⟨ad2, cd2, rfl, ⟨hd1, hd2⟩, hda⟩ := hcd.sl
        have htl : total (p.funcs.take j) ≤ 6000 := by
          have h1 := total_le (c := 300) (p.funcs.take j) (fun f hf => hlg f (List.mem_of_mem_take hf))
          rw [List.length_take] at h1
          omega
        have hgc := hlg g (List.mem_of_getElem? hg)
        have htk := total_take hg
        obtain ⟨r1, r2, r3, r4, r5, r6, rfl⟩ := len6 hr6
        have hXg : CkAt (Lies w0 base) { X with am := an2, cm := cn2, ad := ad2, cd := cd2 } p g := ⟨hX.hF, hX.hC, hX.hG, hX.hN, hna, hda, hi1, hi2, hi3⟩
        have hfo := hwk.2.1 g (List.mem_of_getElem? hg)
        refine CX.skip ?_
        refine PX.thenN ?_
        refine CX.seq ?_
        refine CX.block ?_
        refine CX.seq ?_
        refine CX.region ?_
        refine LX.pure (Y.idxZ Fr.un25 Fr.sz51 rfl rfl hav (j := j) rfl hj) rfl rfl rfl ?_
        refine LX.pure (Y.ldAO (cs := [str g.name, .int .i64 g.params, .int .i64 g.given, .int .i64 g.slots, .slice an2 g.names.length cn2, .slice ad2 g.code.length cd2]) Fr.ag51 rfl hL rfl) rfl rfl rfl ?_
        refine LX.alloc rfl Fr.zv51 rfl rfl rfl ?_
        intro b8x
        refine LX.storeA 0 Fr.ag51 rfl rfl rfl rfl rfl rfl rfl rfl rfl ?_
        refine LX.sub (l' := [(3, _), (4, _), (8, _), (32, _), (33, _), (34, _)]) ⟨rfl, rfl, rfl, rfl, rfl, rfl, trivial⟩ ?_
        refine LX.next ?_
        refine PX.thenN ?_
        refine CX.seq ?_
        refine CX.region ?_
        refine LX.pure (Y.ldB 1 Fs.one113 rfl rfl rfl) rfl rfl rfl ?_
        refine LX.pure (Y.ldAggB (vs := [str g.name, .int .i64 g.params, .int .i64 g.given, .int .i64 g.slots, .slice an2 g.names.length cn2, .slice ad2 g.code.length cd2]) 0 Fr.ag51 rfl rfl rfl rfl) rfl rfl rfl ?_
        refine LX.pure (Y.nilCheck rfl) rfl rfl rfl ?_
        refine LX.pure (Y.fieldAddr0 Fsa.fo115_1 rfl) rfl rfl rfl ?_
        refine LX.storeAt 2 Fr.ag51 rfl rfl rfl rfl rfl rfl rfl rfl rfl ?_
        refine LX.world (W' := WA w0 base (blk b8x [str g.name, .int .i64 g.params, .int .i64 g.given, .int .i64 g.slots, .slice an2 g.names.length cn2, .slice ad2 g.code.length cd2] 51 :: blk bv [.pointer (some ⟨bc, 0, none⟩)] 113 :: blk bc (Cx.all { X with am := an2, cm := cn2, ad := ad2, cd := cd2 } p g) 115 :: blk b1 (X.pcs p) 28 :: fr)) (fun w hw => hw) ?_
        refine LX.sub (l' := [(3, _), (4, _), (8, _), (32, _), (33, _), (34, _)]) ⟨rfl, rfl, rfl, rfl, rfl, rfl, trivial⟩ ?_
        refine LX.next ?_
        refine PX.thenN ?_
        refine CX.seq ?_
        refine CX.seq ?_
        refine CX.region ?_
        refine LX.pure (Y.fieldAddr0 Fr.fo51_5 rfl) rfl rfl rfl ?_
        refine LX.pure (Y.ldB 0 Fr.one49 rfl rfl rfl) rfl rfl rfl ?_
        refine LX.pure (Y.mkFunc rfl rfl) rfl rfl rfl ?_
        refine LX.world (W' := WA w0 base (blk bv [.pointer (some ⟨bc, 0, none⟩)] 113 :: blk bc (Cx.all { X with am := an2, cm := cn2, ad := ad2, cd := cd2 } p g) 115 :: blk b8x [str g.name, .int .i64 g.params, .int .i64 g.given, .int .i64 g.slots, .slice an2 g.names.length cn2, .slice ad2 g.code.length cd2] 51 :: blk b1 (X.pcs p) 28 :: fr)) (fun w hw => hw.perm (List.perm_middle (l₁ := [_, _]))) ?_
        refine LX.call (idxF_c (X := { X with am := an2, cm := cn2, ad := ad2, cd := cd2 }) hXg (by omega) bv bc) Fsa.en48 rfl rfl rfl rfl rfl ?_
        intro _
        refine LX.pure (Y.assign rfl) rfl rfl rfl ?_
        refine LX.sub (l' := [(3, _), (4, _), (8, _), (9, _), (32, _), (33, _), (34, _)]) ⟨rfl, rfl, rfl, rfl, rfl, rfl, rfl, trivial⟩ ?_
        refine LX.next ?_
        refine PX.thenN ?_
        refine CX.seq ?_
        refine CX.region ?_
        refine LX.pure (Y.move rfl) rfl rfl rfl ?_
        refine LX.pure (Y.geI rfl rfl) rfl rfl rfl ?_
        refine LX.sub (l' := [(3, _), (4, _), (8, _), (9, _), (32, _), (33, _), (34, _), (47, _)]) ⟨rfl, rfl, rfl, rfl, rfl, rfl, rfl, rfl, trivial⟩ ?_
        refine LX.next ?_
        refine PX.thenN ?_
        refine CX.cond rfl (fun hb4 => ?_) (fun hb4 => ?_)
        · try simp at hb4
          obtain ⟨k, hk⟩ : ∃ k, firstBad p g = some k := by
            cases h : firstBad p g with
            | some k => exact ⟨k, rfl⟩
            | none => rw [h] at hb4; exact absurd hb4 (by decide)
          have hkl := firstBad_lt hk
          have hki : ixZ (firstBad p g) = (k : Int) := by rw [hk]; rfl
          rw [hki]
          refine CX.seq ?_
          refine CX.region ?_
          refine LX.pure (Y.move rfl) rfl rfl rfl ?_
          refine LX.pure (Y.move rfl) rfl rfl rfl ?_
          refine LX.pure (Y.addN rfl rfl (by omega)) rfl rfl rfl ?_
          refine LX.call (bad_c hE _) Fsa.en47 rfl rfl rfl rfl rfl ?_
          intro bb
          refine LX.pure (Y.assign rfl) rfl rfl rfl ?_
          refine LX.sub (l' := [(2, _), (3, _), (4, _), (8, _), (32, _), (33, _), (34, _)]) ⟨rfl, rfl, rfl, rfl, rfl, rfl, rfl, trivial⟩ ?_
          refine LX.next ?_
          refine PX.thenN ?_
          refine CX.ret ?_
          refine PX.thenR ?_
          refine PX.blockR ?_
          refine PX.thenR ?_
          refine PX.thenR ?_
          refine PX.blockR ?_
          refine PX.thenR ?_
          refine PX.ret1 (by simp) Tryz.results16 rfl ?_
          have hr : chk p = some (total (p.funcs.take j) + k) := by unfold chk; rw [if_pos hwk, ← hsc, scan_at hg, hk]
          exact fun w hw => ⟨bb, by rw [hr]; rfl, by rw [hr]; exact hw.drop (.cons_cons _ (.cons _ (.cons _ (.cons _ (.cons _ (List.Sublist.refl _))))))⟩
        · try simp at hb4
          have hfn : firstBad p g = none := by
            cases h : firstBad p g with
            | none => rfl
            | some k => rw [h] at hb4; exact absurd hb4 (by show ¬((k : Int) < 0); omega)
          refine CX.skip ?_
          refine PX.thenN ?_
          refine CX.seq ?_
          refine CX.seq ?_
          refine CX.region ?_
          refine LX.pure (Y.ldB 0 Fs.one113 rfl rfl rfl) rfl rfl rfl ?_
          refine LX.world (W' := WA w0 base (blk bc (Cx.all { X with am := an2, cm := cn2, ad := ad2, cd := cd2 } p g) 115 :: blk bv [.pointer (some ⟨bc, 0, none⟩)] 113 :: blk b8x [str g.name, .int .i64 g.params, .int .i64 g.given, .int .i64 g.slots, .slice an2 g.names.length cn2, .slice ad2 g.code.length cd2] 51 :: blk b1 (X.pcs p) 28 :: fr)) (fun w hw => hw.perm (.swap _ _ _)) ?_
          refine LX.call (ways_c hXg (given_nn hwk) (firstBad_none hfn) ⟨hlf.2, hlx.1, hlx.2, hlf.1, by omega, hfo.2.2.2.2.2.1⟩ ⟨hl20, hgc, hfo.1⟩ bc) Fsa.en51 rfl rfl rfl rfl rfl ?_
          intro bw
          refine LX.have fun hbw => ?_
          try dsimp only at hbw ⊢
          refine LX.pure (Y.not rfl) rfl rfl rfl ?_
          refine LX.sub (l' := [(3, _), (4, _), (8, _), (32, _), (33, _), (34, _), (54, _)]) ⟨rfl, rfl, rfl, rfl, rfl, rfl, rfl, trivial⟩ ?_
          refine LX.next ?_
          refine PX.thenN ?_
          refine CX.cond rfl (fun hb5 => ?_) (fun hb5 => ?_)
          · try simp at hb5
            have hgn : ¬Ck.Good p g := fun h => by
              have h2 := hbw.2 h
              rw [h2] at hb5
              exact absurd hb5 (by decide)
            refine CX.seq ?_
            refine CX.region ?_
            refine LX.pure (Y.move rfl) rfl rfl rfl ?_
            refine LX.call (bad_c hE _) Fsa.en47 rfl rfl rfl rfl rfl ?_
            intro bb
            refine LX.pure (Y.assign rfl) rfl rfl rfl ?_
            refine LX.sub (l' := [(2, _), (3, _), (4, _), (8, _), (32, _), (33, _), (34, _)]) ⟨rfl, rfl, rfl, rfl, rfl, rfl, rfl, trivial⟩ ?_
            refine LX.next ?_
            refine PX.thenN ?_
            refine CX.ret ?_
            refine PX.thenR ?_
            refine PX.blockR ?_
            refine PX.thenR ?_
            refine PX.thenR ?_
            refine PX.blockR ?_
            refine PX.thenR ?_
            refine PX.ret1 (by simp) Tryz.results16 rfl ?_
            have hr : chk p = some (total (p.funcs.take j)) := by unfold chk; rw [if_pos hwk, ← hsc, scan_not hg hfn hgn]
            exact fun w hw => ⟨bb, by rw [hr]; rfl, by rw [hr]; exact hw.drop (.cons_cons _ (.cons _ (.cons _ (.cons _ (.cons _ (List.Sublist.refl _))))))⟩
          · try simp at hb5
            have hgd : Ck.Good p g := hbw.1 (by simpa using hb5)
            refine CX.skip ?_
            refine PX.thenN ?_
            refine CX.region ?_
            refine LX.pure (Y.move rfl) rfl rfl rfl ?_
            refine LX.pure (Y.fieldAddr0 Fr.fo51_5 rfl) rfl rfl rfl ?_
            refine LX.pure (Y.ldB 2 Fr.one49 rfl rfl rfl) rfl rfl rfl ?_
            refine LX.pure (Y.lenSl rfl Fr.un49 rfl) rfl rfl rfl ?_
            refine LX.pure (Y.addN rfl rfl (by omega)) rfl rfl rfl ?_
            refine LX.pure (Y.assign rfl) rfl rfl rfl ?_
            refine LX.sub (l' := [(3, _), (4, _), (32, _), (33, _), (34, _)]) ⟨rfl, rfl, rfl, rfl, rfl, trivial⟩ ?_
            refine LX.next ?_
            refine PX.blockN ?_
            refine PX.thenN ?_
            refine CX.region ?_
            refine LX.pure (Y.addN rfl rfl (by (simp only []; omega))) rfl rfl rfl ?_
            refine LX.pure (Y.move rfl) rfl rfl rfl ?_
            refine LX.sub (l' := [(3, _), (4, _), (32, _), (33, _), (34, _)]) ⟨rfl, rfl, rfl, rfl, rfl, trivial⟩ ?_
            refine LX.next ?_
            exact PX.again (L := (fun s : Nat × List Value => [(3, .pointer (some ⟨bv, 0, none⟩)), (4, .int .i64 ((total (p.funcs.take s.1) : Nat) : Int)), (32, .slice X.af p.funcs.length X.cf), (33, .int .i64 (p.funcs.length : Int)), (34, .int .i64 (s.1 : Int))])) (WW := (fun (s : Nat × List Value) w => (s.1 ≤ p.funcs.length ∧ s.2.length = 6 ∧ Ck.scan p (p.funcs.drop s.1) (total (p.funcs.take s.1)) = Ck.scan p p.funcs 0) ∧ WA w0 base (blk bv [.pointer (some ⟨bc, 0, none⟩)] 113 :: blk bc ((X.pcs p) ++ s.2) 115 :: blk b1 (X.pcs p) 28 :: fr) w)) (μ := fun s => p.funcs.length - s.1) (i := (j, [r1, r2, r3, r4, r5, r6])) (j + 1, [str g.name, .int .i64 g.params, .int .i64 g.given, .int .i64 g.slots, .slice an2 g.names.length cn2, .slice ad2 g.code.length cd2]) (by show p.funcs.length - (j + 1) < p.funcs.length - j; omega) ⟨rfl, by show _ = some (Value.int .i64 ((total (p.funcs.take (j + 1)) : Nat) : Int)); rw [htk]; rfl, rfl, rfl, rfl, trivial⟩ (fun w hw => ⟨⟨by show j + 1 ≤ p.funcs.length; omega, rfl, by rw [← hsc, scan_good hg hfn hgd]; show Ck.scan p _ (total (p.funcs.take (j + 1))) = _; rw [htk]⟩, (hw.drop (.cons_cons _ (.cons_cons _ (.cons _ (List.Sublist.refl _)))) : WA w0 base (_ :: _ :: _ :: fr) w).perm (.swap _ _ _)⟩)
      · try simp at hb3
        have hje : p.funcs.length ≤ j := by omega
        rw [List.drop_of_length_le hje] at hsc
        refine CX.exit ?_
        refine PX.thenE ?_
        refine PX.thenE ?_
        refine PX.blockE ?_
        refine PX.thenN ?_
        refine CX.seq ?_
        refine CX.region ?_
        refine LX.pure (Y.assign rfl) rfl rfl rfl ?_
        refine LX.sub (l' := [(2, _)]) ⟨rfl, trivial⟩ ?_
        refine LX.next ?_
        refine PX.thenN ?_
        refine CX.ret ?_
        refine PX.ret1 (by simp) Tryz.results16 rfl ?_
        have hr : chk p = none := by unfold chk; rw [if_pos hwk, ← hsc]; rfl
        exact fun w hw => ⟨0, by rw [hr]; rfl, by rw [hr]; exact hw.drop (.cons _ (.cons _ (.cons _ (List.Sublist.refl _))))⟩
end Go.Proofs.YtgijpgkckiknjaaGreatDoor
