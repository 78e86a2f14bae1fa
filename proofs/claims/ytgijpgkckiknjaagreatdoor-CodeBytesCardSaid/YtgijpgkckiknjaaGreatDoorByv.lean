/-
  Proved here: the document's reader comes to the same.
-/
import Derived.Test.YtgijpgkckiknjaaGreatDoorByt
import Derived.Test.YtgijpgkckiknjaaGreatDoorByB
namespace Go.Proofs.YtgijpgkckiknjaaGreatDoor
open Go.SX Go.RowKit Go.Ck Go.Lex Go.By
namespace Hv
theorem ag65 : AggT Tryz.prog 65 4 := AggT.of (by kernel_rfl) (by kernel_rfl)
theorem en95 : Enters Tryz.prog 95 := Enters.of Tryz.func95 (by kernel_rfl) (by kernel_rfl)
theorem fa124_1 : FieldOffA Tryz.prog 124 1 1 := fun a w => by kernel_rfl
theorem fa124_2 : FieldOffA Tryz.prog 124 2 2 := fun a w => by kernel_rfl
theorem fa124_3 : FieldOffA Tryz.prog 124 3 3 := fun a w => by kernel_rfl
theorem fa124_4 : FieldOffA Tryz.prog 124 4 4 := fun a w => by kernel_rfl
theorem fa57_1 : FieldOffA Tryz.prog 57 1 1 := fun a w => by kernel_rfl
theorem fa57_2 : FieldOffA Tryz.prog 57 2 2 := fun a w => by kernel_rfl
theorem fa57_3 : FieldOffA Tryz.prog 57 3 3 := fun a w => by kernel_rfl
theorem fa65_1 : FieldOffA Tryz.prog 65 1 1 := fun a w => by kernel_rfl
theorem fa65_2 : FieldOffA Tryz.prog 65 2 2 := fun a w => by kernel_rfl
theorem fa65_3 : FieldOffA Tryz.prog 65 3 3 := fun a w => by kernel_rfl
theorem fo124_1 : FieldOff Tryz.prog 124 1 1 := fun b o w => by kernel_rfl
theorem fo124_2 : FieldOff Tryz.prog 124 2 2 := fun b o w => by kernel_rfl
theorem fo124_3 : FieldOff Tryz.prog 124 3 3 := fun b o w => by kernel_rfl
theorem fo124_4 : FieldOff Tryz.prog 124 4 4 := fun b o w => by kernel_rfl
theorem fo57_1 : FieldOff Tryz.prog 57 1 1 := fun b o w => by kernel_rfl
theorem fo57_2 : FieldOff Tryz.prog 57 2 2 := fun b o w => by kernel_rfl
theorem fo57_3 : FieldOff Tryz.prog 57 3 3 := fun b o w => by kernel_rfl
theorem fo65_1 : FieldOff Tryz.prog 65 1 1 := fun b o w => by kernel_rfl
theorem fo65_2 : FieldOff Tryz.prog 65 2 2 := fun b o w => by kernel_rfl
theorem fo65_3 : FieldOff Tryz.prog 65 3 3 := fun b o w => by kernel_rfl
theorem sz22 : SizeIs Tryz.prog 22 1 := fun w => by kernel_rfl
theorem sz26 : SizeIs Tryz.prog 26 1 := fun w => by kernel_rfl
theorem zv65 : ∀ w, (zeroValue 65).run Tryz.prog w = .ok (.agg #[.int .i64 0, .int .i64 0, .int .i64 0, .int .i64 0]) w := fun w => by kernel_rfl
end Hv
open Go.Tr (ndA row_at map_A)
theorem gRead_c {w0 : World} {base : Nat} {fr : List It} {ab : Option Addr} {cb : Nat} {b : List UInt8} (hb : SlAt 1 byteA (Lies w0 base) ab b) (hbn : b.length ≤ 1099511627776) (hcb : b.length ≤ cb) : FnC Tryz.prog 34 #[.slice ab b.length cb] (WA w0 base fr) (fun q : Cx × Pg × Option (Nat × Nat) => .tuple #[.agg (q.1.pcs q.2.1).toArray, .agg (fltC q.2.2).toArray]) (fun q w => (rPg b = (match q.2.2 with | none => .ok q.2.1 | some e => .error e) ∧ (q.2.2 ≠ none → q.2.1 = ⟨[], [], [], []⟩)) ∧ CkAt (Lies w w.heap.size) q.1 q.2.1 ⟨[], 0, 0, 0, [], []⟩ ∧ WA w0 base fr w) := by
  refine FnC.of_body (fn := Tryz.f34) [(0, _)] Tryz.func34 rfl Tryz.ntmps34 rfl ⟨rfl, trivial⟩ ?_
  refine CX.seq ?_
  refine CX.region ?_
  refine LX.alloc rfl Fjf.zv57 rfl rfl rfl ?_
  intro b2
  refine LX.alloc rfl Hs.zv34 rfl rfl rfl ?_
  intro b3
  refine LX.sub (l' := [(0, _), (2, _), (3, _)]) ⟨rfl, rfl, rfl, trivial⟩ ?_
  refine LX.next ?_
  refine PX.thenN ?_
  refine CX.seq ?_
  refine CX.region ?_
  refine LX.pure (Y.move rfl) rfl rfl rfl ?_
  refine LX.pure (Y.build (v := .agg #[.slice ab b.length cb, .int .i64 0, .int .i64 0, .bool false, .int .i64 0, .bool false, str []]) rfl (fun _ => by kernel_rfl)) rfl rfl rfl ?_
  refine LX.box rfl rfl rfl rfl rfl ?_
  intro bw
  refine LX.pure (Y.assign rfl) rfl rfl rfl ?_
  refine LX.sub (l' := [(0, _), (2, _), (3, _), (4, _)]) ⟨rfl, rfl, rfl, rfl, trivial⟩ ?_
  refine LX.next ?_
  refine PX.thenN ?_
  refine CX.seq ?_
  refine CX.region ?_
  refine LX.pure (Y.assign rfl) rfl rfl rfl ?_
  refine LX.sub (l' := [(0, _), (2, _), (3, _), (4, _), (5, _)]) ⟨rfl, rfl, rfl, rfl, rfl, trivial⟩ ?_
  refine LX.next ?_
  refine PX.thenN ?_
  refine CX.seq ?_
  refine CX.seq ?_
  refine CX.region ?_
  refine LX.pure (Y.assign rfl) rfl rfl rfl ?_
  refine LX.sub (l' := [(0, _), (2, _), (3, _), (4, _), (5, _), (6, _)]) ⟨rfl, rfl, rfl, rfl, rfl, rfl, trivial⟩ ?_
  refine LX.next ?_
  refine PX.thenN ?_
  refine CX.block ?_
  refine CX.loop (fun z : Nat × St => [(0, .slice ab b.length cb), (2, .pointer (some ⟨b2, 0, none⟩)), (3, .pointer (some ⟨b3, 0, none⟩)), (4, .pointer (some ⟨bw, 0, none⟩)), (5, str [83, 77, 49]), (6, .int .i64 (z.1 : Int))]) (fun (z : Nat × St) w => (z.1 ≤ 3 ∧ (z.2.e = none → z.1 ≤ b.length) ∧ HeadG b z.1 z.2) ∧ WA w0 base (blk bw (rdR ab b.length cb z.2) 171 :: blk b3 [.int .i64 0, .bool false, .int .i64 0, .bool false, str []] 34 :: blk b2 [.slice none 0 0, .slice none 0 0, .slice none 0 0, .slice none 0 0] 57 :: fr) w) (fun z => 3 - z.1) (0, ⟨0, none⟩) ⟨rfl, rfl, rfl, rfl, rfl, rfl, trivial⟩ (fun w hw => ⟨⟨Nat.zero_le _, fun _ => Nat.zero_le _, rfl⟩, hw⟩) ?_
  rintro ⟨i, s⟩
  refine CX.have fun ⟨hi, hle, hh⟩ => ?_
  replace hi : i ≤ 3 := hi
  replace hle : s.e = none → i ≤ b.length := hle
  replace hh : HeadG b i s := hh
  try dsimp only
  refine CX.seq ?_
  refine CX.seq ?_
  refine CX.region ?_
  refine LX.pure (Y.move rfl) rfl rfl rfl ?_
  refine LX.pure (Y.ltN rfl rfl) rfl rfl rfl ?_
  refine LX.pure (Y.move rfl) rfl rfl rfl ?_
  refine LX.sub (l' := [(0, _), (2, _), (3, _), (4, _), (5, _), (6, _), (21, _)]) ⟨rfl, rfl, rfl, rfl, rfl, rfl, rfl, trivial⟩ ?_
  apply LX.joinAnd 3 24 21 rfl
  · intro hb1
    have hb1p := hb1
    try simp at hb1p
    refine LX.gT rfl rfl rfl hb1 (Y.move rfl) rfl rfl ?_
    refine LX.callT rfl rfl rfl hb1 (gOk_c s) Ht.en90 rfl rfl rfl rfl ?_
    intro _
    refine LX.pure (Y.pickT rfl hb1 rfl) rfl rfl rfl ?_
    exact LX.leftP ⟨rfl, rfl, rfl, rfl, rfl, rfl, rfl, rfl, trivial⟩
  · intro hb1
    have hb1p := hb1
    try simp at hb1p
    refine LX.gF rfl rfl rfl hb1 rfl rfl ?_
    refine LX.gF rfl rfl rfl hb1 rfl rfl ?_
    refine LX.pure (Y.pickF rfl hb1 rfl) rfl rfl rfl ?_
    exact LX.left ⟨rfl, rfl, rfl, rfl, rfl, rfl, rfl, rfl, trivial⟩
  refine LX.sub (l' := [(0, _), (2, _), (3, _), (4, _), (5, _), (6, _), (24, _)]) ⟨rfl, rfl, rfl, rfl, rfl, rfl, rfl, trivial⟩ ?_
  refine LX.next ?_
  refine PX.thenN ?_
  refine CX.cond rfl (fun hb2 => ?_) (fun hb2 => ?_)
  · try simp at hb2
    obtain ⟨hi3, hnn⟩ : i < 3 ∧ s.e = none := by assumption
    obtain ⟨a, e⟩ := s
    obtain rfl : e = none := hnn
    try dsimp only
    refine CX.skip ?_
    refine PX.thenN ?_
    refine CX.seq ?_
    refine CX.block ?_
    refine CX.seq ?_
    refine CX.region ?_
    refine LX.pure (Y.move rfl) rfl rfl rfl ?_
    refine LX.pure (Y.move rfl) rfl rfl rfl ?_
    refine LX.pure (Y.lenSl rfl Ht.un79 rfl) rfl rfl rfl ?_
    refine LX.pure (Y.geN rfl rfl) rfl rfl rfl ?_
    refine LX.sub (l' := [(0, _), (2, _), (3, _), (4, _), (5, _), (6, _), (30, _)]) ⟨rfl, rfl, rfl, rfl, rfl, rfl, rfl, trivial⟩ ?_
    refine LX.next ?_
    refine PX.thenN ?_
    refine CX.cond rfl (fun hb3 => ?_) (fun hb3 => ?_)
    · try simp at hb3
      have hge : b.length ≤ i := by omega
      refine CX.region ?_
      refine LX.pure (Y.move rfl) rfl rfl rfl ?_
      refine LX.pure (Y.move rfl) rfl rfl rfl ?_
      refine LX.pure (Y.lenSl rfl Ht.un79 rfl) rfl rfl rfl ?_
      refine LX.call (gFail_c ⟨a, none⟩ 13 b.length 114 (by decide)) Ht.en91 rfl rfl rfl rfl rfl ?_
      intro _
      refine LX.sub (l' := [(0, _), (2, _), (3, _), (4, _), (5, _), (6, _)]) ⟨rfl, rfl, rfl, rfl, rfl, rfl, trivial⟩ ?_
      refine LX.next ?_
      refine PX.blockN ?_
      refine PX.thenN ?_
      refine CX.region ?_
      refine LX.pure (Y.move rfl) rfl rfl rfl ?_
      refine LX.pure (Y.addN rfl rfl (by (simp only []; omega))) rfl rfl rfl ?_
      refine LX.pure (Y.assign rfl) rfl rfl rfl ?_
      refine LX.sub (l' := [(0, _), (2, _), (3, _), (4, _), (5, _), (6, _)]) ⟨rfl, rfl, rfl, rfl, rfl, rfl, trivial⟩ ?_
      refine LX.next ?_
      exact PX.again (L := (fun z : Nat × St => [(0, .slice ab b.length cb), (2, .pointer (some ⟨b2, 0, none⟩)), (3, .pointer (some ⟨b3, 0, none⟩)), (4, .pointer (some ⟨bw, 0, none⟩)), (5, str [83, 77, 49]), (6, .int .i64 (z.1 : Int))])) (WW := (fun (z : Nat × St) w => (z.1 ≤ 3 ∧ (z.2.e = none → z.1 ≤ b.length) ∧ HeadG b z.1 z.2) ∧ WA w0 base (blk bw (rdR ab b.length cb z.2) 171 :: blk b3 [.int .i64 0, .bool false, .int .i64 0, .bool false, str []] 34 :: blk b2 [.slice none 0 0, .slice none 0 0, .slice none 0 0, .slice none 0 0] 57 :: fr) w)) (μ := fun z => 3 - z.1) (i := (i, ⟨a, none⟩)) (i + 1, ⟨a, some (13, b.length)⟩) (by show 3 - (i + 1) < 3 - i; omega) ⟨rfl, rfl, rfl, rfl, rfl, rfl, trivial⟩ (fun w hw => ⟨⟨by show i + 1 ≤ 3; omega, fun h => (by cases h), headG_end hi3 hh hge⟩, hw⟩)
    · try simp at hb3
      obtain ⟨c, hc⟩ : ∃ c, b[i]? = some c := ⟨_, List.getElem?_eq_getElem (by omega)⟩
      obtain ⟨a0, hav, hL⟩ := byteA_at hb hc
      refine CX.seq ?_
      refine CX.regionQ rfl (by kernel_rfl) ?_
      refine LX.pure (Y.move rfl) rfl rfl rfl ?_
      refine LX.pure (Y.move rfl) rfl rfl rfl ?_
      refine LX.pure (Y.idxZ Ht.un79 Ht.sz5 rfl rfl hav (j := i) rfl (by omega)) rfl rfl rfl ?_
      refine LX.pure (Y.ldO1 (v := b8 c) Ht.one5 rfl hL) rfl rfl rfl ?_
      refine LX.pure (Y.move rfl) rfl rfl rfl ?_
      refine LX.pure (Y.move rfl) rfl rfl rfl ?_
      refine LX.pure (Y.index (s := [83, 77, 49]) rfl rfl Fj.un9 (show i < 3 from hi3)) rfl rfl rfl ?_
      refine LX.pure (Y.neN rfl rfl) rfl rfl rfl ?_
      refine LX.sub (l' := [(0, _), (2, _), (3, _), (4, _), (5, _), (6, _), (42, _)]) ⟨rfl, rfl, rfl, rfl, rfl, rfl, rfl, trivial⟩ ?_
      refine LX.nextQ ?_
      refine PX.thenN ?_
      refine CX.cond rfl (fun hb4 => ?_) (fun hb4 => ?_)
      · try simp at hb4
        refine CX.region ?_
        refine LX.pure (Y.move rfl) rfl rfl rfl ?_
        refine LX.pure (Y.move rfl) rfl rfl rfl ?_
        refine LX.call (gFail_c ⟨a, none⟩ 12 i 113 (by decide)) Ht.en91 rfl rfl rfl rfl rfl ?_
        intro _
        refine LX.sub (l' := [(0, _), (2, _), (3, _), (4, _), (5, _), (6, _)]) ⟨rfl, rfl, rfl, rfl, rfl, rfl, trivial⟩ ?_
        refine LX.next ?_
        refine PX.blockN ?_
        refine PX.thenN ?_
        refine CX.region ?_
        refine LX.pure (Y.move rfl) rfl rfl rfl ?_
        refine LX.pure (Y.addN rfl rfl (by (simp only []; omega))) rfl rfl rfl ?_
        refine LX.pure (Y.assign rfl) rfl rfl rfl ?_
        refine LX.sub (l' := [(0, _), (2, _), (3, _), (4, _), (5, _), (6, _)]) ⟨rfl, rfl, rfl, rfl, rfl, rfl, trivial⟩ ?_
        refine LX.next ?_
        exact PX.again (L := (fun z : Nat × St => [(0, .slice ab b.length cb), (2, .pointer (some ⟨b2, 0, none⟩)), (3, .pointer (some ⟨b3, 0, none⟩)), (4, .pointer (some ⟨bw, 0, none⟩)), (5, str [83, 77, 49]), (6, .int .i64 (z.1 : Int))])) (WW := (fun (z : Nat × St) w => (z.1 ≤ 3 ∧ (z.2.e = none → z.1 ≤ b.length) ∧ HeadG b z.1 z.2) ∧ WA w0 base (blk bw (rdR ab b.length cb z.2) 171 :: blk b3 [.int .i64 0, .bool false, .int .i64 0, .bool false, str []] 34 :: blk b2 [.slice none 0 0, .slice none 0 0, .slice none 0 0, .slice none 0 0] 57 :: fr) w)) (μ := fun z => 3 - z.1) (i := (i, ⟨a, none⟩)) (i + 1, ⟨a, some (12, i)⟩) (by show 3 - (i + 1) < 3 - i; omega) ⟨rfl, rfl, rfl, rfl, rfl, rfl, trivial⟩ (fun w hw => ⟨⟨by show i + 1 ≤ 3; omega, fun h => (by cases h), headG_no hi3 hh hc (by assumption)⟩, hw⟩)
      · try simp at hb4
        refine CX.skip ?_
        refine PX.blockN ?_
        refine PX.thenN ?_
        refine CX.region ?_
        refine LX.pure (Y.move rfl) rfl rfl rfl ?_
        refine LX.pure (Y.addN rfl rfl (by (simp only []; omega))) rfl rfl rfl ?_
        refine LX.pure (Y.assign rfl) rfl rfl rfl ?_
        refine LX.sub (l' := [(0, _), (2, _), (3, _), (4, _), (5, _), (6, _)]) ⟨rfl, rfl, rfl, rfl, rfl, rfl, trivial⟩ ?_
        refine LX.next ?_
        exact PX.again (L := (fun z : Nat × St => [(0, .slice ab b.length cb), (2, .pointer (some ⟨b2, 0, none⟩)), (3, .pointer (some ⟨b3, 0, none⟩)), (4, .pointer (some ⟨bw, 0, none⟩)), (5, str [83, 77, 49]), (6, .int .i64 (z.1 : Int))])) (WW := (fun (z : Nat × St) w => (z.1 ≤ 3 ∧ (z.2.e = none → z.1 ≤ b.length) ∧ HeadG b z.1 z.2) ∧ WA w0 base (blk bw (rdR ab b.length cb z.2) 171 :: blk b3 [.int .i64 0, .bool false, .int .i64 0, .bool false, str []] 34 :: blk b2 [.slice none 0 0, .slice none 0 0, .slice none 0 0, .slice none 0 0] 57 :: fr) w)) (μ := fun z => 3 - z.1) (i := (i, ⟨a, none⟩)) (i + 1, ⟨a, none⟩) (by show 3 - (i + 1) < 3 - i; omega) ⟨rfl, rfl, rfl, rfl, rfl, rfl, trivial⟩ (fun w hw => ⟨⟨by show i + 1 ≤ 3; omega, fun _ => by show i + 1 ≤ b.length; omega, headG_ok hi3 hh hc (by assumption)⟩, hw⟩)
  · try simp at hb2
    have hi3 : s.e = none → i = 3 := fun he => by
      have h3 : ¬(i < 3 ∧ s.e = none) := by (intro h; obtain ⟨h1, h2⟩ := h; exact hb2 h1 h2)
      have : ¬i < 3 := fun h => h3 ⟨h, he⟩
      omega
    have hh3 := headG_to hh hi3
    have hat0 : (⟨3, s.e⟩ : St).e = none → (⟨3, s.e⟩ : St).at_ ≤ b.length := fun he => by have h4 := hle he; have h5 := hi3 he; show 3 ≤ b.length; omega
    refine CX.exit ?_
    refine PX.thenE ?_
    refine PX.thenE ?_
    refine PX.blockE ?_
    refine PX.thenN ?_
    refine CX.seq ?_
    refine CX.region ?_
    refine LX.pure (Y.move rfl) rfl rfl rfl ?_
    refine LX.pure (Y.nilCheck rfl) rfl rfl rfl ?_
    refine LX.pure (Y.fieldAddr0 Ht.fo171_1 rfl) rfl rfl rfl ?_
    refine LX.storeB 0 Fjb.sz3 rfl rfl rfl rfl rfl rfl rfl rfl ?_
    refine LX.world (W' := WA w0 base (blk bw (rdR ab b.length cb (⟨3, s.e⟩ : St)) 171 :: blk b3 [.int .i64 0, .bool false, .int .i64 0, .bool false, str []] 34 :: blk b2 [.slice none 0 0, .slice none 0 0, .slice none 0 0, .slice none 0 0] 57 :: fr)) (fun w hw => hw) ?_
    refine LX.sub (l' := [(0, _), (2, _), (3, _), (4, _)]) ⟨rfl, rfl, rfl, rfl, trivial⟩ ?_
    refine LX.next ?_
    refine PX.thenN ?_
    refine CX.seq ?_
    refine CX.region ?_
    refine LX.alloc rfl Fjf.zv57 rfl rfl rfl ?_
    intro bp
    refine LX.world (W' := WA w0 base (blk bw (rdR ab b.length cb (⟨3, s.e⟩ : St)) 171 :: blk bp [.slice none 0 0, .slice none 0 0, .slice none 0 0, .slice none 0 0] 57 :: blk b3 [.int .i64 0, .bool false, .int .i64 0, .bool false, str []] 34 :: blk b2 [.slice none 0 0, .slice none 0 0, .slice none 0 0, .slice none 0 0] 57 :: fr)) (fun w hw => (show WA w0 base (blk bp [.slice none 0 0, .slice none 0 0, .slice none 0 0, .slice none 0 0] 57 :: blk bw (rdR ab b.length cb (⟨3, s.e⟩ : St)) 171 :: blk b3 [.int .i64 0, .bool false, .int .i64 0, .bool false, str []] 34 :: blk b2 [.slice none 0 0, .slice none 0 0, .slice none 0 0, .slice none 0 0] 57 :: fr) w from hw).perm (by (refine perm_cnt fun x => ?_; simp only [cnt_append, cnt_cons, cnt_nil]; omega))) ?_
    refine LX.sub (l' := [(0, _), (2, _), (3, _), (4, _), (7, _)]) ⟨rfl, rfl, rfl, rfl, rfl, trivial⟩ ?_
    refine LX.next ?_
    refine PX.thenN ?_
    refine CX.seq ?_
    refine CX.region ?_
    refine LX.pure (Y.move rfl) rfl rfl rfl ?_
    refine LX.call (gCount_c hb hbn (⟨3, s.e⟩ : St) hat0) Hu.en92 rfl rfl rfl rfl rfl ?_
    rintro ⟨n1, sA⟩
    refine LX.have fun ⟨hqn1, hln1, hmn1, _⟩ => ?_
    replace hqn1 : Res ((⟨3, s.e⟩ : St).run (rCount b)) n1 sA := hqn1
    replace hmn1 : n1 ≤ 1048576 := hmn1
    refine LX.pure (Y.assign rfl) rfl rfl rfl ?_
    refine LX.sub (l' := [(0, _), (2, _), (3, _), (4, _), (7, _), (8, _)]) ⟨rfl, rfl, rfl, rfl, rfl, rfl, trivial⟩ ?_
    refine LX.next ?_
    refine PX.thenN ?_
    refine CX.seq ?_
    refine CX.seq ?_
    refine CX.region ?_
    refine LX.pure (Y.assign rfl) rfl rfl rfl ?_
    refine LX.sub (l' := [(0, _), (2, _), (3, _), (4, _), (7, _), (8, _), (9, _)]) ⟨rfl, rfl, rfl, rfl, rfl, rfl, rfl, trivial⟩ ?_
    refine LX.next ?_
    refine PX.thenN ?_
    refine CX.block ?_
    refine CX.loop (fun z : List Nd × (Option Nat × Nat) × St => [(0, .slice ab b.length cb), (2, .pointer (some ⟨b2, 0, none⟩)), (3, .pointer (some ⟨b3, 0, none⟩)), (4, .pointer (some ⟨bw, 0, none⟩)), (7, .pointer (some ⟨bp, 0, none⟩)), (8, .int .i64 (n1 : Int)), (9, .int .i64 (z.1.length : Int))]) (fun (z : List Nd × (Option Nat × Nat) × St) w => (z.1.length ≤ n1 ∧ (z.2.2.e = none → z.2.2.at_ ≤ b.length) ∧ (∀ x ∈ z.1, cK x) ∧ Go.By.Left (rC b) (((⟨3, s.e⟩ : St).run (rCount b)).bind fun k => rMany (rC b) k.1 k.2) z.1 (n1 - z.1.length) z.2.2) ∧ WA w0 base (blk bw (rdR ab b.length cb z.2.2) 171 :: blk bp [.slice none 0 0, rv z.2.1.1 z.1.length z.2.1.2, .slice none 0 0, .slice none 0 0] 57 :: .row z.2.1.1 z.2.1.2 z.1.length 44 5 (z.1.flatMap ndC5) :: blk b3 [.int .i64 0, .bool false, .int .i64 0, .bool false, str []] 34 :: blk b2 [.slice none 0 0, .slice none 0 0, .slice none 0 0, .slice none 0 0] 57 :: fr) w) (fun z => n1 - z.1.length) ([], (none, 0), sA) ⟨rfl, rfl, rfl, rfl, rfl, rfl, rfl, trivial⟩ (fun w hw => ⟨⟨Nat.zero_le _, hln1, fun x h => (by cases h), Go.By.Left.from hqn1⟩, ((show WA w0 base (blk bw (rdR ab b.length cb sA) 171 :: blk bp [.slice none 0 0, .slice none 0 0, .slice none 0 0, .slice none 0 0] 57 :: blk b3 [.int .i64 0, .bool false, .int .i64 0, .bool false, str []] 34 :: blk b2 [.slice none 0 0, .slice none 0 0, .slice none 0 0, .slice none 0 0] 57 :: fr) w from hw).nilRow 44 5).perm (show List.Perm (blk bw (rdR ab b.length cb sA) 171 :: blk bp [.slice none 0 0, .slice none 0 0, .slice none 0 0, .slice none 0 0] 57 :: .row none 0 0 44 5 [] :: blk b3 [.int .i64 0, .bool false, .int .i64 0, .bool false, str []] 34 :: blk b2 [.slice none 0 0, .slice none 0 0, .slice none 0 0, .slice none 0 0] 57 :: fr) _ by (refine perm_cnt fun x => ?_; simp only [cnt_append, cnt_cons, cnt_nil]; omega))⟩) ?_
    rintro ⟨cs, ⟨gc, cc⟩, sB⟩
    refine CX.have fun ⟨hxn, hle2, hck, hL⟩ => ?_
    replace hxn : cs.length ≤ n1 := hxn
    replace hle2 : sB.e = none → sB.at_ ≤ b.length := hle2
    replace hck : ∀ x ∈ cs, cK x := hck
    replace hL : Go.By.Left (rC b) (((⟨3, s.e⟩ : St).run (rCount b)).bind fun k => rMany (rC b) k.1 k.2) cs (n1 - cs.length) sB := hL
    try dsimp only
    refine CX.seq ?_
    refine CX.seq ?_
    refine CX.region ?_
    refine LX.pure (Y.move rfl) rfl rfl rfl ?_
    refine LX.pure (Y.move rfl) rfl rfl rfl ?_
    refine LX.pure (Y.ltN rfl rfl) rfl rfl rfl ?_
    refine LX.pure (Y.move rfl) rfl rfl rfl ?_
    refine LX.sub (l' := [(0, _), (2, _), (3, _), (4, _), (7, _), (8, _), (9, _), (54, _)]) ⟨rfl, rfl, rfl, rfl, rfl, rfl, rfl, rfl, trivial⟩ ?_
    apply LX.joinAnd 3 57 54 rfl
    · intro hb5
      have hb5p := hb5
      try simp at hb5p
      refine LX.gT rfl rfl rfl hb5 (Y.move rfl) rfl rfl ?_
      refine LX.callT rfl rfl rfl hb5 (gOk_c sB) Ht.en90 rfl rfl rfl rfl ?_
      intro _
      refine LX.pure (Y.pickT rfl hb5 rfl) rfl rfl rfl ?_
      exact LX.leftP ⟨rfl, rfl, rfl, rfl, rfl, rfl, rfl, rfl, rfl, trivial⟩
    · intro hb5
      have hb5p := hb5
      try simp at hb5p
      refine LX.gF rfl rfl rfl hb5 rfl rfl ?_
      refine LX.gF rfl rfl rfl hb5 rfl rfl ?_
      refine LX.pure (Y.pickF rfl hb5 rfl) rfl rfl rfl ?_
      exact LX.left ⟨rfl, rfl, rfl, rfl, rfl, rfl, rfl, rfl, rfl, trivial⟩
    refine LX.sub (l' := [(0, _), (2, _), (3, _), (4, _), (7, _), (8, _), (9, _), (57, _)]) ⟨rfl, rfl, rfl, rfl, rfl, rfl, rfl, rfl, trivial⟩ ?_
    refine LX.next ?_
    refine PX.thenN ?_
    refine CX.cond rfl (fun hb6 => ?_) (fun hb6 => ?_)
    · try simp at hb6
      obtain ⟨hxl, hnn⟩ : cs.length < n1 ∧ sB.e = none := by assumption
      obtain ⟨a1, e1⟩ := sB
      obtain rfl : e1 = none := hnn
      try dsimp only
      refine CX.skip ?_
      refine PX.thenN ?_
      refine CX.seq ?_
      refine CX.block ?_
      refine CX.seq ?_
      refine CX.region ?_
      refine LX.pure (Y.move rfl) rfl rfl rfl ?_
      refine LX.call (gNumber_c hb hbn ⟨a1, none⟩ hle2) Ht.en93 rfl rfl rfl rfl rfl ?_
      rintro ⟨o, u1⟩
      refine LX.have fun ⟨ru1, hu1, iu1⟩ => ?_
      refine LX.pure (Y.assign rfl) rfl rfl rfl ?_
      refine LX.sub (l' := [(0, _), (2, _), (3, _), (4, _), (7, _), (8, _), (9, _), (10, _)]) ⟨rfl, rfl, rfl, rfl, rfl, rfl, rfl, rfl, trivial⟩ ?_
      refine LX.next ?_
      refine PX.thenN ?_
      refine CX.regionS (WA w0 base (blk bp [.slice none 0 0, rv gc cs.length cc, .slice none 0 0, .slice none 0 0] 57 :: .row gc cc cs.length 44 5 (cs.flatMap ndC5) :: blk b3 [.int .i64 0, .bool false, .int .i64 0, .bool false, str []] 34 :: blk b2 [.slice none 0 0, .slice none 0 0, .slice none 0 0, .slice none 0 0] 57 :: fr)) [(0, .anywhere), (1, .held), (2, .anywhere), (3, .anywhere), (4, .alone), (5, .anywhere), (6, .alone), (7, .alone), (8, .anywhere), (9, .alone)] rfl (by kernel_rfl) ?_
      refine MX.lift0 (i := 0) rfl (Y.fieldAddr0 Hv.fo57_1 rfl) rfl rfl rfl ?_
      refine MX.lift1 (i := 1) (pend' := []) rfl (fun w hw => by exact hw.drop (List.sublist_cons_self _ _)) (Y.ldB 0 Fja.one22 rfl rfl rfl) rfl rfl rfl (by kernel_rfl) ?_
      refine MX.lift0 (i := 2) rfl (Y.move rfl) rfl rfl rfl ?_
      refine MX.lift0 (i := 3) rfl (Y.move rfl) rfl rfl rfl ?_
      refine MX.force (i := 4) rfl ?_
      refine LX.call (gTextR_c hb hbn hcb u1 hu1) Hu.en94 rfl rfl rfl rfl rfl ?_
      rintro ⟨x, u2⟩
      refine LX.have fun ⟨ru2, hu2, _⟩ => ?_
      refine LX.nextM [1] (by kernel_rfl) (fun _ => (fun w hw => by exact hw.drop (List.sublist_cons_self _ _))) ?_
      refine MX.lift0 (i := 5) rfl (Y.build (v := .agg #[.int .i64 o, .int .i64 0, .int .i64 0, str x, .slice none 0 0]) rfl (fun _ => by kernel_rfl)) rfl rfl rfl ?_
      refine MX.force (i := 6) rfl ?_
      refine LX.buildSlice (e := 44) (size := 5) rfl rfl (fun _ => by kernel_rfl) rfl (by decide) rfl rfl rfl ?_
      intro gt69
      refine LX.nextM [1] (by kernel_rfl) (fun _ => (fun w hw => by exact hw.drop (.cons _ (List.sublist_cons_self _ _)))) ?_
      refine MX.force (i := 7) rfl ?_
      refine LX.appendT 2 Fjd.el22 rfl rfl rfl rfl rfl rfl rfl (by omega) (by omega) rfl rfl rfl ?_
      intro g' cap'
      refine LX.nextM [] (by kernel_rfl) (fun h => absurd rfl h) ?_
      refine MX.lift0 (i := 8) rfl (Y.fieldAddr0 Hv.fo57_1 rfl) rfl rfl rfl ?_
      refine MX.force (i := 9) rfl ?_
      refine LX.storeB 1 Hv.sz22 rfl rfl rfl rfl rfl rfl rfl rfl ?_
      refine LX.nextM [] (by kernel_rfl) (fun h => absurd rfl h) ?_
      refine MX.sub (l' := [(0, _), (2, _), (3, _), (4, _), (7, _), (8, _), (9, _)]) ⟨rfl, rfl, rfl, rfl, rfl, rfl, rfl, trivial⟩ ?_
      refine MX.done ?_
      refine PX.blockN ?_
      refine PX.thenN ?_
      refine CX.region ?_
      refine LX.pure (Y.move rfl) rfl rfl rfl ?_
      refine LX.pure (Y.addN rfl rfl (by (simp only []; omega))) rfl rfl rfl ?_
      refine LX.pure (Y.assign rfl) rfl rfl rfl ?_
      refine LX.sub (l' := [(0, _), (2, _), (3, _), (4, _), (7, _), (8, _), (9, _)]) ⟨rfl, rfl, rfl, rfl, rfl, rfl, rfl, trivial⟩ ?_
      refine LX.next ?_
      exact PX.again (L := (fun z : List Nd × (Option Nat × Nat) × St => [(0, .slice ab b.length cb), (2, .pointer (some ⟨b2, 0, none⟩)), (3, .pointer (some ⟨b3, 0, none⟩)), (4, .pointer (some ⟨bw, 0, none⟩)), (7, .pointer (some ⟨bp, 0, none⟩)), (8, .int .i64 (n1 : Int)), (9, .int .i64 (z.1.length : Int))])) (WW := (fun (z : List Nd × (Option Nat × Nat) × St) w => (z.1.length ≤ n1 ∧ (z.2.2.e = none → z.2.2.at_ ≤ b.length) ∧ (∀ x ∈ z.1, cK x) ∧ Go.By.Left (rC b) (((⟨3, s.e⟩ : St).run (rCount b)).bind fun k => rMany (rC b) k.1 k.2) z.1 (n1 - z.1.length) z.2.2) ∧ WA w0 base (blk bw (rdR ab b.length cb z.2.2) 171 :: blk bp [.slice none 0 0, rv z.2.1.1 z.1.length z.2.1.2, .slice none 0 0, .slice none 0 0] 57 :: .row z.2.1.1 z.2.1.2 z.1.length 44 5 (z.1.flatMap ndC5) :: blk b3 [.int .i64 0, .bool false, .int .i64 0, .bool false, str []] 34 :: blk b2 [.slice none 0 0, .slice none 0 0, .slice none 0 0, .slice none 0 0] 57 :: fr) w)) (μ := fun z => n1 - z.1.length) (i := (cs, (gc, cc), ⟨a1, none⟩)) (cs ++ [(⟨o, 0, 0, x, []⟩ : Nd)], (g', cap'), u2) (by show n1 - (cs ++ [(⟨o, 0, 0, x, []⟩ : Nd)]).length < n1 - cs.length; rw [List.length_append, List.length_singleton]; omega) ⟨rfl, rfl, rfl, rfl, rfl, rfl, by show get _ 9 = some (.int .i64 ((cs ++ [(⟨o, 0, 0, x, []⟩ : Nd)]).length : Int)); rw [List.length_append, List.length_singleton]; rfl, trivial⟩ (fun w hw => ⟨⟨by show (cs ++ [(⟨o, 0, 0, x, []⟩ : Nd)]).length ≤ n1; rw [List.length_append, List.length_singleton]; omega, hu2, fun i hi => (List.mem_append.1 hi).elim (hck i) fun h => (by cases List.mem_singleton.1 h; exact ⟨rfl, rfl, rfl, iu1⟩), by show Go.By.Left _ _ (cs ++ [(⟨o, 0, 0, x, []⟩ : Nd)]) (n1 - (cs ++ [(⟨o, 0, 0, x, []⟩ : Nd)]).length) _; rw [List.length_append, List.length_singleton]; rw [show n1 - cs.length = (n1 - (cs.length + 1)) + 1 by omega] at hL; exact hL.next (rC_res ru1 ru2)⟩, by show WA w0 base (blk bw (rdR ab b.length cb u2) 171 :: blk bp [.slice none 0 0, rv g' (cs ++ [(⟨o, 0, 0, x, []⟩ : Nd)]).length cap', .slice none 0 0, .slice none 0 0] 57 :: .row g' cap' (cs ++ [(⟨o, 0, 0, x, []⟩ : Nd)]).length 44 5 ((cs ++ [(⟨o, 0, 0, x, []⟩ : Nd)]).flatMap ndC5) :: blk b3 [.int .i64 0, .bool false, .int .i64 0, .bool false, str []] 34 :: blk b2 [.slice none 0 0, .slice none 0 0, .slice none 0 0, .slice none 0 0] 57 :: fr) w; rw [nd_snoc, List.length_append]; exact hw⟩)
    · try simp at hb6
      have hzh1 : sB.e = none → n1 - cs.length = 0 := fun he => by
        have h3 : ¬(cs.length < n1 ∧ sB.e = none) := by (intro h; obtain ⟨h1, h2⟩ := h; exact hb6 h1 h2)
        exact Nat.sub_eq_zero_of_le (Nat.le_of_not_lt fun h => h3 ⟨h, he⟩)
      have h1 : Res ((⟨3, s.e⟩ : St).run fun a => (rCount b a).bind fun k => rMany (rC b) k.1 k.2) cs sB := by rw [St.run_bind]; exact hL.out hzh1
      refine CX.exit ?_
      refine PX.thenE ?_
      refine PX.thenE ?_
      refine PX.blockE ?_
      refine PX.thenN ?_
      refine CX.seq ?_
      refine CX.region ?_
      refine LX.pure (Y.move rfl) rfl rfl rfl ?_
      refine LX.call (gTextsR_c hb hbn hcb sB hle2) Hv.en95 rfl rfl rfl rfl rfl ?_
      rintro ⟨⟨⟨gg, cg⟩, gs⟩, sC⟩
      refine LX.have fun ⟨h2, hleC, _⟩ => ?_
      refine LX.pure (Y.fieldAddr0 Hv.fo57_2 rfl) rfl rfl rfl ?_
      refine LX.storeB 2 Hv.sz26 rfl rfl rfl rfl rfl rfl rfl rfl ?_
      refine LX.sub (l' := [(0, _), (2, _), (3, _), (4, _), (7, _)]) ⟨rfl, rfl, rfl, rfl, rfl, trivial⟩ ?_
      refine LX.next ?_
      refine PX.thenN ?_
      refine CX.seq ?_
      refine CX.region ?_
      refine LX.pure (Y.move rfl) rfl rfl rfl ?_
      refine LX.call (gTextsR_c hb hbn hcb sC hleC) Hv.en95 rfl rfl rfl rfl rfl ?_
      rintro ⟨⟨⟨gn, cn⟩, ms⟩, sD⟩
      refine LX.have fun ⟨h3, hleD, _⟩ => ?_
      refine LX.pure (Y.fieldAddr0 Hv.fo57_3 rfl) rfl rfl rfl ?_
      refine LX.storeB 3 Hv.sz26 rfl rfl rfl rfl rfl rfl rfl rfl ?_
      refine LX.sub (l' := [(0, _), (2, _), (3, _), (4, _), (7, _)]) ⟨rfl, rfl, rfl, rfl, rfl, trivial⟩ ?_
      refine LX.next ?_
      refine PX.thenN ?_
      refine CX.seq ?_
      refine CX.region ?_
      refine LX.pure (Y.move rfl) rfl rfl rfl ?_
      refine LX.call (gCount_c hb hbn sD hleD) Hu.en92 rfl rfl rfl rfl rfl ?_
      rintro ⟨n2, sE⟩
      refine LX.have fun ⟨hqn2, hln2, hmn2, _⟩ => ?_
      replace hqn2 : Res (sD.run (rCount b)) n2 sE := hqn2
      replace hmn2 : n2 ≤ 1048576 := hmn2
      refine LX.pure (Y.assign rfl) rfl rfl rfl ?_
      refine LX.sub (l' := [(0, _), (2, _), (3, _), (4, _), (7, _), (8, _)]) ⟨rfl, rfl, rfl, rfl, rfl, rfl, trivial⟩ ?_
      refine LX.next ?_
      refine PX.thenN ?_
      refine CX.seq ?_
      refine CX.seq ?_
      refine CX.region ?_
      refine LX.pure (Y.assign rfl) rfl rfl rfl ?_
      refine LX.sub (l' := [(0, _), (2, _), (3, _), (4, _), (7, _), (8, _), (11, _)]) ⟨rfl, rfl, rfl, rfl, rfl, rfl, rfl, trivial⟩ ?_
      refine LX.next ?_
      refine PX.thenN ?_
      refine CX.block ?_
      refine CX.loop (fun z : List Fc × (Option Nat × Nat) × List Value × List It × St => [(0, .slice ab b.length cb), (2, .pointer (some ⟨b2, 0, none⟩)), (3, .pointer (some ⟨b3, 0, none⟩)), (4, .pointer (some ⟨bw, 0, none⟩)), (7, .pointer (some ⟨bp, 0, none⟩)), (8, .int .i64 (n2 : Int)), (11, .int .i64 (z.1.length : Int))]) (fun (z : List Fc × (Option Nat × Nat) × List Value × List It × St) w => (z.1.length ≤ n2 ∧ (z.2.2.2.2.e = none → z.2.2.2.2.at_ ≤ b.length) ∧ FnsF w0 base z.2.2.2.1 z.2.2.1 z.1 ∧ Go.By.Left (rFn b) ((sD.run (rCount b)).bind fun k => rMany (rFn b) k.1 k.2) z.1 (n2 - z.1.length) z.2.2.2.2) ∧ WA w0 base (blk bw (rdR ab b.length cb z.2.2.2.2) 171 :: blk bp [rv z.2.1.1 z.1.length z.2.1.2, rv gc cs.length cc, rv gg gs.length cg, rv gn ms.length cn] 57 :: .row z.2.1.1 z.2.1.2 z.1.length 124 6 z.2.2.1 :: blk b3 [.int .i64 0, .bool false, .int .i64 0, .bool false, str []] 34 :: blk b2 [.slice none 0 0, .slice none 0 0, .slice none 0 0, .slice none 0 0] 57 :: (z.2.2.2.1 ++ (.row gn cn ms.length 9 1 (ms.map str) :: .row gg cg gs.length 9 1 (gs.map str) :: .row gc cc cs.length 44 5 (cs.flatMap ndC5) :: fr))) w) (fun z => n2 - z.1.length) ([], (none, 0), [], [], sE) ⟨rfl, rfl, rfl, rfl, rfl, rfl, rfl, trivial⟩ (fun w hw => ⟨⟨Nat.zero_le _, hln2, ⟨rfl, fun i x h => (by cases h)⟩, Go.By.Left.from hqn2⟩, ((show WA w0 base (blk bw (rdR ab b.length cb sE) 171 :: .row gn cn ms.length 9 1 (ms.map str) :: .row gg cg gs.length 9 1 (gs.map str) :: blk bp [.slice none 0 0, rv gc cs.length cc, rv gg gs.length cg, rv gn ms.length cn] 57 :: .row gc cc cs.length 44 5 (cs.flatMap ndC5) :: blk b3 [.int .i64 0, .bool false, .int .i64 0, .bool false, str []] 34 :: blk b2 [.slice none 0 0, .slice none 0 0, .slice none 0 0, .slice none 0 0] 57 :: fr) w from hw).nilRow 124 6).perm (show List.Perm (blk bw (rdR ab b.length cb sE) 171 :: blk bp [.slice none 0 0, rv gc cs.length cc, rv gg gs.length cg, rv gn ms.length cn] 57 :: .row none 0 0 124 6 [] :: blk b3 [.int .i64 0, .bool false, .int .i64 0, .bool false, str []] 34 :: blk b2 [.slice none 0 0, .slice none 0 0, .slice none 0 0, .slice none 0 0] 57 :: (([] : List It) ++ (.row gn cn ms.length 9 1 (ms.map str) :: .row gg cg gs.length 9 1 (gs.map str) :: .row gc cc cs.length 44 5 (cs.flatMap ndC5) :: fr))) _ by (refine perm_cnt fun x => ?_; simp only [cnt_append, cnt_cons, cnt_nil]; omega))⟩) ?_
      rintro ⟨fs, ⟨gf, cf⟩, cells, rs, sF⟩
      refine CX.have fun ⟨hxn, hle2, hff, hL⟩ => ?_
      replace hxn : fs.length ≤ n2 := hxn
      replace hle2 : sF.e = none → sF.at_ ≤ b.length := hle2
      replace hff : FnsF w0 base rs cells fs := hff
      replace hL : Go.By.Left (rFn b) ((sD.run (rCount b)).bind fun k => rMany (rFn b) k.1 k.2) fs (n2 - fs.length) sF := hL
      try dsimp only
      refine CX.seq ?_
      refine CX.seq ?_
      refine CX.region ?_
      refine LX.pure (Y.move rfl) rfl rfl rfl ?_
      refine LX.pure (Y.move rfl) rfl rfl rfl ?_
      refine LX.pure (Y.ltN rfl rfl) rfl rfl rfl ?_
      refine LX.pure (Y.move rfl) rfl rfl rfl ?_
      refine LX.sub (l' := [(0, _), (2, _), (3, _), (4, _), (7, _), (8, _), (11, _), (82, _)]) ⟨rfl, rfl, rfl, rfl, rfl, rfl, rfl, rfl, trivial⟩ ?_
      apply LX.joinAnd 3 85 82 rfl
      · intro hb7
        have hb7p := hb7
        try simp at hb7p
        refine LX.gT rfl rfl rfl hb7 (Y.move rfl) rfl rfl ?_
        refine LX.callT rfl rfl rfl hb7 (gOk_c sF) Ht.en90 rfl rfl rfl rfl ?_
        intro _
        refine LX.pure (Y.pickT rfl hb7 rfl) rfl rfl rfl ?_
        exact LX.leftP ⟨rfl, rfl, rfl, rfl, rfl, rfl, rfl, rfl, rfl, trivial⟩
      · intro hb7
        have hb7p := hb7
        try simp at hb7p
        refine LX.gF rfl rfl rfl hb7 rfl rfl ?_
        refine LX.gF rfl rfl rfl hb7 rfl rfl ?_
        refine LX.pure (Y.pickF rfl hb7 rfl) rfl rfl rfl ?_
        exact LX.left ⟨rfl, rfl, rfl, rfl, rfl, rfl, rfl, rfl, rfl, trivial⟩
      refine LX.sub (l' := [(0, _), (2, _), (3, _), (4, _), (7, _), (8, _), (11, _), (85, _)]) ⟨rfl, rfl, rfl, rfl, rfl, rfl, rfl, rfl, trivial⟩ ?_
      refine LX.next ?_
      refine PX.thenN ?_
      refine CX.cond rfl (fun hb8 => ?_) (fun hb8 => ?_)
      · try simp at hb8
        obtain ⟨hxl, hnn⟩ : fs.length < n2 ∧ sF.e = none := by assumption
        obtain ⟨a1, e1⟩ := sF
        obtain rfl : e1 = none := hnn
        try dsimp only
        refine CX.skip ?_
        refine PX.thenN ?_
        refine CX.seq ?_
        refine CX.block ?_
        refine CX.seq ?_
        refine CX.region ?_
        refine LX.pure (Y.move rfl) rfl rfl rfl ?_
        refine LX.call (gTextR_c hb hbn hcb ⟨a1, none⟩ hle2) Hu.en94 rfl rfl rfl rfl rfl ?_
        rintro ⟨nm, t1⟩
        refine LX.have fun ⟨rt1, ht1, _⟩ => ?_
        refine LX.pure (Y.build (v := .agg #[str nm, .int .i64 0, .int .i64 0, .int .i64 0, .slice none 0 0, .slice none 0 0]) rfl (fun _ => by kernel_rfl)) rfl rfl rfl ?_
        refine LX.alloc rfl Fjf.zv124 rfl rfl rfl ?_
        intro bf
        refine LX.storeA 0 Fjf.ag124 rfl rfl rfl rfl rfl rfl rfl rfl rfl ?_
        refine LX.world (W' := WA w0 base (blk bw (rdR ab b.length cb t1) 171 :: blk bf [str nm, .int .i64 0, .int .i64 0, .int .i64 0, .slice none 0 0, .slice none 0 0] 124 :: blk bp [rv gf fs.length cf, rv gc cs.length cc, rv gg gs.length cg, rv gn ms.length cn] 57 :: .row gf cf fs.length 124 6 cells :: blk b3 [.int .i64 0, .bool false, .int .i64 0, .bool false, str []] 34 :: blk b2 [.slice none 0 0, .slice none 0 0, .slice none 0 0, .slice none 0 0] 57 :: (rs ++ (.row gn cn ms.length 9 1 (ms.map str) :: .row gg cg gs.length 9 1 (gs.map str) :: .row gc cc cs.length 44 5 (cs.flatMap ndC5) :: fr)))) (fun w hw => (show WA w0 base (blk bf [str nm, .int .i64 0, .int .i64 0, .int .i64 0, .slice none 0 0, .slice none 0 0] 124 :: blk bw (rdR ab b.length cb t1) 171 :: blk bp [rv gf fs.length cf, rv gc cs.length cc, rv gg gs.length cg, rv gn ms.length cn] 57 :: .row gf cf fs.length 124 6 cells :: blk b3 [.int .i64 0, .bool false, .int .i64 0, .bool false, str []] 34 :: blk b2 [.slice none 0 0, .slice none 0 0, .slice none 0 0, .slice none 0 0] 57 :: (rs ++ (.row gn cn ms.length 9 1 (ms.map str) :: .row gg cg gs.length 9 1 (gs.map str) :: .row gc cc cs.length 44 5 (cs.flatMap ndC5) :: fr))) w from hw).perm (by (refine perm_cnt fun x => ?_; simp only [cnt_append, cnt_cons, cnt_nil]; omega))) ?_
        refine LX.sub (l' := [(0, _), (2, _), (3, _), (4, _), (7, _), (8, _), (11, _), (12, _)]) ⟨rfl, rfl, rfl, rfl, rfl, rfl, rfl, rfl, trivial⟩ ?_
        refine LX.next ?_
        refine PX.thenN ?_
        refine CX.seq ?_
        refine CX.region ?_
        refine LX.pure (Y.move rfl) rfl rfl rfl ?_
        refine LX.call (gNumber_c hb hbn t1 ht1) Ht.en93 rfl rfl rfl rfl rfl ?_
        rintro ⟨pa, t2⟩
        refine LX.have fun ⟨rt2, ht2, it2⟩ => ?_
        refine LX.pure (Y.fieldAddr0 Hv.fo124_1 rfl) rfl rfl rfl ?_
        refine LX.storeB 1 Fjb.sz3 rfl rfl rfl rfl rfl rfl rfl rfl ?_
        refine LX.sub (l' := [(0, _), (2, _), (3, _), (4, _), (7, _), (8, _), (11, _), (12, _)]) ⟨rfl, rfl, rfl, rfl, rfl, rfl, rfl, rfl, trivial⟩ ?_
        refine LX.next ?_
        refine PX.thenN ?_
        refine CX.seq ?_
        refine CX.region ?_
        refine LX.pure (Y.move rfl) rfl rfl rfl ?_
        refine LX.call (gNumber_c hb hbn t2 ht2) Ht.en93 rfl rfl rfl rfl rfl ?_
        rintro ⟨gi, t3⟩
        refine LX.have fun ⟨rt3, ht3, it3⟩ => ?_
        refine LX.pure (Y.fieldAddr0 Hv.fo124_2 rfl) rfl rfl rfl ?_
        refine LX.storeB 1 Fjb.sz3 rfl rfl rfl rfl rfl rfl rfl rfl ?_
        refine LX.sub (l' := [(0, _), (2, _), (3, _), (4, _), (7, _), (8, _), (11, _), (12, _)]) ⟨rfl, rfl, rfl, rfl, rfl, rfl, rfl, rfl, trivial⟩ ?_
        refine LX.next ?_
        refine PX.thenN ?_
        refine CX.seq ?_
        refine CX.region ?_
        refine LX.pure (Y.move rfl) rfl rfl rfl ?_
        refine LX.call (gNumber_c hb hbn t3 ht3) Ht.en93 rfl rfl rfl rfl rfl ?_
        rintro ⟨sl, t4⟩
        refine LX.have fun ⟨rt4, ht4, it4⟩ => ?_
        refine LX.pure (Y.fieldAddr0 Hv.fo124_3 rfl) rfl rfl rfl ?_
        refine LX.storeB 1 Fjb.sz3 rfl rfl rfl rfl rfl rfl rfl rfl ?_
        refine LX.sub (l' := [(0, _), (2, _), (3, _), (4, _), (7, _), (8, _), (11, _), (12, _)]) ⟨rfl, rfl, rfl, rfl, rfl, rfl, rfl, rfl, trivial⟩ ?_
        refine LX.next ?_
        refine PX.thenN ?_
        refine CX.seq ?_
        refine CX.region ?_
        refine LX.pure (Y.move rfl) rfl rfl rfl ?_
        refine LX.call (gTextsR_c hb hbn hcb t4 ht4) Hv.en95 rfl rfl rfl rfl rfl ?_
        rintro ⟨⟨⟨ga, ca⟩, nms⟩, t5⟩
        refine LX.have fun ⟨rt5, ht5, nt5⟩ => ?_
        replace nt5 : nms.length ≤ 1048576 := nt5
        refine LX.pure (Y.fieldAddr0 Hv.fo124_4 rfl) rfl rfl rfl ?_
        refine LX.storeB 2 Hv.sz26 rfl rfl rfl rfl rfl rfl rfl rfl ?_
        refine LX.sub (l' := [(0, _), (2, _), (3, _), (4, _), (7, _), (8, _), (11, _), (12, _)]) ⟨rfl, rfl, rfl, rfl, rfl, rfl, rfl, rfl, trivial⟩ ?_
        refine LX.next ?_
        refine PX.thenN ?_
        refine CX.seq ?_
        refine CX.region ?_
        refine LX.pure (Y.move rfl) rfl rfl rfl ?_
        refine LX.call (gCount_c hb hbn t5 ht5) Hu.en92 rfl rfl rfl rfl rfl ?_
        rintro ⟨k, t6⟩
        refine LX.have fun ⟨hqk, hlk, hmk, _⟩ => ?_
        replace hqk : Res (t5.run (rCount b)) k t6 := hqk
        replace hmk : k ≤ 1048576 := hmk
        refine LX.pure (Y.assign rfl) rfl rfl rfl ?_
        refine LX.sub (l' := [(0, _), (2, _), (3, _), (4, _), (7, _), (8, _), (11, _), (12, _), (13, _)]) ⟨rfl, rfl, rfl, rfl, rfl, rfl, rfl, rfl, rfl, trivial⟩ ?_
        refine LX.next ?_
        refine PX.thenN ?_
        refine CX.seq ?_
        refine CX.seq ?_
        refine CX.region ?_
        refine LX.pure (Y.assign rfl) rfl rfl rfl ?_
        refine LX.sub (l' := [(0, _), (2, _), (3, _), (4, _), (7, _), (8, _), (11, _), (12, _), (13, _), (14, _)]) ⟨rfl, rfl, rfl, rfl, rfl, rfl, rfl, rfl, rfl, rfl, trivial⟩ ?_
        refine LX.next ?_
        refine PX.thenN ?_
        refine CX.block ?_
        refine CX.loop (fun z : List Ins × (Option Nat × Nat) × St => [(0, .slice ab b.length cb), (2, .pointer (some ⟨b2, 0, none⟩)), (3, .pointer (some ⟨b3, 0, none⟩)), (4, .pointer (some ⟨bw, 0, none⟩)), (7, .pointer (some ⟨bp, 0, none⟩)), (8, .int .i64 (n2 : Int)), (11, .int .i64 (fs.length : Int)), (12, .pointer (some ⟨bf, 0, none⟩)), (13, .int .i64 (k : Int)), (14, .int .i64 (z.1.length : Int))]) (fun (z : List Ins × (Option Nat × Nat) × St) w => (z.1.length ≤ k ∧ (z.2.2.e = none → z.2.2.at_ ≤ b.length) ∧ (∀ i ∈ z.1, insI i) ∧ Go.By.Left (rIns b) ((t5.run (rCount b)).bind fun k => rMany (rIns b) k.1 k.2) z.1 (k - z.1.length) z.2.2) ∧ WA w0 base (blk bw (rdR ab b.length cb z.2.2) 171 :: blk bf [str nm, .int .i64 pa, .int .i64 gi, .int .i64 sl, rv ga nms.length ca, rv z.2.1.1 z.1.length z.2.1.2] 124 :: .row z.2.1.1 z.2.1.2 z.1.length 65 4 (insR z.1) :: .row ga ca nms.length 9 1 (nms.map str) :: blk bp [rv gf fs.length cf, rv gc cs.length cc, rv gg gs.length cg, rv gn ms.length cn] 57 :: .row gf cf fs.length 124 6 cells :: blk b3 [.int .i64 0, .bool false, .int .i64 0, .bool false, str []] 34 :: blk b2 [.slice none 0 0, .slice none 0 0, .slice none 0 0, .slice none 0 0] 57 :: (rs ++ (.row gn cn ms.length 9 1 (ms.map str) :: .row gg cg gs.length 9 1 (gs.map str) :: .row gc cc cs.length 44 5 (cs.flatMap ndC5) :: fr))) w) (fun z => k - z.1.length) ([], (none, 0), t6) ⟨rfl, rfl, rfl, rfl, rfl, rfl, rfl, rfl, rfl, rfl, trivial⟩ (fun w hw => ⟨⟨Nat.zero_le _, hlk, fun x h => (by cases h), Go.By.Left.from hqk⟩, ((show WA w0 base (blk bw (rdR ab b.length cb t6) 171 :: .row ga ca nms.length 9 1 (nms.map str) :: blk bf [str nm, .int .i64 pa, .int .i64 gi, .int .i64 sl, rv ga nms.length ca, .slice none 0 0] 124 :: blk bp [rv gf fs.length cf, rv gc cs.length cc, rv gg gs.length cg, rv gn ms.length cn] 57 :: .row gf cf fs.length 124 6 cells :: blk b3 [.int .i64 0, .bool false, .int .i64 0, .bool false, str []] 34 :: blk b2 [.slice none 0 0, .slice none 0 0, .slice none 0 0, .slice none 0 0] 57 :: (rs ++ (.row gn cn ms.length 9 1 (ms.map str) :: .row gg cg gs.length 9 1 (gs.map str) :: .row gc cc cs.length 44 5 (cs.flatMap ndC5) :: fr))) w from hw).nilRow 65 4).perm (show List.Perm (blk bw (rdR ab b.length cb t6) 171 :: blk bf [str nm, .int .i64 pa, .int .i64 gi, .int .i64 sl, rv ga nms.length ca, .slice none 0 0] 124 :: .row none 0 0 65 4 [] :: .row ga ca nms.length 9 1 (nms.map str) :: blk bp [rv gf fs.length cf, rv gc cs.length cc, rv gg gs.length cg, rv gn ms.length cn] 57 :: .row gf cf fs.length 124 6 cells :: blk b3 [.int .i64 0, .bool false, .int .i64 0, .bool false, str []] 34 :: blk b2 [.slice none 0 0, .slice none 0 0, .slice none 0 0, .slice none 0 0] 57 :: (rs ++ (.row gn cn ms.length 9 1 (ms.map str) :: .row gg cg gs.length 9 1 (gs.map str) :: .row gc cc cs.length 44 5 (cs.flatMap ndC5) :: fr))) _ by (refine perm_cnt fun x => ?_; simp only [cnt_append, cnt_cons, cnt_nil]; omega))⟩) ?_
        rintro ⟨is, ⟨gi2, ci2⟩, t7⟩
        refine CX.have fun ⟨hxk, hle3, hii, hL4⟩ => ?_
        replace hxk : is.length ≤ k := hxk
        replace hle3 : t7.e = none → t7.at_ ≤ b.length := hle3
        replace hii : ∀ i ∈ is, insI i := hii
        replace hL4 : Go.By.Left (rIns b) ((t5.run (rCount b)).bind fun k => rMany (rIns b) k.1 k.2) is (k - is.length) t7 := hL4
        try dsimp only
        refine CX.seq ?_
        refine CX.seq ?_
        refine CX.region ?_
        refine LX.pure (Y.move rfl) rfl rfl rfl ?_
        refine LX.pure (Y.move rfl) rfl rfl rfl ?_
        refine LX.pure (Y.ltN rfl rfl) rfl rfl rfl ?_
        refine LX.pure (Y.move rfl) rfl rfl rfl ?_
        refine LX.sub (l' := [(0, _), (2, _), (3, _), (4, _), (7, _), (8, _), (11, _), (12, _), (13, _), (14, _), (108, _)]) ⟨rfl, rfl, rfl, rfl, rfl, rfl, rfl, rfl, rfl, rfl, rfl, trivial⟩ ?_
        apply LX.joinAnd 3 111 108 rfl
        · intro hb9
          have hb9p := hb9
          try simp at hb9p
          refine LX.gT rfl rfl rfl hb9 (Y.move rfl) rfl rfl ?_
          refine LX.callT rfl rfl rfl hb9 (gOk_c t7) Ht.en90 rfl rfl rfl rfl ?_
          intro _
          refine LX.pure (Y.pickT rfl hb9 rfl) rfl rfl rfl ?_
          exact LX.leftP ⟨rfl, rfl, rfl, rfl, rfl, rfl, rfl, rfl, rfl, rfl, rfl, rfl, trivial⟩
        · intro hb9
          have hb9p := hb9
          try simp at hb9p
          refine LX.gF rfl rfl rfl hb9 rfl rfl ?_
          refine LX.gF rfl rfl rfl hb9 rfl rfl ?_
          refine LX.pure (Y.pickF rfl hb9 rfl) rfl rfl rfl ?_
          exact LX.left ⟨rfl, rfl, rfl, rfl, rfl, rfl, rfl, rfl, rfl, rfl, rfl, rfl, trivial⟩
        refine LX.sub (l' := [(0, _), (2, _), (3, _), (4, _), (7, _), (8, _), (11, _), (12, _), (13, _), (14, _), (111, _)]) ⟨rfl, rfl, rfl, rfl, rfl, rfl, rfl, rfl, rfl, rfl, rfl, trivial⟩ ?_
        refine LX.next ?_
        refine PX.thenN ?_
        refine CX.cond rfl (fun hb10 => ?_) (fun hb10 => ?_)
        · try simp at hb10
          obtain ⟨hxl, hnn⟩ : is.length < k ∧ t7.e = none := by assumption
          obtain ⟨a2, e2⟩ := t7
          obtain rfl : e2 = none := hnn
          try dsimp only
          refine CX.skip ?_
          refine PX.thenN ?_
          refine CX.seq ?_
          refine CX.block ?_
          refine CX.seq ?_
          refine CX.region ?_
          refine LX.pure (Y.move rfl) rfl rfl rfl ?_
          refine LX.call (gNumber_c hb hbn ⟨a2, none⟩ hle3) Ht.en93 rfl rfl rfl rfl rfl ?_
          rintro ⟨o, u1⟩
          refine LX.have fun ⟨ru1, hu1, iu1⟩ => ?_
          refine LX.pure (Y.build (v := .agg #[.int .i64 o, .int .i64 0, .int .i64 0, .int .i64 0]) rfl (fun _ => by kernel_rfl)) rfl rfl rfl ?_
          refine LX.alloc rfl Hv.zv65 rfl rfl rfl ?_
          intro bi
          refine LX.storeA 0 Hv.ag65 rfl rfl rfl rfl rfl rfl rfl rfl rfl ?_
          refine LX.world (W' := WA w0 base (blk bw (rdR ab b.length cb u1) 171 :: blk bi [.int .i64 o, .int .i64 0, .int .i64 0, .int .i64 0] 65 :: blk bf [str nm, .int .i64 pa, .int .i64 gi, .int .i64 sl, rv ga nms.length ca, rv gi2 is.length ci2] 124 :: .row gi2 ci2 is.length 65 4 (insR is) :: .row ga ca nms.length 9 1 (nms.map str) :: blk bp [rv gf fs.length cf, rv gc cs.length cc, rv gg gs.length cg, rv gn ms.length cn] 57 :: .row gf cf fs.length 124 6 cells :: blk b3 [.int .i64 0, .bool false, .int .i64 0, .bool false, str []] 34 :: blk b2 [.slice none 0 0, .slice none 0 0, .slice none 0 0, .slice none 0 0] 57 :: (rs ++ (.row gn cn ms.length 9 1 (ms.map str) :: .row gg cg gs.length 9 1 (gs.map str) :: .row gc cc cs.length 44 5 (cs.flatMap ndC5) :: fr)))) (fun w hw => (show WA w0 base (blk bi [.int .i64 o, .int .i64 0, .int .i64 0, .int .i64 0] 65 :: blk bw (rdR ab b.length cb u1) 171 :: blk bf [str nm, .int .i64 pa, .int .i64 gi, .int .i64 sl, rv ga nms.length ca, rv gi2 is.length ci2] 124 :: .row gi2 ci2 is.length 65 4 (insR is) :: .row ga ca nms.length 9 1 (nms.map str) :: blk bp [rv gf fs.length cf, rv gc cs.length cc, rv gg gs.length cg, rv gn ms.length cn] 57 :: .row gf cf fs.length 124 6 cells :: blk b3 [.int .i64 0, .bool false, .int .i64 0, .bool false, str []] 34 :: blk b2 [.slice none 0 0, .slice none 0 0, .slice none 0 0, .slice none 0 0] 57 :: (rs ++ (.row gn cn ms.length 9 1 (ms.map str) :: .row gg cg gs.length 9 1 (gs.map str) :: .row gc cc cs.length 44 5 (cs.flatMap ndC5) :: fr))) w from hw).perm (by (refine perm_cnt fun x => ?_; simp only [cnt_append, cnt_cons, cnt_nil]; omega))) ?_
          refine LX.sub (l' := [(0, _), (2, _), (3, _), (4, _), (7, _), (8, _), (11, _), (12, _), (13, _), (14, _), (15, _)]) ⟨rfl, rfl, rfl, rfl, rfl, rfl, rfl, rfl, rfl, rfl, rfl, trivial⟩ ?_
          refine LX.next ?_
          refine PX.thenN ?_
          refine CX.seq ?_
          refine CX.region ?_
          refine LX.pure (Y.move rfl) rfl rfl rfl ?_
          refine LX.call (gNumber_c hb hbn u1 hu1) Ht.en93 rfl rfl rfl rfl rfl ?_
          rintro ⟨x, u2⟩
          refine LX.have fun ⟨ru2, hu2, iu2⟩ => ?_
          refine LX.pure (Y.fieldAddr0 Hv.fo65_1 rfl) rfl rfl rfl ?_
          refine LX.storeB 1 Fjb.sz3 rfl rfl rfl rfl rfl rfl rfl rfl ?_
          refine LX.sub (l' := [(0, _), (2, _), (3, _), (4, _), (7, _), (8, _), (11, _), (12, _), (13, _), (14, _), (15, _)]) ⟨rfl, rfl, rfl, rfl, rfl, rfl, rfl, rfl, rfl, rfl, rfl, trivial⟩ ?_
          refine LX.next ?_
          refine PX.thenN ?_
          refine CX.seq ?_
          refine CX.region ?_
          refine LX.pure (Y.move rfl) rfl rfl rfl ?_
          refine LX.call (gNumber_c hb hbn u2 hu2) Ht.en93 rfl rfl rfl rfl rfl ?_
          rintro ⟨y, u3⟩
          refine LX.have fun ⟨ru3, hu3, iu3⟩ => ?_
          refine LX.pure (Y.fieldAddr0 Hv.fo65_2 rfl) rfl rfl rfl ?_
          refine LX.storeB 1 Fjb.sz3 rfl rfl rfl rfl rfl rfl rfl rfl ?_
          refine LX.sub (l' := [(0, _), (2, _), (3, _), (4, _), (7, _), (8, _), (11, _), (12, _), (13, _), (14, _), (15, _)]) ⟨rfl, rfl, rfl, rfl, rfl, rfl, rfl, rfl, rfl, rfl, rfl, trivial⟩ ?_
          refine LX.next ?_
          refine PX.thenN ?_
          refine CX.seq ?_
          refine CX.region ?_
          refine LX.pure (Y.move rfl) rfl rfl rfl ?_
          refine LX.call (gNumber_c hb hbn u3 hu3) Ht.en93 rfl rfl rfl rfl rfl ?_
          rintro ⟨z, u4⟩
          refine LX.have fun ⟨ru4, hu4, iu4⟩ => ?_
          refine LX.pure (Y.fieldAddr0 Hv.fo65_3 rfl) rfl rfl rfl ?_
          refine LX.storeB 1 Fjb.sz3 rfl rfl rfl rfl rfl rfl rfl rfl ?_
          refine LX.sub (l' := [(0, _), (2, _), (3, _), (4, _), (7, _), (8, _), (11, _), (12, _), (13, _), (14, _), (15, _)]) ⟨rfl, rfl, rfl, rfl, rfl, rfl, rfl, rfl, rfl, rfl, rfl, trivial⟩ ?_
          refine LX.next ?_
          refine PX.thenN ?_
          refine CX.region ?_
          refine LX.pure (Y.fieldAddr0 Fjf.fo124_5 rfl) rfl rfl rfl ?_
          refine LX.pure (Y.ldB 2 Fjf.one122 rfl rfl rfl) rfl rfl rfl ?_
          refine LX.pure (Y.ldAggB (vs := insCs ⟨o, x, y, z⟩) 1 Hv.ag65 rfl rfl rfl rfl) rfl rfl rfl ?_
          refine LX.buildSlice (e := 65) (size := 4) rfl rfl (fun _ => by kernel_rfl) rfl (by decide) rfl rfl rfl ?_
          intro gt149
          refine LX.appendT 3 Fjf.el122 rfl rfl rfl rfl rfl rfl rfl (by omega) (by omega) rfl rfl rfl ?_
          intro g' cap'
          refine LX.pure (Y.fieldAddr0 Fjf.fo124_5 rfl) rfl rfl rfl ?_
          refine LX.storeB 2 Fjf.sz122 rfl rfl rfl rfl rfl rfl rfl rfl ?_
          refine LX.sub (l' := [(0, _), (2, _), (3, _), (4, _), (7, _), (8, _), (11, _), (12, _), (13, _), (14, _)]) ⟨rfl, rfl, rfl, rfl, rfl, rfl, rfl, rfl, rfl, rfl, trivial⟩ ?_
          refine LX.next ?_
          refine PX.blockN ?_
          refine PX.thenN ?_
          refine CX.region ?_
          refine LX.pure (Y.move rfl) rfl rfl rfl ?_
          refine LX.pure (Y.addN rfl rfl (by (simp only []; omega))) rfl rfl rfl ?_
          refine LX.pure (Y.assign rfl) rfl rfl rfl ?_
          refine LX.sub (l' := [(0, _), (2, _), (3, _), (4, _), (7, _), (8, _), (11, _), (12, _), (13, _), (14, _)]) ⟨rfl, rfl, rfl, rfl, rfl, rfl, rfl, rfl, rfl, rfl, trivial⟩ ?_
          refine LX.next ?_
          exact PX.again (L := (fun z : List Ins × (Option Nat × Nat) × St => [(0, .slice ab b.length cb), (2, .pointer (some ⟨b2, 0, none⟩)), (3, .pointer (some ⟨b3, 0, none⟩)), (4, .pointer (some ⟨bw, 0, none⟩)), (7, .pointer (some ⟨bp, 0, none⟩)), (8, .int .i64 (n2 : Int)), (11, .int .i64 (fs.length : Int)), (12, .pointer (some ⟨bf, 0, none⟩)), (13, .int .i64 (k : Int)), (14, .int .i64 (z.1.length : Int))])) (WW := (fun (z : List Ins × (Option Nat × Nat) × St) w => (z.1.length ≤ k ∧ (z.2.2.e = none → z.2.2.at_ ≤ b.length) ∧ (∀ i ∈ z.1, insI i) ∧ Go.By.Left (rIns b) ((t5.run (rCount b)).bind fun k => rMany (rIns b) k.1 k.2) z.1 (k - z.1.length) z.2.2) ∧ WA w0 base (blk bw (rdR ab b.length cb z.2.2) 171 :: blk bf [str nm, .int .i64 pa, .int .i64 gi, .int .i64 sl, rv ga nms.length ca, rv z.2.1.1 z.1.length z.2.1.2] 124 :: .row z.2.1.1 z.2.1.2 z.1.length 65 4 (insR z.1) :: .row ga ca nms.length 9 1 (nms.map str) :: blk bp [rv gf fs.length cf, rv gc cs.length cc, rv gg gs.length cg, rv gn ms.length cn] 57 :: .row gf cf fs.length 124 6 cells :: blk b3 [.int .i64 0, .bool false, .int .i64 0, .bool false, str []] 34 :: blk b2 [.slice none 0 0, .slice none 0 0, .slice none 0 0, .slice none 0 0] 57 :: (rs ++ (.row gn cn ms.length 9 1 (ms.map str) :: .row gg cg gs.length 9 1 (gs.map str) :: .row gc cc cs.length 44 5 (cs.flatMap ndC5) :: fr))) w)) (μ := fun z => k - z.1.length) (i := (is, (gi2, ci2), ⟨a2, none⟩)) (is ++ [(⟨o, x, y, z⟩ : Ins)], (g', cap'), u4) (by show k - (is ++ [(⟨o, x, y, z⟩ : Ins)]).length < k - is.length; rw [List.length_append, List.length_singleton]; omega) ⟨rfl, rfl, rfl, rfl, rfl, rfl, rfl, rfl, rfl, by show get _ 14 = some (.int .i64 ((is ++ [(⟨o, x, y, z⟩ : Ins)]).length : Int)); rw [List.length_append, List.length_singleton]; rfl, trivial⟩ (fun w hw => ⟨⟨by show (is ++ [(⟨o, x, y, z⟩ : Ins)]).length ≤ k; rw [List.length_append, List.length_singleton]; omega, hu4, fun i hi => (List.mem_append.1 hi).elim (hii i) fun h => (by cases List.mem_singleton.1 h; exact ⟨iu1, iu2, iu3, iu4⟩), by show Go.By.Left _ _ (is ++ [(⟨o, x, y, z⟩ : Ins)]) (k - (is ++ [(⟨o, x, y, z⟩ : Ins)]).length) _; rw [List.length_append, List.length_singleton]; rw [show k - is.length = (k - (is.length + 1)) + 1 by omega] at hL4; exact hL4.next (rIns_res ru1 ru2 ru3 ru4)⟩, by show WA w0 base (blk bw (rdR ab b.length cb u4) 171 :: blk bf [str nm, .int .i64 pa, .int .i64 gi, .int .i64 sl, rv ga nms.length ca, rv g' (is ++ [(⟨o, x, y, z⟩ : Ins)]).length cap'] 124 :: .row g' cap' (is ++ [(⟨o, x, y, z⟩ : Ins)]).length 65 4 (insR (is ++ [(⟨o, x, y, z⟩ : Ins)])) :: .row ga ca nms.length 9 1 (nms.map str) :: blk bp [rv gf fs.length cf, rv gc cs.length cc, rv gg gs.length cg, rv gn ms.length cn] 57 :: .row gf cf fs.length 124 6 cells :: blk b3 [.int .i64 0, .bool false, .int .i64 0, .bool false, str []] 34 :: blk b2 [.slice none 0 0, .slice none 0 0, .slice none 0 0, .slice none 0 0] 57 :: (rs ++ (.row gn cn ms.length 9 1 (ms.map str) :: .row gg cg gs.length 9 1 (gs.map str) :: .row gc cc cs.length 44 5 (cs.flatMap ndC5) :: fr))) w; rw [insR_snoc, List.length_append]; exact hw.drop (.cons_cons _ (.cons _ (List.Sublist.refl _)))⟩)
        · try simp at hb10
          have hzhX6 : t7.e = none → k - is.length = 0 := fun he => by
            have h3 : ¬(is.length < k ∧ t7.e = none) := by (intro h; obtain ⟨h1, h2⟩ := h; exact hb10 h1 h2)
            exact Nat.sub_eq_zero_of_le (Nat.le_of_not_lt fun h => h3 ⟨h, he⟩)
          have hX6 : Res (t5.run fun a => (rCount b a).bind fun k => rMany (rIns b) k.1 k.2) is t7 := by rw [St.run_bind]; exact hL4.out hzhX6
          refine CX.exit ?_
          refine PX.thenE ?_
          refine PX.thenE ?_
          refine PX.blockE ?_
          refine PX.thenN ?_
          refine CX.region ?_
          refine LX.pure (Y.fieldAddr0 Fjf.fo57_0 rfl) rfl rfl rfl ?_
          refine LX.pure (Y.ldB 4 Fjf.one55 rfl rfl rfl) rfl rfl rfl ?_
          refine LX.pure (Y.ldAggB (vs := [str nm, .int .i64 pa, .int .i64 gi, .int .i64 sl, rv ga nms.length ca, rv gi2 is.length ci2]) 1 Fjf.ag124 rfl rfl rfl rfl) rfl rfl rfl ?_
          refine LX.buildSlice (e := 124) (size := 6) rfl rfl (fun _ => by kernel_rfl) rfl (by decide) rfl rfl rfl ?_
          intro gt159
          refine LX.appendT 5 Fjf.el55 rfl rfl rfl rfl rfl rfl rfl (by omega) (by omega) rfl rfl rfl ?_
          intro g' cap'
          refine LX.pure (Y.fieldAddr0 Fjf.fo57_0 rfl) rfl rfl rfl ?_
          refine LX.storeB 4 Fjf.sz55 rfl rfl rfl rfl rfl rfl rfl rfl ?_
          refine LX.sub (l' := [(0, _), (2, _), (3, _), (4, _), (7, _), (8, _), (11, _)]) ⟨rfl, rfl, rfl, rfl, rfl, rfl, rfl, trivial⟩ ?_
          refine LX.next ?_
          refine PX.blockN ?_
          refine PX.thenN ?_
          refine CX.region ?_
          refine LX.pure (Y.move rfl) rfl rfl rfl ?_
          refine LX.pure (Y.addN rfl rfl (by (simp only []; omega))) rfl rfl rfl ?_
          refine LX.pure (Y.assign rfl) rfl rfl rfl ?_
          refine LX.sub (l' := [(0, _), (2, _), (3, _), (4, _), (7, _), (8, _), (11, _)]) ⟨rfl, rfl, rfl, rfl, rfl, rfl, rfl, trivial⟩ ?_
          refine LX.next ?_
          exact PX.again (L := (fun z : List Fc × (Option Nat × Nat) × List Value × List It × St => [(0, .slice ab b.length cb), (2, .pointer (some ⟨b2, 0, none⟩)), (3, .pointer (some ⟨b3, 0, none⟩)), (4, .pointer (some ⟨bw, 0, none⟩)), (7, .pointer (some ⟨bp, 0, none⟩)), (8, .int .i64 (n2 : Int)), (11, .int .i64 (z.1.length : Int))])) (WW := (fun (z : List Fc × (Option Nat × Nat) × List Value × List It × St) w => (z.1.length ≤ n2 ∧ (z.2.2.2.2.e = none → z.2.2.2.2.at_ ≤ b.length) ∧ FnsF w0 base z.2.2.2.1 z.2.2.1 z.1 ∧ Go.By.Left (rFn b) ((sD.run (rCount b)).bind fun k => rMany (rFn b) k.1 k.2) z.1 (n2 - z.1.length) z.2.2.2.2) ∧ WA w0 base (blk bw (rdR ab b.length cb z.2.2.2.2) 171 :: blk bp [rv z.2.1.1 z.1.length z.2.1.2, rv gc cs.length cc, rv gg gs.length cg, rv gn ms.length cn] 57 :: .row z.2.1.1 z.2.1.2 z.1.length 124 6 z.2.2.1 :: blk b3 [.int .i64 0, .bool false, .int .i64 0, .bool false, str []] 34 :: blk b2 [.slice none 0 0, .slice none 0 0, .slice none 0 0, .slice none 0 0] 57 :: (z.2.2.2.1 ++ (.row gn cn ms.length 9 1 (ms.map str) :: .row gg cg gs.length 9 1 (gs.map str) :: .row gc cc cs.length 44 5 (cs.flatMap ndC5) :: fr))) w)) (μ := fun z => n2 - z.1.length) (i := (fs, (gf, cf), cells, rs, ⟨a1, none⟩)) (fs ++ [(⟨nm, pa, gi, sl, nms, is⟩ : Fc)], (g', cap'), cells ++ [str nm, .int .i64 pa, .int .i64 gi, .int .i64 sl, rv ga nms.length ca, rv gi2 is.length ci2], .row gi2 ci2 is.length 65 4 (insR is) :: .row ga ca nms.length 9 1 (nms.map str) :: rs, t7) (by show n2 - (fs ++ [(⟨nm, pa, gi, sl, nms, is⟩ : Fc)]).length < n2 - fs.length; rw [List.length_append, List.length_singleton]; omega) ⟨rfl, rfl, rfl, rfl, rfl, rfl, by show get _ 11 = some (.int .i64 ((fs ++ [(⟨nm, pa, gi, sl, nms, is⟩ : Fc)]).length : Int)); rw [List.length_append, List.length_singleton]; rfl, trivial⟩ (fun w hw0 => by
            have hw : WA w0 base (blk bw (rdR ab b.length cb t7) 171 :: blk bf [str nm, .int .i64 pa, .int .i64 gi, .int .i64 sl, rv ga nms.length ca, rv gi2 is.length ci2] 124 :: .row gi2 ci2 is.length 65 4 (insR is) :: .row ga ca nms.length 9 1 (nms.map str) :: blk bp [rv g' (fs.length + 1) cap', rv gc cs.length cc, rv gg gs.length cg, rv gn ms.length cn] 57 :: .row g' cap' (fs.length + 1) 124 6 (cells ++ [str nm, .int .i64 pa, .int .i64 gi, .int .i64 sl, rv ga nms.length ca, rv gi2 is.length ci2]) :: blk b3 [.int .i64 0, .bool false, .int .i64 0, .bool false, str []] 34 :: blk b2 [.slice none 0 0, .slice none 0 0, .slice none 0 0, .slice none 0 0] 57 :: (rs ++ (.row gn cn ms.length 9 1 (ms.map str) :: .row gg cg gs.length 9 1 (gs.map str) :: .row gc cc cs.length 44 5 (cs.flatMap ndC5) :: fr))) w := hw0
            exact ⟨⟨by show (fs ++ [(⟨nm, pa, gi, sl, nms, is⟩ : Fc)]).length ≤ n2; rw [List.length_append, List.length_singleton]; omega, hle3, hff.next rfl ⟨_, _, rfl, texts_A (i := 3) hw rfl (by simp) (by omega), code_A (i := 2) hw rfl hii (by simp) (by omega), it2, it3, it4⟩, by show Go.By.Left _ _ (fs ++ [(⟨nm, pa, gi, sl, nms, is⟩ : Fc)]) (n2 - (fs ++ [(⟨nm, pa, gi, sl, nms, is⟩ : Fc)]).length) _; rw [List.length_append, List.length_singleton]; rw [show n2 - fs.length = (n2 - (fs.length + 1)) + 1 by omega] at hL; exact hL.next (rFn_res rt1 rt2 rt3 rt4 rt5 hX6)⟩, by show WA w0 base (blk bw (rdR ab b.length cb t7) 171 :: blk bp [rv g' (fs ++ [(⟨nm, pa, gi, sl, nms, is⟩ : Fc)]).length cap', rv gc cs.length cc, rv gg gs.length cg, rv gn ms.length cn] 57 :: .row g' cap' (fs ++ [(⟨nm, pa, gi, sl, nms, is⟩ : Fc)]).length 124 6 (cells ++ [str nm, .int .i64 pa, .int .i64 gi, .int .i64 sl, rv ga nms.length ca, rv gi2 is.length ci2]) :: blk b3 [.int .i64 0, .bool false, .int .i64 0, .bool false, str []] 34 :: blk b2 [.slice none 0 0, .slice none 0 0, .slice none 0 0, .slice none 0 0] 57 :: ((.row gi2 ci2 is.length 65 4 (insR is) :: .row ga ca nms.length 9 1 (nms.map str) :: rs) ++ (.row gn cn ms.length 9 1 (ms.map str) :: .row gg cg gs.length 9 1 (gs.map str) :: .row gc cc cs.length 44 5 (cs.flatMap ndC5) :: fr))) w; rw [List.length_append, List.length_singleton]; exact (hw.drop (.cons_cons _ (.cons _ (List.Sublist.refl _)))).perm (by (refine perm_cnt fun x => ?_; simp only [cnt_append, cnt_cons, cnt_nil]; omega))⟩)
      · try simp at hb8
        have hzh4 : sF.e = none → n2 - fs.length = 0 := fun he => by
          have h3 : ¬(fs.length < n2 ∧ sF.e = none) := by (intro h; obtain ⟨h1, h2⟩ := h; exact hb8 h1 h2)
          exact Nat.sub_eq_zero_of_le (Nat.le_of_not_lt fun h => h3 ⟨h, he⟩)
        have h4 : Res (sD.run fun a => (rCount b a).bind fun k => rMany (rFn b) k.1 k.2) fs sF := by rw [St.run_bind]; exact hL.out hzh4
        refine CX.exit ?_
        refine PX.thenE ?_
        refine PX.thenE ?_
        refine PX.blockE ?_
        refine PX.thenN ?_
        refine CX.seq ?_
        refine CX.seq ?_
        refine CX.region ?_
        refine LX.pure (Y.move rfl) rfl rfl rfl ?_
        refine LX.call (gOk_c sF) Ht.en90 rfl rfl rfl rfl rfl ?_
        intro _
        refine LX.pure (Y.move rfl) rfl rfl rfl ?_
        refine LX.sub (l' := [(0, _), (2, _), (3, _), (4, _), (7, _), (140, _)]) ⟨rfl, rfl, rfl, rfl, rfl, rfl, trivial⟩ ?_
        apply LX.joinAnd 8 148 140 rfl
        · intro hb11
          have hb11p := hb11
          try simp at hb11p
          refine LX.gT rfl rfl rfl hb11 (Y.move rfl) rfl rfl ?_
          refine LX.gT rfl rfl rfl hb11 (Y.nilCheck rfl) rfl rfl ?_
          refine LX.gT rfl rfl rfl hb11 (Y.fieldAddr0 Ht.fo171_1 rfl) rfl rfl ?_
          refine LX.gT rfl rfl rfl hb11 (Y.ldB 0 Fjb.one3 rfl rfl rfl) rfl rfl ?_
          refine LX.gT rfl rfl rfl hb11 (Y.move rfl) rfl rfl ?_
          refine LX.gT rfl rfl rfl hb11 (Y.lenSl rfl Ht.un79 rfl) rfl rfl ?_
          refine LX.gT rfl rfl rfl hb11 (Y.ltN rfl rfl) rfl rfl ?_
          refine LX.pure (Y.pickT rfl hb11 rfl) rfl rfl rfl ?_
          exact LX.left ⟨rfl, rfl, rfl, rfl, rfl, rfl, rfl, trivial⟩
        · intro hb11
          have hb11p := hb11
          try simp at hb11p
          refine LX.gF rfl rfl rfl hb11 rfl rfl ?_
          refine LX.gF rfl rfl rfl hb11 rfl rfl ?_
          refine LX.gF rfl rfl rfl hb11 rfl rfl ?_
          refine LX.gF rfl rfl rfl hb11 rfl rfl ?_
          refine LX.gF rfl rfl rfl hb11 rfl rfl ?_
          refine LX.gF rfl rfl rfl hb11 rfl rfl ?_
          refine LX.gF rfl rfl rfl hb11 rfl rfl ?_
          refine LX.pure (Y.pickF rfl hb11 rfl) rfl rfl rfl ?_
          exact LX.left ⟨rfl, rfl, rfl, rfl, rfl, rfl, rfl, trivial⟩
        refine LX.sub (l' := [(2, _), (3, _), (4, _), (7, _), (148, _)]) ⟨rfl, rfl, rfl, rfl, rfl, trivial⟩ ?_
        refine LX.next ?_
        refine PX.thenN ?_
        refine CX.cond rfl (fun hb12 => ?_) (fun hb12 => ?_)
        · try simp at hb12
          have hP := rPg_end hh3 h1 h2 h3 h4
          obtain ⟨hx1, hx2⟩ : sF.e = none ∧ sF.at_ < b.length := by assumption
          refine CX.region ?_
          refine LX.pure (Y.move rfl) rfl rfl rfl ?_
          refine LX.pure (Y.move rfl) rfl rfl rfl ?_
          refine LX.pure (Y.nilCheck rfl) rfl rfl rfl ?_
          refine LX.pure (Y.fieldAddr0 Ht.fo171_1 rfl) rfl rfl rfl ?_
          refine LX.pure (Y.ldB 0 Fjb.one3 rfl rfl rfl) rfl rfl rfl ?_
          refine LX.call (gFail_c sF 12 sF.at_ 113 (by decide)) Ht.en91 rfl rfl rfl rfl rfl ?_
          intro _
          refine LX.sub (l' := [(2, _), (3, _), (4, _), (7, _)]) ⟨rfl, rfl, rfl, rfl, trivial⟩ ?_
          refine LX.next ?_
          refine PX.thenN ?_
          refine CX.seq ?_
          refine CX.seq ?_
          refine CX.region ?_
          refine LX.pure (Y.move rfl) rfl rfl rfl ?_
          refine LX.call (gOk_c (sF.fail 12 sF.at_)) Ht.en90 rfl rfl rfl rfl rfl ?_
          intro _
          refine LX.pure (Y.not rfl) rfl rfl rfl ?_
          refine LX.sub (l' := [(2, _), (3, _), (4, _), (7, _), (157, _)]) ⟨rfl, rfl, rfl, rfl, rfl, trivial⟩ ?_
          refine LX.next ?_
          refine PX.thenN ?_
          refine CX.cond rfl (fun hb13 => ?_) (fun hb13 => ?_)
          · try simp at hb13
            refine CX.seq ?_
            refine CX.regionS (WA w0 base [blk bw (rdR ab b.length cb (sF.fail 12 sF.at_)) 171]) [(0, .anywhere), (1, .anywhere), (2, .anywhere), (3, .anywhere), (4, .held), (5, .alone), (6, .alone)] rfl (by kernel_rfl) ?_
            refine MX.lift0 (i := 0) rfl (Y.build (v := .agg #[.slice none 0 0, .slice none 0 0, .slice none 0 0, .slice none 0 0]) rfl (fun _ => by kernel_rfl)) rfl rfl rfl ?_
            refine MX.lift0 (i := 1) rfl (Y.move rfl) rfl rfl rfl ?_
            refine MX.lift0 (i := 2) rfl (Y.nilCheck rfl) rfl rfl rfl ?_
            refine MX.lift0 (i := 3) rfl (Y.fieldAddr0 Hr.fo171_2 rfl) rfl rfl rfl ?_
            refine MX.lift1 (i := 4) (pend' := []) rfl (fun w hw => by exact hw.drop (.cons_cons _ (List.nil_sublist _))) (Y.ldAggO (vs := fltC (sF.fail 12 sF.at_).e) 0 Hs.ag34 rfl rfl rfl rfl) rfl rfl rfl (by kernel_rfl) ?_
            refine MX.force (i := 5) rfl ?_
            refine LX.storeA 4 Fjf.ag57 rfl rfl rfl rfl rfl rfl rfl rfl rfl ?_
            refine LX.nextM [4] (by kernel_rfl) (fun _ => (fun w hw => by exact hw.drop (.cons_cons _ (List.nil_sublist _)))) ?_
            refine MX.force (i := 6) rfl ?_
            refine LX.storeA 3 Hs.ag34 rfl rfl rfl rfl rfl rfl rfl rfl rfl ?_
            refine LX.nextM [] (by kernel_rfl) (fun h => absurd rfl h) ?_
            refine MX.sub (l' := [(2, _), (3, _), (7, _)]) ⟨rfl, rfl, rfl, trivial⟩ ?_
            refine MX.done ?_
            refine PX.thenN ?_
            refine CX.ret ?_
            refine PX.thenR ?_
            refine PX.retAA (i := 4) (i2 := 3) (by simp) Tryz.results34 Fjf.ag57 Hs.ag34 rfl rfl rfl rfl rfl rfl ?_
            exact fun w hw => ⟨(cxNil, ⟨[], [], [], []⟩, (sF.fail 12 sF.at_).e), rfl, ⟨end_bad hP hx2, fun _ => rfl⟩, ck_nil, hw.drop (.cons _ (.cons _ (.cons _ (.cons _ (.cons _ ((List.Sublist.cons _ (.cons _ (.cons _ (List.Sublist.refl _)))).trans (List.sublist_append_right _ _)))))))⟩
          · try simp at hb13
            exact absurd (by assumption) (fail_e _ _ _)
        · try simp at hb12
          have hnx : ¬(sF.e = none ∧ sF.at_ < b.length) := by (intro h; obtain ⟨h1, h2⟩ := h; (simp only [h1] at hb12; (have := hb12 trivial; omega)))
          refine CX.skip ?_
          refine PX.thenN ?_
          refine CX.seq ?_
          refine CX.seq ?_
          refine CX.region ?_
          refine LX.pure (Y.move rfl) rfl rfl rfl ?_
          refine LX.call (gOk_c sF) Ht.en90 rfl rfl rfl rfl rfl ?_
          intro _
          refine LX.pure (Y.not rfl) rfl rfl rfl ?_
          refine LX.sub (l' := [(2, _), (3, _), (4, _), (7, _), (157, _)]) ⟨rfl, rfl, rfl, rfl, rfl, trivial⟩ ?_
          refine LX.next ?_
          refine PX.thenN ?_
          refine CX.cond rfl (fun hb14 => ?_) (fun hb14 => ?_)
          · try simp at hb14
            have hP := rPg_end hh3 h1 h2 h3 h4
            have hnn : sF.e ≠ none := by assumption
            refine CX.seq ?_
            refine CX.regionS (WA w0 base [blk bw (rdR ab b.length cb sF) 171]) [(0, .anywhere), (1, .anywhere), (2, .anywhere), (3, .anywhere), (4, .held), (5, .alone), (6, .alone)] rfl (by kernel_rfl) ?_
            refine MX.lift0 (i := 0) rfl (Y.build (v := .agg #[.slice none 0 0, .slice none 0 0, .slice none 0 0, .slice none 0 0]) rfl (fun _ => by kernel_rfl)) rfl rfl rfl ?_
            refine MX.lift0 (i := 1) rfl (Y.move rfl) rfl rfl rfl ?_
            refine MX.lift0 (i := 2) rfl (Y.nilCheck rfl) rfl rfl rfl ?_
            refine MX.lift0 (i := 3) rfl (Y.fieldAddr0 Hr.fo171_2 rfl) rfl rfl rfl ?_
            refine MX.lift1 (i := 4) (pend' := []) rfl (fun w hw => by exact hw.drop (.cons_cons _ (List.nil_sublist _))) (Y.ldAggO (vs := fltC sF.e) 0 Hs.ag34 rfl rfl rfl rfl) rfl rfl rfl (by kernel_rfl) ?_
            refine MX.force (i := 5) rfl ?_
            refine LX.storeA 4 Fjf.ag57 rfl rfl rfl rfl rfl rfl rfl rfl rfl ?_
            refine LX.nextM [4] (by kernel_rfl) (fun _ => (fun w hw => by exact hw.drop (.cons_cons _ (List.nil_sublist _)))) ?_
            refine MX.force (i := 6) rfl ?_
            refine LX.storeA 3 Hs.ag34 rfl rfl rfl rfl rfl rfl rfl rfl rfl ?_
            refine LX.nextM [] (by kernel_rfl) (fun h => absurd rfl h) ?_
            refine MX.sub (l' := [(2, _), (3, _), (7, _)]) ⟨rfl, rfl, rfl, trivial⟩ ?_
            refine MX.done ?_
            refine PX.thenN ?_
            refine CX.ret ?_
            refine PX.thenR ?_
            refine PX.retAA (i := 4) (i2 := 3) (by simp) Tryz.results34 Fjf.ag57 Hs.ag34 rfl rfl rfl rfl rfl rfl ?_
            exact fun w hw => ⟨(cxNil, ⟨[], [], [], []⟩, sF.e), rfl, ⟨end_err hP hnn, fun _ => rfl⟩, ck_nil, hw.drop (.cons _ (.cons _ (.cons _ (.cons _ (.cons _ ((List.Sublist.cons _ (.cons _ (.cons _ (List.Sublist.refl _)))).trans (List.sublist_append_right _ _)))))))⟩
          · try simp at hb14
            have hP := rPg_end hh3 h1 h2 h3 h4
            have hnn : sF.e = none := by assumption
            refine CX.skip ?_
            refine PX.thenN ?_
            refine CX.seq ?_
            refine CX.regionS (WA w0 base [blk bw (rdR ab b.length cb sF) 171, blk bp [rv gf fs.length cf, rv gc cs.length cc, rv gg gs.length cg, rv gn ms.length cn] 57]) [(0, .held), (1, .alone), (2, .alone), (3, .alone)] rfl (by kernel_rfl) ?_
            refine MX.lift1 (i := 0) (pend' := []) rfl (fun w hw => by exact hw.drop (.cons_cons _ (.cons_cons _ (List.nil_sublist _)))) (Y.ldAggB (vs := [rv gf fs.length cf, rv gc cs.length cc, rv gg gs.length cg, rv gn ms.length cn]) 1 Fjf.ag57 rfl rfl rfl rfl) rfl rfl rfl (by kernel_rfl) ?_
            refine MX.force (i := 1) rfl ?_
            refine LX.call (none_c) Hs.en41 rfl rfl rfl rfl rfl ?_
            intro _
            refine LX.nextM [0] (by kernel_rfl) (fun _ => (fun w hw => by exact hw.drop (.cons_cons _ (.cons_cons _ (List.nil_sublist _))))) ?_
            refine MX.force (i := 2) rfl ?_
            refine LX.storeA 4 Fjf.ag57 rfl rfl rfl rfl rfl rfl rfl rfl rfl ?_
            refine LX.nextM [] (by kernel_rfl) (fun h => absurd rfl h) ?_
            refine MX.force (i := 3) rfl ?_
            refine LX.storeA 3 Hs.ag34 rfl rfl rfl rfl rfl rfl rfl rfl rfl ?_
            refine LX.nextM [] (by kernel_rfl) (fun h => absurd rfl h) ?_
            refine MX.sub (l' := [(2, _), (3, _)]) ⟨rfl, rfl, trivial⟩ ?_
            refine MX.done ?_
            refine PX.thenN ?_
            refine CX.ret ?_
            refine PX.retAA (i := 4) (i2 := 3) (by simp) Tryz.results34 Fjf.ag57 Hs.ag34 rfl rfl rfl rfl rfl rfl ?_
            refine fun w hw0 => ?_
            have hw : WA w0 base (blk bw (rdR ab b.length cb sF) 171 :: blk bp [rv gf fs.length cf, rv gc cs.length cc, rv gg gs.length cg, rv gn ms.length cn] 57 :: .row gf cf fs.length 124 6 cells :: blk b3 [.int .i64 0, .bool false, .int .i64 0, .bool false, str []] 34 :: blk b2 [rv gf fs.length cf, rv gc cs.length cc, rv gg gs.length cg, rv gn ms.length cn] 57 :: (rs ++ (.row gn cn ms.length 9 1 (ms.map str) :: .row gg cg gs.length 9 1 (gs.map str) :: .row gc cc cs.length 44 5 (cs.flatMap ndC5) :: fr))) w := hw0
            exact ⟨(⟨gf.map fun z => ⟨z, 0, none⟩, gc.map fun z => ⟨z, 0, none⟩, gg.map fun z => ⟨z, 0, none⟩, gn.map fun z => ⟨z, 0, none⟩, none, none, cf, cc, cg, cn, 0, 0⟩, ⟨fs, cs, gs, ms⟩, none), rfl, ⟨end_ok hP hnn (fun h => hnx ⟨hnn, h⟩), fun h => absurd rfl h⟩, ⟨hff.lies hw (fun it hit => by simp [hit]) (j := 2) rfl, nds_M hw (e := 44) (c := cc) (g := gc) (by simp) hck, texts_M hw (e := 9) (c := cg) (g := gg) (by simp), texts_M hw (e := 9) (c := cn) (g := gn) (by simp), fun i x h => (by cases h), fun i x h => (by cases h), ⟨inI0, inI0, inI0⟩⟩, hw.drop (.cons _ (.cons _ (.cons _ (.cons _ (.cons _ ((List.Sublist.cons _ (.cons _ (.cons _ (List.Sublist.refl _)))).trans (List.sublist_append_right _ _)))))))⟩
end Go.Proofs.YtgijpgkckiknjaaGreatDoor
