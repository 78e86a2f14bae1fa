/-
  Proved here: the document's reader: has it failed, it fails.
-/
import Derived.Test.YtgijpgkckiknjaaGreatDoorBys
import Derived.Test.YtgijpgkckiknjaaGreatDoorByB
namespace Go.Proofs.YtgijpgkckiknjaaGreatDoor
open Go.SX Go.RowKit Go.Ck Go.Lex Go.By
namespace Hr
theorem fa171_2 : FieldOffA Tryz.prog 171 2 2 := fun a w => by kernel_rfl
theorem fa34_0 : FieldOffA Tryz.prog 34 0 0 := fun a w => by kernel_rfl
theorem fo171_2 : FieldOff Tryz.prog 171 2 2 := fun b o w => by kernel_rfl
end Hr
/-- a fault, as cells -/
def fC (e : Option (Nat × Nat)) : Int := match e with | none => 0 | some q => 101 + (q.1 : Nat)
def fB (e : Option (Nat × Nat)) : Bool := match e with | none => false | some _ => true
def fP (e : Option (Nat × Nat)) : Int := match e with | none => 0 | some q => (q.2 : Nat)
@[reducible] def fltC (e : Option (Nat × Nat)) : List Value := [.int .i64 (fC e), .bool (fB e), .int .i64 (fP e), .bool false, str []]
@[reducible] def rdR (ab : Option Addr) (n cb : Nat) (s : St) : List Value := [.slice ab n cb, .int .i64 (s.at_ : Int), .int .i64 (fC s.e), .bool (fB s.e), .int .i64 (fP s.e), .bool false, str []]
theorem gOk_1 {w0 : World} {base : Nat} {fr : List It} {bw : Nat} {ab : Option Addr} {cb : Nat} {b : List UInt8} (a : Nat) : FnC Tryz.prog 90 #[.pointer (some ⟨bw, 0, none⟩)] (WA w0 base (blk bw [.slice ab b.length cb, .int .i64 ((a : Nat) : Int), .int .i64 0, .bool false, .int .i64 0, .bool false, str []] 171 :: fr)) (fun _ : Unit => .bool true) (fun _ => WA w0 base (blk bw [.slice ab b.length cb, .int .i64 ((a : Nat) : Int), .int .i64 0, .bool false, .int .i64 0, .bool false, str []] 171 :: fr)) := by
  refine FnC.of_body (fn := Tryz.f90) [(0, _)] Tryz.func90 rfl Tryz.ntmps90 rfl ⟨rfl, trivial⟩ ?_
  refine CX.seq ?_
  refine CX.region ?_
  refine LX.pure (Y.assign rfl) rfl rfl rfl ?_
  refine LX.sub (l' := [(0, _), (2, _)]) ⟨rfl, rfl, trivial⟩ ?_
  refine LX.next ?_
  refine PX.thenN ?_
  refine CX.seq ?_
  refine CX.region ?_
  refine LX.pure (Y.move rfl) rfl rfl rfl ?_
  refine LX.pure (Y.nilCheck rfl) rfl rfl rfl ?_
  refine LX.pure (Y.fieldAddr0 Hr.fo171_2 rfl) rfl rfl rfl ?_
  refine LX.pure (Y.fieldAddr Hs.fo34_0 rfl) rfl rfl rfl ?_
  refine LX.pure (Y.ldB 0 Fjb.one3 rfl rfl rfl) rfl rfl rfl ?_
  refine LX.pure (Y.eqN rfl rfl) rfl rfl rfl ?_
  refine LX.pure (Y.assign rfl) rfl rfl rfl ?_
  refine LX.sub (l' := [(2, _)]) ⟨rfl, trivial⟩ ?_
  refine LX.next ?_
  refine PX.thenN ?_
  refine CX.ret ?_
  refine PX.ret1 (by simp) Tryz.results90 rfl ?_
  exact fun w hw => ⟨(), rfl, hw⟩
theorem gOk_2 {w0 : World} {base : Nat} {fr : List It} {bw : Nat} {ab : Option Addr} {cb : Nat} {b : List UInt8} (a k pl : Nat) : FnC Tryz.prog 90 #[.pointer (some ⟨bw, 0, none⟩)] (WA w0 base (blk bw [.slice ab b.length cb, .int .i64 ((a : Nat) : Int), .int .i64 (101 + (k : Nat) : Int), .bool true, .int .i64 ((pl : Nat) : Int), .bool false, str []] 171 :: fr)) (fun _ : Unit => .bool false) (fun _ => WA w0 base (blk bw [.slice ab b.length cb, .int .i64 ((a : Nat) : Int), .int .i64 (101 + (k : Nat) : Int), .bool true, .int .i64 ((pl : Nat) : Int), .bool false, str []] 171 :: fr)) := by
  refine FnC.of_body (fn := Tryz.f90) [(0, _)] Tryz.func90 rfl Tryz.ntmps90 rfl ⟨rfl, trivial⟩ ?_
  refine CX.seq ?_
  refine CX.region ?_
  refine LX.pure (Y.assign rfl) rfl rfl rfl ?_
  refine LX.sub (l' := [(0, _), (2, _)]) ⟨rfl, rfl, trivial⟩ ?_
  refine LX.next ?_
  refine PX.thenN ?_
  refine CX.seq ?_
  refine CX.region ?_
  refine LX.pure (Y.move rfl) rfl rfl rfl ?_
  refine LX.pure (Y.nilCheck rfl) rfl rfl rfl ?_
  refine LX.pure (Y.fieldAddr0 Hr.fo171_2 rfl) rfl rfl rfl ?_
  refine LX.pure (Y.fieldAddr Hs.fo34_0 rfl) rfl rfl rfl ?_
  refine LX.pure (Y.ldB 0 Fjb.one3 rfl rfl rfl) rfl rfl rfl ?_
  refine LX.pure (Y.eqI (a := 101 + (k : Nat)) (b := 0) rfl rfl) rfl rfl rfl ?_
  refine LX.pure (Y.assign rfl) rfl rfl rfl ?_
  refine LX.sub (l' := [(2, _)]) ⟨rfl, trivial⟩ ?_
  refine LX.next ?_
  refine PX.thenN ?_
  refine CX.ret ?_
  refine PX.ret1 (by simp) Tryz.results90 rfl ?_
  exact fun w hw => ⟨(), congrArg (fun z => Ending.returned (Value.bool z)) (decide_eq_false (by omega)), hw⟩
theorem gOk_c {w0 : World} {base : Nat} {fr : List It} {bw : Nat} {ab : Option Addr} {cb : Nat} {b : List UInt8} (s : St) : FnC Tryz.prog 90 #[.pointer (some ⟨bw, 0, none⟩)] (WA w0 base (blk bw (rdR ab b.length cb s) 171 :: fr)) (fun _ : Unit => .bool (decide (s.e = none))) (fun _ => WA w0 base (blk bw (rdR ab b.length cb s) 171 :: fr)) := by
  obtain ⟨a, e⟩ := s
  cases e with
  | none => exact gOk_1 a
  | some q => exact gOk_2 a q.1 q.2
theorem gFail_1 {w0 : World} {base : Nat} {fr : List It} {bw : Nat} {ab : Option Addr} {cb : Nat} {b : List UInt8} (a k pl : Nat) (c : Int) (hc : c = 101 + (k : Nat)) : FnC Tryz.prog 91 #[.pointer (some ⟨bw, 0, none⟩), .int .i64 c, .int .i64 (pl : Int)] (WA w0 base (blk bw [.slice ab b.length cb, .int .i64 ((a : Nat) : Int), .int .i64 0, .bool false, .int .i64 0, .bool false, str []] 171 :: fr)) (fun _ : Unit => .tuple #[]) (fun _ => WA w0 base (blk bw [.slice ab b.length cb, .int .i64 ((a : Nat) : Int), .int .i64 (101 + (k : Nat) : Int), .bool true, .int .i64 ((pl : Nat) : Int), .bool false, str []] 171 :: fr)) := by
  refine FnC.of_body (fn := Tryz.f91) [(0, _), (1, _), (2, _)] Tryz.func91 rfl Tryz.ntmps91 rfl ⟨rfl, rfl, rfl, trivial⟩ ?_
  refine CX.seq ?_
  refine CX.region ?_
  refine LX.pure (Y.move rfl) rfl rfl rfl ?_
  refine LX.pure (Y.nilCheck rfl) rfl rfl rfl ?_
  refine LX.pure (Y.fieldAddr0 Hr.fo171_2 rfl) rfl rfl rfl ?_
  refine LX.pure (Y.fieldAddr Hs.fo34_0 rfl) rfl rfl rfl ?_
  refine LX.pure (Y.ldB 0 Fjb.one3 rfl rfl rfl) rfl rfl rfl ?_
  refine LX.pure (Y.eqN rfl rfl) rfl rfl rfl ?_
  refine LX.sub (l' := [(0, _), (1, _), (2, _), (11, _)]) ⟨rfl, rfl, rfl, rfl, trivial⟩ ?_
  refine LX.next ?_
  refine PX.thenN ?_
  refine CX.cond rfl (fun hb1 => ?_) (fun hb1 => ?_)
  · try simp at hb1
    refine CX.region ?_
    refine LX.pure (Y.move rfl) rfl rfl rfl ?_
    refine LX.pure (Y.move rfl) rfl rfl rfl ?_
    refine LX.pure (Y.move rfl) rfl rfl rfl ?_
    refine LX.call (placedR_c c (pl : Int) (by omega)) Hs.en15 rfl rfl rfl rfl rfl ?_
    intro _
    refine LX.pure (Y.nilCheck rfl) rfl rfl rfl ?_
    refine LX.pure (Y.fieldAddr0 Hr.fo171_2 rfl) rfl rfl rfl ?_
    refine LX.storeAt (vs := [.int .i64 c, .bool true, .int .i64 (pl : Int), .bool false, str []]) 0 Hs.ag34 rfl rfl rfl rfl rfl rfl rfl rfl rfl ?_
    refine LX.sub (l' := []) trivial ?_
    refine LX.next ?_
    refine PX.ret0 (by simp) Tryz.results91 ?_
    exact fun w hw => ⟨(), rfl, by subst hc; exact hw⟩
  · try simp at hb1
    done
theorem gFail_2 {w0 : World} {base : Nat} {fr : List It} {bw : Nat} {ab : Option Addr} {cb : Nat} {b : List UInt8} (a k pl : Nat) (c pl2 : Int) : FnC Tryz.prog 91 #[.pointer (some ⟨bw, 0, none⟩), .int .i64 c, .int .i64 pl2] (WA w0 base (blk bw [.slice ab b.length cb, .int .i64 ((a : Nat) : Int), .int .i64 (101 + (k : Nat) : Int), .bool true, .int .i64 ((pl : Nat) : Int), .bool false, str []] 171 :: fr)) (fun _ : Unit => .tuple #[]) (fun _ => WA w0 base (blk bw [.slice ab b.length cb, .int .i64 ((a : Nat) : Int), .int .i64 (101 + (k : Nat) : Int), .bool true, .int .i64 ((pl : Nat) : Int), .bool false, str []] 171 :: fr)) := by
  refine FnC.of_body (fn := Tryz.f91) [(0, _), (1, _), (2, _)] Tryz.func91 rfl Tryz.ntmps91 rfl ⟨rfl, rfl, rfl, trivial⟩ ?_
  refine CX.seq ?_
  refine CX.region ?_
  refine LX.pure (Y.move rfl) rfl rfl rfl ?_
  refine LX.pure (Y.nilCheck rfl) rfl rfl rfl ?_
  refine LX.pure (Y.fieldAddr0 Hr.fo171_2 rfl) rfl rfl rfl ?_
  refine LX.pure (Y.fieldAddr Hs.fo34_0 rfl) rfl rfl rfl ?_
  refine LX.pure (Y.ldB 0 Fjb.one3 rfl rfl rfl) rfl rfl rfl ?_
  refine LX.pure (Y.eqI (a := 101 + (k : Nat)) (b := 0) rfl rfl) rfl rfl rfl ?_
  refine LX.sub (l' := [(0, _), (1, _), (2, _), (11, _)]) ⟨rfl, rfl, rfl, rfl, trivial⟩ ?_
  refine LX.next ?_
  refine PX.thenN ?_
  refine CX.cond rfl (fun hb1 => ?_) (fun hb1 => ?_)
  · try simp at hb1
    (exfalso; omega)
  · try simp at hb1
    refine CX.skip ?_
    refine PX.ret0 (by simp) Tryz.results91 ?_
    exact fun w hw => ⟨(), rfl, hw⟩
theorem gFail_c {w0 : World} {base : Nat} {fr : List It} {bw : Nat} {ab : Option Addr} {cb : Nat} {b : List UInt8} (s : St) (k pl : Nat) (c : Int) (hc : c = 101 + (k : Nat)) : FnC Tryz.prog 91 #[.pointer (some ⟨bw, 0, none⟩), .int .i64 c, .int .i64 (pl : Int)] (WA w0 base (blk bw (rdR ab b.length cb s) 171 :: fr)) (fun _ : Unit => .tuple #[]) (fun _ => WA w0 base (blk bw (rdR ab b.length cb (s.fail k pl)) 171 :: fr)) := by
  obtain ⟨a, e⟩ := s
  cases e with
  | none => exact gFail_1 a k pl c hc
  | some q => exact gFail_2 a q.1 q.2 c pl
end Go.Proofs.YtgijpgkckiknjaaGreatDoor

namespace Go.Proofs.YtgijpgkckiknjaaGreatDoor
open Go.SX Go.RowKit Go.Ck Go.Lex Go.By
namespace Ht
theorem en90 : Enters Tryz.prog 90 := Enters.of Tryz.func90 (by kernel_rfl) (by kernel_rfl)
theorem en91 : Enters Tryz.prog 91 := Enters.of Tryz.func91 (by kernel_rfl) (by kernel_rfl)
theorem en93 : Enters Tryz.prog 93 := Enters.of Tryz.func93 (by kernel_rfl) (by kernel_rfl)
theorem fa171_0 : FieldOffA Tryz.prog 171 0 0 := fun a w => by kernel_rfl
theorem fa171_1 : FieldOffA Tryz.prog 171 1 1 := fun a w => by kernel_rfl
theorem fo171_0 : FieldOff Tryz.prog 171 0 0 := fun b o w => by kernel_rfl
theorem fo171_1 : FieldOff Tryz.prog 171 1 1 := fun b o w => by kernel_rfl
theorem one5 : One Tryz.prog 5 := fun w => by kernel_rfl
theorem one79 : One Tryz.prog 79 := fun w => by kernel_rfl
theorem sz5 : SizeIs Tryz.prog 5 1 := fun w => by kernel_rfl
theorem un129 : Tryz.prog.underlying 129 = some (.int .u64) := by kernel_rfl
theorem un3 : Tryz.prog.underlying 3 = some (.int .i64) := by kernel_rfl
theorem un5 : Tryz.prog.underlying 5 = some (.int .u8) := by kernel_rfl
theorem un79 : Tryz.prog.underlying 79 = some (.slice 5) := by kernel_rfl
end Ht
theorem gNumber_1 {w0 : World} {base : Nat} {fr : List It} {bw : Nat} {ab : Option Addr} {cb : Nat} {b : List UInt8} (hb : SlAt 1 byteA (Lies w0 base) ab b) (hbn : b.length ≤ 1099511627776) (at_ : Nat) (hat : at_ ≤ b.length) : FnC Tryz.prog 93 #[.pointer (some ⟨bw, 0, none⟩)] (WA w0 base (blk bw [.slice ab b.length cb, .int .i64 ((at_ : Nat) : Int), .int .i64 0, .bool false, .int .i64 0, .bool false, str []] 171 :: fr)) (fun q : Int × St => .int .i64 q.1) (fun q w => (Res (rNum b at_) q.1 q.2 ∧ (q.2.e = none → q.2.at_ ≤ b.length) ∧ inI q.1) ∧ WA w0 base (blk bw (rdR ab b.length cb q.2) 171 :: fr) w) := by
  refine FnC.of_body (fn := Tryz.f93) [(0, _)] Tryz.func93 rfl Tryz.ntmps93 rfl ⟨rfl, trivial⟩ ?_
  refine CX.seq ?_
  refine CX.region ?_
  refine LX.pure (Y.assign rfl) rfl rfl rfl ?_
  refine LX.sub (l' := [(0, _), (2, _)]) ⟨rfl, rfl, trivial⟩ ?_
  refine LX.next ?_
  refine PX.thenN ?_
  refine CX.seq ?_
  refine CX.region ?_
  refine LX.pure (Y.assign rfl) rfl rfl rfl ?_
  refine LX.sub (l' := [(0, _), (2, _), (3, _)]) ⟨rfl, rfl, rfl, trivial⟩ ?_
  refine LX.next ?_
  refine PX.thenN ?_
  refine CX.seq ?_
  refine CX.seq ?_
  refine CX.region ?_
  refine LX.pure (Y.assign rfl) rfl rfl rfl ?_
  refine LX.sub (l' := [(0, _), (2, _), (3, _), (4, _)]) ⟨rfl, rfl, rfl, rfl, trivial⟩ ?_
  refine LX.next ?_
  refine PX.thenN ?_
  refine CX.block ?_
  refine CX.loop (fun s : Nat × Nat × Nat => [(0, .pointer (some ⟨bw, 0, none⟩)), (3, .int .u64 (s.2.2 : Int)), (4, .int .i64 (s.1 : Int))]) (fun (s : Nat × Nat × Nat) w => (s.1 ≤ 9 ∧ s.2.1 ≤ b.length ∧ s.2.2 < 2 ^ (7 * s.1) ∧ rU b (10 - s.1) s.1 s.2.1 s.2.2 = rU b 10 0 at_ 0) ∧ WA w0 base (blk bw [.slice ab b.length cb, .int .i64 ((s.2.1 : Nat) : Int), .int .i64 0, .bool false, .int .i64 0, .bool false, str []] 171 :: fr) w) (fun s => 10 - s.1) (0, at_, 0) ⟨rfl, rfl, rfl, trivial⟩ (fun w hw => ⟨⟨Nat.zero_le _, hat, Nat.two_pow_pos _, rfl⟩, hw⟩) ?_
  rintro ⟨i, a, u⟩
  refine CX.have fun ⟨hi, ha, hu, hU⟩ => ?_
  replace hi : i ≤ 9 := hi
  replace ha : a ≤ b.length := ha
  replace hu : u < 2 ^ (7 * i) := hu
  replace hU : rU b (10 - i) i a u = rU b 10 0 at_ 0 := hU
  try dsimp only
  have h10 : 10 - i = (9 - i) + 1 := by omega
  rw [h10] at hU
  refine CX.seq ?_
  refine CX.seq ?_
  refine CX.region ?_
  refine LX.pure (Y.move rfl) rfl rfl rfl ?_
  refine LX.call (gOk_1 a) Ht.en90 rfl rfl rfl rfl rfl ?_
  intro _
  refine LX.sub (l' := [(0, _), (3, _), (4, _), (7, _)]) ⟨rfl, rfl, rfl, rfl, trivial⟩ ?_
  refine LX.next ?_
  refine PX.thenN ?_
  refine CX.cond rfl (fun hb1 => ?_) (fun hb1 => ?_)
  · try simp at hb1
    refine CX.skip ?_
    refine PX.thenN ?_
    refine CX.seq ?_
    refine CX.block ?_
    refine CX.seq ?_
    refine CX.seq ?_
    refine CX.regionQ rfl (by kernel_rfl) ?_
    refine LX.pure (Y.move rfl) rfl rfl rfl ?_
    refine LX.pure (Y.nilCheck rfl) rfl rfl rfl ?_
    refine LX.pure (Y.fieldAddr0 Ht.fo171_1 rfl) rfl rfl rfl ?_
    refine LX.pure (Y.ldB 0 Fjb.one3 rfl rfl rfl) rfl rfl rfl ?_
    refine LX.pure (Y.move rfl) rfl rfl rfl ?_
    refine LX.pure (Y.nilCheck rfl) rfl rfl rfl ?_
    refine LX.pure (Y.fieldAddr0 Ht.fo171_0 rfl) rfl rfl rfl ?_
    refine LX.pure (Y.ldB 0 Ht.one79 rfl rfl rfl) rfl rfl rfl ?_
    refine LX.pure (Y.lenSl rfl Ht.un79 rfl) rfl rfl rfl ?_
    refine LX.pure (Y.geN rfl rfl) rfl rfl rfl ?_
    refine LX.sub (l' := [(0, _), (3, _), (4, _), (19, _)]) ⟨rfl, rfl, rfl, rfl, trivial⟩ ?_
    refine LX.nextQ ?_
    refine PX.thenN ?_
    refine CX.cond rfl (fun hb2 => ?_) (fun hb2 => ?_)
    · try simp at hb2
      have hge : b.length ≤ a := by omega
      have hs4 : u < 18446744073709551616 := by have := u_lt hi hu; omega
      have hv2 : u / 2 < 9223372036854775808 := by have := u_lt hi hu; omega
      refine CX.seq ?_
      refine CX.region ?_
      refine LX.pure (Y.move rfl) rfl rfl rfl ?_
      refine LX.pure (Y.move rfl) rfl rfl rfl ?_
      refine LX.pure (Y.nilCheck rfl) rfl rfl rfl ?_
      refine LX.pure (Y.fieldAddr0 Ht.fo171_0 rfl) rfl rfl rfl ?_
      refine LX.pure (Y.ldB 0 Ht.one79 rfl rfl rfl) rfl rfl rfl ?_
      refine LX.pure (Y.lenSl rfl Ht.un79 rfl) rfl rfl rfl ?_
      refine LX.call (gFail_1 a 13 b.length 114 (by decide)) Ht.en91 rfl rfl rfl rfl rfl ?_
      intro _
      refine LX.sub (l' := [(0, _), (3, _), (4, _)]) ⟨rfl, rfl, rfl, trivial⟩ ?_
      refine LX.next ?_
      refine PX.thenN ?_
      refine CX.exit ?_
      refine PX.thenE ?_
      refine PX.blockO rfl ?_
      refine PX.thenE ?_
      refine PX.thenE ?_
      refine PX.blockE ?_
      refine PX.thenN ?_
      refine CX.seq ?_
      refine CX.region ?_
      refine LX.pure (Y.move rfl) rfl rfl rfl ?_
      refine LX.pure (Y.half rfl rfl) rfl rfl rfl ?_
      refine LX.pure (Y.convN rfl Gs.un228 Ht.un3 (IntWalk.i64_in _ (in63 hv2))) rfl rfl rfl ?_
      refine LX.pure (Y.move rfl) rfl rfl rfl ?_
      refine LX.pure (Y.low1 rfl rfl hs4) rfl rfl rfl ?_
      refine LX.pure (Y.convN rfl Gs.un228 Ht.un3 (IntWalk.i64_in _ (in63 (mod2_lt _)))) rfl rfl rfl ?_
      refine LX.pure (Y.negN rfl (mod2_lt _)) rfl rfl rfl ?_
      refine LX.pure (Y.unzig rfl rfl hs4) rfl rfl rfl ?_
      refine LX.pure (Y.assign rfl) rfl rfl rfl ?_
      refine LX.sub (l' := [(2, _)]) ⟨rfl, trivial⟩ ?_
      refine LX.next ?_
      refine PX.thenN ?_
      refine CX.ret ?_
      refine PX.ret1 (by simp) Tryz.results93 rfl ?_
      exact fun w hw => ⟨(unzig u, ⟨a, some (13, b.length)⟩), rfl, ⟨by rw [num_bad (hU.symm.trans (rU_end hge))]; rfl, fun h => (by cases h), unzig_inI hs4⟩, hw⟩
    · try simp at hb2
      have hlt : a < b.length := by omega
      obtain ⟨c, hc⟩ : ∃ c, b[a]? = some c := ⟨_, List.getElem?_eq_getElem hlt⟩
      obtain ⟨a0, hav, hL⟩ := byteA_at hb hc
      have hc256 := c.toNat_lt
      refine CX.skip ?_
      refine PX.thenN ?_
      refine CX.seq ?_
      refine CX.regionQ rfl (by kernel_rfl) ?_
      refine LX.pure (Y.move rfl) rfl rfl rfl ?_
      refine LX.pure (Y.nilCheck rfl) rfl rfl rfl ?_
      refine LX.pure (Y.fieldAddr0 Ht.fo171_0 rfl) rfl rfl rfl ?_
      refine LX.pure (Y.ldB 0 Ht.one79 rfl rfl rfl) rfl rfl rfl ?_
      refine LX.pure (Y.move rfl) rfl rfl rfl ?_
      refine LX.pure (Y.nilCheck rfl) rfl rfl rfl ?_
      refine LX.pure (Y.fieldAddr0 Ht.fo171_1 rfl) rfl rfl rfl ?_
      refine LX.pure (Y.ldB 0 Fjb.one3 rfl rfl rfl) rfl rfl rfl ?_
      refine LX.pure (Y.idxZ Ht.un79 Ht.sz5 rfl rfl hav (j := a) rfl (by omega)) rfl rfl rfl ?_
      refine LX.pure (Y.ldO1 (v := b8 c) Ht.one5 rfl hL) rfl rfl rfl ?_
      refine LX.pure (Y.assign rfl) rfl rfl rfl ?_
      refine LX.sub (l' := [(0, _), (3, _), (4, _), (5, _)]) ⟨rfl, rfl, rfl, rfl, trivial⟩ ?_
      refine LX.nextQ ?_
      refine PX.thenN ?_
      refine CX.seq ?_
      refine CX.seq ?_
      refine CX.region ?_
      refine LX.pure (Y.move rfl) rfl rfl rfl ?_
      refine LX.pure (Y.eqN rfl rfl) rfl rfl rfl ?_
      refine LX.pure (Y.move rfl) rfl rfl rfl ?_
      refine LX.sub (l' := [(0, _), (3, _), (4, _), (5, _), (39, _)]) ⟨rfl, rfl, rfl, rfl, rfl, trivial⟩ ?_
      apply LX.joinAnd 3 42 39 rfl
      · intro hb3
        have hb3p := hb3
        try simp at hb3p
        refine LX.gT rfl rfl rfl hb3 (Y.move rfl) rfl rfl ?_
        refine LX.gT rfl rfl rfl hb3 (Y.gtN rfl rfl) rfl rfl ?_
        refine LX.pure (Y.pickT rfl hb3 rfl) rfl rfl rfl ?_
        exact LX.left ⟨rfl, rfl, rfl, rfl, rfl, rfl, trivial⟩
      · intro hb3
        have hb3p := hb3
        try simp at hb3p
        refine LX.gF rfl rfl rfl hb3 rfl rfl ?_
        refine LX.gF rfl rfl rfl hb3 rfl rfl ?_
        refine LX.pure (Y.pickF rfl hb3 rfl) rfl rfl rfl ?_
        exact LX.left ⟨rfl, rfl, rfl, rfl, rfl, rfl, trivial⟩
      refine LX.pure (Y.move rfl) rfl rfl rfl ?_
      refine LX.sub (l' := [(0, _), (3, _), (4, _), (5, _), (43, _)]) ⟨rfl, rfl, rfl, rfl, rfl, trivial⟩ ?_
      apply LX.joinOr 7 50 43 rfl
      · intro hb4
        have hb4p := hb4
        try simp at hb4p
        refine LX.gF rfl rfl rfl hb4 rfl rfl ?_
        refine LX.gF rfl rfl rfl hb4 rfl rfl ?_
        refine LX.gF rfl rfl rfl hb4 rfl rfl ?_
        refine LX.gU rfl rfl rfl rfl rfl ?_
        refine LX.gU rfl rfl rfl rfl rfl ?_
        refine LX.gF rfl rfl rfl hb4 rfl rfl ?_
        refine LX.pure (Y.pickT rfl hb4 rfl) rfl rfl rfl ?_
        exact LX.left ⟨rfl, rfl, rfl, rfl, rfl, rfl, trivial⟩
      · intro hb4
        have hb4p := hb4
        try simp at hb4p
        refine LX.gT rfl rfl rfl hb4 (Y.move rfl) rfl rfl ?_
        refine LX.gT rfl rfl rfl hb4 (Y.gtN rfl rfl) rfl rfl ?_
        refine LX.gT rfl rfl rfl hb4 (Y.move rfl) rfl rfl ?_
        refine LX.sub (l' := [(0, _), (3, _), (4, _), (5, _), (43, _), (46, _)]) ⟨rfl, rfl, rfl, rfl, rfl, rfl, trivial⟩ ?_
        apply LX.joinAnd 3 49 46 rfl
        · intro hb5
          have hb5p := hb5
          try simp at hb5p
          refine LX.gT rfl rfl rfl hb5 (Y.move rfl) rfl rfl ?_
          refine LX.gT rfl rfl rfl hb5 (Y.eqN rfl rfl) rfl rfl ?_
          refine LX.gT rfl rfl rfl hb4 (Y.pickT rfl hb5 rfl) rfl rfl ?_
          exact LX.left ⟨rfl, rfl, rfl, rfl, rfl, rfl, rfl, trivial⟩
        · intro hb5
          have hb5p := hb5
          try simp at hb5p
          refine LX.gF rfl rfl rfl hb5 rfl rfl ?_
          refine LX.gF rfl rfl rfl hb5 rfl rfl ?_
          refine LX.gT rfl rfl rfl hb4 (Y.pickF rfl hb5 rfl) rfl rfl ?_
          exact LX.left ⟨rfl, rfl, rfl, rfl, rfl, rfl, rfl, trivial⟩
        refine LX.pure (Y.pickF rfl hb4 rfl) rfl rfl rfl ?_
        exact LX.left ⟨rfl, rfl, rfl, rfl, rfl, rfl, trivial⟩
      refine LX.sub (l' := [(0, _), (3, _), (4, _), (5, _), (50, _)]) ⟨rfl, rfl, rfl, rfl, rfl, trivial⟩ ?_
      refine LX.next ?_
      refine PX.thenN ?_
      refine CX.cond rfl (fun hb6 => ?_) (fun hb6 => ?_)
      · try simp at hb6
        have hbad : (i = 9 ∧ 1 < c.toNat) ∨ (0 < i ∧ c.toNat = 0) := by assumption
        have hU2 := hU.symm.trans (rU_bad hc hbad)
        have hs4 : u < 18446744073709551616 := by have := u_lt hi hu; omega
        have hv2 : u / 2 < 9223372036854775808 := by have := u_lt hi hu; omega
        refine CX.seq ?_
        refine CX.region ?_
        refine LX.pure (Y.move rfl) rfl rfl rfl ?_
        refine LX.pure (Y.move rfl) rfl rfl rfl ?_
        refine LX.pure (Y.nilCheck rfl) rfl rfl rfl ?_
        refine LX.pure (Y.fieldAddr0 Ht.fo171_1 rfl) rfl rfl rfl ?_
        refine LX.pure (Y.ldB 0 Fjb.one3 rfl rfl rfl) rfl rfl rfl ?_
        refine LX.call (gFail_1 a 12 a 113 (by decide)) Ht.en91 rfl rfl rfl rfl rfl ?_
        intro _
        refine LX.sub (l' := [(0, _), (3, _), (4, _), (5, _)]) ⟨rfl, rfl, rfl, rfl, trivial⟩ ?_
        refine LX.next ?_
        refine PX.thenN ?_
        refine CX.exit ?_
        refine PX.thenE ?_
        refine PX.blockO rfl ?_
        refine PX.thenE ?_
        refine PX.thenE ?_
        refine PX.blockE ?_
        refine PX.thenN ?_
        refine CX.seq ?_
        refine CX.region ?_
        refine LX.pure (Y.move rfl) rfl rfl rfl ?_
        refine LX.pure (Y.half rfl rfl) rfl rfl rfl ?_
        refine LX.pure (Y.convN rfl Gs.un228 Ht.un3 (IntWalk.i64_in _ (in63 hv2))) rfl rfl rfl ?_
        refine LX.pure (Y.move rfl) rfl rfl rfl ?_
        refine LX.pure (Y.low1 rfl rfl hs4) rfl rfl rfl ?_
        refine LX.pure (Y.convN rfl Gs.un228 Ht.un3 (IntWalk.i64_in _ (in63 (mod2_lt _)))) rfl rfl rfl ?_
        refine LX.pure (Y.negN rfl (mod2_lt _)) rfl rfl rfl ?_
        refine LX.pure (Y.unzig rfl rfl hs4) rfl rfl rfl ?_
        refine LX.pure (Y.assign rfl) rfl rfl rfl ?_
        refine LX.sub (l' := [(2, _)]) ⟨rfl, trivial⟩ ?_
        refine LX.next ?_
        refine PX.thenN ?_
        refine CX.ret ?_
        refine PX.ret1 (by simp) Tryz.results93 rfl ?_
        exact fun w hw => ⟨(unzig u, ⟨a, some (12, a)⟩), rfl, ⟨by rw [num_bad hU2]; rfl, fun h => (by cases h), unzig_inI hs4⟩, hw⟩
      · try simp at hb6
        have hbad : ¬((i = 9 ∧ 1 < c.toNat) ∨ (0 < i ∧ c.toNat = 0)) := by omega
        obtain ⟨hs1, hs2, hs3, hs4⟩ := byte_step hi hu hbad
        refine CX.skip ?_
        refine PX.thenN ?_
        refine CX.seq ?_
        refine CX.region ?_
        refine LX.pure (Y.move rfl) rfl rfl rfl ?_
        refine LX.pure (Y.move rfl) rfl rfl rfl ?_
        refine LX.pure (Y.nilCheck rfl) rfl rfl rfl ?_
        refine LX.pure (Y.fieldAddr0 Ht.fo171_1 rfl) rfl rfl rfl ?_
        refine LX.pure (Y.ldB 0 Fjb.one3 rfl rfl rfl) rfl rfl rfl ?_
        refine LX.pure (Y.addN rfl rfl (by (simp only []; omega))) rfl rfl rfl ?_
        refine LX.pure (Y.nilCheck rfl) rfl rfl rfl ?_
        refine LX.pure (Y.fieldAddr0 Ht.fo171_1 rfl) rfl rfl rfl ?_
        refine LX.storeB 0 Fjb.sz3 rfl rfl rfl rfl rfl rfl rfl rfl ?_
        refine LX.sub (l' := [(0, _), (3, _), (4, _), (5, _)]) ⟨rfl, rfl, rfl, rfl, trivial⟩ ?_
        refine LX.next ?_
        refine PX.thenN ?_
        refine CX.seq ?_
        refine CX.region ?_
        refine LX.pure (Y.move rfl) rfl rfl rfl ?_
        refine LX.pure (Y.move rfl) rfl rfl rfl ?_
        refine LX.pure (Y.low7 rfl rfl c.toNat_lt) rfl rfl rfl ?_
        refine LX.pure (Y.convN rfl Ht.un5 Gs.un228 (wrap_u64 (by omega))) rfl rfl rfl ?_
        refine LX.pure (Y.move rfl) rfl rfl rfl ?_
        refine LX.pure (Y.mulN (a := 7) (b := i) rfl rfl (by omega)) rfl rfl rfl ?_
        refine LX.pure (Y.convN (a := 7 * i) rfl Ht.un3 Ht.un129 (by simp [IntKind.wrap, IntKind.bits, IntKind.signed]; omega)) rfl rfl rfl ?_
        refine LX.pure (Y.shlF (b := 7 * i) rfl rfl (by omega) hs1) rfl rfl rfl ?_
        refine LX.pure (Y.orAdd rfl rfl hu hs2 hs1) rfl rfl rfl ?_
        refine LX.pure (Y.assign rfl) rfl rfl rfl ?_
        refine LX.sub (l' := [(0, _), (3, _), (4, _), (5, _)]) ⟨rfl, rfl, rfl, rfl, trivial⟩ ?_
        refine LX.next ?_
        refine PX.thenN ?_
        refine CX.seq ?_
        refine CX.region ?_
        refine LX.pure (Y.move rfl) rfl rfl rfl ?_
        refine LX.pure (Y.ltN rfl rfl) rfl rfl rfl ?_
        refine LX.sub (l' := [(0, _), (3, _), (4, _), (75, _)]) ⟨rfl, rfl, rfl, rfl, trivial⟩ ?_
        refine LX.next ?_
        refine PX.thenN ?_
        refine CX.cond rfl (fun hb7 => ?_) (fun hb7 => ?_)
        · try simp at hb7
          have hl : c.toNat < 128 := by omega
          have hU2 := hU.symm.trans (rU_last hc hbad hl)
          have hv2 : (u + c.toNat % 128 * 2 ^ (7 * i)) / 2 < 9223372036854775808 := Nat.div_lt_of_lt_mul (Nat.lt_of_lt_of_le hs4 (by decide))
          refine CX.exit ?_
          refine PX.blockO rfl ?_
          refine PX.thenE ?_
          refine PX.thenE ?_
          refine PX.blockE ?_
          refine PX.thenN ?_
          refine CX.seq ?_
          refine CX.region ?_
          refine LX.pure (Y.move rfl) rfl rfl rfl ?_
          refine LX.pure (Y.half rfl rfl) rfl rfl rfl ?_
          refine LX.pure (Y.convN rfl Gs.un228 Ht.un3 (IntWalk.i64_in _ (in63 hv2))) rfl rfl rfl ?_
          refine LX.pure (Y.move rfl) rfl rfl rfl ?_
          refine LX.pure (Y.low1 rfl rfl hs4) rfl rfl rfl ?_
          refine LX.pure (Y.convN rfl Gs.un228 Ht.un3 (IntWalk.i64_in _ (in63 (mod2_lt _)))) rfl rfl rfl ?_
          refine LX.pure (Y.negN rfl (mod2_lt _)) rfl rfl rfl ?_
          refine LX.pure (Y.unzig rfl rfl hs4) rfl rfl rfl ?_
          refine LX.pure (Y.assign rfl) rfl rfl rfl ?_
          refine LX.sub (l' := [(2, _)]) ⟨rfl, trivial⟩ ?_
          refine LX.next ?_
          refine PX.thenN ?_
          refine CX.ret ?_
          refine PX.ret1 (by simp) Tryz.results93 rfl ?_
          exact fun w hw => ⟨(unzig (u + c.toNat % 128 * 2 ^ (7 * i)), ⟨a + 1, none⟩), rfl, ⟨by rw [num_fine hU2]; exact ⟨rfl, rfl⟩, fun _ => by show a + 1 ≤ b.length; omega, unzig_inI hs4⟩, hw⟩
        · try simp at hb7
          have hl : ¬c.toNat < 128 := by omega
          refine CX.skip ?_
          refine PX.blockN ?_
          refine PX.thenN ?_
          refine CX.region ?_
          refine LX.pure (Y.move rfl) rfl rfl rfl ?_
          refine LX.pure (Y.addN rfl rfl (by (simp only []; omega))) rfl rfl rfl ?_
          refine LX.pure (Y.assign rfl) rfl rfl rfl ?_
          refine LX.sub (l' := [(0, _), (3, _), (4, _)]) ⟨rfl, rfl, rfl, trivial⟩ ?_
          refine LX.next ?_
          exact PX.again (L := (fun s : Nat × Nat × Nat => [(0, .pointer (some ⟨bw, 0, none⟩)), (3, .int .u64 (s.2.2 : Int)), (4, .int .i64 (s.1 : Int))])) (WW := (fun (s : Nat × Nat × Nat) w => (s.1 ≤ 9 ∧ s.2.1 ≤ b.length ∧ s.2.2 < 2 ^ (7 * s.1) ∧ rU b (10 - s.1) s.1 s.2.1 s.2.2 = rU b 10 0 at_ 0) ∧ WA w0 base (blk bw [.slice ab b.length cb, .int .i64 ((s.2.1 : Nat) : Int), .int .i64 0, .bool false, .int .i64 0, .bool false, str []] 171 :: fr) w)) (μ := fun s => 10 - s.1) (i := (i, a, u)) (i + 1, a + 1, u + c.toNat % 128 * 2 ^ (7 * i)) (by show 10 - (i + 1) < 10 - i; omega) ⟨rfl, rfl, rfl, trivial⟩ (fun w hw => ⟨⟨by show i + 1 ≤ 9; omega, by show a + 1 ≤ b.length; omega, hs3, by show rU b (10 - (i + 1)) (i + 1) (a + 1) _ = _; rw [show 10 - (i + 1) = 9 - i by omega, ← rU_more hc hbad hl]; exact hU⟩, hw⟩)
  · try simp at hb1
    done
theorem gNumber_2 {w0 : World} {base : Nat} {fr : List It} {bw : Nat} {ab : Option Addr} {cb : Nat} {b : List UInt8} (a k pl : Nat) : FnC Tryz.prog 93 #[.pointer (some ⟨bw, 0, none⟩)] (WA w0 base (blk bw [.slice ab b.length cb, .int .i64 ((a : Nat) : Int), .int .i64 (101 + (k : Nat) : Int), .bool true, .int .i64 ((pl : Nat) : Int), .bool false, str []] 171 :: fr)) (fun _ : Unit => .int .i64 (unzig 0)) (fun _ => WA w0 base (blk bw [.slice ab b.length cb, .int .i64 ((a : Nat) : Int), .int .i64 (101 + (k : Nat) : Int), .bool true, .int .i64 ((pl : Nat) : Int), .bool false, str []] 171 :: fr)) := by
  refine FnC.of_body (fn := Tryz.f93) [(0, _)] Tryz.func93 rfl Tryz.ntmps93 rfl ⟨rfl, trivial⟩ ?_
  refine CX.seq ?_
  refine CX.region ?_
  refine LX.pure (Y.assign rfl) rfl rfl rfl ?_
  refine LX.sub (l' := [(0, _), (2, _)]) ⟨rfl, rfl, trivial⟩ ?_
  refine LX.next ?_
  refine PX.thenN ?_
  refine CX.seq ?_
  refine CX.region ?_
  refine LX.pure (Y.assign rfl) rfl rfl rfl ?_
  refine LX.sub (l' := [(0, _), (2, _), (3, _)]) ⟨rfl, rfl, rfl, trivial⟩ ?_
  refine LX.next ?_
  refine PX.thenN ?_
  refine CX.seq ?_
  refine CX.seq ?_
  refine CX.region ?_
  refine LX.pure (Y.assign rfl) rfl rfl rfl ?_
  refine LX.sub (l' := [(0, _), (2, _), (3, _), (4, _)]) ⟨rfl, rfl, rfl, rfl, trivial⟩ ?_
  refine LX.next ?_
  refine PX.thenN ?_
  refine CX.block ?_
  refine CX.loop (fun _ : Unit => [(0, .pointer (some ⟨bw, 0, none⟩)), (3, .int .u64 ((0 : Nat) : Int)), (4, .int .i64 0)]) (fun _ w => WA w0 base (blk bw [.slice ab b.length cb, .int .i64 ((a : Nat) : Int), .int .i64 (101 + (k : Nat) : Int), .bool true, .int .i64 ((pl : Nat) : Int), .bool false, str []] 171 :: fr) w) (fun _ => 0) () ⟨rfl, rfl, rfl, trivial⟩ (fun w hw => hw) ?_
  intro _
  refine CX.seq ?_
  refine CX.seq ?_
  refine CX.region ?_
  refine LX.pure (Y.move rfl) rfl rfl rfl ?_
  refine LX.call (gOk_2 a k pl) Ht.en90 rfl rfl rfl rfl rfl ?_
  intro _
  refine LX.sub (l' := [(0, _), (3, _), (4, _), (7, _)]) ⟨rfl, rfl, rfl, rfl, trivial⟩ ?_
  refine LX.next ?_
  refine PX.thenN ?_
  refine CX.cond rfl (fun hb1 => ?_) (fun hb1 => ?_)
  · try simp at hb1
    done
  · try simp at hb1
    refine CX.exit ?_
    refine PX.thenE ?_
    refine PX.thenE ?_
    refine PX.blockE ?_
    refine PX.thenN ?_
    refine CX.seq ?_
    refine CX.region ?_
    refine LX.pure (Y.move rfl) rfl rfl rfl ?_
    refine LX.pure (Y.half (u := 0) rfl rfl) rfl rfl rfl ?_
    refine LX.pure (Y.convN rfl Gs.un228 Ht.un3 (IntWalk.i64_in _ (in63 (by decide)))) rfl rfl rfl ?_
    refine LX.pure (Y.move rfl) rfl rfl rfl ?_
    refine LX.pure (Y.low1 (u := 0) rfl rfl (by decide)) rfl rfl rfl ?_
    refine LX.pure (Y.convN rfl Gs.un228 Ht.un3 (IntWalk.i64_in _ (in63 (mod2_lt _)))) rfl rfl rfl ?_
    refine LX.pure (Y.negN rfl (mod2_lt _)) rfl rfl rfl ?_
    refine LX.pure (Y.unzig (u := 0) rfl rfl (by decide)) rfl rfl rfl ?_
    refine LX.pure (Y.assign rfl) rfl rfl rfl ?_
    refine LX.sub (l' := [(2, _)]) ⟨rfl, trivial⟩ ?_
    refine LX.next ?_
    refine PX.thenN ?_
    refine CX.ret ?_
    refine PX.ret1 (by simp) Tryz.results93 rfl ?_
    exact fun w hw => ⟨(), rfl, hw⟩
theorem gNumber_c {w0 : World} {base : Nat} {fr : List It} {bw : Nat} {ab : Option Addr} {cb : Nat} {b : List UInt8} (hb : SlAt 1 byteA (Lies w0 base) ab b) (hbn : b.length ≤ 1099511627776) (s : St) (hat : s.e = none → s.at_ ≤ b.length) : FnC Tryz.prog 93 #[.pointer (some ⟨bw, 0, none⟩)] (WA w0 base (blk bw (rdR ab b.length cb s) 171 :: fr)) (fun q : Int × St => .int .i64 q.1) (fun q w => (Res (s.run (rNum b)) q.1 q.2 ∧ (q.2.e = none → q.2.at_ ≤ b.length) ∧ inI q.1) ∧ WA w0 base (blk bw (rdR ab b.length cb q.2) 171 :: fr) w) := by
  obtain ⟨a, e⟩ := s
  cases e with
  | none => exact gNumber_1 hb hbn a (hat rfl)
  | some q => exact fun w hw => (gNumber_2 a q.1 q.2 w hw).mono fun _ w' ⟨_, he, h⟩ => ⟨(unzig 0, ⟨a, some q⟩), he, ⟨rfl, hat, unzig_inI (u := 0) (by decide)⟩, h⟩
theorem gCount_c {w0 : World} {base : Nat} {fr : List It} {bw : Nat} {ab : Option Addr} {cb : Nat} {b : List UInt8} (hb : SlAt 1 byteA (Lies w0 base) ab b) (hbn : b.length ≤ 1099511627776) (s : St) (hat : s.e = none → s.at_ ≤ b.length) : FnC Tryz.prog 92 #[.pointer (some ⟨bw, 0, none⟩)] (WA w0 base (blk bw (rdR ab b.length cb s) 171 :: fr)) (fun q : Nat × St => .int .i64 (q.1 : Int)) (fun q w => (Res (s.run (rCount b)) q.1 q.2 ∧ (q.2.e = none → q.2.at_ ≤ b.length) ∧ q.1 ≤ 1048576 ∧ (q.2.e ≠ none → q.1 = 0)) ∧ WA w0 base (blk bw (rdR ab b.length cb q.2) 171 :: fr) w) := by
  refine FnC.of_body (fn := Tryz.f92) [(0, _)] Tryz.func92 rfl Tryz.ntmps92 rfl ⟨rfl, trivial⟩ ?_
  refine CX.seq ?_
  refine CX.region ?_
  refine LX.pure (Y.assign rfl) rfl rfl rfl ?_
  refine LX.sub (l' := [(0, _), (2, _)]) ⟨rfl, rfl, trivial⟩ ?_
  refine LX.next ?_
  refine PX.thenN ?_
  refine CX.seq ?_
  refine CX.region ?_
  refine LX.pure (Y.move rfl) rfl rfl rfl ?_
  refine LX.pure (Y.nilCheck rfl) rfl rfl rfl ?_
  refine LX.pure (Y.fieldAddr0 Ht.fo171_1 rfl) rfl rfl rfl ?_
  refine LX.pure (Y.ldB 0 Fjb.one3 rfl rfl rfl) rfl rfl rfl ?_
  refine LX.pure (Y.assign rfl) rfl rfl rfl ?_
  refine LX.sub (l' := [(0, _), (2, _), (3, _)]) ⟨rfl, rfl, rfl, trivial⟩ ?_
  refine LX.next ?_
  refine PX.thenN ?_
  refine CX.seq ?_
  refine CX.region ?_
  refine LX.pure (Y.move rfl) rfl rfl rfl ?_
  refine LX.call (gNumber_c hb hbn s hat) Ht.en93 rfl rfl rfl rfl rfl ?_
  rintro ⟨n, s1⟩
  refine LX.have fun ⟨hres, hle, hin⟩ => ?_
  replace hres : Res (s.run (rNum b)) n s1 := hres
  replace hle : s1.e = none → s1.at_ ≤ b.length := hle
  refine LX.pure (Y.assign rfl) rfl rfl rfl ?_
  refine LX.sub (l' := [(0, _), (2, _), (3, _), (4, _)]) ⟨rfl, rfl, rfl, rfl, trivial⟩ ?_
  refine LX.next ?_
  refine PX.thenN ?_
  refine CX.seq ?_
  refine CX.seq ?_
  refine CX.region ?_
  refine LX.pure (Y.move rfl) rfl rfl rfl ?_
  refine LX.call (gOk_c s1) Ht.en90 rfl rfl rfl rfl rfl ?_
  intro _
  refine LX.pure (Y.move rfl) rfl rfl rfl ?_
  refine LX.sub (l' := [(0, _), (2, _), (3, _), (4, _), (13, _)]) ⟨rfl, rfl, rfl, rfl, rfl, trivial⟩ ?_
  apply LX.joinAnd 3 16 13 rfl
  · intro hb1
    have hb1p := hb1
    try simp at hb1p
    refine LX.gT rfl rfl rfl hb1 (Y.move rfl) rfl rfl ?_
    refine LX.gT rfl rfl rfl hb1 (Y.ltI rfl rfl) rfl rfl ?_
    refine LX.pure (Y.pickT rfl hb1 rfl) rfl rfl rfl ?_
    exact LX.left ⟨rfl, rfl, rfl, rfl, rfl, rfl, trivial⟩
  · intro hb1
    have hb1p := hb1
    try simp at hb1p
    refine LX.gF rfl rfl rfl hb1 rfl rfl ?_
    refine LX.gF rfl rfl rfl hb1 rfl rfl ?_
    refine LX.pure (Y.pickF rfl hb1 rfl) rfl rfl rfl ?_
    exact LX.left ⟨rfl, rfl, rfl, rfl, rfl, rfl, trivial⟩
  refine LX.sub (l' := [(0, _), (2, _), (3, _), (4, _), (16, _)]) ⟨rfl, rfl, rfl, rfl, rfl, trivial⟩ ?_
  refine LX.next ?_
  refine PX.thenN ?_
  refine CX.cond rfl (fun hb2 => ?_) (fun hb2 => ?_)
  · try simp at hb2
    have hx1 : s1.e = none := by exact hb2.1
    have hx2 : n < 0 := by exact hb2.2
    refine CX.region ?_
    refine LX.pure (Y.move rfl) rfl rfl rfl ?_
    refine LX.pure (Y.move rfl) rfl rfl rfl ?_
    refine LX.call (gFail_c s1 12 s.at_ 113 (by decide)) Ht.en91 rfl rfl rfl rfl rfl ?_
    intro _
    refine LX.sub (l' := [(0, _), (2, _), (3, _), (4, _)]) ⟨rfl, rfl, rfl, rfl, trivial⟩ ?_
    refine LX.next ?_
    refine PX.thenN ?_
    refine CX.seq ?_
    refine CX.seq ?_
    refine CX.region ?_
    refine LX.pure (Y.move rfl) rfl rfl rfl ?_
    refine LX.call (gOk_c (s1.fail 12 s.at_)) Ht.en90 rfl rfl rfl rfl rfl ?_
    intro _
    refine LX.pure (Y.move rfl) rfl rfl rfl ?_
    refine LX.sub (l' := [(0, _), (2, _), (3, _), (4, _), (22, _)]) ⟨rfl, rfl, rfl, rfl, rfl, trivial⟩ ?_
    apply LX.joinAnd 3 25 22 rfl
    · intro hb3
      have hb3p := hb3
      try simp at hb3p
      refine LX.gT rfl rfl rfl hb3 (Y.move rfl) rfl rfl ?_
      refine LX.gT rfl rfl rfl hb3 (Y.gtI rfl rfl) rfl rfl ?_
      refine LX.pure (Y.pickT rfl hb3 rfl) rfl rfl rfl ?_
      exact LX.left ⟨rfl, rfl, rfl, rfl, rfl, rfl, trivial⟩
    · intro hb3
      have hb3p := hb3
      try simp at hb3p
      refine LX.gF rfl rfl rfl hb3 rfl rfl ?_
      refine LX.gF rfl rfl rfl hb3 rfl rfl ?_
      refine LX.pure (Y.pickF rfl hb3 rfl) rfl rfl rfl ?_
      exact LX.left ⟨rfl, rfl, rfl, rfl, rfl, rfl, trivial⟩
    refine LX.sub (l' := [(0, _), (2, _), (3, _), (4, _), (25, _)]) ⟨rfl, rfl, rfl, rfl, rfl, trivial⟩ ?_
    refine LX.next ?_
    refine PX.thenN ?_
    refine CX.cond rfl (fun hb4 => ?_) (fun hb4 => ?_)
    · try simp at hb4
      exact absurd (And.left (by assumption)) (fail_e _ _ _)
    · try simp at hb4
      refine CX.skip ?_
      refine PX.thenN ?_
      refine CX.seq ?_
      refine CX.seq ?_
      refine CX.region ?_
      refine LX.pure (Y.move rfl) rfl rfl rfl ?_
      refine LX.call (gOk_c (s1.fail 12 s.at_)) Ht.en90 rfl rfl rfl rfl rfl ?_
      intro _
      refine LX.pure (Y.not rfl) rfl rfl rfl ?_
      refine LX.sub (l' := [(2, _), (4, _), (31, _)]) ⟨rfl, rfl, rfl, trivial⟩ ?_
      refine LX.next ?_
      refine PX.thenN ?_
      refine CX.cond rfl (fun hb5 => ?_) (fun hb5 => ?_)
      · try simp at hb5
        refine CX.seq ?_
        refine CX.region ?_
        refine LX.pure (Y.assign rfl) rfl rfl rfl ?_
        refine LX.sub (l' := [(2, _), (4, _)]) ⟨rfl, rfl, trivial⟩ ?_
        refine LX.next ?_
        refine PX.thenN ?_
        refine CX.ret ?_
        refine PX.thenR ?_
        refine PX.ret1 (by simp) Tryz.results92 rfl ?_
        exact fun w hw => ⟨(0, (s1.fail 12 s.at_)), rfl, ⟨cres_low hres hx1 hx2, fun h => absurd h (fail_e _ _ _), Nat.zero_le _, fun _ => rfl⟩, hw⟩
      · try simp at hb5
        exact absurd (by assumption) (fail_e _ _ _)
  · try simp at hb2
    have hn1 : ¬(s1.e = none ∧ n < 0) := by (intro h; obtain ⟨h1, h2⟩ := h; simp only [h1] at hb2; (have := hb2 trivial; omega))
    refine CX.skip ?_
    refine PX.thenN ?_
    refine CX.seq ?_
    refine CX.seq ?_
    refine CX.region ?_
    refine LX.pure (Y.move rfl) rfl rfl rfl ?_
    refine LX.call (gOk_c s1) Ht.en90 rfl rfl rfl rfl rfl ?_
    intro _
    refine LX.pure (Y.move rfl) rfl rfl rfl ?_
    refine LX.sub (l' := [(0, _), (2, _), (3, _), (4, _), (22, _)]) ⟨rfl, rfl, rfl, rfl, rfl, trivial⟩ ?_
    apply LX.joinAnd 3 25 22 rfl
    · intro hb6
      have hb6p := hb6
      try simp at hb6p
      refine LX.gT rfl rfl rfl hb6 (Y.move rfl) rfl rfl ?_
      refine LX.gT rfl rfl rfl hb6 (Y.gtI rfl rfl) rfl rfl ?_
      refine LX.pure (Y.pickT rfl hb6 rfl) rfl rfl rfl ?_
      exact LX.left ⟨rfl, rfl, rfl, rfl, rfl, rfl, trivial⟩
    · intro hb6
      have hb6p := hb6
      try simp at hb6p
      refine LX.gF rfl rfl rfl hb6 rfl rfl ?_
      refine LX.gF rfl rfl rfl hb6 rfl rfl ?_
      refine LX.pure (Y.pickF rfl hb6 rfl) rfl rfl rfl ?_
      exact LX.left ⟨rfl, rfl, rfl, rfl, rfl, rfl, trivial⟩
    refine LX.sub (l' := [(0, _), (2, _), (3, _), (4, _), (25, _)]) ⟨rfl, rfl, rfl, rfl, rfl, trivial⟩ ?_
    refine LX.next ?_
    refine PX.thenN ?_
    refine CX.cond rfl (fun hb7 => ?_) (fun hb7 => ?_)
    · try simp at hb7
      have hx1 : s1.e = none := by exact hb7.1
      have hx2 : 1048576 < n := by exact hb7.2
      refine CX.region ?_
      refine LX.pure (Y.move rfl) rfl rfl rfl ?_
      refine LX.pure (Y.move rfl) rfl rfl rfl ?_
      refine LX.call (gFail_c s1 9 s.at_ 110 (by decide)) Ht.en91 rfl rfl rfl rfl rfl ?_
      intro _
      refine LX.sub (l' := [(0, _), (2, _), (4, _)]) ⟨rfl, rfl, rfl, trivial⟩ ?_
      refine LX.next ?_
      refine PX.thenN ?_
      refine CX.seq ?_
      refine CX.seq ?_
      refine CX.region ?_
      refine LX.pure (Y.move rfl) rfl rfl rfl ?_
      refine LX.call (gOk_c (s1.fail 9 s.at_)) Ht.en90 rfl rfl rfl rfl rfl ?_
      intro _
      refine LX.pure (Y.not rfl) rfl rfl rfl ?_
      refine LX.sub (l' := [(2, _), (4, _), (31, _)]) ⟨rfl, rfl, rfl, trivial⟩ ?_
      refine LX.next ?_
      refine PX.thenN ?_
      refine CX.cond rfl (fun hb8 => ?_) (fun hb8 => ?_)
      · try simp at hb8
        refine CX.seq ?_
        refine CX.region ?_
        refine LX.pure (Y.assign rfl) rfl rfl rfl ?_
        refine LX.sub (l' := [(2, _), (4, _)]) ⟨rfl, rfl, trivial⟩ ?_
        refine LX.next ?_
        refine PX.thenN ?_
        refine CX.ret ?_
        refine PX.thenR ?_
        refine PX.ret1 (by simp) Tryz.results92 rfl ?_
        exact fun w hw => ⟨(0, (s1.fail 9 s.at_)), rfl, ⟨cres_many hres hx1 hx2, fun h => absurd h (fail_e _ _ _), Nat.zero_le _, fun _ => rfl⟩, hw⟩
      · try simp at hb8
        exact absurd (by assumption) (fail_e _ _ _)
    · try simp at hb7
      have hn2 : ¬(s1.e = none ∧ 1048576 < n) := by (intro h; obtain ⟨h1, h2⟩ := h; simp only [h1] at hb7; (have := hb7 trivial; omega))
      refine CX.skip ?_
      refine PX.thenN ?_
      refine CX.seq ?_
      refine CX.seq ?_
      refine CX.region ?_
      refine LX.pure (Y.move rfl) rfl rfl rfl ?_
      refine LX.call (gOk_c s1) Ht.en90 rfl rfl rfl rfl rfl ?_
      intro _
      refine LX.pure (Y.not rfl) rfl rfl rfl ?_
      refine LX.sub (l' := [(2, _), (4, _), (31, _)]) ⟨rfl, rfl, rfl, trivial⟩ ?_
      refine LX.next ?_
      refine PX.thenN ?_
      refine CX.cond rfl (fun hb9 => ?_) (fun hb9 => ?_)
      · try simp at hb9
        have hnn : s1.e ≠ none := by assumption
        refine CX.seq ?_
        refine CX.region ?_
        refine LX.pure (Y.assign rfl) rfl rfl rfl ?_
        refine LX.sub (l' := [(2, _), (4, _)]) ⟨rfl, rfl, trivial⟩ ?_
        refine LX.next ?_
        refine PX.thenN ?_
        refine CX.ret ?_
        refine PX.thenR ?_
        refine PX.ret1 (by simp) Tryz.results92 rfl ?_
        exact fun w hw => ⟨(0, s1), rfl, ⟨cres_bad hres hnn, hle, Nat.zero_le _, fun _ => rfl⟩, hw⟩
      · try simp at hb9
        have hnn : s1.e = none := by assumption
        have hn3 : ¬n < 0 := fun h => hn1 ⟨hnn, h⟩
        have hn4 : ¬1048576 < n := fun h => hn2 ⟨hnn, h⟩
        refine CX.skip ?_
        refine PX.thenN ?_
        refine CX.seq ?_
        refine CX.region ?_
        refine LX.pure (Y.move rfl) rfl rfl rfl ?_
        refine LX.pure (Y.assign rfl) rfl rfl rfl ?_
        refine LX.sub (l' := [(2, _)]) ⟨rfl, trivial⟩ ?_
        refine LX.next ?_
        refine PX.thenN ?_
        refine CX.ret ?_
        refine PX.ret1 (by simp) Tryz.results92 rfl ?_
        exact fun w hw => ⟨(n.toNat, s1), by show Ending.returned (.int .i64 n) = .returned (.int .i64 (n.toNat : Int)); rw [Int.toNat_of_nonneg (by omega)], ⟨cres_ok hres hnn (by omega) (by omega), hle, by show n.toNat ≤ 1048576; omega, fun h => absurd hnn h⟩, hw⟩
end Go.Proofs.YtgijpgkckiknjaaGreatDoor

namespace Go.Proofs.YtgijpgkckiknjaaGreatDoor
open Go.SX Go.RowKit Go.Ck Go.Lex Go.By
namespace Hu
theorem en92 : Enters Tryz.prog 92 := Enters.of Tryz.func92 (by kernel_rfl) (by kernel_rfl)
theorem en94 : Enters Tryz.prog 94 := Enters.of Tryz.func94 (by kernel_rfl) (by kernel_rfl)
end Hu
theorem gTextR_c {w0 : World} {base : Nat} {fr : List It} {bw : Nat} {ab : Option Addr} {cb : Nat} {b : List UInt8} (hb : SlAt 1 byteA (Lies w0 base) ab b) (hbn : b.length ≤ 1099511627776) (hcb : b.length ≤ cb) (s : St) (hat : s.e = none → s.at_ ≤ b.length) : FnC Tryz.prog 94 #[.pointer (some ⟨bw, 0, none⟩)] (WA w0 base (blk bw (rdR ab b.length cb s) 171 :: fr)) (fun q : List UInt8 × St => str q.1) (fun q w => (Res (s.run (rText b)) q.1 q.2 ∧ (q.2.e = none → q.2.at_ ≤ b.length) ∧ q.1.length ≤ 1048576) ∧ WA w0 base (blk bw (rdR ab b.length cb q.2) 171 :: fr) w) := by
  refine FnC.of_body (fn := Tryz.f94) [(0, _)] Tryz.func94 rfl Tryz.ntmps94 rfl ⟨rfl, trivial⟩ ?_
  refine CX.seq ?_
  refine CX.region ?_
  refine LX.pure (Y.assign rfl) rfl rfl rfl ?_
  refine LX.sub (l' := [(0, _), (2, _)]) ⟨rfl, rfl, trivial⟩ ?_
  refine LX.next ?_
  refine PX.thenN ?_
  refine CX.seq ?_
  refine CX.region ?_
  refine LX.pure (Y.move rfl) rfl rfl rfl ?_
  refine LX.call (gCount_c hb hbn s hat) Hu.en92 rfl rfl rfl rfl rfl ?_
  rintro ⟨n, s1⟩
  refine LX.have fun ⟨hres, hle, hn20, hz⟩ => ?_
  replace hres : Res (s.run (rCount b)) n s1 := hres
  replace hle : s1.e = none → s1.at_ ≤ b.length := hle
  replace hn20 : n ≤ 1048576 := hn20
  replace hz : s1.e ≠ none → n = 0 := hz
  refine LX.pure (Y.assign rfl) rfl rfl rfl ?_
  refine LX.sub (l' := [(0, _), (2, _), (3, _)]) ⟨rfl, rfl, rfl, trivial⟩ ?_
  refine LX.next ?_
  refine PX.thenN ?_
  refine CX.seq ?_
  refine CX.seq ?_
  refine CX.region ?_
  refine LX.pure (Y.move rfl) rfl rfl rfl ?_
  refine LX.call (gOk_c s1) Ht.en90 rfl rfl rfl rfl rfl ?_
  intro _
  refine LX.pure (Y.not rfl) rfl rfl rfl ?_
  refine LX.sub (l' := [(0, _), (2, _), (3, _), (9, _)]) ⟨rfl, rfl, rfl, rfl, trivial⟩ ?_
  refine LX.next ?_
  refine PX.thenN ?_
  refine CX.cond rfl (fun hb1 => ?_) (fun hb1 => ?_)
  · try simp at hb1
    have hnn : s1.e ≠ none := by assumption
    refine CX.seq ?_
    refine CX.region ?_
    refine LX.pure (Y.assign rfl) rfl rfl rfl ?_
    refine LX.sub (l' := [(0, _), (2, _), (3, _)]) ⟨rfl, rfl, rfl, trivial⟩ ?_
    refine LX.next ?_
    refine PX.thenN ?_
    refine CX.ret ?_
    refine PX.thenR ?_
    refine PX.ret1 (by simp) Tryz.results94 rfl ?_
    exact fun w hw => ⟨([], s1), rfl, ⟨tres_bad hres hnn, hle, Nat.zero_le _⟩, hw⟩
  · try simp at hb1
    have hnn : s1.e = none := by assumption
    obtain ⟨a1, e1⟩ := s1
    obtain rfl : e1 = none := hnn
    replace hle : a1 ≤ b.length := hle rfl
    try dsimp only
    refine CX.skip ?_
    refine PX.thenN ?_
    refine CX.seq ?_
    refine CX.seq ?_
    refine CX.regionQ rfl (by kernel_rfl) ?_
    refine LX.pure (Y.move rfl) rfl rfl rfl ?_
    refine LX.pure (Y.nilCheck rfl) rfl rfl rfl ?_
    refine LX.pure (Y.fieldAddr0 Ht.fo171_0 rfl) rfl rfl rfl ?_
    refine LX.pure (Y.ldB 0 Ht.one79 rfl rfl rfl) rfl rfl rfl ?_
    refine LX.pure (Y.lenSl rfl Ht.un79 rfl) rfl rfl rfl ?_
    refine LX.pure (Y.move rfl) rfl rfl rfl ?_
    refine LX.pure (Y.nilCheck rfl) rfl rfl rfl ?_
    refine LX.pure (Y.fieldAddr0 Ht.fo171_1 rfl) rfl rfl rfl ?_
    refine LX.pure (Y.ldB 0 Fjb.one3 rfl rfl rfl) rfl rfl rfl ?_
    refine LX.pure (Y.subN rfl rfl (by omega) (by omega)) rfl rfl rfl ?_
    refine LX.pure (Y.move rfl) rfl rfl rfl ?_
    refine LX.pure (Y.ltN rfl rfl) rfl rfl rfl ?_
    refine LX.sub (l' := [(0, _), (2, _), (3, _), (21, _)]) ⟨rfl, rfl, rfl, rfl, trivial⟩ ?_
    refine LX.nextQ ?_
    refine PX.thenN ?_
    refine CX.cond rfl (fun hb2 => ?_) (fun hb2 => ?_)
    · try simp at hb2
      refine CX.seq ?_
      refine CX.region ?_
      refine LX.pure (Y.move rfl) rfl rfl rfl ?_
      refine LX.pure (Y.move rfl) rfl rfl rfl ?_
      refine LX.pure (Y.nilCheck rfl) rfl rfl rfl ?_
      refine LX.pure (Y.fieldAddr0 Ht.fo171_0 rfl) rfl rfl rfl ?_
      refine LX.pure (Y.ldB 0 Ht.one79 rfl rfl rfl) rfl rfl rfl ?_
      refine LX.pure (Y.lenSl rfl Ht.un79 rfl) rfl rfl rfl ?_
      refine LX.call (gFail_c ⟨a1, none⟩ 13 b.length 114 (by decide)) Ht.en91 rfl rfl rfl rfl rfl ?_
      intro _
      refine LX.sub (l' := [(0, _), (2, _), (3, _)]) ⟨rfl, rfl, rfl, trivial⟩ ?_
      refine LX.next ?_
      refine PX.thenN ?_
      refine CX.seq ?_
      refine CX.region ?_
      refine LX.pure (Y.assign rfl) rfl rfl rfl ?_
      refine LX.sub (l' := [(0, _), (2, _), (3, _)]) ⟨rfl, rfl, rfl, trivial⟩ ?_
      refine LX.next ?_
      refine PX.thenN ?_
      refine CX.ret ?_
      refine PX.thenR ?_
      refine PX.ret1 (by simp) Tryz.results94 rfl ?_
      exact fun w hw => ⟨([], ⟨a1, some (13, b.length)⟩), rfl, ⟨tres_end hres (by exact hb2), fun h => (by cases h), Nat.zero_le _⟩, hw⟩
    · try simp at hb2
      have hnl : n ≤ b.length - a1 := by exact hb2
      have hA : SlAt 1 byteA (Lies w0 base) (if cb = a1 then ab else ab.map fun q => q.add (a1 * 1)) ((b.drop a1).take n) := (hb.dropV hcb a1).take n
      have hk : ((b.drop a1).take n).length = n := by rw [List.length_take, List.length_drop]; omega
      refine CX.skip ?_
      refine PX.thenN ?_
      refine CX.seq ?_
      refine CX.regionQ rfl (by kernel_rfl) ?_
      refine LX.pure (Y.move rfl) rfl rfl rfl ?_
      refine LX.pure (Y.nilCheck rfl) rfl rfl rfl ?_
      refine LX.pure (Y.fieldAddr0 Ht.fo171_0 rfl) rfl rfl rfl ?_
      refine LX.pure (Y.ldB 0 Ht.one79 rfl rfl rfl) rfl rfl rfl ?_
      refine LX.pure (Y.move rfl) rfl rfl rfl ?_
      refine LX.pure (Y.nilCheck rfl) rfl rfl rfl ?_
      refine LX.pure (Y.fieldAddr0 Ht.fo171_1 rfl) rfl rfl rfl ?_
      refine LX.pure (Y.ldB 0 Fjb.one3 rfl rfl rfl) rfl rfl rfl ?_
      refine LX.pure (Y.move rfl) rfl rfl rfl ?_
      refine LX.pure (Y.nilCheck rfl) rfl rfl rfl ?_
      refine LX.pure (Y.fieldAddr0 Ht.fo171_1 rfl) rfl rfl rfl ?_
      refine LX.pure (Y.ldB 0 Fjb.one3 rfl rfl rfl) rfl rfl rfl ?_
      refine LX.pure (Y.move rfl) rfl rfl rfl ?_
      refine LX.pure (Y.addN rfl rfl (by (simp only []; omega))) rfl rfl rfl ?_
      refine LX.pure (Y.cutBothT (a' := a1) (b := a1 + n) (m := n) Ht.un79 Ht.sz5 rfl rfl rfl (by omega) (by omega) (by omega)) rfl rfl rfl ?_
      refine LX.pure (Y.strZ (bs := (b.drop a1).take n) rfl hA hk Ht.un79 Ht.un5 Fj.un9) rfl rfl rfl ?_
      refine LX.pure (Y.assign rfl) rfl rfl rfl ?_
      refine LX.sub (l' := [(0, _), (2, _), (3, _), (4, _)]) ⟨rfl, rfl, rfl, rfl, trivial⟩ ?_
      refine LX.nextQ ?_
      refine PX.thenN ?_
      refine CX.seq ?_
      refine CX.region ?_
      refine LX.pure (Y.move rfl) rfl rfl rfl ?_
      refine LX.pure (Y.move rfl) rfl rfl rfl ?_
      refine LX.pure (Y.nilCheck rfl) rfl rfl rfl ?_
      refine LX.pure (Y.fieldAddr0 Ht.fo171_1 rfl) rfl rfl rfl ?_
      refine LX.pure (Y.ldB 0 Fjb.one3 rfl rfl rfl) rfl rfl rfl ?_
      refine LX.pure (Y.move rfl) rfl rfl rfl ?_
      refine LX.pure (Y.addN rfl rfl (by (simp only []; omega))) rfl rfl rfl ?_
      refine LX.pure (Y.nilCheck rfl) rfl rfl rfl ?_
      refine LX.pure (Y.fieldAddr0 Ht.fo171_1 rfl) rfl rfl rfl ?_
      refine LX.storeB 0 Fjb.sz3 rfl rfl rfl rfl rfl rfl rfl rfl ?_
      refine LX.sub (l' := [(2, _), (4, _)]) ⟨rfl, rfl, trivial⟩ ?_
      refine LX.next ?_
      refine PX.thenN ?_
      refine CX.seq ?_
      refine CX.region ?_
      refine LX.pure (Y.move rfl) rfl rfl rfl ?_
      refine LX.pure (Y.assign rfl) rfl rfl rfl ?_
      refine LX.sub (l' := [(2, _)]) ⟨rfl, trivial⟩ ?_
      refine LX.next ?_
      refine PX.thenN ?_
      refine CX.ret ?_
      refine PX.ret1 (by simp) Tryz.results94 rfl ?_
      exact fun w hw => ⟨((b.drop a1).take n, ⟨a1 + n, none⟩), rfl, ⟨tres_ok hres (by omega), fun _ => by show a1 + n ≤ b.length; omega, by show ((b.drop a1).take n).length ≤ 1048576; omega⟩, hw⟩
theorem gTextsR_c {w0 : World} {base : Nat} {fr : List It} {bw : Nat} {ab : Option Addr} {cb : Nat} {b : List UInt8} (hb : SlAt 1 byteA (Lies w0 base) ab b) (hbn : b.length ≤ 1099511627776) (hcb : b.length ≤ cb) (s : St) (hat : s.e = none → s.at_ ≤ b.length) : FnC Tryz.prog 95 #[.pointer (some ⟨bw, 0, none⟩)] (WA w0 base (blk bw (rdR ab b.length cb s) 171 :: fr)) (fun q : ((Option Nat × Nat) × List (List UInt8)) × St => rv q.1.1.1 q.1.2.length q.1.1.2) (fun q w => (Res (s.run (rTexts b)) q.1.2 q.2 ∧ (q.2.e = none → q.2.at_ ≤ b.length) ∧ q.1.2.length ≤ 1048576) ∧ WA w0 base (blk bw (rdR ab b.length cb q.2) 171 :: .row q.1.1.1 q.1.1.2 q.1.2.length 9 1 (q.1.2.map str) :: fr) w) := by
  refine FnC.of_body (fn := Tryz.f95) [(0, _)] Tryz.func95 rfl Tryz.ntmps95 rfl ⟨rfl, trivial⟩ ?_
  refine CX.seq ?_
  refine CX.region ?_
  refine LX.pure (Y.assign rfl) rfl rfl rfl ?_
  refine LX.sub (l' := [(0, _), (2, _)]) ⟨rfl, rfl, trivial⟩ ?_
  refine LX.next ?_
  refine PX.thenN ?_
  refine CX.seq ?_
  refine CX.region ?_
  refine LX.pure (Y.move rfl) rfl rfl rfl ?_
  refine LX.call (gCount_c hb hbn s hat) Hu.en92 rfl rfl rfl rfl rfl ?_
  rintro ⟨n, s1⟩
  refine LX.have fun ⟨hres, hle, hn20, hz⟩ => ?_
  replace hres : Res (s.run (rCount b)) n s1 := hres
  replace hle : s1.e = none → s1.at_ ≤ b.length := hle
  replace hn20 : n ≤ 1048576 := hn20
  replace hz : s1.e ≠ none → n = 0 := hz
  refine LX.pure (Y.assign rfl) rfl rfl rfl ?_
  refine LX.sub (l' := [(0, _), (2, _), (3, _)]) ⟨rfl, rfl, rfl, trivial⟩ ?_
  refine LX.next ?_
  refine PX.thenN ?_
  refine CX.seq ?_
  refine CX.region ?_
  refine LX.pure (Y.assign rfl) rfl rfl rfl ?_
  refine LX.sub (l' := [(0, _), (2, _), (3, _), (4, _)]) ⟨rfl, rfl, rfl, rfl, trivial⟩ ?_
  refine LX.next ?_
  refine PX.thenN ?_
  refine CX.seq ?_
  refine CX.seq ?_
  refine CX.region ?_
  refine LX.pure (Y.assign rfl) rfl rfl rfl ?_
  refine LX.sub (l' := [(0, _), (2, _), (3, _), (4, _), (5, _)]) ⟨rfl, rfl, rfl, rfl, rfl, trivial⟩ ?_
  refine LX.next ?_
  refine PX.thenN ?_
  refine CX.block ?_
  refine CX.loop (fun z : List (List UInt8) × (Option Nat × Nat) × St => [(0, .pointer (some ⟨bw, 0, none⟩)), (3, .int .i64 (n : Int)), (4, rv z.2.1.1 z.1.length z.2.1.2), (5, .int .i64 (z.1.length : Int))]) (fun (z : List (List UInt8) × (Option Nat × Nat) × St) w => (z.1.length ≤ n ∧ (z.2.2.e = none → z.2.2.at_ ≤ b.length) ∧ Go.By.Left (rText b) ((s.run (rCount b)).bind fun k => rMany (rText b) k.1 k.2) z.1 (n - z.1.length) z.2.2) ∧ WA w0 base (blk bw (rdR ab b.length cb z.2.2) 171 :: .row z.2.1.1 z.2.1.2 z.1.length 9 1 (z.1.map str) :: fr) w) (fun z => n - z.1.length) ([], (none, 0), s1) ⟨rfl, rfl, rfl, rfl, trivial⟩ (fun w hw => ⟨⟨Nat.zero_le _, hle, Go.By.Left.from hres⟩, (hw.nilRow 9 1).perm (.swap _ _ _)⟩) ?_
  rintro ⟨xs, q, s2⟩
  refine CX.have fun ⟨hxn, hle2, hL⟩ => ?_
  replace hxn : xs.length ≤ n := hxn
  replace hle2 : s2.e = none → s2.at_ ≤ b.length := hle2
  replace hL : Go.By.Left (rText b) ((s.run (rCount b)).bind fun k => rMany (rText b) k.1 k.2) xs (n - xs.length) s2 := hL
  try dsimp only
  refine CX.seq ?_
  refine CX.seq ?_
  refine CX.region ?_
  refine LX.pure (Y.move rfl) rfl rfl rfl ?_
  refine LX.pure (Y.move rfl) rfl rfl rfl ?_
  refine LX.pure (Y.ltN rfl rfl) rfl rfl rfl ?_
  refine LX.pure (Y.move rfl) rfl rfl rfl ?_
  refine LX.sub (l' := [(0, _), (3, _), (4, _), (5, _), (11, _)]) ⟨rfl, rfl, rfl, rfl, rfl, trivial⟩ ?_
  apply LX.joinAnd 3 14 11 rfl
  · intro hb1
    have hb1p := hb1
    try simp at hb1p
    refine LX.gT rfl rfl rfl hb1 (Y.move rfl) rfl rfl ?_
    refine LX.callT rfl rfl rfl hb1 (gOk_c s2) Ht.en90 rfl rfl rfl rfl ?_
    intro _
    refine LX.pure (Y.pickT rfl hb1 rfl) rfl rfl rfl ?_
    exact LX.leftP ⟨rfl, rfl, rfl, rfl, rfl, rfl, trivial⟩
  · intro hb1
    have hb1p := hb1
    try simp at hb1p
    refine LX.gF rfl rfl rfl hb1 rfl rfl ?_
    refine LX.gF rfl rfl rfl hb1 rfl rfl ?_
    refine LX.pure (Y.pickF rfl hb1 rfl) rfl rfl rfl ?_
    exact LX.left ⟨rfl, rfl, rfl, rfl, rfl, rfl, trivial⟩
  refine LX.sub (l' := [(0, _), (3, _), (4, _), (5, _), (14, _)]) ⟨rfl, rfl, rfl, rfl, rfl, trivial⟩ ?_
  refine LX.next ?_
  refine PX.thenN ?_
  refine CX.cond rfl (fun hb2 => ?_) (fun hb2 => ?_)
  · try simp at hb2
    obtain ⟨hxl, hnn⟩ : xs.length < n ∧ s2.e = none := by assumption
    obtain ⟨a1, e1⟩ := s2
    obtain rfl : e1 = none := hnn
    try dsimp only
    refine CX.skip ?_
    refine PX.thenN ?_
    refine CX.seq ?_
    refine CX.block ?_
    refine CX.region ?_
    refine LX.pure (Y.move rfl) rfl rfl rfl ?_
    refine LX.pure (Y.move rfl) rfl rfl rfl ?_
    refine LX.call (gTextR_c hb hbn hcb ⟨a1, none⟩ hle2) Hu.en94 rfl rfl rfl rfl rfl ?_
    rintro ⟨x, s3⟩
    refine LX.have fun ⟨hr3, hle3, hx3⟩ => ?_
    refine LX.buildSlice (e := 9) (size := 1) rfl rfl (fun _ => by kernel_rfl) rfl (by decide) rfl rfl rfl ?_
    intro gt17
    refine LX.appendT 1 Fjb.el26 rfl rfl rfl rfl rfl rfl rfl (by omega) (by omega) rfl rfl rfl ?_
    intro g' cap'
    rw [show xs.length + 1 = (xs ++ [x]).length by simp]
    refine LX.world (W' := WA w0 base (blk bw (rdR ab b.length cb s3) 171 :: .row (g', cap').1 (g', cap').2 (xs ++ [x]).length 9 1 ((xs ++ [x]).map str) :: fr)) (fun w hw => ?_) ?_
    · show WA w0 base (blk bw (rdR ab b.length cb s3) 171 :: .row g' cap' (xs ++ [x]).length 9 1 ((xs ++ [x]).map str) :: fr) w
      rw [List.map_append]; exact hw
    refine LX.pure (Y.assign rfl) rfl rfl rfl ?_
    refine LX.sub (l' := [(0, _), (3, _), (4, _), (5, _)]) ⟨rfl, rfl, rfl, rfl, trivial⟩ ?_
    refine LX.next ?_
    refine PX.blockN ?_
    refine PX.thenN ?_
    refine CX.region ?_
    refine LX.pure (Y.move rfl) rfl rfl rfl ?_
    refine LX.pure (Y.addN rfl rfl (by (simp only []; omega))) rfl rfl rfl ?_
    refine LX.pure (Y.assign rfl) rfl rfl rfl ?_
    refine LX.sub (l' := [(0, _), (3, _), (4, _), (5, _)]) ⟨rfl, rfl, rfl, rfl, trivial⟩ ?_
    refine LX.next ?_
    exact PX.again (L := (fun z : List (List UInt8) × (Option Nat × Nat) × St => [(0, .pointer (some ⟨bw, 0, none⟩)), (3, .int .i64 (n : Int)), (4, rv z.2.1.1 z.1.length z.2.1.2), (5, .int .i64 (z.1.length : Int))])) (WW := (fun (z : List (List UInt8) × (Option Nat × Nat) × St) w => (z.1.length ≤ n ∧ (z.2.2.e = none → z.2.2.at_ ≤ b.length) ∧ Go.By.Left (rText b) ((s.run (rCount b)).bind fun k => rMany (rText b) k.1 k.2) z.1 (n - z.1.length) z.2.2) ∧ WA w0 base (blk bw (rdR ab b.length cb z.2.2) 171 :: .row z.2.1.1 z.2.1.2 z.1.length 9 1 (z.1.map str) :: fr) w)) (μ := fun z => n - z.1.length) (i := (xs, q, ⟨a1, none⟩)) (xs ++ [x], (g', cap'), s3) (by show n - (xs ++ [x]).length < n - xs.length; rw [List.length_append, List.length_singleton]; omega) ⟨rfl, rfl, rfl, by show get _ 5 = some (.int .i64 ((xs ++ [x]).length : Int)); rw [List.length_append, List.length_singleton]; rfl, trivial⟩ (fun w hw => ⟨⟨by show (xs ++ [x]).length ≤ n; rw [List.length_append, List.length_singleton]; omega, hle3, by show Go.By.Left _ _ (xs ++ [x]) (n - (xs ++ [x]).length) s3; rw [List.length_append, List.length_singleton]; rw [show n - xs.length = (n - (xs.length + 1)) + 1 by omega] at hL; exact hL.next hr3⟩, hw⟩)
  · try simp at hb2
    have hzz : s2.e = none → n - xs.length = 0 := fun he => by
      have h3 : ¬(xs.length < n ∧ s2.e = none) := by (intro h; obtain ⟨h1, h2⟩ := h; exact hb2 h1 h2)
      exact Nat.sub_eq_zero_of_le (Nat.le_of_not_lt fun h => h3 ⟨h, he⟩)
    refine CX.exit ?_
    refine PX.thenE ?_
    refine PX.thenE ?_
    refine PX.blockE ?_
    refine PX.thenN ?_
    refine CX.seq ?_
    refine CX.region ?_
    refine LX.pure (Y.move rfl) rfl rfl rfl ?_
    refine LX.pure (Y.assign rfl) rfl rfl rfl ?_
    refine LX.sub (l' := [(2, _)]) ⟨rfl, trivial⟩ ?_
    refine LX.next ?_
    refine PX.thenN ?_
    refine CX.ret ?_
    refine PX.ret1 (by simp) Tryz.results95 rfl ?_
    exact fun w hw => ⟨((q, xs), s2), rfl, ⟨by show Res (s.run fun a => (rCount b a).bind fun k => rMany (rText b) k.1 k.2) xs s2; rw [St.run_bind]; exact hL.out hzz, hle2, by show xs.length ≤ 1048576; omega⟩, hw⟩
end Go.Proofs.YtgijpgkckiknjaaGreatDoor
