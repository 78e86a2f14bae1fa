/-
  Proved here: texts are written.
-/
import Derived.Test.YtgijpgkckiknjaaGreatDoorByT
import Derived.Test.YtgijpgkckiknjaaGreatDoorByZ
namespace Go.Proofs.YtgijpgkckiknjaaGreatDoor
open Go.SX Go.RowKit Go.Ck Go.Lex Go.By
namespace Gc
theorem en75 : Enters Tryz.prog 75 := Enters.of Tryz.func75 (by kernel_rfl) (by kernel_rfl)
theorem inf8_ : (Tryz.prog.info? 5).map (fun i => (i.zero, i.size, i.bytes)) = some (some (.int .u8 0), 1, 1) := by kernel_rfl
theorem inf8 : ∃ inf, Tryz.prog.info? 5 = some inf ∧ inf.zero = some (.int .u8 0) ∧ inf.size = 1 ∧ inf.bytes = 1 := by
  have h := inf8_
  cases hi : Tryz.prog.info? 5 with
  | none => rw [hi] at h; cases h
  | some i =>
    rw [hi] at h
    simp only [Option.map_some, Option.some.injEq, Prod.mk.injEq] at h
    exact ⟨i, rfl, h.1, h.2.1, h.2.2⟩
end Gc
theorem len_inI {n : Nat} (h : n ≤ 1048576) : inI (n : Int) := by unfold inI; omega
theorem one_num (n : Int) : [n].flatMap num = num n := by simp
theorem num_len2 {n : Nat} (h : n ≤ 1048576) : (num (n : Int)).length ≤ 10 := num_len (len_inI h)
theorem map_app (bs s : List UInt8) : bs.map b8 ++ s.map b8 = (bs ++ s).map b8 := by rw [List.map_append]
theorem wText_c {w0 : World} {base : Nat} {fr : List It} {bw : Nat} {bs s : List UInt8} (hb : bs.length ≤ 100000000) (hs : s.length ≤ 1048576) (q : Option Nat × Nat) : FnC Tryz.prog 76 #[.pointer (some ⟨bw, 0, none⟩), str s] (WA w0 base (blk bw [rv q.1 bs.length q.2] 153 :: .row q.1 q.2 bs.length 5 1 (bs.map b8) :: fr)) (fun _ : Option Nat × Nat => .tuple #[]) (fun q => WA w0 base (blk bw [rv q.1 (bs ++ txt s).length q.2] 153 :: .row q.1 q.2 (bs ++ txt s).length 5 1 ((bs ++ txt s).map b8) :: fr)) := by
  refine FnC.of_body (fn := Tryz.f76) [(0, _), (1, _)] Tryz.func76 rfl Tryz.ntmps76 rfl ⟨rfl, rfl, trivial⟩ ?_
  refine CX.seq ?_
  refine CX.region ?_
  refine LX.pure (Y.move rfl) rfl rfl rfl ?_
  refine LX.pure (Y.move rfl) rfl rfl rfl ?_
  refine LX.pure (Y.lenStr rfl Fj.un9 rfl) rfl rfl rfl ?_
  refine LX.buildSlice (e := 3) (size := 1) rfl rfl (fun _ => by kernel_rfl) rfl (by decide) rfl rfl rfl ?_
  intro gt3
  refine LX.call (wNum_c (ns := [(s.length : Int)]) (fun n hn => by cases List.mem_singleton.1 hn; exact len_inI hs) (by omega) (by simp) q) Gc.en75 rfl rfl rfl rfl rfl ?_
  intro q
  rw [one_num]
  have hnl := num_len2 hs
  refine LX.world (fun w hw => hw.drop (List.sublist_cons_self _ _)) ?_
  refine LX.sub (l' := [(0, _), (1, _)]) ⟨rfl, rfl, trivial⟩ ?_
  refine LX.next ?_
  refine PX.thenN ?_
  refine CX.region ?_
  refine LX.pure (Y.move rfl) rfl rfl rfl ?_
  refine LX.pure (Y.move rfl) rfl rfl rfl ?_
  refine LX.pure (Y.nilCheck rfl) rfl rfl rfl ?_
  refine LX.pure (Y.fieldAddr0 Gb.fo153_0 rfl) rfl rfl rfl ?_
  refine LX.pure (Y.ldB 0 Gb.one79 rfl rfl rfl) rfl rfl rfl ?_
  refine LX.pure (Y.move rfl) rfl rfl rfl ?_
  obtain ⟨inf8, hi1, hi2, hi3, hi4⟩ := Gc.inf8
  refine LX.appendS 1 Gb.un79 Fj.un9 hi1 hi2 hi3 hi4 rfl rfl rfl rfl rfl (by simp only [List.length_append]; omega) rfl rfl rfl ?_
  intro g' cap'
  refine LX.pure (Y.nilCheck rfl) rfl rfl rfl ?_
  refine LX.pure (Y.fieldAddr0 Gb.fo153_0 rfl) rfl rfl rfl ?_
  refine LX.storeB 0 Gb.sz79 rfl rfl rfl rfl rfl rfl rfl rfl ?_
  refine LX.sub (l' := []) trivial ?_
  refine LX.next ?_
  refine PX.ret0 (by simp) Tryz.results76 ?_
  exact fun w hw => ⟨(g', cap'), rfl, by have h1 := hw; rw [show bs ++ txt s = (bs ++ num s.length) ++ s by unfold txt; rw [List.append_assoc], ← map_app, List.length_append (bs := s)]; exact h1⟩
end Go.Proofs.YtgijpgkckiknjaaGreatDoor
