/-
  Proved here: copies of lists of nodes.
-/
import Derived.Test.YtgijpgkckiknjaaGreatDoorByM
import Derived.Test.YtgijpgkckiknjaaGreatDoorCpP
namespace Go.Proofs.YtgijpgkckiknjaaGreatDoor
open Go.SX Go.RowKit Go.Ck Go.Lex
namespace Fjd
theorem en122 : Enters Tryz.prog 122 := Enters.of Tryz.func122 (by kernel_rfl) (by kernel_rfl)
theorem el22 : Elem Tryz.prog 22 44 5 64 := Elem.of Fj.un22 (z := .agg #[.int .i64 0, .int .i64 0, .int .i64 0, .string ⟨#[]⟩, .slice none 0 0]) (by kernel_rfl) rfl
end Fjd
open Go.Tr (ndA)
theorem cNodes_c {w0 : World} {base : Nat} {fr : List It} {al : Option Addr} (cl : Nat) {l : List Nd} (hln : l.length ≤ 1048576) (hl : SlAt 5 ndA (Lies w0 base) al l) (hkb : ∀ x ∈ l, x.kids.length ≤ 1048576) : FnC Tryz.prog 58 #[.slice al l.length cl] (WA w0 base fr) (fun s : (Option Nat × Nat) × List Value × List It => rv s.1.1 l.length s.1.2) (fun s w => NdsF w0 base s.2.2 s.2.1 l ∧ WA w0 base (.row s.1.1 s.1.2 l.length 44 5 s.2.1 :: (s.2.2 ++ fr)) w) := by
  refine FnC.of_body (fn := Tryz.f58) [(0, _)] Tryz.func58 rfl Tryz.ntmps58 rfl ⟨rfl, trivial⟩ ?_
  refine CX.seq ?_
  refine CX.region ?_
  refine LX.pure (Y.assign rfl) rfl rfl rfl ?_
  refine LX.sub (l' := [(0, _), (2, _)]) ⟨rfl, rfl, trivial⟩ ?_
  refine LX.next ?_
  refine PX.thenN ?_
  refine CX.seq ?_
  refine CX.region ?_
  refine LX.pure (Y.move rfl) rfl rfl rfl ?_
  refine LX.pure (Y.lenSl rfl Fj.un22 rfl) rfl rfl rfl ?_
  refine LX.make0 (c := l.length) Fjd.el22 rfl rfl rfl (by omega) (by omega) rfl rfl rfl ?_
  intro gm
  refine LX.pure (Y.assign rfl) rfl rfl rfl ?_
  refine LX.sub (l' := [(0, _), (2, _), (3, _)]) ⟨rfl, rfl, rfl, trivial⟩ ?_
  refine LX.next ?_
  refine PX.thenN ?_
  refine CX.seq ?_
  refine CX.seq ?_
  refine CX.region ?_
  refine LX.pure (Y.assign rfl) rfl rfl rfl ?_
  refine LX.sub (l' := [(0, _), (2, _), (3, _), (4, _)]) ⟨rfl, rfl, rfl, rfl, trivial⟩ ?_
  refine LX.next ?_
  refine PX.thenN ?_
  refine CX.block ?_
  refine CX.loop (fun s : Nat × (Option Nat × Nat) × List Value × List It => [(0, .slice al l.length cl), (3, rv s.2.1.1 s.1 s.2.1.2), (4, .int .i64 (s.1 : Int))]) (fun (s : Nat × (Option Nat × Nat) × List Value × List It) w => (s.1 ≤ l.length ∧ NdsF w0 base s.2.2.2 s.2.2.1 (l.take s.1)) ∧ WA w0 base (.row s.2.1.1 s.2.1.2 s.1 44 5 s.2.2.1 :: (s.2.2.2 ++ fr)) w) (fun s => l.length - s.1) (0, (some gm, l.length), [], []) ⟨rfl, rfl, rfl, trivial⟩ (fun w hw => ⟨⟨Nat.zero_le _, rfl, fun i x hx => by cases hx⟩, hw⟩) ?_
  rintro ⟨j, ⟨g, cap⟩, cells, rs⟩
  refine CX.have fun ⟨hj0, hnf⟩ => ?_
  try dsimp only at hj0 hnf ⊢
  refine CX.seq ?_
  refine CX.seq ?_
  refine CX.region ?_
  refine LX.pure (Y.move rfl) rfl rfl rfl ?_
  refine LX.pure (Y.move rfl) rfl rfl rfl ?_
  refine LX.pure (Y.lenSl rfl Fj.un22 rfl) rfl rfl rfl ?_
  refine LX.pure (Y.ltN rfl rfl) rfl rfl rfl ?_
  refine LX.sub (l' := [(0, _), (3, _), (4, _), (11, _)]) ⟨rfl, rfl, rfl, rfl, trivial⟩ ?_
  refine LX.next ?_
  refine PX.thenN ?_
  refine CX.cond rfl (fun hb1 => ?_) (fun hb1 => ?_)
  · try simp at hb1
    have hj : j < l.length := by omega
    obtain ⟨x, hx⟩ : ∃ x, l[j]? = some x := ⟨_, List.getElem?_eq_getElem hj⟩
    obtain ⟨a, cs, hav, hcl, hL, vk, rfl, hks, hin⟩ := hl j x hx
    have hkx := hkb x (List.mem_of_getElem? hx)
    have hki : ∀ z ∈ x.kids, inI z := by
      obtain ⟨_, _, _, _, hka⟩ := hks.sl
      exact kids_in hka
    have htj : l.take (j + 1) = l.take j ++ [x] := by rw [List.take_add_one, hx]; rfl
    refine CX.skip ?_
    refine PX.thenN ?_
    refine CX.seq ?_
    refine CX.block ?_
    refine CX.region ?_
    refine LX.pure (Y.move rfl) rfl rfl rfl ?_
    refine LX.pure (Y.move rfl) rfl rfl rfl ?_
    refine LX.pure (Y.move rfl) rfl rfl rfl ?_
    refine LX.pure (Y.idxZ Fj.un22 Fj.sz44 rfl rfl hav (j := j) rfl hj) rfl rfl rfl ?_
    refine LX.pure (Y.ldAO (cs := [.int .i64 x.op, .int .i64 x.n, .int .i64 x.pos, str x.s, vk]) Fjc.ag44 rfl hL rfl) rfl rfl rfl ?_
    refine LX.call (cNode_c (x := x) ⟨vk, rfl, hks, hin⟩ hkx) Fjd.en122 rfl rfl rfl rfl rfl ?_
    intro sk
    refine LX.buildSlice (e := 44) (size := 5) rfl rfl (fun _ => by kernel_rfl) rfl (by decide) rfl rfl rfl ?_
    intro gt20
    refine LX.appendRows 2 0 Fjd.el22 rfl rfl rfl rfl rfl rfl rfl (by omega) (by omega) rfl rfl rfl ?_
    intro g2 cap2
    refine LX.pure (Y.assign rfl) rfl rfl rfl ?_
    refine LX.sub (l' := [(0, _), (3, _), (4, _)]) ⟨rfl, rfl, rfl, trivial⟩ ?_
    refine LX.next ?_
    refine PX.blockN ?_
    refine PX.thenN ?_
    refine CX.region ?_
    refine LX.pure (Y.move rfl) rfl rfl rfl ?_
    refine LX.pure (Y.addN rfl rfl (by (simp only []; omega))) rfl rfl rfl ?_
    refine LX.pure (Y.assign rfl) rfl rfl rfl ?_
    refine LX.sub (l' := [(0, _), (3, _), (4, _)]) ⟨rfl, rfl, rfl, trivial⟩ ?_
    refine LX.next ?_
    exact PX.again (L := (fun s : Nat × (Option Nat × Nat) × List Value × List It => [(0, .slice al l.length cl), (3, rv s.2.1.1 s.1 s.2.1.2), (4, .int .i64 (s.1 : Int))])) (WW := (fun (s : Nat × (Option Nat × Nat) × List Value × List It) w => (s.1 ≤ l.length ∧ NdsF w0 base s.2.2.2 s.2.2.1 (l.take s.1)) ∧ WA w0 base (.row s.2.1.1 s.2.1.2 s.1 44 5 s.2.2.1 :: (s.2.2.2 ++ fr)) w)) (μ := fun s => l.length - s.1) (i := (j, (g, cap), cells, rs)) (j + 1, (g2, cap2), cells ++ [.int .i64 x.op, .int .i64 x.n, .int .i64 x.pos, str x.s, rv sk.1 x.kids.length sk.2], .row sk.1 sk.2 x.kids.length 3 1 (x.kids.map iv) :: rs) (by show l.length - (j + 1) < l.length - j; omega) ⟨rfl, rfl, rfl, trivial⟩ (fun w hw => ⟨⟨by show j + 1 ≤ l.length; omega, by show NdsF w0 base (_ :: rs) (cells ++ _) (l.take (j + 1)); rw [htj]; exact hnf.next rfl ⟨_, rfl, kids_A (i := 1) hw rfl hki (List.mem_cons_self ..) (by omega), hin⟩⟩, (hw.drop (List.sublist_cons_self _ _) : WA w0 base (_ :: _ :: (rs ++ fr)) w).perm (.swap _ _ _)⟩)
  · try simp at hb1
    have hje : j = l.length := by omega
    subst hje
    rw [List.take_length] at hnf
    refine CX.exit ?_
    refine PX.thenE ?_
    refine PX.thenE ?_
    refine PX.blockE ?_
    refine PX.thenN ?_
    refine CX.seq ?_
    refine CX.region ?_
    refine LX.pure (Y.move rfl) rfl rfl rfl ?_
    refine LX.pure (Y.assign rfl) rfl rfl rfl ?_
    refine LX.sub (l' := [(2, _)]) ⟨rfl, trivial⟩ ?_
    refine LX.next ?_
    refine PX.thenN ?_
    refine CX.ret ?_
    refine PX.ret1 (by simp) Tryz.results58 rfl ?_
    exact fun w hw => ⟨((g, cap), cells, rs), rfl, hnf, hw⟩
end Go.Proofs.YtgijpgkckiknjaaGreatDoor
