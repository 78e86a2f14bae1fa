/-
  Proved here: a node's value; nodes copied.
-/
import Derived.Test.YtickdimknfeddaaGreatDoorKyN
import Derived.Test.YtickdimknfeddaaGreatDoorCpN
import Derived.Test.YtickdimknfeddaaGreatDoorTrF
set_option linter.unusedSimpArgs false
namespace Go.Proofs.YtickdimknfeddaaGreatDoor
open Go.SX Go.RowKit Go.Vo Go.Ky Go.Proofs.YtickdimknfeddaaGreatDoor.Env Go.Tr
namespace Kta
theorem el22 : Elem Tryz.prog 22 53 5 64 := Elem.of Kq.un22 (z := .agg #[.int .i64 0, .int .i64 0, .int .i64 0, .string ⟨#[]⟩, .slice none 0 0]) (by kernel_rfl) rfl
end Kta
theorem of_c {aE : Nat → Addr} {al : Option Addr} {cl : Nat} {l : List Nd} (hG : Go.Ky.Good l) (hB : ∀ (k : Nat) x, l[k]? = some x → x.kids.length ≤ 300 ∧ x.s.length ≤ 300) (i : Nat) (hi : i < l.length) : ∀ {w0 : World} {base : Nat} (_hE : EnvK w0 base aE) (_hl : SlAt 5 ndA (Lies w0 base) al l), FnC Tryz.prog 24 #[.slice al l.length cl, .int .i64 (i : Int)] (WA w0 base []) (fun q : Value × Option (TypeId × Value) × List It => .tuple #[q.1, eV q.2.1]) (fun q w => Pv q.2.1 q.1 q.2.2 ∧ WA w0 base q.2.2 w) := by
  induction i using Nat.strongRecOn with
  | _ i ih =>
    intro w0 base hE hl
    exact of_s hE hG hB hl hi (fun k hk w0 base hE hl => ih k hk (by omega) hE hl)
theorem valid_w {W : World → Prop} [Stab W] {al : Option Addr} (n cl : Nat) {l : List Nd} (hn : n = l.length) (hl : ∀ w, W w → SlAt 5 ndA (Lies w w.heap.size) al l) (hln : l.length ≤ 1048576) (hkb : ∀ (k : Nat) (x : Nd), l[k]? = some x → x.kids.length ≤ 1048576) (hsb : ∀ (k : Nat) (x : Nd), l[k]? = some x → x.s.length ≤ 9223372036854775807) {eS : Value} (hE : ∀ w, W w → Go.Tr.EnvV w w.heap.size 0 eS) :
    FnC Tryz.prog 23 #[.slice al n cl] W (fun q : Option (TypeId × Value) => eV q) (fun q w => (q = none → Go.Tr.valid l Go.Lex.nameB = none) ∧ W w) := by
  subst hn
  refine FnC.reO fun w hw w1 h1 => (valid_c cl (hl w hw) hln hkb hsb (hE w hw) w1 h1).mono fun e w2 ⟨b, he, h2⟩ => ?_
  cases hv : Go.Tr.valid l Go.Lex.nameB with
  | none => rw [hv] at he; exact ⟨none, he, fun _ => rfl, h2.drop (List.nil_sublist _)⟩
  | some i => rw [hv] at he; exact ⟨some (91, .pointer (some ⟨b, 0, none⟩)), he, (fun h => by cases h), h2.drop (List.nil_sublist _)⟩
theorem cloneN_c {w0 : World} {base : Nat} {al : Option Addr} (cl : Nat) {l : List Nd} (hl : SlAt 5 ndA (Lies w0 base) al l) (h0 : 0 < l.length) (h3 : l.length ≤ 300) : FnC Tryz.prog 22 #[.slice al l.length cl] (WA w0 base []) (fun q : Option Nat × Nat × List Value => rv q.1 l.length q.2.1) (fun q w => Go.Ck.NdsF w0 base [] q.2.2 l ∧ WA w0 base [.row q.1 q.2.1 l.length 53 5 q.2.2] w) := by
  obtain ⟨x0, hx0⟩ : ∃ x, l[0]? = some x := ⟨_, List.getElem?_eq_getElem h0⟩
  obtain ⟨a, cs0, rfl, _⟩ := hl 0 x0 hx0
  obtain ⟨cells, hn, h1, hc⟩ := cells_of hl
  refine FnC.of_body (fn := Tryz.f22) [(0, _)] Tryz.func22 rfl Tryz.ntmps22 rfl ⟨rfl, trivial⟩ ?_
  refine CX.seq <| CX.region <| LX.pure (Y.assign rfl) rfl rfl rfl <| LX.sub (l' := [(0, _), (2, _)]) ⟨rfl, rfl, trivial⟩ <| LX.next <| PX.thenN <| CX.seq <| CX.seq <| CX.region <| LX.pure (Y.move rfl) rfl rfl rfl <| LX.pure (Y.eqSlNil Kq.un22 rfl) rfl rfl rfl <| LX.sub (l' := [(0, _), (2, _), (4, _)]) ⟨rfl, rfl, rfl, trivial⟩ <| LX.next <| PX.thenN ?_
  refine CX.cond rfl (fun hb1 => ?_) (fun hb1 => ?_)
  · try simp at hb1
    done
  try simp at hb1
  refine CX.skip <| PX.thenN <| CX.seq <| CX.region <| LX.buildSlice (e := 53) (size := 5) rfl rfl (fun _ => by kernel_rfl) rfl (by decide) rfl rfl rfl ?_
  intro gt3
  refine LX.pure (Y.move rfl) rfl rfl rfl ?_
  refine LX.append0 0 (k := 0) (a := a) (news := cells) Kta.el22 rfl rfl rfl rfl rfl hn.1 (fun w hW q u hu => by
    obtain ⟨h5, h6⟩ := hc q u hu
    exact hW.old (by rw [add_block]; exact h5) h6) h1 (by omega) (by omega) rfl rfl rfl ?_
  intro g' cap'
  rw [Nat.zero_add]
  refine LX.pure (Y.assign rfl) rfl rfl rfl <| LX.sub (l' := [(2, _)]) ⟨rfl, trivial⟩ <| LX.next <| PX.thenN <| CX.ret <| PX.ret1 (by simp) Tryz.results22 rfl ?_
  exact fun w hw => ⟨(g', cap', cells), rfl, hn, hw⟩
end Go.Proofs.YtickdimknfeddaaGreatDoor

namespace Go.Proofs.YtickdimknfeddaaGreatDoor
open Go.SX Go.RowKit Go.Vo Go.Ky Go.Proofs.YtickdimknfeddaaGreatDoor.Env Go.Tr
namespace Ktb
theorem en22 : Enters Tryz.prog 22 := Enters.of Tryz.func22 (by kernel_rfl) (by kernel_rfl)
theorem en23 : Enters Tryz.prog 23 := Enters.of Tryz.func23 (by kernel_rfl) (by kernel_rfl)
end Ktb
theorem tail_at {l : List Nd} {n : Nat} (h3 : l.length ≤ 300) (hB : ∀ (k : Nat) x, l[k]? = some x → x.kids.length ≤ n ∧ x.s.length ≤ n) (hn : 1 ≤ n) : ∀ (k : Nat) x, (tailN l)[k]? = some x → x.kids.length ≤ n ∧ x.s.length ≤ n := fun k x hx => by
  rcases Nat.lt_or_ge k l.length with hk | hk
  · rw [List.getElem?_append_left hk] at hx
    exact hB k x hx
  rw [List.getElem?_append_right hk] at hx
  match k - l.length, hx with
  | 0, hx => cases hx; exact ⟨hn, Nat.zero_le _⟩
  | 1, hx => cases hx; exact ⟨hn, Nat.zero_le _⟩
  | j + 2, hx => simp at hx
theorem Of_c {w0 : World} {base : Nat} {aE : Nat → Addr} (hE : EnvK w0 base aE) {al : Option Addr} (cl : Nat) {l : List Nd} (h0 : 0 < l.length) (h3 : l.length ≤ 300) (hB : ∀ (k : Nat) x, l[k]? = some x → x.kids.length ≤ 300 ∧ x.s.length ≤ 300) (hl : SlAt 5 ndA (Lies w0 base) al l) : FnC Tryz.prog 8 #[.slice al l.length cl] (WA w0 base []) (fun q : Value × Option (TypeId × Value) × List It => .tuple #[q.1, eV q.2.1]) (fun q w => Pv q.2.1 q.1 q.2.2 ∧ WA w0 base q.2.2 w) := by
  have hE2 := hE.s
  have hS := hE.s
  refine FnC.of_body (fn := Tryz.f8) [(0, _)] Tryz.func8 rfl Tryz.ntmps8 rfl ⟨rfl, trivial⟩ ?_
  refine CX.seq <| CX.region <| LX.pure (Y.assign rfl) rfl rfl rfl <| LX.pure (Y.assign rfl) rfl rfl rfl <| LX.sub (l' := [(0, _), (2, _), (3, _)]) ⟨rfl, rfl, rfl, trivial⟩ <| LX.next <| PX.thenN <| CX.seq <| CX.region <| LX.pure (Y.move rfl) rfl rfl rfl <| LX.pure (Y.lenSl rfl Kq.un22 rfl) rfl rfl rfl <| LX.pure (Y.assign rfl) rfl rfl rfl <| LX.sub (l' := [(0, _), (2, _), (3, _), (4, _)]) ⟨rfl, rfl, rfl, rfl, trivial⟩ <| LX.next <| PX.thenN <| CX.seq <| CX.region <| LX.pure (Y.move rfl) rfl rfl rfl <| LX.call (cloneN_c cl hl h0 h3) Ktb.en22 rfl rfl rfl rfl rfl ?_
  rintro ⟨g, c, cells⟩
  refine LX.have fun hnf => ?_
  try dsimp only at hnf ⊢
  refine LX.pure (Y.move rfl) rfl rfl rfl <| LX.pure (Y.sub rfl rfl (by omega)) rfl rfl rfl <| LX.buildSlice (e := 3) (size := 1) rfl rfl (fun _ => by kernel_rfl) rfl (by decide) rfl rfl rfl ?_
  intro gt12
  refine LX.pure (Y.build (v := .agg #[.int .i64 35, .int .i64 0, .int .i64 0, str [], .slice (some ⟨gt12, 0, none⟩) 1 1]) rfl (fun _ => by kernel_rfl)) rfl rfl rfl <| LX.pure (Y.move rfl) rfl rfl rfl <| LX.buildSlice (e := 3) (size := 1) rfl rfl (fun _ => by kernel_rfl) rfl (by decide) rfl rfl rfl ?_
  intro gt15
  refine LX.pure (Y.build (v := .agg #[.int .i64 47, .int .i64 0, .int .i64 0, str [], .slice (some ⟨gt15, 0, none⟩) 1 1]) rfl (fun _ => by kernel_rfl)) rfl rfl rfl <| LX.buildSlice (e := 53) (size := 5) rfl rfl (fun _ => by kernel_rfl) rfl (by decide) rfl rfl rfl ?_
  intro gt17
  refine LX.appendRows 3 0 Kta.el22 rfl rfl rfl rfl rfl rfl rfl (by omega) (by omega) rfl rfl rfl ?_
  intro g2 cap2
  refine LX.pure (Y.assign rfl) rfl rfl rfl <| LX.sub (l' := [(0, _), (2, _), (3, _), (4, _), (5, _)]) ⟨rfl, rfl, rfl, rfl, rfl, trivial⟩ <| LX.next <| PX.thenN <| CX.seq <| CX.seq <| CX.region <| LX.pure (Y.move rfl) rfl rfl rfl <| LX.call (valid_w (l.length + 2) cap2 (l := tailN l) (by simp) (fun w hw => nds_tail (l := l) (cells := cells) (rs := []) (i := 2) (j := 1) (c1 := 1) (c2 := 1) hw hnf (by omega) (fun it h => by cases h) rfl rfl (List.mem_of_getElem? (i := 3) rfl)) (by simp; omega) (fun k x hx => by have := tail_at h3 hB (by omega) k x hx; omega) (fun k x hx => by have := tail_at h3 hB (by omega) k x hx; omega) (eS := Env.errV (aE 12)) (fun w hw => ⟨(hE.push hw).s.at_ 12 0 rfl, (hE.push hw).s.lt 0 (by decide), rfl⟩)) Ktb.en23 rfl rfl rfl rfl rfl ?_
  intro q5
  refine LX.have fun hv5 => LX.pure (Y.neE Kd.un28 rfl) rfl rfl rfl <| LX.sub (l' := [(0, _), (2, _), (3, _), (4, _), (21, _)]) ⟨rfl, rfl, rfl, rfl, rfl, trivial⟩ <| LX.next <| PX.thenN ?_
  refine CX.cond rfl (fun hb1 => ?_) (fun hb1 => ?_)
  · try simp at hb1
    obtain ⟨e5, rfl⟩ := Option.isSome_iff_exists.1 hb1
    refine CX.seq <| CX.regionQ rfl (by kernel_rfl) <| LX.pure (Y.ldO Kc.one28 rfl (hS.at_ 12 0 rfl) (hS.lt 0 (by decide))) rfl rfl rfl <| LX.pure (Y.assign rfl) rfl rfl rfl <| LX.pure (Y.assign rfl) rfl rfl rfl <| LX.sub (l' := [(0, _), (2, _), (3, _), (4, _)]) ⟨rfl, rfl, rfl, rfl, trivial⟩ <| LX.nextQ <| PX.thenN <| CX.ret <| PX.thenR <| PX.ret2 (by simp) Tryz.results8 rfl rfl ?_
    exact fun w hw => ⟨(.nilIface, some (247, .pointer (some (aE 12))), []), rfl, Pv.bad, hw.drop (List.nil_sublist _)⟩
  try simp at hb1
  have hq5 : q5 = none := by exact hb1
  refine CX.skip <| PX.thenN <| CX.seq <| CX.region <| LX.pure (Y.move rfl) rfl rfl rfl <| LX.pure (Y.move rfl) rfl rfl rfl <| LX.pure (show Y _ _ _ _ _ (.int .i64 ((l.length - 1 : Nat) : Int)) from by rw [show ((l.length - 1 : Nat) : Int) = (l.length : Int) - 1 by omega]; exact Y.sub rfl rfl (by omega)) rfl rfl rfl <| LX.call (onto_c (R := fun q : Value × Option (TypeId × Value) × List It => Pv q.2.1 q.1 q.2.2) (new := fun q => q.2.2) (fun w hw => of_c (valid_good (hv5 hq5)) hB (l.length - 1) (by omega) (hE.push hw) (hl.push hw))) Kr_.en24 rfl rfl rfl rfl rfl ?_
  rintro ⟨v4, q4, d4⟩
  refine LX.have fun hq4 => ?_
  try dsimp only at hq4 ⊢
  refine LX.pure (Y.extract rfl rfl) rfl rfl rfl <| LX.pure (Y.extract rfl rfl) rfl rfl rfl <| LX.pure (Y.assign rfl) rfl rfl rfl <| LX.pure (Y.assign rfl) rfl rfl rfl <| LX.sub (l' := [(2, _), (3, _)]) ⟨rfl, rfl, trivial⟩ <| LX.next <| PX.thenN <| CX.ret <| PX.ret2 (by simp) Tryz.results8 rfl rfl ?_
  exact fun w hw => ⟨(v4, q4, d4), rfl, hq4, hw.drop (List.sublist_append_left d4 _)⟩
end Go.Proofs.YtickdimknfeddaaGreatDoor
