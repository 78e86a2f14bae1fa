/-
  Proved here: the statement, where the text is a file.
-/
import Derived.Test.YtfbenelagdcdgaaGreatDoorPvA
import Derived.Test.YtfbenelagdcdgaaGreatDoorTrJ
namespace Go.Proofs.YtfbenelagdcdgaaGreatDoor
open Go.SX Go.RowKit Go.Tr Go.Lex
namespace Vd
theorem en10 : Enters Tryz.prog 10 := Enters.of Tryz.func10 (by kernel_rfl) (by kernel_rfl)
theorem en12 : Enters Tryz.prog 12 := Enters.of Tryz.func12 (by kernel_rfl) (by kernel_rfl)
theorem en13 : Enters Tryz.prog 13 := Enters.of Tryz.func13 (by kernel_rfl) (by kernel_rfl)
theorem en14 : Enters Tryz.prog 14 := Enters.of Tryz.func14 (by kernel_rfl) (by kernel_rfl)
end Vd
open Go.Proofs.YtfbenelagdcdgaaGreatDoor.Env (EnvS errV sentG)
open Go.Pa (Tk Rs bnd ret isB is_ adv bad take must kinds inn outn node nodeAt setPos)
open Go.Ck (NdsR)
open Go.Pa (st0 fuel parseP parse_cases)
open Go.Lex (tkP scan)
theorem valid_o {W : World → Prop} [Stab W] {al : Option Addr} (cl : Nat) {l : List Nd} (hl : ∀ w, W w → SlAt 5 ndA (Lies w w.heap.size) al l) (hln : l.length ≤ 1048576) (hkb : ∀ (k : Nat) (x : Nd), l[k]? = some x → x.kids.length ≤ 1048576) (hsb : ∀ (k : Nat) (x : Nd), l[k]? = some x → x.s.length ≤ 9223372036854775807) (hv : Go.Tr.valid l nameB = none) {eS : Value} (hE : ∀ w, W w → EnvV w w.heap.size 1 eS) :
    FnC Tryz.prog 12 #[.slice al l.length cl] W (fun _ : Nat => .nilIface) (fun _ => W) :=
  FnC.re fun w hw w1 h1 => (valid_c cl (hl w hw) hln hkb hsb (hE w hw) w1 h1).mono fun e w2 ⟨b, he, h2⟩ => ⟨b, by rw [he, hv]; rfl, h2.drop (List.nil_sublist _)⟩
theorem cNodes_o {w0 : World} {base : Nat} {its : List It} {al : Option Addr} (cl : Nat) {l : List Nd} (hln : l.length ≤ 1048576) (hl : ∀ w, WA w0 base its w → SlAt 5 ndA (Lies w w.heap.size) al l) (hkb : ∀ x ∈ l, x.kids.length ≤ 1048576) :
    FnC Tryz.prog 13 #[.slice al l.length cl] (WA w0 base its) (fun s : (Option Nat × Nat) × List Value × List It => rv s.1.1 l.length s.1.2) (fun s w => NdsR 3 s.2.2 s.2.1 l ∧ WA w0 base ((.row s.1.1 s.1.2 l.length 32 5 s.2.1 :: (s.2.2 ++ [])) ++ its) w) := fun w hw =>
  (cNodes_c (fr := []) cl hln (hl w hw) hkb w (WA.start w)).mono fun e w2 ⟨s, he, hf, h2⟩ => ⟨s, he, hf, hw.onto h2⟩
open Go.Ck (NdsS)
theorem law_ok {w0 : World} {base : Nat} {fr : List It} {aE : Nat → Addr} (hS : EnvS w0 base aE) {s : List UInt8} {out : List Nd} (hlen : ¬2000 < s.length) (hp : parseP s = .ok out) (hv : Go.Tr.valid out nameB = none) (hln : out.length ≤ 1048576) (hkb : ∀ x ∈ out, x.kids.length ≤ 1048576) (hsb : ∀ (k : Nat) (x : Nd), out[k]? = some x → x.s.length ≤ 9223372036854775807) : FnC Tryz.prog 3 #[str s] (WA w0 base fr) (fun _ : Unit => .bool true) (fun _ => WA w0 base fr) := by
  refine FnC.of_body (fn := Tryz.f3) [(0, _)] Tryz.func3 rfl Tryz.ntmps3 rfl ⟨rfl, trivial⟩ ?_
  refine CX.seq <| CX.region <| LX.pure (Y.assign rfl) rfl rfl rfl <| LX.sub (l' := [(0, _), (2, _)]) ⟨rfl, rfl, trivial⟩ <| LX.next <| PX.thenN <| CX.seq <| CX.region <| LX.call (first_c hS) Vd.en10 rfl rfl rfl rfl rfl ?_
  intro _
  refine LX.pure (Y.assign rfl) rfl rfl rfl <| LX.sub (l' := [(0, _), (2, _), (3, _)]) ⟨rfl, rfl, rfl, trivial⟩ <| LX.next <| PX.thenN <| CX.seq <| CX.seq <| CX.region <| LX.pure (Y.move rfl) rfl rfl rfl <| LX.pure (Y.not rfl) rfl rfl rfl <| LX.sub (l' := [(0, _), (2, _), (3, _), (13, _)]) ⟨rfl, rfl, rfl, rfl, trivial⟩ <| LX.next <| PX.thenN ?_
  refine CX.cond rfl (fun hb1 => ?_) (fun hb1 => ?_)
  · try simp at hb1
    done
  try simp at hb1
  refine CX.skip <| PX.thenN <| CX.seq <| CX.seq <| CX.region <| LX.pure (Y.move rfl) rfl rfl rfl <| LX.pure (Y.lenStr rfl Fx.un9 rfl) rfl rfl rfl <| LX.pure (Y.gtN rfl rfl) rfl rfl rfl <| LX.pure (Y.move rfl) rfl rfl rfl <| LX.sub (l' := [(0, _), (2, _), (3, _), (17, _)]) ⟨rfl, rfl, rfl, rfl, trivial⟩ ?_
  apply LX.joinOr 3 20 17 rfl
  · intro hb2
    (exfalso; simp at hb2; omega)
  · intro hb2
    have hb2p := hb2
    try simp at hb2p
    refine LX.gT rfl rfl rfl hb2 (Y.move rfl) rfl rfl <| LX.gT rfl rfl rfl hb2 (Y.not rfl) rfl rfl <| LX.pure (Y.pickF rfl hb2 rfl) rfl rfl rfl ?_
    exact LX.left ⟨rfl, rfl, rfl, rfl, rfl, trivial⟩
  refine LX.sub (l' := [(0, _), (2, _), (3, _), (20, _)]) ⟨rfl, rfl, rfl, rfl, trivial⟩ <| LX.next <| PX.thenN ?_
  refine CX.cond rfl (fun hb3 => ?_) (fun hb3 => ?_)
  · try simp at hb3
    (exfalso; omega)
  try simp at hb3
  refine CX.skip <| PX.thenN <| CX.seq <| CX.region <| LX.pure (Y.move rfl) rfl rfl rfl <| LX.call (parse_ok hS (by omega) hp) Vc.en11 rfl rfl rfl rfl rfl ?_
  intro m
  refine LX.have fun hnd => LX.pure (Y.move rfl) rfl rfl rfl <| LX.pure (Y.extract rfl rfl) rfl rfl rfl <| LX.pure (Y.extract rfl rfl) rfl rfl rfl <| LX.pure (Y.assign rfl) rfl rfl rfl <| LX.pure (Y.assign rfl) rfl rfl rfl <| LX.sub (l' := [(0, _), (2, _), (4, _), (5, _)]) ⟨rfl, rfl, rfl, rfl, trivial⟩ <| LX.next <| PX.thenN <| CX.seq <| CX.seq <| CX.region <| LX.pure (Y.move rfl) rfl rfl rfl <| LX.pure (Y.neNilNil Qg_.un25 rfl) rfl rfl rfl <| LX.sub (l' := [(0, _), (2, _), (4, _), (28, _)]) ⟨rfl, rfl, rfl, rfl, trivial⟩ <| LX.next <| PX.thenN ?_
  refine CX.cond rfl (fun hb4 => ?_) (fun hb4 => ?_)
  · try simp at hb4
    done
  try simp at hb4
  refine CX.skip <| PX.thenN <| CX.seq <| CX.seq <| CX.region <| LX.pure (Y.move rfl) rfl rfl rfl <| LX.call (valid_o m.c (fun w hw => (hnd.toF w0 base).lies hw (fun it h => List.mem_cons_of_mem _ (List.mem_append_left _ h)) (j := 0) rfl) hln (fun k x h => hkb x (List.mem_of_getElem? h)) hsb hv (eS := errV (aE 4)) (fun w hw => ⟨(envS_push hS hw).at_ 4 1 rfl, (envS_push hS hw).lt 1 (by decide), rfl⟩)) Vd.en12 rfl rfl rfl rfl rfl ?_
  intro _
  refine LX.pure (Y.neNilNil Qg_.un25 rfl) rfl rfl rfl <| LX.sub (l' := [(0, _), (2, _), (4, _), (34, _)]) ⟨rfl, rfl, rfl, rfl, trivial⟩ <| LX.next <| PX.thenN ?_
  refine CX.cond rfl (fun hb5 => ?_) (fun hb5 => ?_)
  · try simp at hb5
    done
  try simp at hb5
  refine CX.skip <| PX.thenN <| CX.seq <| CX.region <| LX.pure (Y.move rfl) rfl rfl rfl <| LX.call (cNodes_o m.c hln (fun w hw => (hnd.toF w0 base).lies hw (fun it h => List.mem_cons_of_mem _ (List.mem_append_left _ h)) (j := 0) rfl) hkb) Vd.en13 rfl rfl rfl rfl rfl ?_
  intro sk
  refine LX.have fun hndk => ?_
  refine LX.world (W' := WA w0 base (.row m.g m.c out.length 32 5 m.cells :: (m.rs ++ (.row sk.1.1 sk.1.2 out.length 32 5 sk.2.1 :: (sk.2.2 ++ fr))))) (fun w hw => (show WA w0 base ((.row sk.1.1 sk.1.2 out.length 32 5 sk.2.1 :: (sk.2.2 ++ [])) ++ (.row m.g m.c out.length 32 5 m.cells :: (m.rs ++ fr))) w from hw).perm (by (refine perm_cnt fun x => ?_; simp only [cnt_append, cnt_cons, cnt_nil]; omega))) ?_
  refine LX.pure (Y.assign rfl) rfl rfl rfl <| LX.sub (l' := [(0, _), (2, _), (4, _), (6, _)]) ⟨rfl, rfl, rfl, rfl, trivial⟩ <| LX.next <| PX.thenN <| CX.seq <| CX.seq <| CX.region <| LX.pure (Y.assign rfl) rfl rfl rfl <| LX.sub (l' := [(0, _), (2, _), (4, _), (6, _), (7, _)]) ⟨rfl, rfl, rfl, rfl, rfl, trivial⟩ <| LX.next <| PX.thenN <| CX.block <| CX.loop (fun z : Nat × List Value × List It => [(0, str s), (4, rv m.g out.length m.c), (6, rv sk.1.1 out.length sk.1.2), (7, .int .i64 (z.1 : Int))]) (fun (z : Nat × List Value × List It) w => (z.1 ≤ out.length ∧ NdsS 3 z.2.2 z.2.1 out) ∧ WA w0 base (.row m.g m.c out.length 32 5 z.2.1 :: (z.2.2 ++ (.row sk.1.1 sk.1.2 out.length 32 5 sk.2.1 :: (sk.2.2 ++ fr)))) w) (fun z => out.length - z.1) (0, m.cells, m.rs) ⟨rfl, rfl, rfl, rfl, trivial⟩ (fun w hw => ⟨⟨Nat.zero_le _, hnd.toS⟩, hw⟩) ?_
  rintro ⟨i, cells, rs⟩
  refine CX.have fun ⟨hi0, hns⟩ => ?_
  replace hi0 : i ≤ out.length := hi0
  replace hns : NdsS 3 rs cells out := hns
  try dsimp only
  refine CX.seq <| CX.seq <| CX.region <| LX.pure (Y.move rfl) rfl rfl rfl <| LX.pure (Y.move rfl) rfl rfl rfl <| LX.pure (Y.lenSl rfl Ft.un23 rfl) rfl rfl rfl <| LX.pure (Y.ltN rfl rfl) rfl rfl rfl <| LX.sub (l' := [(0, _), (4, _), (6, _), (7, _), (40, _)]) ⟨rfl, rfl, rfl, rfl, rfl, trivial⟩ <| LX.next <| PX.thenN ?_
  refine CX.cond rfl (fun hb6 => ?_) (fun hb6 => ?_)
  · try simp at hb6
    have hi : i < out.length := by omega
    obtain ⟨x, hx⟩ : ∃ x, out[i]? = some x := ⟨_, List.getElem?_eq_getElem hi⟩
    have hkx := hkb x (List.mem_of_getElem? hx)
    refine CX.skip <| PX.thenN <| CX.seq <| CX.block <| CX.seq <| CX.region <| LX.pure (Y.move rfl) rfl rfl rfl <| LX.pure (Y.move rfl) rfl rfl rfl <| LX.pure (Y.idxR 0 (i := i) Ft.un23 Ft.sz32 rfl rfl rfl hi) rfl rfl rfl <| LX.pure (Y.fieldAddr Ft.fo32_0 rfl) rfl rfl rfl <| LX.storeR 0 (off := i * 5 + 0) Ft.sz3 rfl rfl rfl rfl rfl (by rw [hns.1]; omega) rfl rfl <| LX.sub (l' := [(0, _), (4, _), (6, _), (7, _)]) ⟨rfl, rfl, rfl, rfl, trivial⟩ <| LX.next <| PX.thenN <| CX.seq <| CX.region <| LX.pure (Y.assign rfl) rfl rfl rfl <| LX.sub (l' := [(0, _), (4, _), (6, _), (7, _), (8, _)]) ⟨rfl, rfl, rfl, rfl, rfl, trivial⟩ <| LX.next <| PX.thenN <| CX.block <| CX.loop (fun z : Nat × List It => [(0, str s), (4, rv m.g out.length m.c), (6, rv sk.1.1 out.length sk.1.2), (7, .int .i64 (i : Int)), (8, .int .i64 (z.1 : Int))]) (fun (z : Nat × List It) w => (z.1 ≤ x.kids.length ∧ NdsS 3 z.2 (cells.set (i * 5 + 0) (.int .i64 (-1))) out) ∧ WA w0 base (.row m.g m.c out.length 32 5 (cells.set (i * 5 + 0) (.int .i64 (-1))) :: (z.2 ++ (.row sk.1.1 sk.1.2 out.length 32 5 sk.2.1 :: (sk.2.2 ++ fr)))) w) (fun z => x.kids.length - z.1) (0, rs) ⟨rfl, rfl, rfl, rfl, rfl, trivial⟩ (fun w hw => ⟨⟨Nat.zero_le _, hns.setOp i _⟩, hw⟩) ?_
    rintro ⟨k, rs2⟩
    refine CX.have fun ⟨hk0, hns2⟩ => ?_
    replace hk0 : k ≤ x.kids.length := hk0
    replace hns2 : NdsS 3 rs2 (cells.set (i * 5 + 0) (.int .i64 (-1))) out := hns2
    obtain ⟨g, c, h4, h5⟩ := hns2.2 i x hx
    try dsimp only
    refine CX.seq <| CX.seq <| CX.region <| LX.pure (Y.move rfl) rfl rfl rfl <| LX.pure (Y.move rfl) rfl rfl rfl <| LX.pure (Y.move rfl) rfl rfl rfl <| LX.pure (Y.idxR 0 (i := i) Ft.un23 Ft.sz32 rfl rfl rfl hi) rfl rfl rfl <| LX.pure (Y.fieldAddr Fu.fo32_4 rfl) rfl rfl rfl <| LX.pure (Y.ldR 0 (v := rv g x.kids.length c) Fu.one30 rfl rfl h4) rfl rfl rfl <| LX.pure (Y.lenSl rfl Ft.un30 rfl) rfl rfl rfl <| LX.pure (Y.ltN rfl rfl) rfl rfl rfl <| LX.sub (l' := [(0, _), (4, _), (6, _), (7, _), (8, _), (54, _)]) ⟨rfl, rfl, rfl, rfl, rfl, rfl, trivial⟩ <| LX.next <| PX.thenN ?_
    refine CX.cond rfl (fun hb7 => ?_) (fun hb7 => ?_)
    · try simp at hb7
      have hk : k < x.kids.length := by omega
      obtain ⟨xs, hm⟩ := h5.resolve_left (by omega)
      obtain ⟨ra, rb, rfl⟩ := List.append_of_mem hm
      refine CX.skip <| PX.thenN <| CX.seq <| CX.block <| CX.region ?_
      refine LX.world (W' := fun w => xs.length = x.kids.length * 1 ∧ WA w0 base (.row m.g m.c out.length 32 5 (cells.set (i * 5 + 0) (.int .i64 (-1))) :: .row g c x.kids.length 3 1 xs :: ((ra ++ rb) ++ (.row sk.1.1 sk.1.2 out.length 32 5 sk.2.1 :: (sk.2.2 ++ fr)))) w) (fun w hw => by
        have h := (show WA w0 base (.row m.g m.c out.length 32 5 (cells.set (i * 5 + 0) (.int .i64 (-1))) :: ((ra ++ .row g c x.kids.length 3 1 xs :: rb) ++ (.row sk.1.1 sk.1.2 out.length 32 5 sk.2.1 :: (sk.2.2 ++ fr)))) w from hw).perm (show List.Perm (.row m.g m.c out.length 32 5 (cells.set (i * 5 + 0) (.int .i64 (-1))) :: .row g c x.kids.length 3 1 xs :: ((ra ++ rb) ++ (.row sk.1.1 sk.1.2 out.length 32 5 sk.2.1 :: (sk.2.2 ++ fr)))) (.row m.g m.c out.length 32 5 (cells.set (i * 5 + 0) (.int .i64 (-1))) :: ((ra ++ .row g c x.kids.length 3 1 xs :: rb) ++ (.row sk.1.1 sk.1.2 out.length 32 5 sk.2.1 :: (sk.2.2 ++ fr)))) by (refine perm_cnt fun x => ?_; simp only [cnt_append, cnt_cons, cnt_nil]; omega))
        exact ⟨(row_len (h.get (i := 1) rfl)).1, h⟩) ?_
      refine LX.have fun hxl => LX.pure (Y.move rfl) rfl rfl rfl <| LX.pure (Y.move rfl) rfl rfl rfl <| LX.pure (Y.idxR 0 (i := i) Ft.un23 Ft.sz32 rfl rfl rfl hi) rfl rfl rfl <| LX.pure (Y.fieldAddr Fu.fo32_4 rfl) rfl rfl rfl <| LX.pure (Y.ldR 0 (v := rv g x.kids.length c) Fu.one30 rfl rfl h4) rfl rfl rfl <| LX.pure (Y.move rfl) rfl rfl rfl <| LX.pure (Y.idxR1M (i := k) Ft.un30 Ft.sz3 rfl rfl (List.mem_cons_of_mem _ (List.mem_cons_self ..)) hk) rfl rfl rfl <| LX.storeR 1 (off := k) Ft.sz3 rfl rfl rfl rfl rfl (by rw [hxl]; omega) rfl rfl <| LX.sub (l' := [(0, _), (4, _), (6, _), (7, _), (8, _)]) ⟨rfl, rfl, rfl, rfl, rfl, trivial⟩ <| LX.next <| PX.blockN <| PX.thenN <| CX.region <| LX.pure (Y.move rfl) rfl rfl rfl <| LX.pure (Y.addN rfl rfl (by (simp only []; omega))) rfl rfl rfl <| LX.pure (Y.assign rfl) rfl rfl rfl <| LX.sub (l' := [(0, _), (4, _), (6, _), (7, _), (8, _)]) ⟨rfl, rfl, rfl, rfl, rfl, trivial⟩ <| LX.next ?_
      exact PX.again (μ := fun z => x.kids.length - z.1) (i := (k, ra ++ .row g c x.kids.length 3 1 xs :: rb)) (k + 1, .row g c x.kids.length 3 1 (xs.set k (.int .i64 (-1))) :: (ra ++ rb)) (by show x.kids.length - (k + 1) < x.kids.length - k; omega) ⟨rfl, rfl, rfl, rfl, rfl, trivial⟩ (fun w hw => ⟨⟨by show k + 1 ≤ x.kids.length; omega, hns2.setRow _⟩, hw⟩)
    try simp at hb7
    refine CX.exit <| PX.thenE <| PX.thenE <| PX.blockE <| PX.blockN <| PX.thenN <| CX.region <| LX.pure (Y.move rfl) rfl rfl rfl <| LX.pure (Y.addN rfl rfl (by (simp only []; omega))) rfl rfl rfl <| LX.pure (Y.assign rfl) rfl rfl rfl <| LX.sub (l' := [(0, _), (4, _), (6, _), (7, _)]) ⟨rfl, rfl, rfl, rfl, trivial⟩ <| LX.next ?_
    exact PX.again (μ := fun z => out.length - z.1) (i := (i, cells, rs)) (i + 1, (cells.set (i * 5 + 0) (.int .i64 (-1))), rs2) (by show out.length - (i + 1) < out.length - i; omega) ⟨rfl, rfl, rfl, rfl, trivial⟩ (fun w hw => ⟨⟨by show i + 1 ≤ out.length; omega, hns2⟩, hw⟩)
  try simp at hb6
  refine CX.exit <| PX.thenE <| PX.thenE <| PX.blockE <| PX.thenN <| CX.seq <| CX.region <| LX.pure (Y.move rfl) rfl rfl rfl <| LX.call (parse_ok hS (by omega) hp) Vc.en11 rfl rfl rfl rfl rfl ?_
  intro m2
  refine LX.have fun hnd2 => LX.pure (Y.move rfl) rfl rfl rfl <| LX.pure (Y.extract rfl rfl) rfl rfl rfl <| LX.pure (Y.extract rfl rfl) rfl rfl rfl <| LX.pure (Y.assign rfl) rfl rfl rfl <| LX.pure (Y.assign rfl) rfl rfl rfl <| LX.sub (l' := [(6, _), (9, _), (10, _)]) ⟨rfl, rfl, rfl, trivial⟩ <| LX.next <| PX.thenN <| CX.seq <| CX.region <| LX.pure (Y.move rfl) rfl rfl rfl <| LX.pure (Y.eqNilNil Qg_.un25 rfl) rfl rfl rfl <| LX.pure (Y.move rfl) rfl rfl rfl <| LX.sub (l' := [(6, _), (9, _), (71, _)]) ⟨rfl, rfl, rfl, trivial⟩ ?_
  apply LX.joinAnd 4 75 71 rfl
  · intro hb8
    have hb8p := hb8
    try simp at hb8p
    refine LX.gT rfl rfl rfl hb8 (Y.move rfl) rfl rfl <| LX.gT rfl rfl rfl hb8 (Y.move rfl) rfl rfl <| LX.callQT rfl rfl rfl hb8 (sNodes_q m2.c sk.1.2 hln hkb (fun w hw => (hnd2.toF w0 base).lies hw (fun it h => List.mem_cons_of_mem _ (List.mem_append_left _ h)) (j := 0) rfl) (fun w hw => (hndk.toF w0 base).liesM hw (fun it h => List.mem_cons_of_mem _ (List.mem_append_right _ (List.mem_cons_of_mem _ (List.mem_append_right _ (List.mem_cons_of_mem _ (List.mem_append_left _ h)))))) (List.mem_cons_of_mem _ (List.mem_append_right _ (List.mem_cons_of_mem _ (List.mem_append_right _ (List.mem_cons_self ..))))))) Vd.en14 rfl rfl rfl rfl <| LX.pure (Y.pickT rfl hb8 rfl) rfl rfl rfl ?_
    exact LX.left ⟨rfl, rfl, rfl, rfl, trivial⟩
  · intro hb8
    (simp at hb8; done)
  refine LX.pure (Y.assign rfl) rfl rfl rfl <| LX.sub (l' := [(2, _)]) ⟨rfl, trivial⟩ <| LX.next <| PX.thenN <| CX.ret <| PX.ret1 (by simp) Tryz.results3 rfl ?_
  exact fun w hw => ⟨(), congrArg (fun z => Ending.returned (Value.bool z)) (by simp), hw.drop ((((((List.sublist_append_right sk.2.2 fr).cons _).trans (List.sublist_append_right rs _)).cons _).trans (List.sublist_append_right m2.rs _)).cons _)⟩
end Go.Proofs.YtfbenelagdcdgaaGreatDoor

namespace Go.Proofs.YtfbenelagdcdgaaGreatDoor
open Go.SX Go.RowKit Go.Tr Go.Lex
namespace Ve

end Ve
open Go.Proofs.YtfbenelagdcdgaaGreatDoor.Env (EnvS errV sentG)
open Go.Pa (Tk Rs bnd ret isB is_ adv bad take must kinds inn outn node nodeAt setPos)
open Go.Ck (NdsR)
open Go.Pa (st0 fuel parseP parse_cases)
open Go.Lex (tkP scan)
theorem law_bad {w0 : World} {base : Nat} {fr : List It} {aE : Nat → Addr} (hS : EnvS w0 base aE) {s : List UInt8} {pz : Int} {k : Nat} (hlen : ¬2000 < s.length) (hp : parseP s = .error (pz, k)) : FnC Tryz.prog 3 #[str s] (WA w0 base fr) (fun _ : Unit => .bool true) (fun _ => WA w0 base fr) := by
  refine FnC.of_body (fn := Tryz.f3) [(0, _)] Tryz.func3 rfl Tryz.ntmps3 rfl ⟨rfl, trivial⟩ ?_
  refine CX.seq <| CX.region <| LX.pure (Y.assign rfl) rfl rfl rfl <| LX.sub (l' := [(0, _), (2, _)]) ⟨rfl, rfl, trivial⟩ <| LX.next <| PX.thenN <| CX.seq <| CX.region <| LX.call (first_c hS) Vd.en10 rfl rfl rfl rfl rfl ?_
  intro _
  refine LX.pure (Y.assign rfl) rfl rfl rfl <| LX.sub (l' := [(0, _), (2, _), (3, _)]) ⟨rfl, rfl, rfl, trivial⟩ <| LX.next <| PX.thenN <| CX.seq <| CX.seq <| CX.region <| LX.pure (Y.move rfl) rfl rfl rfl <| LX.pure (Y.not rfl) rfl rfl rfl <| LX.sub (l' := [(0, _), (2, _), (3, _), (13, _)]) ⟨rfl, rfl, rfl, rfl, trivial⟩ <| LX.next <| PX.thenN ?_
  refine CX.cond rfl (fun hb1 => ?_) (fun hb1 => ?_)
  · try simp at hb1
    done
  try simp at hb1
  refine CX.skip <| PX.thenN <| CX.seq <| CX.seq <| CX.region <| LX.pure (Y.move rfl) rfl rfl rfl <| LX.pure (Y.lenStr rfl Fx.un9 rfl) rfl rfl rfl <| LX.pure (Y.gtN rfl rfl) rfl rfl rfl <| LX.pure (Y.move rfl) rfl rfl rfl <| LX.sub (l' := [(0, _), (2, _), (3, _), (17, _)]) ⟨rfl, rfl, rfl, rfl, trivial⟩ ?_
  apply LX.joinOr 3 20 17 rfl
  · intro hb2
    (exfalso; simp at hb2; omega)
  · intro hb2
    have hb2p := hb2
    try simp at hb2p
    refine LX.gT rfl rfl rfl hb2 (Y.move rfl) rfl rfl <| LX.gT rfl rfl rfl hb2 (Y.not rfl) rfl rfl <| LX.pure (Y.pickF rfl hb2 rfl) rfl rfl rfl ?_
    exact LX.left ⟨rfl, rfl, rfl, rfl, rfl, trivial⟩
  refine LX.sub (l' := [(0, _), (2, _), (3, _), (20, _)]) ⟨rfl, rfl, rfl, rfl, trivial⟩ <| LX.next <| PX.thenN ?_
  refine CX.cond rfl (fun hb3 => ?_) (fun hb3 => ?_)
  · try simp at hb3
    (exfalso; omega)
  try simp at hb3
  refine CX.skip <| PX.thenN <| CX.seq <| CX.region <| LX.pure (Y.move rfl) rfl rfl rfl <| LX.call (parse_bad hS (by omega) hp) Vc.en11 rfl rfl rfl rfl rfl ?_
  intro ax
  refine LX.pure (Y.move rfl) rfl rfl rfl <| LX.pure (Y.extract rfl rfl) rfl rfl rfl <| LX.pure (Y.extract rfl rfl) rfl rfl rfl <| LX.pure (Y.assign rfl) rfl rfl rfl <| LX.pure (Y.assign rfl) rfl rfl rfl <| LX.sub (l' := [(0, _), (2, _), (4, _), (5, _)]) ⟨rfl, rfl, rfl, rfl, trivial⟩ <| LX.next <| PX.thenN <| CX.seq <| CX.seq <| CX.region <| LX.pure (Y.move rfl) rfl rfl rfl <| LX.pure (Y.neNil Qg_.un25 rfl rfl) rfl rfl rfl <| LX.sub (l' := [(0, _), (2, _), (4, _), (28, _)]) ⟨rfl, rfl, rfl, rfl, trivial⟩ <| LX.next <| PX.thenN ?_
  refine CX.cond rfl (fun hb4 => ?_) (fun hb4 => ?_)
  · try simp at hb4
    refine CX.seq <| CX.region <| LX.pure (Y.move rfl) rfl rfl rfl <| LX.pure (Y.lenSl rfl Ft.un23 rfl) rfl rfl rfl <| LX.pure (Y.eqN rfl rfl) rfl rfl rfl <| LX.pure (Y.assign rfl) rfl rfl rfl <| LX.sub (l' := [(0, _), (2, _), (4, _)]) ⟨rfl, rfl, rfl, trivial⟩ <| LX.next <| PX.thenN <| CX.ret <| PX.thenR <| PX.ret1 (by simp) Tryz.results3 rfl ?_
    exact fun w hw => ⟨(), rfl, hw.drop (List.sublist_cons_self _ _)⟩
  try simp at hb4
  done
theorem law_long {w0 : World} {base : Nat} {fr : List It} {aE : Nat → Addr} (hS : EnvS w0 base aE) {s : List UInt8} (hlen : 2000 < s.length) : FnC Tryz.prog 3 #[str s] (WA w0 base fr) (fun _ : Unit => .bool true) (fun _ => WA w0 base fr) := by
  refine FnC.of_body (fn := Tryz.f3) [(0, _)] Tryz.func3 rfl Tryz.ntmps3 rfl ⟨rfl, trivial⟩ ?_
  refine CX.seq <| CX.region <| LX.pure (Y.assign rfl) rfl rfl rfl <| LX.sub (l' := [(0, _), (2, _)]) ⟨rfl, rfl, trivial⟩ <| LX.next <| PX.thenN <| CX.seq <| CX.region <| LX.call (first_c hS) Vd.en10 rfl rfl rfl rfl rfl ?_
  intro _
  refine LX.pure (Y.assign rfl) rfl rfl rfl <| LX.sub (l' := [(0, _), (2, _), (3, _)]) ⟨rfl, rfl, rfl, trivial⟩ <| LX.next <| PX.thenN <| CX.seq <| CX.seq <| CX.region <| LX.pure (Y.move rfl) rfl rfl rfl <| LX.pure (Y.not rfl) rfl rfl rfl <| LX.sub (l' := [(0, _), (2, _), (3, _), (13, _)]) ⟨rfl, rfl, rfl, rfl, trivial⟩ <| LX.next <| PX.thenN ?_
  refine CX.cond rfl (fun hb1 => ?_) (fun hb1 => ?_)
  · try simp at hb1
    done
  try simp at hb1
  refine CX.skip <| PX.thenN <| CX.seq <| CX.seq <| CX.region <| LX.pure (Y.move rfl) rfl rfl rfl <| LX.pure (Y.lenStr rfl Fx.un9 rfl) rfl rfl rfl <| LX.pure (Y.gtN rfl rfl) rfl rfl rfl <| LX.pure (Y.move rfl) rfl rfl rfl <| LX.sub (l' := [(0, _), (2, _), (3, _), (17, _)]) ⟨rfl, rfl, rfl, rfl, trivial⟩ ?_
  apply LX.joinOr 3 20 17 (y := false) rfl
  · intro hb2
    have hb2p := hb2
    try simp at hb2p
    refine LX.gF rfl rfl rfl hb2 rfl rfl <| LX.gF rfl rfl rfl hb2 rfl rfl <| LX.pure (Y.pickT rfl hb2 rfl) rfl rfl rfl ?_
    exact LX.left ⟨rfl, rfl, rfl, rfl, rfl, trivial⟩
  · intro hb2
    (exfalso; simp at hb2; omega)
  refine LX.sub (l' := [(0, _), (2, _), (3, _), (20, _)]) ⟨rfl, rfl, rfl, rfl, trivial⟩ <| LX.next <| PX.thenN ?_
  refine CX.cond rfl (fun hb3 => ?_) (fun hb3 => ?_)
  · try simp at hb3
    refine CX.seq <| CX.region <| LX.pure (Y.move rfl) rfl rfl rfl <| LX.pure (Y.assign rfl) rfl rfl rfl <| LX.sub (l' := [(0, _), (2, _)]) ⟨rfl, rfl, trivial⟩ <| LX.next <| PX.thenN <| CX.ret <| PX.thenR <| PX.ret1 (by simp) Tryz.results3 rfl ?_
    exact fun w hw => ⟨(), rfl, hw⟩
  try simp at hb3
  (exfalso; omega)
theorem law_c {w0 : World} {base : Nat} {fr : List It} {aE : Nat → Addr} (hS : EnvS w0 base aE) (s : List UInt8) : FnC Tryz.prog 3 #[str s] (WA w0 base fr) (fun _ : Unit => .bool true) (fun _ => WA w0 base fr) := by
  by_cases hlen : 2000 < s.length
  · exact law_long hS hlen
  rcases parse_cases s (by omega) with ⟨p, _, h2⟩ | ⟨ts, _, hT, ⟨p, l, _, h2⟩ | ⟨s', _, h2, hv, hn, hx⟩⟩
  · exact law_bad hS hlen h2
  · exact law_bad hS hlen h2
  have hl := hT.len
  rw [List.length_map] at hl
  exact law_ok hS hlen h2 hv (by omega) (fun x hm => by have := (hx x hm).2.2; omega) (fun k x hk => by have := (hx x (List.mem_of_getElem? hk)).2.1; omega)
end Go.Proofs.YtfbenelagdcdgaaGreatDoor
