/-
  Proved here: the key of any value.
-/
import Derived.Test.YtickdimknfeddaaGreatDoorKyC
import Derived.Test.YtickdimknfeddaaGreatDoorFsA
namespace Go.Proofs.YtickdimknfeddaaGreatDoor
open Go.SX Go.RowKit Go.Vo Go.Ky Go.Proofs.YtickdimknfeddaaGreatDoor.Env
namespace Ke

end Ke
/-- api's errors, and the table of powers  -/
structure EnvK (w0 : World) (base : Nat) (aE : Nat → Addr) : Prop where
  s : EnvS w0 base aE
  t : Go.Lib.TabBelow Tryz.prog base w0 "internal/strconv.uint64pow10" .u64 Go.Lib.pow10Tab
theorem EnvK.push {w0 w : World} {base : Nat} {its : List It} {aE : Nat → Addr} (h : EnvK w0 base aE) (hw : WA w0 base its w) : EnvK w w.heap.size aE := ⟨Bsf.push h.s hw, fun _ hb => h.t _ (hw.below.trans (hb.mono hw.fits))⟩
theorem key_c {w0 : World} {base : Nat} {aE : Nat → Addr} (hE : EnvK w0 base aE) {kp : Nat} : ∀ (n dd : Nat), dd + n = 60 → ∀ {g : Option Nat} {c : Nat} {bs : T} {L : Int} (sl : Nat) (_hL : 0 ≤ L ∧ L ≤ 4096) (_hb : (bs.length : Int) + sl ≤ 1000 * (4096 - L)) {t : Tr} {v : Value} (_hv : VL w0 base t v), FnC Tryz.prog 25 #[.pointer (some ⟨kp, 0, none⟩), v, .int .i64 ((dd : Nat) : Int)] (WA w0 base (blk kp [rv g (bs).length c, .int .i64 (L)] 59 :: .row g c (bs).length 5 1 ((bs).map b8) :: [])) (fun q : Option (TypeId × Value) × (Option Nat × Nat) × T × Int => eV q.1) (fun q w => (q.1 = none → Kn sl t dd bs L q.2.2.1 q.2.2.2) ∧ WA w0 base (blk kp [rv q.2.1.1 (q.2.2.1).length q.2.1.2, .int .i64 (q.2.2.2)] 59 :: .row q.2.1.1 q.2.1.2 (q.2.2.1).length 5 1 ((q.2.2.1).map b8) :: []) w) := by
  intro n
  induction n with
  | zero =>
    intro dd hd g c bs L sl hL hb t v hv
    cases hv with
    | none => exact key_none hE.s sl hL hb (by omega)
    | bool b => exact key_bool hE.s sl hL hb (by omega) b
    | int h => exact key_int hE.s sl hL hb (by omega) h
    | str h => exact key_str hE.s sl hL hb (by omega) hE.t h
    | tup h1 h2 h3 h4 h5 => exact key_tup hE.s sl hL hb (by omega) h1 h2 h3 h4 h5 (fun h => absurd h (by omega))
    | list => exact key_list hE.s sl hL hb (by omega) _ _
    | dict => exact key_dict hE.s sl hL hb (by omega) _ _
  | succ n ih =>
    intro dd hd g c bs L sl hL hb t v hv
    cases hv with
    | none => exact key_none hE.s sl hL hb (by omega)
    | bool b => exact key_bool hE.s sl hL hb (by omega) b
    | int h => exact key_int hE.s sl hL hb (by omega) h
    | str h => exact key_str hE.s sl hL hb (by omega) hE.t h
    | tup h1 h2 h3 h4 h5 => exact key_tup hE.s sl hL hb (by omega) h1 h2 h3 h4 h5 (fun _ => ih (dd + 1) (by omega))
    | list => exact key_list hE.s sl hL hb (by omega) _ _
    | dict => exact key_dict hE.s sl hL hb (by omega) _ _
theorem Key_0 {w0 : World} {base : Nat} {aE : Nat → Addr} (hE : EnvK w0 base aE) {t : Tr} {v : Value} (hv : VL w0 base t v) : FnC Tryz.prog 9 #[v] (WA w0 base []) (fun q : Option (TypeId × Value) × T => .tuple #[str q.2, eV q.1]) (fun q w => (q.1 = none → Kd t q.2) ∧ WA w0 base [] w) := by
  refine FnC.of_body (fn := Tryz.f9) [(0, _)] Tryz.func9 rfl Tryz.ntmps9 rfl ⟨rfl, trivial⟩ ?_
  refine CX.seq <| CX.region <| LX.pure (Y.assign rfl) rfl rfl rfl <| LX.pure (Y.assign rfl) rfl rfl rfl <| LX.sub (l' := [(0, _), (2, _), (3, _)]) ⟨rfl, rfl, rfl, trivial⟩ <| LX.next <| PX.thenN <| CX.seq <| CX.region <| LX.pure (Y.build (v := .agg #[.slice none 0 0, .int .i64 4096]) rfl (fun _ => by kernel_rfl)) rfl rfl rfl <| LX.box rfl rfl rfl rfl rfl ?_
  intro bx3
  refine LX.pure (Y.assign rfl) rfl rfl rfl <| LX.sub (l' := [(0, _), (2, _), (3, _), (4, _)]) ⟨rfl, rfl, rfl, rfl, trivial⟩ <| LX.next <| PX.thenN <| CX.seq <| CX.seq <| CX.region <| LX.pure (Y.move rfl) rfl rfl rfl <| LX.pure (Y.move rfl) rfl rfl rfl <| LX.world (W' := WA w0 base (blk bx3 [rv none (([] : T)).length 0, .int .i64 (4096)] 59 :: .row none 0 (([] : T)).length 5 1 ((([] : T)).map b8) :: [])) (fun w hw => (hw.nilRow 5 1).perm (List.Perm.swap _ _ _)) <| LX.call (key_c hE 60 0 rfl (g := none) (c := 0) (bs := []) (L := 4096) 0 (by omega) (by simp) hv) Kd.en25 rfl rfl rfl rfl rfl ?_
  rintro ⟨q4, ⟨g4, c4⟩, bs4, L4⟩
  refine LX.have fun hk4 => ?_
  try dsimp only at hk4 ⊢
  refine LX.pure (Y.assign rfl) rfl rfl rfl <| LX.sub (l' := [(2, _), (3, _), (4, _), (5, _)]) ⟨rfl, rfl, rfl, rfl, trivial⟩ <| LX.next <| PX.thenN <| CX.seq <| CX.region <| LX.pure (Y.move rfl) rfl rfl rfl <| LX.pure (Y.neE Kd.un28 rfl) rfl rfl rfl <| LX.sub (l' := [(2, _), (3, _), (4, _), (5, _), (12, _)]) ⟨rfl, rfl, rfl, rfl, rfl, trivial⟩ <| LX.next <| PX.thenN ?_
  refine CX.cond rfl (fun hb1 => ?_) (fun hb1 => ?_)
  · try simp at hb1
    obtain ⟨e4, rfl⟩ := Option.isSome_iff_exists.1 hb1
    refine CX.seq <| CX.region <| LX.pure (Y.move rfl) rfl rfl rfl <| LX.pure (Y.assign rfl) rfl rfl rfl <| LX.pure (Y.assign rfl) rfl rfl rfl <| LX.sub (l' := [(2, _), (3, _), (4, _)]) ⟨rfl, rfl, rfl, trivial⟩ <| LX.next <| PX.thenN <| CX.ret <| PX.thenR <| PX.ret2 (by simp) Tryz.results9 rfl rfl ?_
    exact fun w hw => ⟨(some e4, []), rfl, (fun h => by cases h), hw.drop (List.nil_sublist _)⟩
  try simp at hb1
  obtain rfl : q4 = none := by first | exact hb1 | simpa using hb1 | (cases q4 <;> simp_all)
  have hk5 := hk4 rfl
  refine CX.skip <| PX.thenN <| CX.seq <| CX.region <| LX.pure (Y.move rfl) rfl rfl rfl <| LX.pure (Y.nilCheck rfl) rfl rfl rfl ?_
  first
    | refine LX.pure (Y.fieldAddr0 Kc.fo59_0 rfl) rfl rfl rfl ?_
    | refine LX.pure (Y.fieldAddr Kc.fo59_0 rfl) rfl rfl rfl ?_
  first
    | refine LX.pure (Y.ldB 0 Kc.one57 rfl rfl rfl) rfl rfl rfl ?_
    | refine LX.pure (Y.ldB 1 Kc.one57 rfl rfl rfl) rfl rfl rfl ?_
    | refine LX.pure (Y.ldB 2 Kc.one57 rfl rfl rfl) rfl rfl rfl ?_
  first
    | refine LX.pure (Y.str 0 rfl rfl Ka.un57 Ka.un5 Ka.un9) rfl rfl rfl ?_
    | refine LX.pure (Y.str 1 rfl rfl Ka.un57 Ka.un5 Ka.un9) rfl rfl rfl ?_
    | refine LX.pure (Y.str 2 rfl rfl Ka.un57 Ka.un5 Ka.un9) rfl rfl rfl ?_
  refine LX.pure (Y.assign rfl) rfl rfl rfl <| LX.pure (Y.assign rfl) rfl rfl rfl <| LX.sub (l' := [(2, _), (3, _)]) ⟨rfl, rfl, trivial⟩ <| LX.next <| PX.thenN <| CX.ret <| PX.ret2 (by simp) Tryz.results9 rfl rfl ?_
  exact fun w hw => ⟨(none, bs4), rfl, (fun _ => ⟨hk5.h, by rw [hk5.e]; simp, by have := hk5.l; have := hk5.l0; omega, by have := hk5.d; omega⟩), hw.drop (List.nil_sublist _)⟩
theorem Key_c {W : World → Prop} [Stab W] {aE : Nat → Addr} (hE : ∀ w, W w → EnvK w w.heap.size aE) {t : Tr} {v : Value} (hv : ∀ w, W w → VL w w.heap.size t v) : FnC Tryz.prog 9 #[v] W (fun q : Option (TypeId × Value) × T => .tuple #[str q.2, eV q.1]) (fun q w => (q.1 = none → Kd t q.2) ∧ W w) :=
  FnC.reO fun w hw => Key_0 (hE w hw) (hv w hw)
end Go.Proofs.YtickdimknfeddaaGreatDoor
