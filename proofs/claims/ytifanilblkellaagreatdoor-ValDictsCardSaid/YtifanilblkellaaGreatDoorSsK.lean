/-
  Proved here: what slices.Sorted hands back of a map's keys, each a text.
-/
import Derived.Shelf.SlIter.Nil
import Derived.Shelf.SortM.Plain
import Derived.Shelf.SortM.SortNone
import Derived.Ground.GgzProg
import Derived.Ground.SlgmProg
import Derived.Test.YtifanilblkellaaGreatDoorProg
import Derived.Test.YtifanilblkellaaGreatDoorSsP
import Derived.Test.YtifanilblkellaaGreatDoorSsT
namespace Go.Proofs
open Go.Shelf
def Tryz.keys49_ren : Go.Shelf.Ren := ⟨fun | 7 => 49 | 10 => 69 | n => n, fun | 23 => 108 | 26 => 9 | 3 => 31 | 28 => 112 | 0 => 0 | 27 => 111 | 33 => 152 | 4 => 4 | n => n, fun | n => n⟩
theorem Tryz.keys49 : Go.Proofs.SlLaysZ.n7 Tryz.prog Tryz.keys49_ren := {
  mixed := by kernel_rfl
  f7 := ⟨Tryz.f49.name, by decide, Tryz.func49.trans (congrArg some (by kernel_rfl))⟩
  f10 := ⟨Tryz.f69.name, by decide, Tryz.func69.trans (congrArg some (by kernel_rfl))⟩
  t0 := Tryz.underlying0
  a0 := Tryz.isAgg0
  z0 := Tryz.sizeOf0
  v0 := Tryz.zeroValue0
  t4 := Tryz.underlying4
  a4 := Tryz.isAgg4
  z4 := Tryz.sizeOf4
  v4 := Tryz.zeroValue4
  t23 := Tryz.underlying108
  a23 := Tryz.isAgg108
  z23 := Tryz.sizeOf108
  v23 := Tryz.zeroValue108
  t26 := Tryz.underlying9
  a26 := Tryz.isAgg9
  z26 := Tryz.sizeOf9
  v26 := Tryz.zeroValue9
  t27 := Tryz.underlying111
  a27 := Tryz.isAgg111
  z27 := Tryz.sizeOf111
  v27 := Tryz.zeroValue111
  t28 := Tryz.underlying112
  a28 := Tryz.isAgg112
  z28 := Tryz.sizeOf112
  v28 := Tryz.zeroValue112
  t33 := Tryz.underlying152
  a33 := Tryz.isAgg152
  z33 := Tryz.sizeOf152
  v33 := Tryz.zeroValue152 }
def Tryz.sorted48_ren : Go.Shelf.Ren := ⟨fun | 6 => 48 | 8 => 67 | 9 => 68 | 11 => 91 | 13 => 93 | 12 => 92 | 23 => 125 | 24 => 126 | 14 => 117 | 15 => 118 | 16 => 119 | 17 => 120 | 18 => 121 | 19 => 122 | 20 => 97 | 21 => 123 | 22 => 124 | 25 => 147 | 26 => 148 | 27 => 149 | 28 => 150 | 29 => 151 | 30 => 127 | 31 => 183 | n => n, fun | 26 => 9 | 28 => 112 | 24 => 58 | 0 => 0 | 3 => 3 | 37 => 176 | 48 => 84 | 50 => 83 | 4 => 4 | 40 => 223 | 39 => 222 | 45 => 159 | 5 => 5 | 9 => 9 | 51 => 244 | 55 => 248 | 57 => 267 | 58 => 268 | 33 => 152 | n => n, fun | n => n⟩
theorem Tryz.sorted48 : Go.Proofs.SlLaysZ.n6 Tryz.prog Tryz.sorted48_ren := {
  mixed := by kernel_rfl
  f6 := ⟨Tryz.f48.name, by decide, Tryz.func48.trans (congrArg some (by kernel_rfl))⟩
  f8 := ⟨Tryz.f67.name, by decide, Tryz.func67.trans (congrArg some (by kernel_rfl))⟩
  f11 := ⟨Tryz.f91.name, by decide, Tryz.func91.trans (congrArg some (by kernel_rfl))⟩
  t0 := Tryz.underlying0
  a0 := Tryz.isAgg0
  z0 := Tryz.sizeOf0
  v0 := Tryz.zeroValue0
  t24 := Tryz.underlying58
  a24 := Tryz.isAgg58
  z24 := Tryz.sizeOf58
  v24 := Tryz.zeroValue58
  t26 := Tryz.underlying9
  a26 := Tryz.isAgg9
  z26 := Tryz.sizeOf9
  v26 := Tryz.zeroValue9
  t28 := Tryz.underlying112
  a28 := Tryz.isAgg112
  z28 := Tryz.sizeOf112
  v28 := Tryz.zeroValue112
  i26 := by kernel_rfl }
def Tryz.sort68_ren : Go.Shelf.Ren := ⟨fun | 6 => 68 | 8 => 93 | 9 => 92 | 19 => 125 | 20 => 126 | 21 => 117 | 22 => 118 | 23 => 119 | 24 => 120 | 25 => 121 | 26 => 122 | 27 => 97 | 28 => 123 | 29 => 124 | 36 => 147 | 31 => 148 | 32 => 149 | 37 => 150 | 38 => 151 | 39 => 127 | 41 => 183 | n => n, fun | 27 => 58 | 29 => 9 | 3 => 3 | 32 => 176 | 26 => 58 | 0 => 0 | 44 => 84 | 46 => 83 | 4 => 4 | 36 => 223 | 35 => 222 | 41 => 159 | 5 => 5 | 9 => 9 | 53 => 244 | 57 => 248 | 63 => 267 | 64 => 268 | n => n, fun | n => n⟩
theorem Tryz.sort68 : Go.Proofs.SlLaysM.n6 Tryz.prog Tryz.sort68_ren := {
  mixed := by kernel_rfl
  f6 := ⟨Tryz.f68.name, by decide, Tryz.func68.trans (congrArg some (by kernel_rfl))⟩
  f8 := Tryz.func93.trans (congrArg some (by kernel_rfl))
  f9 := ⟨Tryz.f92.name, by decide, Tryz.func92.trans (congrArg some (by kernel_rfl))⟩
  f19 := Tryz.func125.trans (congrArg some (by kernel_rfl))
  f20 := Tryz.func126.trans (congrArg some (by kernel_rfl))
  f21 := ⟨Tryz.f117.name, by decide, Tryz.func117.trans (congrArg some (by kernel_rfl))⟩
  f22 := ⟨Tryz.f118.name, by decide, Tryz.func118.trans (congrArg some (by kernel_rfl))⟩
  f23 := ⟨Tryz.f119.name, by decide, Tryz.func119.trans (congrArg some (by kernel_rfl))⟩
  f24 := ⟨Tryz.f120.name, by decide, Tryz.func120.trans (congrArg some (by kernel_rfl))⟩
  f25 := ⟨Tryz.f121.name, by decide, Tryz.func121.trans (congrArg some (by kernel_rfl))⟩
  f26 := ⟨Tryz.f122.name, by decide, Tryz.func122.trans (congrArg some (by kernel_rfl))⟩
  f27 := ⟨Tryz.f97.name, by decide, Tryz.func97.trans (congrArg some (by kernel_rfl))⟩
  f28 := ⟨Tryz.f123.name, by decide, Tryz.func123.trans (congrArg some (by kernel_rfl))⟩
  f29 := ⟨Tryz.f124.name, by decide, Tryz.func124.trans (congrArg some (by kernel_rfl))⟩
  f31 := Tryz.func148.trans (congrArg some (by kernel_rfl))
  f32 := Tryz.func149.trans (congrArg some (by kernel_rfl))
  f36 := ⟨Tryz.f147.name, by decide, Tryz.func147.trans (congrArg some (by kernel_rfl))⟩
  f37 := ⟨Tryz.f150.name, by decide, Tryz.func150.trans (congrArg some (by kernel_rfl))⟩
  f38 := ⟨Tryz.f151.name, by decide, Tryz.func151.trans (congrArg some (by kernel_rfl))⟩
  f39 := ⟨Tryz.f127.name, by decide, Tryz.func127.trans (congrArg some (by kernel_rfl))⟩
  f41 := ⟨Tryz.f183.name, by decide, Tryz.func183.trans (congrArg some (by kernel_rfl))⟩
  t0 := Tryz.underlying0
  a0 := Tryz.isAgg0
  z0 := Tryz.sizeOf0
  v0 := Tryz.zeroValue0
  t3 := Tryz.underlying3
  a3 := Tryz.isAgg3
  z3 := Tryz.sizeOf3
  v3 := Tryz.zeroValue3
  t4 := Tryz.underlying4
  a4 := Tryz.isAgg4
  z4 := Tryz.sizeOf4
  v4 := Tryz.zeroValue4
  t5 := Tryz.underlying5
  a5 := Tryz.isAgg5
  z5 := Tryz.sizeOf5
  v5 := Tryz.zeroValue5
  t9 := Tryz.underlying9
  a9 := Tryz.isAgg9
  z9 := Tryz.sizeOf9
  v9 := Tryz.zeroValue9
  t26 := Tryz.underlying58
  a26 := Tryz.isAgg58
  z26 := Tryz.sizeOf58
  v26 := Tryz.zeroValue58
  t27 := Tryz.underlying58
  a27 := Tryz.isAgg58
  z27 := Tryz.sizeOf58
  v27 := Tryz.zeroValue58
  t29 := Tryz.underlying9
  a29 := Tryz.isAgg9
  z29 := Tryz.sizeOf9
  v29 := Tryz.zeroValue9
  t32 := Tryz.underlying176
  a32 := Tryz.isAgg176
  z32 := Tryz.sizeOf176
  v32 := Tryz.zeroValue176
  t35 := Tryz.underlying222
  a35 := Tryz.isAgg222
  z35 := Tryz.sizeOf222
  v35 := Tryz.zeroValue222
  t36 := Tryz.underlying223
  a36 := Tryz.isAgg223
  z36 := Tryz.sizeOf223
  v36 := Tryz.zeroValue223
  t41 := Tryz.underlying159
  a41 := Tryz.isAgg159
  z41 := Tryz.sizeOf159
  v41 := Tryz.zeroValue159
  t44 := Tryz.underlying84
  a44 := Tryz.isAgg84
  z44 := Tryz.sizeOf84
  v44 := Tryz.zeroValue84
  t46 := Tryz.underlying83
  a46 := Tryz.isAgg83
  z46 := Tryz.sizeOf83
  v46 := Tryz.zeroValue83
  t53 := Tryz.underlying244
  a53 := Tryz.isAgg244
  z53 := Tryz.sizeOf244
  v53 := Tryz.zeroValue244
  t57 := Tryz.underlying248
  a57 := Tryz.isAgg248
  z57 := Tryz.sizeOf248
  v57 := Tryz.zeroValue248
  t63 := Tryz.underlying267
  a63 := Tryz.isAgg267
  z63 := Tryz.sizeOf267
  v63 := Tryz.zeroValue267
  t64 := Tryz.underlying268
  a64 := Tryz.isAgg268
  z64 := Tryz.sizeOf268
  v64 := Tryz.zeroValue268 }
end Go.Proofs
namespace Go.Proofs.YtifanilblkellaaGreatDoor
open Go.SX Go.RowKit Go.Vo Go.Ss Go.EB Go.EX Go.Shelf Go.Maps Go.Sort Go.WideElems Go.WideShapes Go.WideMaps
theorem sortsIn (m : Nat) : AnyZ.SortsIn Tryz.prog Tryz.sorted48_ren Fence.wide m :=
  ⟨fun blk off cap ss W hH hblk hsz => callsIn_wide.2 (AnyM.slices_Sort_string Tryz.sort68 blk off cap ss W hH hblk hsz),
   fun p cap W => callsIn_wide.2 (AnyM.slices_Sort_string_none Tryz.sort68 p cap W)⟩
/-- a map whose keys are texts -/
@[reducible] def mapI (b : Nat) (ks : List T) (us : List Value) (bs : List Nat) (ck : Nat) : It := .obj b (.map (mkEs (ks.map str) us bs).toArray ck)
theorem keys_c {w0 : World} {base : Nat} {its : List It} (b : Nat) : FnC Tryz.prog 49 #[.map (some b)] (WA w0 base its) (fun q : Nat => .func (.func 69) #[] #[.pointer (some ⟨q, 0, none⟩)]) (fun q => WA w0 base (blk q [.map (some b)] 108 :: its)) := fun w hw =>
  (callsIn_wide.1 (AnyZ.keys_in Tryz.keys49 Fence.wide 5 trivial rfl (some b) w)).mono fun e w' ⟨he, hw'⟩ => ⟨w.heap.size, he, by subst hw'; exact hw.alloc _⟩
theorem under_str : Tryz.prog.underlying 9 = some .string := by kernel_rfl
def rdU (_ : Value) : Option (DataW Unit × List MemPlace) := some (.nil, [])
theorem mkEs_map : ∀ {ks us : List Value} {bs : List Nat}, us.length = ks.length → bs.length = ks.length → (mkEs ks us bs).map (·.key) = ks ∧ (mkEs ks us bs).map (·.born) = bs
  | [], us, bs, _, h2 => by
    obtain rfl := List.eq_nil_of_length_eq_zero h2
    rw [mkEs_nil1]
    exact ⟨rfl, rfl⟩
  | k :: ks, [], bs, h1, _ => by cases h1
  | k :: ks, u :: us, [], _, h2 => by cases h2
  | k :: ks, u :: us, b :: bs, h1, h2 => by
    have := mkEs_map (ks := ks) (us := us) (bs := bs) (by simpa using h1) (by simpa using h2)
    exact ⟨by show k :: _ = _; rw [this.1], by show b :: _ = _; rw [this.2]⟩
theorem read_str {P : Program} {kt : TypeId} (hu : P.underlying kt = some .string) {x : T} {u : Value} {b : Nat} (h : x.length ≤ maxLen) : rd P kt rdU ⟨str x, u, b⟩ = some (.string x, .nil) := by
  have := rd_mk (P := P) (k := kt) (R := rdU) (key := str x) (val := u) (born := b) (kl := .string x) (yv := (.nil, [])) (by
    have h1 := keyOf_string_mk (P := P) hu (s := ⟨x.toArray⟩) (by show x.toArray.size ≤ maxLen; simpa using h)
    simpa [str] using h1) rfl
  exact this
theorem map_own {P : Program} {kt : TypeId} (hu : P.underlying kt = some .string) {w : World} {b : Nat} {ks : List T} {us : List Value} {bs : List Nat} {ck : Nat} (hb : w.heap[b]? = some (.map (mkEs (ks.map str) us bs).toArray ck)) (h1 : us.length = ks.length) (h2 : bs.length = ks.length) (hn : ks.Nodup) (h12 : ks.length ≤ 12) (hl : ∀ k ∈ ks, k.length ≤ maxLen) (hbs : bs.Nodup ∧ ∀ x ∈ bs, x < ck) :
    ∃ D0 : DataW Unit, w.ownsMap P kt rdU b 12 D0 ∧ (strKeys D0).Perm ks ∧ Maps.size D0 = ks.length := by
  have hm := mkEs_map (ks := ks.map str) (us := us) (bs := bs) (by simpa using h1) (by simpa using h2)
  have hlen : (mkEs (ks.map str) us bs).length = ks.length := by
    have := congrArg List.length hm.1
    simpa using this
  have hrd : ∀ x ∈ mkEs (ks.map str) us bs, ∃ k, k ∈ ks ∧ x.key = str k ∧ rd P kt rdU x = some (.string k, .nil) := fun x hx => by
    have : x.key ∈ ks.map str := by rw [← hm.1]; exact List.mem_map_of_mem hx
    obtain ⟨k, hk, he⟩ := List.mem_map.1 this
    obtain ⟨xk, xv, xb⟩ := x
    dsimp only at he
    subst he
    exact ⟨k, hk, rfl, read_str hu (hl k hk)⟩
  have hinj : ∀ a b : T, str a = str b → a = b := fun a b h => by simpa [str] using h
  refine ⟨_, ⟨(mkEs (ks.map str) us bs).toArray, ck, hb, ⟨?_, ⟨?_, ?_, ?_⟩, ?_⟩, ?_, rfl⟩, ?_, ?_⟩
  · show (mkEs (ks.map str) us bs).toArray.size ≤ maxLen
    have : (12 : Nat) ≤ maxLen := by decide
    simp only [List.size_toArray]
    omega
  · intro x hx
    have hx' : x ∈ mkEs (ks.map str) us bs := hx
    exact hbs.2 _ (by rw [← hm.2]; exact List.mem_map_of_mem hx')
  · show ((mkEs (ks.map str) us bs).map (·.born)).Nodup
    rw [hm.2]; exact hbs.1
  · show ((mkEs (ks.map str) us bs).map (·.key)).Nodup
    rw [hm.1]
    exact List.pairwise_map.2 (hn.imp fun {a b} h e => h (hinj a b e))
  · intro x hx
    obtain ⟨k, _, _, h⟩ := hrd x hx
    exact ⟨_, h⟩
  · simp only [List.size_toArray]; omega
  · show ((((mkEs (ks.map str) us bs).map (rg P kt rdU)).foldr DataW.insert []).map fun q => strOf q.1).Perm ks
    refine ((sorted_perm _).map _).trans ?_
    rw [List.map_map]
    have : ∀ (es : List MapEntry) (ks : List T), es.map (·.key) = ks.map str → (∀ k ∈ ks, k.length ≤ maxLen) → es.map ((fun q : Lit × DataW Unit => strOf q.1) ∘ rg P kt rdU) = ks := by
      intro es
      induction es with
      | nil => intro ks h _; cases ks with
        | nil => rfl
        | cons k ks => cases h
      | cons e es ih =>
        intro ks h hl
        cases ks with
        | nil => cases h
        | cons k ks =>
          have h' := List.cons.inj h
          obtain ⟨ek, ev, eb⟩ := e
          have e1 : ek = str k := h'.1
          subst e1
          rw [List.map_cons, ih ks h'.2 (fun k hk => hl k (List.mem_cons_of_mem _ hk))]
          have hk1 : strOf (rg P kt rdU ⟨str k, ev, eb⟩).1 = k := by
            rw [rg_of (read_str hu (hl k List.mem_cons_self))]
            unfold strOf
            rfl
          show strOf (rg P kt rdU ⟨str k, ev, eb⟩).1 :: ks = k :: ks
          rw [hk1]
    rw [this _ ks hm.1 hl]
  · show (((mkEs (ks.map str) us bs).map (rg P kt rdU)).foldr DataW.insert []).length = ks.length
    rw [length_sorted, List.length_map, hlen]
theorem sorted_c {w0 : World} {base : Nat} {its : List It} {q b : Nat} {ks : List T} {us : List Value} {bs : List Nat} {ck : Nat} (h1 : us.length = ks.length) (h2 : bs.length = ks.length) (hn : ks.Nodup) (h12 : ks.length ≤ 12) (hl : ∀ k ∈ ks, k.length ≤ 30) (hbs : bs.Nodup ∧ ∀ x ∈ bs, x < ck) :
    FnC Tryz.prog 48 #[.func (.func 69) #[] #[.pointer (some ⟨q, 0, none⟩)]] (WA w0 base (blk q [.map (some b)] 108 :: mapI b ks us bs ck :: its)) (fun x : Option Nat × Nat => rv x.1 ks.length x.2)
      (fun x w => (ks.length = 0 → x = (none, 0)) ∧ WA w0 base (.row x.1 x.2 ks.length 9 1 ((srt ks).map str) :: blk q [.map (some b)] 108 :: mapI b ks us bs ck :: its) w) := fun w hw => by
  have hq := (hw.get (i := 0) rfl).2
  have hb := (hw.get (i := 1) rfl).2
  have hml : (30 : Nat) ≤ maxLen := by decide
  obtain ⟨D0, hown, hperm, hsize⟩ := map_own (P := Tryz.prog) under_str hb h1 h2 hn h12 (fun k hk => Nat.le_trans (hl k hk) hml) hbs
  have hqc : w.cell? ⟨q, 0, none⟩ = some (.map (some b)) := by simp [World.cell?, hq]
  have hseq : SeqGives Fence.wide 2 Tryz.prog 69 #[.pointer (some ⟨q, 0, none⟩)] encStr (fun ss => ss.Perm (strKeys D0)) (Maps.size D0) w :=
    AnyZ.keys_gives (ρ := Tryz.keys49_ren) { Tryz.keys49 with } Fence.wide _ trivial rfl (by omega) q b 12 D0 _ (World.block_lt_of_cell? _ _ hqc) hqc hown
  have hmx : (12 : Nat) ≤ maxLen := by decide
  have hb1 : Maps.size D0 ≤ maxLen := by rw [hsize]; exact Nat.le_trans h12 hmx
  have hb2 : Maps.size D0 * 16 ≤ 140737488355328 := by rw [hsize]; exact Nat.le_trans (Nat.mul_le_mul_right 16 h12) (by decide)
  refine (callsIn_wide.1 (AnyZ.sorted_in Tryz.sorted48 Fence.wide 5 trivial trivial trivial trivial rfl (by omega) (sortsIn _) (enters_of Tryz.func68 (by kernel_rfl) rfl) 69 #[.pointer (some ⟨q, 0, none⟩)] trivial (enters_of Tryz.func69 (by kernel_rfl) rfl) _ _ hb1 hb2 _ hseq)).mono fun e w' he => ?_
  obtain ⟨v, ss, rfl, hS, hrow, hnil, hbe⟩ := he
  have hp := hS.trans hperm
  have hlen : ss.length = ks.length := hp.length_eq
  rw [mergeSort_srt hp hn, hlen] at hrow
  have hv : ∃ g c, v = rv g ks.length c := by
    rcases hrow.2 with ⟨rfl, h0⟩ | ⟨g, cap, cur, rfl, _⟩
    · exact ⟨none, 0, by rw [h0]; rfl⟩
    · exact ⟨some g, cap, rfl⟩
  obtain ⟨g, c, rfl⟩ := hv
  refine ⟨(g, c), rfl, fun h0 => ?_, ?_⟩
  · have h2 := hnil.2 (List.eq_nil_of_length_eq_zero (hlen.trans h0))
    cases g with
    | none =>
      have h3 : Value.slice none ks.length c = .slice none 0 0 := h2
      injection h3 with _ _ h4
      rw [h4]
    | some g =>
      have h3 : Value.slice (some ⟨g, 0, none⟩) ks.length c = .slice none 0 0 := h2
      injection h3 with h4
      cases h4
  exact hw.onto1 ⟨hbe, hbe.size, fun it hi => by rw [List.mem_singleton.1 hi]; exact hrow, List.pairwise_singleton _ _⟩
end Go.Proofs.YtifanilblkellaaGreatDoor
