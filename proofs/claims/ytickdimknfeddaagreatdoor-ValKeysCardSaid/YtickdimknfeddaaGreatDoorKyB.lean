/-
  Proved here: a number's text is laid behind a row that is owned, beside one more block.
-/
import Derived.Shelf.Strconv.AppendIntPublic10
import Derived.Ground.NamesProg
import Derived.Test.YtickdimknfeddaaGreatDoorProg
import Derived.Test.YtickdimknfeddaaGreatDoorKyS
namespace Go.Proofs
open Go.Shelf
def Tryz.appendInt_ren : Go.Shelf.Ren := ⟨fun | 176 => 53 | 249 => 95 | 288 => 126 | 283 => 144 | 284 => 145 | 285 => 146 | 286 => 147 | 129 => 161 | 317 => 160 | 318 => 162 | 319 => 163 | 320 => 164 | 337 => 173 | 338 => 174 | n => n, fun | 37 => 57 | 2 => 2 | 3 => 3 | 53 => 75 | 4 => 4 | 9 => 9 | 171 => 217 | 0 => 0 | 173 => 220 | 212 => 230 | 51 => 76 | 5 => 5 | 20 => 20 | 213 => 231 | 46 => 181 | 232 => 241 | 233 => 242 | n => n, fun | 17 => 6 | 18 => 18 | 19 => 19 | n => n⟩
theorem Tryz.appendInt : Go.Proofs.LaysM.n176 Tryz.prog Tryz.appendInt_ren := {
  mixed := by kernel_rfl
  f129 := Tryz.func161.trans (congrArg some (by kernel_rfl))
  f176 := Tryz.func53.trans (congrArg some (by kernel_rfl))
  f249 := Tryz.func95.trans (congrArg some (by kernel_rfl))
  f283 := Tryz.func144.trans (congrArg some (by kernel_rfl))
  f284 := Tryz.func145.trans (congrArg some (by kernel_rfl))
  f285 := Tryz.func146.trans (congrArg some (by kernel_rfl))
  f286 := Tryz.func147.trans (congrArg some (by kernel_rfl))
  f288 := Tryz.func126.trans (congrArg some (by kernel_rfl))
  f317 := Tryz.func160.trans (congrArg some (by kernel_rfl))
  f318 := Tryz.func162.trans (congrArg some (by kernel_rfl))
  f319 := Tryz.func163.trans (congrArg some (by kernel_rfl))
  f320 := Tryz.func164.trans (congrArg some (by kernel_rfl))
  f337 := Tryz.func173.trans (congrArg some (by kernel_rfl))
  f338 := Tryz.func174.trans (congrArg some (by kernel_rfl))
  t0 := Tryz.underlying0
  a0 := Tryz.isAgg0
  z0 := Tryz.sizeOf0
  v0 := Tryz.zeroValue0
  t2 := Tryz.underlying2
  a2 := Tryz.isAgg2
  z2 := Tryz.sizeOf2
  v2 := Tryz.zeroValue2
  t3 := Tryz.underlying3
  a3 := Tryz.isAgg3
  z3 := Tryz.sizeOf3
  v3 := Tryz.zeroValue3
  t4 := Tryz.underlying4
  a4 := Tryz.isAgg4
  z4 := Tryz.sizeOf4
  v4 := Tryz.zeroValue4
  t5 := Tryz.underlying5
  a5 := Tryz.isAgg5
  z5 := Tryz.sizeOf5
  v5 := Tryz.zeroValue5
  t9 := Tryz.underlying9
  a9 := Tryz.isAgg9
  z9 := Tryz.sizeOf9
  v9 := Tryz.zeroValue9
  t20 := Tryz.underlying20
  a20 := Tryz.isAgg20
  z20 := Tryz.sizeOf20
  v20 := Tryz.zeroValue20
  t37 := Tryz.underlying57
  a37 := Tryz.isAgg57
  z37 := Tryz.sizeOf57
  v37 := Tryz.zeroValue57
  t46 := Tryz.underlying181
  a46 := Tryz.isAgg181
  z46 := Tryz.sizeOf181
  v46 := Tryz.zeroValue181
  t51 := Tryz.underlying76
  a51 := Tryz.isAgg76
  z51 := Tryz.sizeOf76
  v51 := Tryz.zeroValue76
  t53 := Tryz.underlying75
  a53 := Tryz.isAgg75
  z53 := Tryz.sizeOf75
  v53 := Tryz.zeroValue75
  t171 := Tryz.underlying217
  a171 := Tryz.isAgg217
  z171 := Tryz.sizeOf217
  v171 := Tryz.zeroValue217
  t173 := Tryz.underlying220
  a173 := Tryz.isAgg220
  z173 := Tryz.sizeOf220
  v173 := Tryz.zeroValue220
  t212 := Tryz.underlying230
  a212 := Tryz.isAgg230
  z212 := Tryz.sizeOf230
  v212 := Tryz.zeroValue230
  t213 := Tryz.underlying231
  a213 := Tryz.isAgg231
  z213 := Tryz.sizeOf231
  t232 := Tryz.underlying241
  a232 := Tryz.isAgg241
  z232 := Tryz.sizeOf241
  v232 := Tryz.zeroValue241
  t233 := Tryz.underlying242
  a233 := Tryz.isAgg242
  z233 := Tryz.sizeOf242
  v233 := Tryz.zeroValue242
  g17 := by kernel_rfl
  g18 := by kernel_rfl
  g19 := by kernel_rfl
  i0 := by kernel_rfl
  i2 := by kernel_rfl
  i3 := by kernel_rfl
  i4 := by kernel_rfl
  i5 := by kernel_rfl
  i9 := by kernel_rfl
  i20 := by kernel_rfl
  i37 := by kernel_rfl
  i46 := by kernel_rfl
  i51 := by kernel_rfl
  i53 := by kernel_rfl
  i171 := by kernel_rfl
  i173 := by kernel_rfl
  i212 := by kernel_rfl
  i232 := by kernel_rfl
  i233 := by kernel_rfl
  m17 := by kernel_rfl
  m18 := by kernel_rfl
  m19 := by kernel_rfl }
end Go.Proofs
namespace Go.Proofs.YtickdimknfeddaaGreatDoor
open Go.SX Go.RowKit Go.Shelf Go.Lib Go.Ky
theorem byteCells_b8 (l : List UInt8) : byteCells l = l.map b8 := rfl
theorem appInt_c {w0 : World} {base kp : Nat} {cs : List Value} {g : Option Nat} {c : Nat} {bs : List UInt8} (hT : TabBelow Tryz.prog base w0 "internal/strconv.uint64pow10" .u64 pow10Tab) {m : Nat} (hm : m ≤ 300) (hb : bs.length ≤ 100000000) :
    FnC Tryz.prog 53 #[rv g bs.length c, .int .i64 (m : Int), .int .i64 10] (WA w0 base [blk kp cs 59, .row g c bs.length 5 1 (bs.map b8)]) (fun q : Option Nat × Nat => rv q.1 (bs ++ itoa m).length q.2)
      (fun q => WA w0 base [blk kp cs 59, .row q.1 q.2 (bs ++ itoa m).length 5 1 ((bs ++ itoa m).map b8)]) := fun w hw => by
  have h0 := hw.get (i := 0) rfl
  have h1 := hw.get (i := 1) rfl
  refine (Any.strconv_AppendInt_10 Tryz.appendInt base bs.length (m : Int) (by omega) (by omega) (rv g bs.length c) (bs.map b8) w h1 hw.fits (by omega) (hT.on hw.below)).mono fun e w' ⟨v', he, ho, hbl, hk⟩ => ?_
  have hv : ∃ g2 c2, v' = rv g2 (bs ++ itoa m).length c2 := by
    rcases ho.2 with ⟨h, hz⟩ | ⟨g3, c3, cur, h, _⟩
    · exact ⟨none, 0, by rw [h, List.length_append, hz]; rfl⟩
    · exact ⟨some g3, c3, by rw [h, List.length_append]; rfl⟩
  obtain ⟨g2, c2, rfl⟩ := hv
  refine ⟨(g2, c2), he, hw.below.trans hbl, ?_, ?_, ?_⟩
  · exact Nat.le_trans hw.fits hbl.size
  · intro it hi
    rcases List.mem_cons.1 hi with rfl | hi
    · exact ⟨h0.1, hk kp _ h0.2 (by intro h; cases h) (by intro cur fz h; cases h)⟩
    · obtain rfl := List.mem_singleton.1 hi
      have : w'.ownsRow base 5 1 (rv g2 (bs ++ itoa m).length c2) (bs ++ itoa m).length ((bs ++ itoa m).map b8) := by
        rw [List.map_append]
        rw [show (bs ++ itoa (m : Int)).length = bs.length + (itoa (m : Int)).length from List.length_append] at ho ⊢
        exact ho
      exact this
  · refine List.pairwise_cons.2 ⟨fun it hi k hk1 hk2 => ?_, List.pairwise_singleton _ _⟩
    obtain rfl := List.mem_singleton.1 hi
    cases hk1
    have h3 : w'.heap[kp]? = _ := hk kp _ h0.2 (by intro h; cases h) (by intro cur fz h; cases h)
    rcases ho.2 with ⟨h, hz⟩ | ⟨g3, c3, cur, h, h4, h5, _⟩
    · cases g2 with
      | none => cases hk2
      | some g2 => cases h
    · cases g2 with
      | none => cases hk2
      | some g2 =>
        injection h with h _ _
        injection h with h
        injection h with h _ _
        have hk2 : some g2 = some kp := hk2
        injection hk2 with hk2
        subst hk2
        rw [h, h5] at h3
        cases h3
end Go.Proofs.YtickdimknfeddaaGreatDoor
