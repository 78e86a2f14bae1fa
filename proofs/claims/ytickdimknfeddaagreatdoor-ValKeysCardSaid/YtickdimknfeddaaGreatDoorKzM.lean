/-
  Proved here: the table of powers.
-/
import Derived.Test.YtickdimknfeddaaGreatDoorEnvQ
import Derived.Test.YtickdimknfeddaaGreatDoorKyE
namespace Go.Proofs.YtickdimknfeddaaGreatDoor
open Go.SX Go.RowKit Go.Vo Go.Ky Go.Proofs.YtickdimknfeddaaGreatDoor.Env
namespace Kuk

end Kuk
open Go.WideShapes Go.ChangeAt
theorem tab_eq : (Rows.laid_internal_strconv_uint64pow10 : DataW Unit) = Go.Lib.tabData .u64 Go.Lib.pow10Tab := by kernel_rfl
set_option maxRecDepth 100000 in
theorem tab17 {W : World} (h : laidMetH Tryz.prog Rows.valKeysRow.laid W) : Go.Lib.TabBelow Tryz.prog W.heap.size W "internal/strconv.uint64pow10" .u64 Go.Lib.pow10Tab := by
  have h2 : laidMet Tryz.prog (("internal/strconv.uint64pow10", Rows.laid_internal_strconv_uint64pow10) :: Rows.valKeysRow.laid.drop 3) W := laidMet_sub (List.Sublist.cons _ (List.Sublist.cons _ (List.Sublist.refl _))) (laidMetH_iff.1 h).1
  rw [tab_eq] at h2
  exact Go.Lib.tabBelow_of_tabIs (Go.Lib.tabIs_of_head (g := 6) (t := 230) (e := 75) (n := 20) (by kernel_rfl) (by kernel_rfl) (by kernel_rfl) (by kernel_rfl) (by kernel_rfl) (by kernel_rfl) h2)
end Go.Proofs.YtickdimknfeddaaGreatDoor
