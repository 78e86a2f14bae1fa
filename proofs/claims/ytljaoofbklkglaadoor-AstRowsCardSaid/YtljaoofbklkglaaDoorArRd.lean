/-
  Proved here: runs of the statement AstRows, each comes to true.
-/
import Derived.Test.YtljaoofbklkglaaDoorArb
namespace Go.Proofs.YtljaoofbklkglaaDoor.Ar
open Go.EY Go.EX Go.SX Go.RowKit
theorem run_43_8 : okT (g3 (43) (8) (.opq 90) [] (.opq 90) .nil 1) = true := by kernel_rfl
theorem run_44_1 : okT (g3 (44) (1) (.opq 90) [] (.opq 90) .nil 1) = true := by kernel_rfl
theorem run_44_2 : okT (g3 (44) (2) (.opq 90) [] (.opq 90) .nil 1) = true := by kernel_rfl
theorem run_44_3 : okT (g3 (44) (3) (.opq 90) [] (.opq 90) .nil 1) = true := by kernel_rfl
theorem run_44_4 : okT (g3 (44) (4) (.opq 90) [] (.opq 90) .nil 1) = true := by kernel_rfl
theorem run_44_5 : okT (g3 (44) (5) (.opq 90) [] (.opq 90) .nil 1) = true := by kernel_rfl
theorem run_44_6 : okT (g3 (44) (6) (.opq 90) [] (.opq 90) .nil 1) = true := by kernel_rfl
theorem run_44_7 : okT (g3 (44) (7) (.opq 90) [] (.opq 90) .nil 1) = true := by kernel_rfl
theorem run_44_8 : okT (g3 (44) (8) (.opq 90) [] (.opq 90) .nil 1) = true := by kernel_rfl
theorem run_45_1 : okT (g3 (45) (1) (.opq 90) [] (.opq 90) .nil 1) = true := by kernel_rfl
theorem run_45_2 : okT (g3 (45) (2) (.opq 90) [] (.opq 90) .nil 1) = true := by kernel_rfl
theorem run_45_3 : okT (g3 (45) (3) (.opq 90) [] (.opq 90) .nil 1) = true := by kernel_rfl
theorem run_45_4 : okT (g3 (45) (4) (.opq 90) [] (.opq 90) .nil 1) = true := by kernel_rfl
theorem run_45_5 : okT (g3 (45) (5) (.opq 90) [] (.opq 90) .nil 1) = true := by kernel_rfl
theorem run_45_6 : okT (g3 (45) (6) (.opq 90) [] (.opq 90) .nil 1) = true := by kernel_rfl
theorem run_45_7 : okT (g3 (45) (7) (.opq 90) [] (.opq 90) .nil 1) = true := by kernel_rfl
theorem run_45_8 : okT (g3 (45) (8) (.opq 90) [] (.opq 90) .nil 1) = true := by kernel_rfl
theorem run_46_1 : okT (g3 (46) (1) (.opq 90) [] (.opq 90) .nil 1) = true := by kernel_rfl
theorem run_46_2 : okT (g3 (46) (2) (.opq 90) [] (.opq 90) .nil 1) = true := by kernel_rfl
theorem run_46_3 : okT (g3 (46) (3) (.opq 90) [] (.opq 90) .nil 1) = true := by kernel_rfl
theorem run_46_4 : okT (g3 (46) (4) (.opq 90) [] (.opq 90) .nil 1) = true := by kernel_rfl
theorem run_46_5 : okT (g3 (46) (5) (.opq 90) [] (.opq 90) .nil 1) = true := by kernel_rfl
theorem run_46_6 : okT (g3 (46) (6) (.opq 90) [] (.opq 90) .nil 1) = true := by kernel_rfl
theorem run_46_7 : okT (g3 (46) (7) (.opq 90) [] (.opq 90) .nil 1) = true := by kernel_rfl
theorem run_46_8 : okT (g3 (46) (8) (.opq 90) [] (.opq 90) .nil 1) = true := by kernel_rfl
theorem run_47_1 : okT (g3 (47) (1) (.opq 90) [] (.opq 90) .nil 1) = true := by kernel_rfl
theorem run_47_2 : okT (g3 (47) (2) (.opq 90) [] (.opq 90) .nil 1) = true := by kernel_rfl
theorem run_47_3 : okT (g3 (47) (3) (.opq 90) [] (.opq 90) .nil 1) = true := by kernel_rfl
theorem run_47_4 : okT (g3 (47) (4) (.opq 90) [] (.opq 90) .nil 1) = true := by kernel_rfl
theorem run_47_5 : okT (g3 (47) (5) (.opq 90) [] (.opq 90) .nil 1) = true := by kernel_rfl
theorem run_47_6 : okT (g3 (47) (6) (.opq 90) [] (.opq 90) .nil 1) = true := by kernel_rfl
theorem run_47_7 : okT (g3 (47) (7) (.opq 90) [] (.opq 90) .nil 1) = true := by kernel_rfl
theorem run_47_8 : okT (g3 (47) (8) (.opq 90) [] (.opq 90) .nil 1) = true := by kernel_rfl
theorem run_48_1 : okT (g3 (48) (1) (.opq 90) [] (.opq 90) .nil 1) = true := by kernel_rfl
theorem run_48_2 : okT (g3 (48) (2) (.opq 90) [] (.opq 90) .nil 1) = true := by kernel_rfl
theorem run_48_3 : okT (g3 (48) (3) (.opq 90) [] (.opq 90) .nil 1) = true := by kernel_rfl
end Go.Proofs.YtljaoofbklkglaaDoor.Ar
