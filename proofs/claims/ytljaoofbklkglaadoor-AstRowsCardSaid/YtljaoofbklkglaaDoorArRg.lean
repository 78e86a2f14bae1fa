/-
  Proved here: runs of the statement AstRows, each comes to true.
-/
import Derived.Test.YtljaoofbklkglaaDoorArb
namespace Go.Proofs.YtljaoofbklkglaaDoor.Ar
open Go.EY Go.EX Go.SX Go.RowKit
theorem run_55_6 : okT (g3 (55) (6) (.opq 90) [] (.opq 90) .nil 1) = true := by kernel_rfl
theorem run_55_7 : okT (g3 (55) (7) (.opq 90) [] (.opq 90) .nil 1) = true := by kernel_rfl
theorem run_55_8 : okT (g3 (55) (8) (.opq 90) [] (.opq 90) .nil 1) = true := by kernel_rfl
theorem run_56_1 : okT (g3 (56) (1) (.opq 90) [] (.opq 90) .nil 1) = true := by kernel_rfl
theorem run_56_2 : okT (g3 (56) (2) (.opq 90) [] (.opq 90) .nil 1) = true := by kernel_rfl
theorem run_56_3 : okT (g3 (56) (3) (.opq 90) [] (.opq 90) .nil 1) = true := by kernel_rfl
theorem run_56_4 : okT (g3 (56) (4) (.opq 90) [] (.opq 90) .nil 1) = true := by kernel_rfl
theorem run_56_5 : okT (g3 (56) (5) (.opq 90) [] (.opq 90) .nil 1) = true := by kernel_rfl
theorem run_56_6 : okT (g3 (56) (6) (.opq 90) [] (.opq 90) .nil 1) = true := by kernel_rfl
theorem run_56_7 : okT (g3 (56) (7) (.opq 90) [] (.opq 90) .nil 1) = true := by kernel_rfl
theorem run_56_8 : okT (g3 (56) (8) (.opq 90) [] (.opq 90) .nil 1) = true := by kernel_rfl
theorem run_57_1 : okT (g3 (57) (1) (.opq 90) [] (.opq 90) .nil 1) = true := by kernel_rfl
theorem run_57_2 : okT (g3 (57) (2) (.opq 90) [] (.opq 90) .nil 1) = true := by kernel_rfl
theorem run_57_3 : okT (g3 (57) (3) (.opq 90) [] (.opq 90) .nil 1) = true := by kernel_rfl
theorem run_57_4 : okT (g3 (57) (4) (.opq 90) [] (.opq 90) .nil 1) = true := by kernel_rfl
theorem run_57_5 : okT (g3 (57) (5) (.opq 90) [] (.opq 90) .nil 1) = true := by kernel_rfl
theorem run_57_6 : okT (g3 (57) (6) (.opq 90) [] (.opq 90) .nil 1) = true := by kernel_rfl
theorem run_57_7 : okT (g3 (57) (7) (.opq 90) [] (.opq 90) .nil 1) = true := by kernel_rfl
theorem run_57_8 : okT (g3 (57) (8) (.opq 90) [] (.opq 90) .nil 1) = true := by kernel_rfl
theorem run_58_1 : okT (g3 (58) (1) (.opq 90) [] (.opq 90) .nil 1) = true := by kernel_rfl
theorem run_58_2 : okT (g3 (58) (2) (.opq 90) [] (.opq 90) .nil 1) = true := by kernel_rfl
theorem run_58_3 : okT (g3 (58) (3) (.opq 90) [] (.opq 90) .nil 1) = true := by kernel_rfl
theorem run_58_4 : okT (g3 (58) (4) (.opq 90) [] (.opq 90) .nil 1) = true := by kernel_rfl
theorem run_58_5 : okT (g3 (58) (5) (.opq 90) [] (.opq 90) .nil 1) = true := by kernel_rfl
end Go.Proofs.YtljaoofbklkglaaDoor.Ar
