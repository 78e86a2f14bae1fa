/-
  Proved here: runs of the statement AstRows, each comes to true.
-/
import Derived.Test.YtljaoofbklkglaaDoorArb
namespace Go.Proofs.YtljaoofbklkglaaDoor.Ar
open Go.EY Go.EX Go.SX Go.RowKit
theorem run_48_4 : okT (g3 (48) (4) (.opq 90) [] (.opq 90) .nil 1) = true := by kernel_rfl
theorem run_48_5 : okT (g3 (48) (5) (.opq 90) [] (.opq 90) .nil 1) = true := by kernel_rfl
theorem run_48_6 : okT (g3 (48) (6) (.opq 90) [] (.opq 90) .nil 1) = true := by kernel_rfl
theorem run_48_7 : okT (g3 (48) (7) (.opq 90) [] (.opq 90) .nil 1) = true := by kernel_rfl
theorem run_48_8 : okT (g3 (48) (8) (.opq 90) [] (.opq 90) .nil 1) = true := by kernel_rfl
theorem run_49_1 : okT (g3 (49) (1) (.opq 90) [] (.opq 90) .nil 1) = true := by kernel_rfl
theorem run_49_2 : okT (g3 (49) (2) (.opq 90) [] (.opq 90) .nil 1) = true := by kernel_rfl
theorem run_49_3 : okT (g3 (49) (3) (.opq 90) [] (.opq 90) .nil 1) = true := by kernel_rfl
theorem run_49_4 : okT (g3 (49) (4) (.opq 90) [] (.opq 90) .nil 1) = true := by kernel_rfl
theorem run_49_5 : okT (g3 (49) (5) (.opq 90) [] (.opq 90) .nil 1) = true := by kernel_rfl
theorem run_49_6 : okT (g3 (49) (6) (.opq 90) [] (.opq 90) .nil 1) = true := by kernel_rfl
theorem run_49_7 : okT (g3 (49) (7) (.opq 90) [] (.opq 90) .nil 1) = true := by kernel_rfl
theorem run_49_8 : okT (g3 (49) (8) (.opq 90) [] (.opq 90) .nil 1) = true := by kernel_rfl
theorem run_50_1 : okT (g3 (50) (1) (.opq 90) [] (.opq 90) .nil 1) = true := by kernel_rfl
theorem run_50_2 : okT (g3 (50) (2) (.opq 90) [] (.opq 90) .nil 1) = true := by kernel_rfl
theorem run_50_3 : okT (g3 (50) (3) (.opq 90) [] (.opq 90) .nil 1) = true := by kernel_rfl
theorem run_50_4 : okT (g3 (50) (4) (.opq 90) [] (.opq 90) .nil 1) = true := by kernel_rfl
theorem run_50_5 : okT (g3 (50) (5) (.opq 90) [] (.opq 90) .nil 1) = true := by kernel_rfl
theorem run_50_6 : okT (g3 (50) (6) (.opq 90) [] (.opq 90) .nil 1) = true := by kernel_rfl
theorem run_50_7 : okT (g3 (50) (7) (.opq 90) [] (.opq 90) .nil 1) = true := by kernel_rfl
theorem run_50_8 : okT (g3 (50) (8) (.opq 90) [] (.opq 90) .nil 1) = true := by kernel_rfl
theorem run_51_1 : okT (g3 (51) (1) (.opq 90) [] (.opq 90) .nil 1) = true := by kernel_rfl
theorem run_51_2 : okT (g3 (51) (2) (.opq 90) [] (.opq 90) .nil 1) = true := by kernel_rfl
theorem run_51_3 : okT (g3 (51) (3) (.opq 90) [] (.opq 90) .nil 1) = true := by kernel_rfl
theorem run_51_4 : okT (g3 (51) (4) (.opq 90) [] (.opq 90) .nil 1) = true := by kernel_rfl
theorem run_51_5 : okT (g3 (51) (5) (.opq 90) [] (.opq 90) .nil 1) = true := by kernel_rfl
theorem run_51_6 : okT (g3 (51) (6) (.opq 90) [] (.opq 90) .nil 1) = true := by kernel_rfl
theorem run_51_7 : okT (g3 (51) (7) (.opq 90) [] (.opq 90) .nil 1) = true := by kernel_rfl
theorem run_51_8 : okT (g3 (51) (8) (.opq 90) [] (.opq 90) .nil 1) = true := by kernel_rfl
theorem run_52_1 : okT (g3 (52) (1) (.opq 90) [] (.opq 90) .nil 1) = true := by kernel_rfl
theorem run_52_2 : okT (g3 (52) (2) (.opq 90) [] (.opq 90) .nil 1) = true := by kernel_rfl
end Go.Proofs.YtljaoofbklkglaaDoor.Ar
