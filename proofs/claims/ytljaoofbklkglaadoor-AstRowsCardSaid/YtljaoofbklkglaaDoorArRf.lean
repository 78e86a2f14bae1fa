/-
  Proved here: runs of the statement AstRows, each comes to true.
-/
import Derived.Test.YtljaoofbklkglaaDoorArb
namespace Go.Proofs.YtljaoofbklkglaaDoor.Ar
open Go.EY Go.EX Go.SX Go.RowKit
theorem run_52_3 : okT (g3 (52) (3) (.opq 90) [] (.opq 90) .nil 1) = true := by kernel_rfl
theorem run_52_4 : okT (g3 (52) (4) (.opq 90) [] (.opq 90) .nil 1) = true := by kernel_rfl
theorem run_52_5 : okT (g3 (52) (5) (.opq 90) [] (.opq 90) .nil 1) = true := by kernel_rfl
theorem run_52_6 : okT (g3 (52) (6) (.opq 90) [] (.opq 90) .nil 1) = true := by kernel_rfl
theorem run_52_7 : okT (g3 (52) (7) (.opq 90) [] (.opq 90) .nil 1) = true := by kernel_rfl
theorem run_52_8 : okT (g3 (52) (8) (.opq 90) [] (.opq 90) .nil 1) = true := by kernel_rfl
theorem run_53_1 : okT (g3 (53) (1) (.opq 90) [] (.opq 90) .nil 1) = true := by kernel_rfl
theorem run_53_2 : okT (g3 (53) (2) (.opq 90) [] (.opq 90) .nil 1) = true := by kernel_rfl
theorem run_53_3 : okT (g3 (53) (3) (.opq 90) [] (.opq 90) .nil 1) = true := by kernel_rfl
theorem run_53_4 : okT (g3 (53) (4) (.opq 90) [] (.opq 90) .nil 1) = true := by kernel_rfl
theorem run_53_5 : okT (g3 (53) (5) (.opq 90) [] (.opq 90) .nil 1) = true := by kernel_rfl
theorem run_53_6 : okT (g3 (53) (6) (.opq 90) [] (.opq 90) .nil 1) = true := by kernel_rfl
theorem run_53_7 : okT (g3 (53) (7) (.opq 90) [] (.opq 90) .nil 1) = true := by kernel_rfl
theorem run_53_8 : okT (g3 (53) (8) (.opq 90) [] (.opq 90) .nil 1) = true := by kernel_rfl
theorem run_54_1 : okT (g3 (54) (1) (.opq 90) [] (.opq 90) .nil 1) = true := by kernel_rfl
theorem run_54_2 : okT (g3 (54) (2) (.opq 90) [] (.opq 90) .nil 1) = true := by kernel_rfl
theorem run_54_3 : okT (g3 (54) (3) (.opq 90) [] (.opq 90) .nil 1) = true := by kernel_rfl
theorem run_54_4 : okT (g3 (54) (4) (.opq 90) [] (.opq 90) .nil 1) = true := by kernel_rfl
theorem run_54_5 : okT (g3 (54) (5) (.opq 90) [] (.opq 90) .nil 1) = true := by kernel_rfl
theorem run_54_6 : okT (g3 (54) (6) (.opq 90) [] (.opq 90) .nil 1) = true := by kernel_rfl
theorem run_54_7 : okT (g3 (54) (7) (.opq 90) [] (.opq 90) .nil 1) = true := by kernel_rfl
theorem run_54_8 : okT (g3 (54) (8) (.opq 90) [] (.opq 90) .nil 1) = true := by kernel_rfl
theorem run_55_1 : okT (g3 (55) (1) (.opq 90) [] (.opq 90) .nil 1) = true := by kernel_rfl
theorem run_55_2 : okT (g3 (55) (2) (.opq 90) [] (.opq 90) .nil 1) = true := by kernel_rfl
theorem run_55_3 : okT (g3 (55) (3) (.opq 90) [] (.opq 90) .nil 1) = true := by kernel_rfl
theorem run_55_4 : okT (g3 (55) (4) (.opq 90) [] (.opq 90) .nil 1) = true := by kernel_rfl
theorem run_55_5 : okT (g3 (55) (5) (.opq 90) [] (.opq 90) .nil 1) = true := by kernel_rfl
end Go.Proofs.YtljaoofbklkglaaDoor.Ar
