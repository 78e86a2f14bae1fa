/-
  Proved here: runs of the statement AstRows, each comes to true.
-/
import Derived.Test.YtljaoofbklkglaaDoorArb
namespace Go.Proofs.YtljaoofbklkglaaDoor.Ar
open Go.EY Go.EX Go.SX Go.RowKit
theorem run_38_2 : okT (g3 (38) (2) (.opq 90) [] (.opq 90) .nil 1) = true := by kernel_rfl
theorem run_38_3 : okT (g3 (38) (3) (.opq 90) [] (.opq 90) .nil 1) = true := by kernel_rfl
theorem run_38_4 : okT (g3 (38) (4) (.opq 90) [] (.opq 90) .nil 1) = true := by kernel_rfl
theorem run_38_5 : okT (g3 (38) (5) (.opq 90) [] (.opq 90) .nil 1) = true := by kernel_rfl
theorem run_38_6 : okT (g3 (38) (6) (.opq 90) [] (.opq 90) .nil 1) = true := by kernel_rfl
theorem run_38_7 : okT (g3 (38) (7) (.opq 90) [] (.opq 90) .nil 1) = true := by kernel_rfl
theorem run_38_8 : okT (g3 (38) (8) (.opq 90) [] (.opq 90) .nil 1) = true := by kernel_rfl
theorem run_39_1 : okT (g3 (39) (1) (.opq 90) [] (.opq 90) .nil 1) = true := by kernel_rfl
theorem run_39_2 : okT (g3 (39) (2) (.opq 90) [] (.opq 90) .nil 1) = true := by kernel_rfl
theorem run_39_3 : okT (g3 (39) (3) (.opq 90) [] (.opq 90) .nil 1) = true := by kernel_rfl
theorem run_39_4 : okT (g3 (39) (4) (.opq 90) [] (.opq 90) .nil 1) = true := by kernel_rfl
theorem run_39_5 : okT (g3 (39) (5) (.opq 90) [] (.opq 90) .nil 1) = true := by kernel_rfl
theorem run_39_6 : okT (g3 (39) (6) (.opq 90) [] (.opq 90) .nil 1) = true := by kernel_rfl
theorem run_39_7 : okT (g3 (39) (7) (.opq 90) [] (.opq 90) .nil 1) = true := by kernel_rfl
theorem run_39_8 : okT (g3 (39) (8) (.opq 90) [] (.opq 90) .nil 1) = true := by kernel_rfl
theorem run_40_1 : okT (g3 (40) (1) (.opq 90) [] (.opq 90) .nil 1) = true := by kernel_rfl
theorem run_40_2 : okT (g3 (40) (2) (.opq 90) [] (.opq 90) .nil 1) = true := by kernel_rfl
theorem run_40_3 : okT (g3 (40) (3) (.opq 90) [] (.opq 90) .nil 1) = true := by kernel_rfl
theorem run_40_4 : okT (g3 (40) (4) (.opq 90) [] (.opq 90) .nil 1) = true := by kernel_rfl
theorem run_40_5 : okT (g3 (40) (5) (.opq 90) [] (.opq 90) .nil 1) = true := by kernel_rfl
theorem run_40_6 : okT (g3 (40) (6) (.opq 90) [] (.opq 90) .nil 1) = true := by kernel_rfl
theorem run_40_7 : okT (g3 (40) (7) (.opq 90) [] (.opq 90) .nil 1) = true := by kernel_rfl
theorem run_40_8 : okT (g3 (40) (8) (.opq 90) [] (.opq 90) .nil 1) = true := by kernel_rfl
theorem run_41_1 : okT (g3 (41) (1) (.opq 90) [] (.opq 90) .nil 1) = true := by kernel_rfl
theorem run_41_2 : okT (g3 (41) (2) (.opq 90) [] (.opq 90) .nil 1) = true := by kernel_rfl
theorem run_41_3 : okT (g3 (41) (3) (.opq 90) [] (.opq 90) .nil 1) = true := by kernel_rfl
theorem run_41_4 : okT (g3 (41) (4) (.opq 90) [] (.opq 90) .nil 1) = true := by kernel_rfl
theorem run_41_5 : okT (g3 (41) (5) (.opq 90) [] (.opq 90) .nil 1) = true := by kernel_rfl
theorem run_41_6 : okT (g3 (41) (6) (.opq 90) [] (.opq 90) .nil 1) = true := by kernel_rfl
theorem run_41_7 : okT (g3 (41) (7) (.opq 90) [] (.opq 90) .nil 1) = true := by kernel_rfl
theorem run_41_8 : okT (g3 (41) (8) (.opq 90) [] (.opq 90) .nil 1) = true := by kernel_rfl
theorem run_42_1 : okT (g3 (42) (1) (.opq 90) [] (.opq 90) .nil 1) = true := by kernel_rfl
theorem run_42_2 : okT (g3 (42) (2) (.opq 90) [] (.opq 90) .nil 1) = true := by kernel_rfl
theorem run_42_3 : okT (g3 (42) (3) (.opq 90) [] (.opq 90) .nil 1) = true := by kernel_rfl
theorem run_42_4 : okT (g3 (42) (4) (.opq 90) [] (.opq 90) .nil 1) = true := by kernel_rfl
theorem run_42_5 : okT (g3 (42) (5) (.opq 90) [] (.opq 90) .nil 1) = true := by kernel_rfl
theorem run_42_6 : okT (g3 (42) (6) (.opq 90) [] (.opq 90) .nil 1) = true := by kernel_rfl
theorem run_42_7 : okT (g3 (42) (7) (.opq 90) [] (.opq 90) .nil 1) = true := by kernel_rfl
theorem run_42_8 : okT (g3 (42) (8) (.opq 90) [] (.opq 90) .nil 1) = true := by kernel_rfl
theorem run_43_1 : okT (g3 (43) (1) (.opq 90) [] (.opq 90) .nil 1) = true := by kernel_rfl
theorem run_43_2 : okT (g3 (43) (2) (.opq 90) [] (.opq 90) .nil 1) = true := by kernel_rfl
theorem run_43_3 : okT (g3 (43) (3) (.opq 90) [] (.opq 90) .nil 1) = true := by kernel_rfl
theorem run_43_4 : okT (g3 (43) (4) (.opq 90) [] (.opq 90) .nil 1) = true := by kernel_rfl
theorem run_43_5 : okT (g3 (43) (5) (.opq 90) [] (.opq 90) .nil 1) = true := by kernel_rfl
theorem run_43_6 : okT (g3 (43) (6) (.opq 90) [] (.opq 90) .nil 1) = true := by kernel_rfl
theorem run_43_7 : okT (g3 (43) (7) (.opq 90) [] (.opq 90) .nil 1) = true := by kernel_rfl
end Go.Proofs.YtljaoofbklkglaaDoor.Ar
