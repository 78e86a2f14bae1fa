/-
  Proved here: runs of the statement AstRows, each comes to true.
-/
import Derived.Test.YtljaoofbklkglaaDoorArb
namespace Go.Proofs.YtljaoofbklkglaaDoor.Ar
open Go.EY Go.EX Go.SX Go.RowKit
theorem run_29_8 : okT (g3 (29) (8) (.opq 90) [] (.opq 90) .nil 1) = true := by kernel_rfl
theorem run_30_1 : okT (g3 (30) (1) (.opq 90) [] (.opq 90) .nil 1) = true := by kernel_rfl
theorem run_30_2 : okT (g3 (30) (2) (.opq 90) [] (.opq 90) .nil 1) = true := by kernel_rfl
theorem run_30_3 : okT (g3 (30) (3) (.opq 90) [] (.opq 90) .nil 1) = true := by kernel_rfl
theorem run_30_4 : okT (g3 (30) (4) (.opq 90) [] (.opq 90) .nil 1) = true := by kernel_rfl
theorem run_30_5 : okT (g3 (30) (5) (.opq 90) [] (.opq 90) .nil 1) = true := by kernel_rfl
theorem run_30_6 : okT (g3 (30) (6) (.opq 90) [] (.opq 90) .nil 1) = true := by kernel_rfl
theorem run_30_7 : okT (g3 (30) (7) (.opq 90) [] (.opq 90) .nil 1) = true := by kernel_rfl
theorem run_30_8 : okT (g3 (30) (8) (.opq 90) [] (.opq 90) .nil 1) = true := by kernel_rfl
theorem run_31_1 : okT (g3 (31) (1) (.opq 90) [] (.opq 90) .nil 1) = true := by kernel_rfl
theorem run_31_2 : okT (g3 (31) (2) (.opq 90) [] (.opq 90) .nil 1) = true := by kernel_rfl
theorem run_31_3 : okT (g3 (31) (3) (.opq 90) [] (.opq 90) .nil 1) = true := by kernel_rfl
theorem run_31_4 : okT (g3 (31) (4) (.opq 90) [] (.opq 90) .nil 1) = true := by kernel_rfl
theorem run_31_5 : okT (g3 (31) (5) (.opq 90) [] (.opq 90) .nil 1) = true := by kernel_rfl
theorem run_31_6 : okT (g3 (31) (6) (.opq 90) [] (.opq 90) .nil 1) = true := by kernel_rfl
theorem run_31_7 : okT (g3 (31) (7) (.opq 90) [] (.opq 90) .nil 1) = true := by kernel_rfl
theorem run_31_8 : okT (g3 (31) (8) (.opq 90) [] (.opq 90) .nil 1) = true := by kernel_rfl
theorem run_32_1 : okT (g3 (32) (1) (.opq 90) [] (.opq 90) .nil 1) = true := by kernel_rfl
theorem run_32_2 : okT (g3 (32) (2) (.opq 90) [] (.opq 90) .nil 1) = true := by kernel_rfl
theorem run_32_3 : okT (g3 (32) (3) (.opq 90) [] (.opq 90) .nil 1) = true := by kernel_rfl
theorem run_32_4 : okT (g3 (32) (4) (.opq 90) [] (.opq 90) .nil 1) = true := by kernel_rfl
theorem run_32_5 : okT (g3 (32) (5) (.opq 90) [] (.opq 90) .nil 1) = true := by kernel_rfl
theorem run_32_6 : okT (g3 (32) (6) (.opq 90) [] (.opq 90) .nil 1) = true := by kernel_rfl
theorem run_32_7 : okT (g3 (32) (7) (.opq 90) [] (.opq 90) .nil 1) = true := by kernel_rfl
theorem run_32_8 : okT (g3 (32) (8) (.opq 90) [] (.opq 90) .nil 1) = true := by kernel_rfl
theorem run_33_1 : okT (g3 (33) (1) (.opq 90) [] (.opq 90) .nil 1) = true := by kernel_rfl
theorem run_33_2 : okT (g3 (33) (2) (.opq 90) [] (.opq 90) .nil 1) = true := by kernel_rfl
theorem run_33_3 : okT (g3 (33) (3) (.opq 90) [] (.opq 90) .nil 1) = true := by kernel_rfl
theorem run_33_4 : okT (g3 (33) (4) (.opq 90) [] (.opq 90) .nil 1) = true := by kernel_rfl
theorem run_33_5 : okT (g3 (33) (5) (.opq 90) [] (.opq 90) .nil 1) = true := by kernel_rfl
theorem run_33_6 : okT (g3 (33) (6) (.opq 90) [] (.opq 90) .nil 1) = true := by kernel_rfl
theorem run_33_7 : okT (g3 (33) (7) (.opq 90) [] (.opq 90) .nil 1) = true := by kernel_rfl
theorem run_33_8 : okT (g3 (33) (8) (.opq 90) [] (.opq 90) .nil 1) = true := by kernel_rfl
theorem run_34_1 : okT (g3 (34) (1) (.opq 90) [] (.opq 90) .nil 1) = true := by kernel_rfl
theorem run_34_2 : okT (g3 (34) (2) (.opq 90) [] (.opq 90) .nil 1) = true := by kernel_rfl
theorem run_34_3 : okT (g3 (34) (3) (.opq 90) [] (.opq 90) .nil 1) = true := by kernel_rfl
theorem run_34_4 : okT (g3 (34) (4) (.opq 90) [] (.opq 90) .nil 1) = true := by kernel_rfl
theorem run_34_5 : okT (g3 (34) (5) (.opq 90) [] (.opq 90) .nil 1) = true := by kernel_rfl
theorem run_34_6 : okT (g3 (34) (6) (.opq 90) [] (.opq 90) .nil 1) = true := by kernel_rfl
theorem run_34_7 : okT (g3 (34) (7) (.opq 90) [] (.opq 90) .nil 1) = true := by kernel_rfl
theorem run_34_8 : okT (g3 (34) (8) (.opq 90) [] (.opq 90) .nil 1) = true := by kernel_rfl
theorem run_35_1 : okT (g3 (35) (1) (.opq 90) [] (.opq 90) .nil 1) = true := by kernel_rfl
theorem run_35_2 : okT (g3 (35) (2) (.opq 90) [] (.opq 90) .nil 1) = true := by kernel_rfl
theorem run_35_3 : okT (g3 (35) (3) (.opq 90) [] (.opq 90) .nil 1) = true := by kernel_rfl
theorem run_35_4 : okT (g3 (35) (4) (.opq 90) [] (.opq 90) .nil 1) = true := by kernel_rfl
theorem run_35_5 : okT (g3 (35) (5) (.opq 90) [] (.opq 90) .nil 1) = true := by kernel_rfl
theorem run_35_6 : okT (g3 (35) (6) (.opq 90) [] (.opq 90) .nil 1) = true := by kernel_rfl
theorem run_35_7 : okT (g3 (35) (7) (.opq 90) [] (.opq 90) .nil 1) = true := by kernel_rfl
theorem run_35_8 : okT (g3 (35) (8) (.opq 90) [] (.opq 90) .nil 1) = true := by kernel_rfl
theorem run_36_1 : okT (g3 (36) (1) (.opq 90) [] (.opq 90) .nil 1) = true := by kernel_rfl
theorem run_36_2 : okT (g3 (36) (2) (.opq 90) [] (.opq 90) .nil 1) = true := by kernel_rfl
theorem run_36_3 : okT (g3 (36) (3) (.opq 90) [] (.opq 90) .nil 1) = true := by kernel_rfl
theorem run_36_4 : okT (g3 (36) (4) (.opq 90) [] (.opq 90) .nil 1) = true := by kernel_rfl
theorem run_36_5 : okT (g3 (36) (5) (.opq 90) [] (.opq 90) .nil 1) = true := by kernel_rfl
theorem run_36_6 : okT (g3 (36) (6) (.opq 90) [] (.opq 90) .nil 1) = true := by kernel_rfl
theorem run_36_7 : okT (g3 (36) (7) (.opq 90) [] (.opq 90) .nil 1) = true := by kernel_rfl
theorem run_36_8 : okT (g3 (36) (8) (.opq 90) [] (.opq 90) .nil 1) = true := by kernel_rfl
theorem run_37_1 : okT (g3 (37) (1) (.opq 90) [] (.opq 90) .nil 1) = true := by kernel_rfl
theorem run_37_2 : okT (g3 (37) (2) (.opq 90) [] (.opq 90) .nil 1) = true := by kernel_rfl
theorem run_37_3 : okT (g3 (37) (3) (.opq 90) [] (.opq 90) .nil 1) = true := by kernel_rfl
theorem run_37_4 : okT (g3 (37) (4) (.opq 90) [] (.opq 90) .nil 1) = true := by kernel_rfl
theorem run_37_5 : okT (g3 (37) (5) (.opq 90) [] (.opq 90) .nil 1) = true := by kernel_rfl
theorem run_37_6 : okT (g3 (37) (6) (.opq 90) [] (.opq 90) .nil 1) = true := by kernel_rfl
theorem run_37_7 : okT (g3 (37) (7) (.opq 90) [] (.opq 90) .nil 1) = true := by kernel_rfl
theorem run_37_8 : okT (g3 (37) (8) (.opq 90) [] (.opq 90) .nil 1) = true := by kernel_rfl
theorem run_38_1 : okT (g3 (38) (1) (.opq 90) [] (.opq 90) .nil 1) = true := by kernel_rfl
end Go.Proofs.YtljaoofbklkglaaDoor.Ar
