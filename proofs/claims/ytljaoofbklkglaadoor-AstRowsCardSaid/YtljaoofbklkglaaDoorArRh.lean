/-
  Proved here: runs of the statement AstRows, each comes to true.
-/
import Derived.Test.YtljaoofbklkglaaDoorArb
namespace Go.Proofs.YtljaoofbklkglaaDoor.Ar
open Go.EY Go.EX Go.SX Go.RowKit
theorem run_58_6 : okT (g3 (58) (6) (.opq 90) [] (.opq 90) .nil 1) = true := by kernel_rfl
theorem run_58_7 : okT (g3 (58) (7) (.opq 90) [] (.opq 90) .nil 1) = true := by kernel_rfl
theorem run_58_8 : okT (g3 (58) (8) (.opq 90) [] (.opq 90) .nil 1) = true := by kernel_rfl
theorem run_59_1 : okT (g3 (59) (1) (.opq 90) [] (.opq 90) .nil 1) = true := by kernel_rfl
theorem run_59_2 : okT (g3 (59) (2) (.opq 90) [] (.opq 90) .nil 1) = true := by kernel_rfl
theorem run_59_3 : okT (g3 (59) (3) (.opq 90) [] (.opq 90) .nil 1) = true := by kernel_rfl
theorem run_59_4 : okT (g3 (59) (4) (.opq 90) [] (.opq 90) .nil 1) = true := by kernel_rfl
theorem run_59_5 : okT (g3 (59) (5) (.opq 90) [] (.opq 90) .nil 1) = true := by kernel_rfl
theorem run_59_6 : okT (g3 (59) (6) (.opq 90) [] (.opq 90) .nil 1) = true := by kernel_rfl
theorem run_59_7 : okT (g3 (59) (7) (.opq 90) [] (.opq 90) .nil 1) = true := by kernel_rfl
theorem run_59_8 : okT (g3 (59) (8) (.opq 90) [] (.opq 90) .nil 1) = true := by kernel_rfl
theorem run_60_1 : okT (g3 (60) (1) (.opq 90) [] (.opq 90) .nil 1) = true := by kernel_rfl
theorem run_60_2 : okT (g3 (60) (2) (.opq 90) [] (.opq 90) .nil 1) = true := by kernel_rfl
theorem run_60_3 : okT (g3 (60) (3) (.opq 90) [] (.opq 90) .nil 1) = true := by kernel_rfl
theorem run_60_4 : okT (g3 (60) (4) (.opq 90) [] (.opq 90) .nil 1) = true := by kernel_rfl
theorem run_60_5 : okT (g3 (60) (5) (.opq 90) [] (.opq 90) .nil 1) = true := by kernel_rfl
theorem run_60_6 : okT (g3 (60) (6) (.opq 90) [] (.opq 90) .nil 1) = true := by kernel_rfl
theorem run_60_7 : okT (g3 (60) (7) (.opq 90) [] (.opq 90) .nil 1) = true := by kernel_rfl
theorem run_60_8 : okT (g3 (60) (8) (.opq 90) [] (.opq 90) .nil 1) = true := by kernel_rfl
end Go.Proofs.YtljaoofbklkglaaDoor.Ar
