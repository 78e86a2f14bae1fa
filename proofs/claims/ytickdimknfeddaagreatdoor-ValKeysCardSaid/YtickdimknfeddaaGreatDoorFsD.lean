/-
  Proved here: two texts are parsed and evaluated, and which is less; a number and a text: none is less.
-/
import Derived.Test.YtickdimknfeddaaGreatDoorFsA
namespace Go.Proofs.YtickdimknfeddaaGreatDoor.Bsf
open Go.SX Go.EX Go.EB Go.RowKit Go.Proofs.YtickdimknfeddaaGreatDoor.Env
set_option maxRecDepth 100000
def hb0 : AH := [(76, .row 3 53 5 [.lit (.int .i64 4), .lit (.int .i64 0), .lit (.int .i64 1), .lit (.string ⟨#[49]⟩), .lit (.slice none 0 0), .lit (.int .i64 4), .lit (.int .i64 0), .lit (.int .i64 4), .lit (.string ⟨#[50]⟩), .lit (.slice none 0 0), .lit (.int .i64 8), .lit (.int .i64 0), .lit (.int .i64 0), .lit (.string ⟨#[]⟩), .sl 73 0 2 0]), (73, .row 2 3 1 [.lit (.int .i64 0), .lit (.int .i64 1)])]
theorem sb0 : pk [76, 73] (callB Tryz.prog cfg 300 [] 28 [.lit (.string ⟨#[40, 49, 44, 32, 50, 41]⟩)] [] 1) = some (.tup [.sl 76 0 3 0, .lit .nilIface], hb0, 88) := by kernel_rfl
def hb1 : AH := [(137, .obj [.sl 136 0 2 0] 117), (136, .row 2 26 1 [.iface 74 (.agg [.lit (.bool false), .sl 118 0 1 0]), .iface 74 (.agg [.lit (.bool false), .sl 128 0 1 0])]), (118, .row 1 76 1 [.lit (.int .u32 1)]), (128, .row 1 76 1 [.lit (.int .u32 2)])]
theorem sb1 : pk [137, 136, 118, 128] (callB Tryz.prog cfg 300 [hb0] 8 [.sl 76 0 3 0] [] 88) = some (.tup [.iface 115 (.ptr 137 0), .lit .nilIface], hb1, 138) := by kernel_rfl
def hb2 : AH := [(213, .row 3 53 5 [.lit (.int .i64 4), .lit (.int .i64 0), .lit (.int .i64 1), .lit (.string ⟨#[49]⟩), .lit (.slice none 0 0), .lit (.int .i64 4), .lit (.int .i64 0), .lit (.int .i64 4), .lit (.string ⟨#[51]⟩), .lit (.slice none 0 0), .lit (.int .i64 8), .lit (.int .i64 0), .lit (.int .i64 0), .lit (.string ⟨#[]⟩), .sl 210 0 2 0]), (210, .row 2 3 1 [.lit (.int .i64 0), .lit (.int .i64 1)])]
theorem sb2 : pk [213, 210] (callB Tryz.prog cfg 300 [hb1, hb0] 28 [.lit (.string ⟨#[40, 49, 44, 32, 51, 41]⟩)] [] 138) = some (.tup [.sl 213 0 3 0, .lit .nilIface], hb2, 225) := by kernel_rfl
def hb3 : AH := [(274, .obj [.sl 273 0 2 0] 117), (273, .row 2 26 1 [.iface 74 (.agg [.lit (.bool false), .sl 255 0 1 0]), .iface 74 (.agg [.lit (.bool false), .sl 265 0 1 0])]), (255, .row 1 76 1 [.lit (.int .u32 1)]), (265, .row 1 76 1 [.lit (.int .u32 3)])]
theorem sb3 : pk [274, 273, 255, 265] (callB Tryz.prog cfg 300 [hb2, hb1, hb0] 8 [.sl 213 0 3 0] [] 225) = some (.tup [.iface 115 (.ptr 274 0), .lit .nilIface], hb3, 275) := by kernel_rfl
def hb4 : AH := []
theorem sb4 : pk [] (callB Tryz.prog cfg 300 [hb3, hb2, hb1, hb0] 14 [.iface 115 (.ptr 137 0), .iface 115 (.ptr 274 0)] [] 275) = some (.tup [.lit (.bool true), .lit .nilIface], hb4, 285) := by kernel_rfl
def hc0 : AH := [(3, .row 1 76 1 [.lit (.int .u32 1)])]
theorem sc0 : pk [3] (callB Tryz.prog cfg 300 [] 16 [.lit (.int .i64 1)] [] 1) = some (.agg [.lit (.bool false), .sl 3 0 1 0], hc0, 5) := by kernel_rfl
def hc1 : AH := []
theorem sc1 : pk [] (callB Tryz.prog cfg 300 [hc0] 15 [.agg [.lit (.bool false), .sl 3 0 1 0]] [] 5) = some (.iface 74 (.agg [.lit (.bool false), .sl 3 0 1 0]), hc1, 6) := by kernel_rfl
def hc2 : AH := []
theorem sc2 : pk [] (callB Tryz.prog cfg 300 [hc1, hc0] 17 [.lit (.string ⟨#[97]⟩)] [] 6) = some (.iface 78 (.lit (.string ⟨#[97]⟩)), hc2, 6) := by kernel_rfl
def hc3 : AH := []
theorem sc3 : pk [] (callB Tryz.prog cfg 300 [hc2, hc1, hc0] 14 [.iface 74 (.agg [.lit (.bool false), .sl 3 0 1 0]), .iface 78 (.lit (.string ⟨#[97]⟩))] [] 6) = some (.tup [.lit (.bool false), .iface 247 (.opq 3)], hc3, 8) := by kernel_rfl
end Go.Proofs.YtickdimknfeddaaGreatDoor.Bsf
