/-
  Proved here: what was parsed is evaluated, and written down.
-/
import Derived.Test.YtifanilblkellaaGreatDoorFsB
namespace Go.Proofs.YtifanilblkellaaGreatDoor.Bsf
open Go.SX Go.EX Go.EB Go.RowKit Go.Proofs.YtifanilblkellaaGreatDoor.Env
set_option maxRecDepth 100000
def ha1 : AH := [(263, .obj [.sl 284 0 1 0, .mp 262, .lit (.bool false), .lit (.int .i64 0)] 76), (284, .row 1 89 1 [.ptr 282 0]), (282, .obj [.lit (.string ⟨#[83, 49, 58, 97, 59]⟩), .iface 86 (.lit (.string ⟨#[97]⟩)), .iface 131 (.ptr 258 0)] 91), (258, .obj [.sl 257 0 2 0, .lit (.bool false), .lit (.int .i64 0)] 133), (257, .row 2 31 1 [.iface 82 (.agg [.lit (.bool false), .sl 232 0 1 0]), .iface 77 (.ptr 252 0)]), (232, .row 1 84 1 [.lit (.int .u32 1)]), (252, .obj [.sl 251 0 1 0] 80), (251, .row 1 31 1 [.iface 82 (.agg [.lit (.bool false), .sl 243 0 1 0])]), (243, .row 1 84 1 [.lit (.int .u32 2)]), (262, .mp [.lit (.string ⟨#[83, 49, 58, 97, 59]⟩)] [.ptr 282 0] [0] 1)]
theorem sa1 : pk [263, 284, 282, 258, 257, 232, 252, 251, 243, 262] (callB Tryz.prog cfg 300 [ha0] 54 [.sl 176 0 6 0] [] 187) = some (.tup [.iface 24 (.ptr 263 0), .lit .nilIface], ha1, 285) := by kernel_rfl
def ha2 : AH := []
theorem sa2 : pk [] (callB Tryz.prog cfg 300 [ha1, ha0] 20 [.iface 24 (.ptr 263 0)] [] 285) = some (.lit (.string ⟨#[123, 34, 97, 34, 58, 32, 91, 49, 44, 32, 40, 50, 44, 41, 93, 125]⟩), ha2, 323) := by kernel_rfl
end Go.Proofs.YtifanilblkellaaGreatDoor.Bsf
