/-
  Proved here: what was parsed is evaluated, and written down.
-/
import Derived.Test.YtickdimknfeddaaGreatDoorFsB
namespace Go.Proofs.YtickdimknfeddaaGreatDoor.Bsf
open Go.SX Go.EX Go.EB Go.RowKit Go.Proofs.YtickdimknfeddaaGreatDoor.Env
set_option maxRecDepth 100000
def ha1 : AH := [(263, .obj [.sl 284 0 1 0, .mp 262, .lit (.bool false), .lit (.int .i64 0)] 174), (284, .row 1 175 1 [.ptr 282 0]), (282, .obj [.lit (.string ⟨#[83, 49, 58, 97, 59]⟩), .iface 78 (.lit (.string ⟨#[97]⟩)), .iface 104 (.ptr 258 0)] 177), (258, .obj [.sl 257 0 2 0, .lit (.bool false), .lit (.int .i64 0)] 123), (257, .row 2 26 1 [.iface 74 (.agg [.lit (.bool false), .sl 232 0 1 0]), .iface 115 (.ptr 252 0)]), (232, .row 1 76 1 [.lit (.int .u32 1)]), (252, .obj [.sl 251 0 1 0] 117), (251, .row 1 26 1 [.iface 74 (.agg [.lit (.bool false), .sl 243 0 1 0])]), (243, .row 1 76 1 [.lit (.int .u32 2)]), (262, .mp [.lit (.string ⟨#[83, 49, 58, 97, 59]⟩)] [.ptr 282 0] [0] 1)]
theorem sa1 : pk [263, 284, 282, 258, 257, 232, 252, 251, 243, 262] (callB Tryz.prog cfg 300 [ha0] 8 [.sl 176 0 6 0] [] 187) = some (.tup [.iface 124 (.ptr 263 0), .lit .nilIface], ha1, 285) := by kernel_rfl
def ha2 : AH := []
theorem sa2 : pk [] (callB Tryz.prog cfg 300 [ha1, ha0] 12 [.iface 124 (.ptr 263 0)] [] 285) = some (.lit (.string ⟨#[123, 34, 97, 34, 58, 32, 91, 49, 44, 32, 40, 50, 44, 41, 93, 125]⟩), ha2, 323) := by kernel_rfl
end Go.Proofs.YtickdimknfeddaaGreatDoor.Bsf
