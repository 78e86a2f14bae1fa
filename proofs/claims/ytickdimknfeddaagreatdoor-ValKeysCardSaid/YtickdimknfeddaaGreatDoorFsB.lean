/-
  Proved here: a text is parsed.
-/
import Derived.Test.YtickdimknfeddaaGreatDoorFsA
namespace Go.Proofs.YtickdimknfeddaaGreatDoor.Bsf
open Go.SX Go.EX Go.EB Go.RowKit Go.Proofs.YtickdimknfeddaaGreatDoor.Env
set_option maxRecDepth 100000
def ha0 : AH := [(176, .row 6 53 5 [.lit (.int .i64 5), .lit (.int .i64 0), .lit (.int .i64 1), .lit (.string ⟨#[97]⟩), .lit (.slice none 0 0), .lit (.int .i64 4), .lit (.int .i64 0), .lit (.int .i64 7), .lit (.string ⟨#[49]⟩), .lit (.slice none 0 0), .lit (.int .i64 4), .lit (.int .i64 0), .lit (.int .i64 11), .lit (.string ⟨#[50]⟩), .lit (.slice none 0 0), .lit (.int .i64 8), .lit (.int .i64 0), .lit (.int .i64 10), .lit (.string ⟨#[]⟩), .sl 147 0 1 0, .lit (.int .i64 7), .lit (.int .i64 0), .lit (.int .i64 6), .lit (.string ⟨#[]⟩), .sl 160 0 2 0, .lit (.int .i64 9), .lit (.int .i64 0), .lit (.int .i64 0), .lit (.string ⟨#[]⟩), .sl 172 0 2 0]), (147, .row 1 3 1 [.lit (.int .i64 2)]), (160, .row 2 3 1 [.lit (.int .i64 1), .lit (.int .i64 3)]), (172, .row 2 3 1 [.lit (.int .i64 0), .lit (.int .i64 4)])]
theorem sa0 : pk [176, 147, 160, 172] (callB Tryz.prog cfg 300 [] 28 [.lit (.string ⟨#[123, 34, 97, 34, 58, 32, 91, 49, 44, 32, 40, 50, 44, 41, 93, 125]⟩)] [] 1) = some (.tup [.sl 176 0 6 0, .lit .nilIface], ha0, 187) := by kernel_rfl
end Go.Proofs.YtickdimknfeddaaGreatDoor.Bsf
