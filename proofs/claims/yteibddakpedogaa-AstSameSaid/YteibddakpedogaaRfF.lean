/-
  Proved here: closed facts.
-/
import Derived.Test.YteibddakpedogaaProg
import Derived.Test.YteibddakpedogaaAgg
import Derived.Test.YteibddakpedogaaLexP
import Derived.Test.YteibddakpedogaaAsQ
namespace Go.Proofs.Yteibddakpedogaa
open Go.SX Go.RowKit Go.Lex
namespace Fr
theorem ag25 : AggT Try.prog 25 5 := AggT.of (by kernel_rfl) (by kernel_rfl)
theorem en15 : Enters Try.prog 15 := Enters.of Try.func15 (by kernel_rfl) (by kernel_rfl)
theorem en17 : Enters Try.prog 17 := Enters.of Try.func17 (by kernel_rfl) (by kernel_rfl)
theorem en21 : Enters Try.prog 21 := Enters.of Try.func21 (by kernel_rfl) (by kernel_rfl)
theorem en22 : Enters Try.prog 22 := Enters.of Try.func22 (by kernel_rfl) (by kernel_rfl)
theorem en23 : Enters Try.prog 23 := Enters.of Try.func23 (by kernel_rfl) (by kernel_rfl)
theorem en24 : Enters Try.prog 24 := Enters.of Try.func24 (by kernel_rfl) (by kernel_rfl)
theorem en25 : Enters Try.prog 25 := Enters.of Try.func25 (by kernel_rfl) (by kernel_rfl)
theorem en26 : Enters Try.prog 26 := Enters.of Try.func26 (by kernel_rfl) (by kernel_rfl)
theorem en27 : Enters Try.prog 27 := Enters.of Try.func27 (by kernel_rfl) (by kernel_rfl)
theorem en28 : Enters Try.prog 28 := Enters.of Try.func28 (by kernel_rfl) (by kernel_rfl)
theorem en29 : Enters Try.prog 29 := Enters.of Try.func29 (by kernel_rfl) (by kernel_rfl)
theorem en30 : Enters Try.prog 30 := Enters.of Try.func30 (by kernel_rfl) (by kernel_rfl)
theorem en31 : Enters Try.prog 31 := Enters.of Try.func31 (by kernel_rfl) (by kernel_rfl)
theorem en45 : Enters Try.prog 45 := Enters.of Try.func45 (by kernel_rfl) (by kernel_rfl)
theorem en46 : Enters Try.prog 46 := Enters.of Try.func46 (by kernel_rfl) (by kernel_rfl)
theorem fo58_0 : FieldOff Try.prog 58 0 0 := fun b o w => by kernel_rfl
theorem fo58_1 : FieldOff Try.prog 58 1 1 := fun b o w => by kernel_rfl
theorem fo58_2 : FieldOff Try.prog 58 2 2 := fun b o w => by kernel_rfl
theorem fo58_3 : FieldOff Try.prog 58 3 3 := fun b o w => by kernel_rfl
theorem fo58_4 : FieldOff Try.prog 58 4 4 := fun b o w => by kernel_rfl
theorem fo58_5 : FieldOff Try.prog 58 5 5 := fun b o w => by kernel_rfl
theorem fo58_6 : FieldOff Try.prog 58 6 6 := fun b o w => by kernel_rfl
theorem one29 : One Try.prog 29 := fun w => by kernel_rfl
theorem one3 : One Try.prog 3 := fun w => by kernel_rfl
theorem one37 : One Try.prog 37 := fun w => by kernel_rfl
theorem one4 : One Try.prog 4 := fun w => by kernel_rfl
theorem one5 : One Try.prog 5 := fun w => by kernel_rfl
theorem one56 : One Try.prog 56 := fun w => by kernel_rfl
theorem one9 : One Try.prog 9 := fun w => by kernel_rfl
theorem sz29 : SizeIs Try.prog 29 1 := fun w => by kernel_rfl
theorem sz3 : SizeIs Try.prog 3 1 := fun w => by kernel_rfl
theorem sz37 : SizeIs Try.prog 37 1 := fun w => by kernel_rfl
theorem sz4 : SizeIs Try.prog 4 1 := fun w => by kernel_rfl
theorem sz5 : SizeIs Try.prog 5 1 := fun w => by kernel_rfl
theorem sz56 : SizeIs Try.prog 56 1 := fun w => by kernel_rfl
theorem sz9 : SizeIs Try.prog 9 1 := fun w => by kernel_rfl
theorem un29 : Try.prog.underlying 29 = some (.slice 3) := by kernel_rfl
theorem un3 : Try.prog.underlying 3 = some (.int .i64) := by kernel_rfl
theorem un37 : Try.prog.underlying 37 = some (.slice 44) := by kernel_rfl
theorem un5 : Try.prog.underlying 5 = some (.int .u8) := by kernel_rfl
theorem un56 : Try.prog.underlying 56 = some (.slice 5) := by kernel_rfl
theorem un64 : Try.prog.underlying 64 = some (.slice 9) := by kernel_rfl
theorem un9 : Try.prog.underlying 9 = some .string := by kernel_rfl
theorem zv25 : ∀ w, (zeroValue 25).run Try.prog w = .ok (.agg #[.int .i64 0, .bool false, .int .i64 0, .bool false, .string ⟨#[]⟩]) w := fun w => by kernel_rfl
theorem el29 : Elem Try.prog 29 3 1 8 := Elem.of un29 (z := .int .i64 0) (by kernel_rfl) rfl
theorem el37 : Elem Try.prog 37 44 3 32 := Elem.of un37 (z := .agg #[.int .i64 0, .string ⟨#[]⟩, .int .i64 0]) (by kernel_rfl) rfl
theorem el56 : Elem Try.prog 56 5 1 1 := Elem.of un56 (z := .int .u8 0) (by kernel_rfl) rfl
end Fr

end Go.Proofs.Yteibddakpedogaa
