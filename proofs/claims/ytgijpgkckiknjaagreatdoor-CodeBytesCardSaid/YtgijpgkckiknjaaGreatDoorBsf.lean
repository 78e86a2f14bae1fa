/-
  Proved here: the chapter's first(), run by a small machine, comes to true, in any world that holds api's errors.
-/
import Derived.Test.YtgijpgkckiknjaaGreatDoorBa
import Derived.Test.YtgijpgkckiknjaaGreatDoorEnvQ
import Derived.Test.YtgijpgkckiknjaaGreatDoorProg
namespace Go.Proofs.YtgijpgkckiknjaaGreatDoor.Bsf
open Go.SX Go.EX Go.EB Go.RowKit Go.Proofs.YtgijpgkckiknjaaGreatDoor.Env
def extF : ExtF := fun k vs => match Nat.beq k 272 with
  | true => match vs with
    | [.string s, .int .u8 (.ofNat q)] => some (.int .i64 (Lib.indexByte s.data.toList q.toUInt8))
    | _ => none
  | false => none
theorem ibe (args : Array Value) (w : World) : (callFunc 272 args).run Tryz.prog w = ((do let v ← Extern.BytealgIndexByte.indexByte args; pure (Next.value v)) : Sem Next).run Tryz.prog w := by kernel_rfl
theorem ext_ok : ExtOk Tryz.prog extF := fun k vs u h w => by
  unfold extF at h
  split at h <;> try (cases h; done)
  rename_i hk
  split at h <;> try (cases h; done)
  rename_i s q
  cases h
  obtain rfl : k = 272 := by simpa using hk
  rw [ibe]
  have := Lib.run_indexByteString (P := Tryz.prog) s (q : Int) w
  rw [show [Value.string s, .int .u8 (.ofNat q)].toArray = #[.string s, .int .u8 (q : Int)] from rfl, Sem.run_bind, this]
  simp
noncomputable def cfg : CfgB := { code := fun f => Tryz.prog.funcs[f]?, E := [(5, .iface 302 (.opq 0)), (6, .iface 302 (.opq 1)), (0, .iface 302 (.opq 2)), (7, .iface 302 (.opq 3)), (8, .iface 302 (.opq 4)), (9, .iface 302 (.opq 5)), (10, .iface 302 (.opq 6)), (4, .iface 302 (.opq 7)), (11, .iface 302 (.opq 8)), (2, .iface 302 (.opq 9)), (12, .iface 302 (.opq 10)), (13, .iface 302 (.opq 11)), (1, .iface 302 (.opq 12)), (3, .iface 302 (.opq 13)), (14, .iface 302 (.opq 14)), (15, .iface 302 (.opq 15)), (16, .iface 302 (.opq 16))], ext := extF, scrub := fun _ => false }
theorem names : (Tryz.prog.funcs.toList.all fun fn => !(fn.name == "runtime.NumGoroutine")) = true := by kernel_rfl
theorem cfg_ok : cfg.Ok Tryz.prog := ⟨rfl, fun f fn h => ⟨h, by
  have h1 : fn ∈ Tryz.prog.funcs.toList := by
    have h2 : Tryz.prog.funcs[f]? = some fn := h
    rw [← Array.getElem?_toList] at h2
    exact List.mem_of_getElem? h2
  simpa using List.all_eq_true.1 names fn h1⟩, ext_ok⟩
def okB (r : Option (AV × AH × Nat)) : Bool := match r with | some (.lit (.bool true), _, _) => true | _ => false
theorem run : okB (callB Tryz.prog cfg 60 [] 9 [] [] 1) = true := by kernel_rfl
def rho (aE : Nat → Addr) : Rho := ⟨[], fun i => .pointer (some (aE i)), fun _ => rfl⟩
theorem ee {w0 : World} {base : Nat} {aE : Nat → Addr} (hS : EnvS w0 base aE) : EE w0 base (rho aE) cfg.E := by
  have key : ∀ i g, sentG[i]? = some g → ∃ u, inst (rho aE) (.iface 302 (.opq i)) = some u ∧ w0.cell? ⟨g, 0, none⟩ = some u ∧ g < base := fun i g hi => ⟨_, rfl, hS.at_ i g hi, hS.lt g (List.mem_of_getElem? hi)⟩
  intro g v hv
  unfold cfg at hv
  simp only [lookE] at hv
  split at hv
  · rename_i hb
    cases hv
    obtain rfl : 5 = g := by simpa using hb
    exact key 0 _ rfl
  split at hv
  · rename_i hb
    cases hv
    obtain rfl : 6 = g := by simpa using hb
    exact key 1 _ rfl
  split at hv
  · rename_i hb
    cases hv
    obtain rfl : 0 = g := by simpa using hb
    exact key 2 _ rfl
  split at hv
  · rename_i hb
    cases hv
    obtain rfl : 7 = g := by simpa using hb
    exact key 3 _ rfl
  split at hv
  · rename_i hb
    cases hv
    obtain rfl : 8 = g := by simpa using hb
    exact key 4 _ rfl
  split at hv
  · rename_i hb
    cases hv
    obtain rfl : 9 = g := by simpa using hb
    exact key 5 _ rfl
  split at hv
  · rename_i hb
    cases hv
    obtain rfl : 10 = g := by simpa using hb
    exact key 6 _ rfl
  split at hv
  · rename_i hb
    cases hv
    obtain rfl : 4 = g := by simpa using hb
    exact key 7 _ rfl
  split at hv
  · rename_i hb
    cases hv
    obtain rfl : 11 = g := by simpa using hb
    exact key 8 _ rfl
  split at hv
  · rename_i hb
    cases hv
    obtain rfl : 2 = g := by simpa using hb
    exact key 9 _ rfl
  split at hv
  · rename_i hb
    cases hv
    obtain rfl : 12 = g := by simpa using hb
    exact key 10 _ rfl
  split at hv
  · rename_i hb
    cases hv
    obtain rfl : 13 = g := by simpa using hb
    exact key 11 _ rfl
  split at hv
  · rename_i hb
    cases hv
    obtain rfl : 1 = g := by simpa using hb
    exact key 12 _ rfl
  split at hv
  · rename_i hb
    cases hv
    obtain rfl : 3 = g := by simpa using hb
    exact key 13 _ rfl
  split at hv
  · rename_i hb
    cases hv
    obtain rfl : 14 = g := by simpa using hb
    exact key 14 _ rfl
  split at hv
  · rename_i hb
    cases hv
    obtain rfl : 15 = g := by simpa using hb
    exact key 15 _ rfl
  split at hv
  · rename_i hb
    cases hv
    obtain rfl : 16 = g := by simpa using hb
    exact key 16 _ rfl
  cases hv
theorem push {w0 w : World} {base : Nat} {its : List It} {aE : Nat → Addr} (hS : EnvS w0 base aE) (hw : WA w0 base its w) : EnvS w w.heap.size aE where
  at_ i g hi := hw.old (a := ⟨g, 0, none⟩) (hS.lt g (List.mem_of_getElem? hi)) (hS.at_ i g hi)
  lt g hg := Nat.lt_of_lt_of_le (hS.lt g hg) hw.fits
  blk i hi := by
    obtain ⟨h1, c, t, h2⟩ := hS.blk i hi
    exact ⟨Nat.lt_of_lt_of_le h1 hw.fits, c, t, by rw [hw.below.block _ h1]; exact h2⟩
  ne := hS.ne
theorem first_q {w0 : World} {base : Nat} {aE : Nat → Addr} (hS : EnvS w0 base aE) (its : List It) : FnQ Tryz.prog 9 #[] (WA w0 base its) (.bool true) := fun w hw => by
  have hr := run
  unfold okB at hr
  split at hr
  · rename_i hp nx hc
    obtain ⟨_, h⟩ := callB_ok cfg_ok _ _ _ _ _ _ _ _ _ hc
    refine (h w w.heap.size (rho aE) [] [] (fun id it h => by cases h) (ee (push hS hw)) rfl rfl (fun id _ => rfl) w (WA.start w)).mono fun e w' he => ?_
    obtain ⟨ρ', its', _, _, _, e4, u, e5, rfl⟩ := he
    obtain rfl := inst_lit e5
    exact ⟨rfl, e4.below⟩
  · cases hr
end Go.Proofs.YtgijpgkckiknjaaGreatDoor.Bsf
