/-
  Proved here: a small machine that runs code and calls functions: what it comes to is what the model's machine comes to, whatever the world.
-/
import Derived.Test.YtljaoofbklkglaaGreatDoorExG
namespace Go.EX
open Go.SX Go.RowKit
inductive XO where
  | norm
  | exit (id : Nat)
  | ret
  | pan (v : AV)
section
variable {P : Program} {w0 : World} {base : Nat} {ρ : Rho} {hp hp' : AH} {ro : List AH} {nx nx' : Nat} {its : List It} {E : List (Nat × AV)} {af af' : AF} {l l' : Fr} {n : Nat} {D : List Deferred} {Q : Exit → Act → World → Prop} {call : CallF} {c : Code} {a : Act} {w : World}
def EndC (n : Nat) (D : List Deferred) (Q : Exit → Act → World → Prop) (w0 : World) (base : Nat) (ρ : Rho) (r : XO) (af' : AF) (hp' : AH) (nx' : Nat) : Prop :=
  ∀ ρ' l' its', Ext ρ ρ' → Fresh ρ' nx' → FRel ρ' af' l' → instH ρ' hp' = some its' → match r with
    | .norm => PX n D Q l' (WA w0 base its') .normal
    | .exit id => PX n D Q l' (WA w0 base its') (.exit id)
    | .ret => PX n D Q l' (WA w0 base its') .ret
    | .pan v => ∀ u, inst ρ' v = some u → PX n D Q l' (WA w0 base its') (.panic [{ v := u, recovered := false }])
theorem EndC.ext {r : XO} {ρ' : Rho} (h : EndC n D Q w0 base ρ r af' hp' nx') (he : Ext ρ ρ') : EndC n D Q w0 base ρ' r af' hp' nx' := fun ρ2 l2 its2 e2 => h ρ2 l2 its2 (he.trans e2)
theorem PanicOk.then {K : Act → World → Prop} (h : PanicOk Q) : PanicOk (Exit.then K Q) := fun c a a' w hd hq => h c a a' w hd hq
theorem PanicOk.block {id : Nat} (h : PanicOk Q) : PanicOk (Exit.inBlock id Q) := fun c a a' w hd hq => h c a a' w hd hq
end
/-! functions -/
def frameOf : Nat → List AV → AF
  | _, [] => []
  | k, v :: r => (k, v) :: frameOf (k + 1) r
/-- what a small machine knows of a program -/
structure Cfg where
  code : FuncId → Option Func
  E : List (Nat × AV)
  special : CallF → CallF
  scrub : FuncId → Bool
structure Cfg.Ok (P : Program) (C : Cfg) : Prop where
  orders : P.follows .mixedOrders = true
  code : ∀ f fn, C.code f = some fn → P.funcs[f]? = some fn ∧ (fn.name == "runtime.NumGoroutine") = false
  special : ∀ call, CallOk P C.E call → CallOk P C.E (C.special call)
section
variable {P : Program} {C : Cfg} {w0 : World} {base : Nat} {ρ : Rho} {hp hp' : AH} {ro : List AH} {nx nx' : Nat} {its : List It} {E : List (Nat × AV)} {af af' : AF} {l l' : Fr} {n : Nat} {D : List Deferred} {a : Act} {w : World}
theorem frameOf_ok {vs : List AV} {us : List Value} (h : instL ρ vs = some us) : ∀ (k : Nat), FRel ρ (frameOf k vs) (argFr k us) := by
  induction vs generalizing us with
  | nil => intro k i v hv; cases hv
  | cons x r ih =>
    obtain ⟨u, us', rfl, h1, h2⟩ := instL_cons h
    intro k i v hv
    by_cases hi : k = i
    · subst hi
      unfold frameOf at hv
      rw [getA_same] at hv
      cases hv
      exact ⟨u, by unfold argFr; rw [get_cons_same], h1⟩
    · unfold frameOf at hv
      rw [getA_ne _ _ hi] at hv
      obtain ⟨u', e1, e2⟩ := ih h2 (k + 1) i v hv
      exact ⟨u', by unfold argFr; rw [get_cons_ne _ _ hi]; exact e1, e2⟩
theorem run_bindv_inv {s : Sem Value} {v : Value} {w : World} (h : ((do pure (.value (← s))) : Sem Go.Next).run P w = .ok (.value v) w) : s.run P w = .ok v w := by
  rw [Sem.run_bind] at h
  cases hs : s.run P w with
  | ok u w' =>
    rw [hs] at h
    simp only [Result.andThen_ok, Sem.run_pure, Result.ok.injEq, Go.Next.value.injEq] at h
    rw [h.1, h.2]
  | halt e w' => rw [hs] at h; cases h
def resS (tmps : Array Value) : ResultVar → Sem Value
  | .tmp t => pure (tmps.getD t undef)
  | .cell x t => do loadVar t (← asAddr (tmps.getD x undef))
theorem results_eq (fn : Func) (tmps : Array Value) : results fn tmps = (do let vs ← fn.results.mapM (resS tmps); pure (if h : vs.size = 1 then vs[0] else .tuple vs)) := by
  unfold results
  congr 1
end
end Go.EX
