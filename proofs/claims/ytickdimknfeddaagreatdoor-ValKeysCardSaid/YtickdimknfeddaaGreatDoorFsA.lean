/-
  Proved here: the small machine's settings, and how one call by it follows another: what the first left is memory that the second reads.
-/
import Derived.Test.YtickdimknfeddaaGreatDoorBd
import Derived.Test.YtickdimknfeddaaGreatDoorEnvQ
import Derived.Test.YtickdimknfeddaaGreatDoorProg
namespace Go.Proofs.YtickdimknfeddaaGreatDoor.Bsf
open Go.SX Go.EX Go.EB Go.RowKit Go.Proofs.YtickdimknfeddaaGreatDoor.Env
def extF : FuncId → List Value → Option Value := fun k vs => match Nat.beq k 182 with
  | true => match vs with
    | [.string s, .int .u8 (.ofNat q)] => some (.int .i64 (Lib.indexByte s.data.toList q.toUInt8))
    | _ => none
  | false => none
theorem ibe (args : Array Value) (w : World) : (callFunc 182 args).run Tryz.prog w = ((do let v ← Extern.BytealgIndexByte.indexByte args; pure (Next.value v)) : Sem Next).run Tryz.prog w := by kernel_rfl
theorem ext_f : ∀ k vs u, extF k vs = some u → ∀ w, (callFunc k vs.toArray).run Tryz.prog w = .ok (.value u) w := fun k vs u h w => by
  unfold extF at h
  split at h <;> try (cases h; done)
  rename_i hk
  split at h <;> try (cases h; done)
  rename_i s q
  cases h
  obtain rfl : k = 182 := by simpa using hk
  rw [ibe]
  have := Lib.run_indexByteString (P := Tryz.prog) s (q : Int) w
  rw [show [Value.string s, .int .u8 (.ofNat q)].toArray = #[.string s, .int .u8 (q : Int)] from rfl, Sem.run_bind, this]
  simp
theorem iv0c (u : Value) (w : World) : (invoke (.fn (.method "Kind") #[]) (Value.iface 74 u :: []).toArray).run Tryz.prog w = .ok (.enter 218 (u :: []).toArray) w := by kernel_rfl
theorem iv0 (u : Value) (us : List Value) (w : World) (h : us.length = 0) : (invoke (.fn (.method "Kind") #[]) (Value.iface 74 u :: us).toArray).run Tryz.prog w = .ok (.enter 218 (u :: us).toArray) w := by
  rcases us with _ | ⟨_, us⟩
  · exact iv0c u w
  · simp at h
theorem iv1c (u : Value) (w : World) : (invoke (.fn (.method "Kind") #[]) (Value.iface 78 u :: []).toArray).run Tryz.prog w = .ok (.enter 219 (u :: []).toArray) w := by kernel_rfl
theorem iv1 (u : Value) (us : List Value) (w : World) (h : us.length = 0) : (invoke (.fn (.method "Kind") #[]) (Value.iface 78 u :: us).toArray).run Tryz.prog w = .ok (.enter 219 (u :: us).toArray) w := by
  rcases us with _ | ⟨_, us⟩
  · exact iv1c u w
  · simp at h
theorem iv2c (u : Value) (w : World) : (invoke (.fn (.method "Kind") #[]) (Value.iface 115 u :: []).toArray).run Tryz.prog w = .ok (.enter 226 (u :: []).toArray) w := by kernel_rfl
theorem iv2 (u : Value) (us : List Value) (w : World) (h : us.length = 0) : (invoke (.fn (.method "Kind") #[]) (Value.iface 115 u :: us).toArray).run Tryz.prog w = .ok (.enter 226 (u :: us).toArray) w := by
  rcases us with _ | ⟨_, us⟩
  · exact iv2c u w
  · simp at h
def tabM : List (String × Nat × Nat × Nat) := [("Kind", 74, 0, 218), ("Kind", 78, 0, 219), ("Kind", 115, 0, 226)]
def extM (name : String) (t n : Nat) : Option Nat := (tabM.find? fun q => Nat.beq q.2.1 t && (Nat.beq q.2.2.1 n && decide (q.1 = name))).map (·.2.2.2)
theorem ext_m (name : String) (t n g : Nat) (h : extM name t n = some g) (u : Value) (us : List Value) (w : World) (hl : us.length = n) : (invoke (.fn (.method name) #[]) (Value.iface t u :: us).toArray).run Tryz.prog w = .ok (.enter g (u :: us).toArray) w := by
  unfold extM at h
  obtain ⟨q, hq, rfl⟩ := Option.map_eq_some_iff.1 h
  have h1 := List.find?_some hq
  have h2 := List.mem_of_find?_eq_some hq
  simp only [Bool.and_eq_true, decide_eq_true_eq, Nat.beq_eq] at h1
  obtain ⟨rfl, rfl, rfl⟩ := h1
  unfold tabM at h2
  rcases List.mem_cons.1 h2 with rfl | h2
  · exact iv0 u us w hl
  rcases List.mem_cons.1 h2 with rfl | h2
  · exact iv1 u us w hl
  rcases List.mem_cons.1 h2 with rfl | h2
  · exact iv2 u us w hl
  cases h2
theorem ext_ok : ExtOk Tryz.prog ⟨extF, extM⟩ := ⟨ext_f, ext_m⟩
noncomputable def cfg : CfgB := { code := fun f => Tryz.prog.funcs[f]?, E := [(5, .iface 247 (.opq 0)), (4, .iface 247 (.opq 1)), (7, .iface 247 (.opq 2)), (3, .iface 247 (.opq 3)), (8, .iface 247 (.opq 4)), (9, .iface 247 (.opq 5)), (10, .iface 247 (.opq 6)), (2, .iface 247 (.opq 7)), (11, .iface 247 (.opq 8)), (1, .iface 247 (.opq 9)), (12, .iface 247 (.opq 10)), (13, .iface 247 (.opq 11)), (0, .iface 247 (.opq 12)), (14, .iface 247 (.opq 13)), (15, .iface 247 (.opq 14)), (16, .iface 247 (.opq 15)), (17, .iface 247 (.opq 16))], ext := ⟨extF, extM⟩, scrub := fun _ => false }
theorem names : (Tryz.prog.funcs.toList.all fun fn => !(fn.name == "runtime.NumGoroutine")) = true := by kernel_rfl
theorem cfg_ok : cfg.Ok Tryz.prog := ⟨rfl, fun f fn h => ⟨h, by
  have h1 : fn ∈ Tryz.prog.funcs.toList := by
    have h2 : Tryz.prog.funcs[f]? = some fn := h
    rw [← Array.getElem?_toList] at h2
    exact List.mem_of_getElem? h2
  simpa using List.all_eq_true.1 names fn h1⟩, ext_ok⟩
def rho (aE : Nat → Addr) : Rho := ⟨[], fun i => .pointer (some (aE i)), fun _ => rfl⟩
theorem ee {w0 : World} {base : Nat} {aE : Nat → Addr} (hS : EnvS w0 base aE) : EE w0 base (rho aE) cfg.E := by
  have key : ∀ i g, sentG[i]? = some g → ∃ u, inst (rho aE) (.iface 247 (.opq i)) = some u ∧ w0.cell? ⟨g, 0, none⟩ = some u ∧ g < base := fun i g hi => ⟨_, rfl, hS.at_ i g hi, hS.lt g (List.mem_of_getElem? hi)⟩
  intro g v hv
  unfold cfg at hv
  simp only [lookE] at hv
  split at hv
  · rename_i hb
    cases hv
    obtain rfl : 5 = g := by simpa using hb
    exact key 0 _ rfl
  split at hv
  · rename_i hb
    cases hv
    obtain rfl : 4 = g := by simpa using hb
    exact key 1 _ rfl
  split at hv
  · rename_i hb
    cases hv
    obtain rfl : 7 = g := by simpa using hb
    exact key 2 _ rfl
  split at hv
  · rename_i hb
    cases hv
    obtain rfl : 3 = g := by simpa using hb
    exact key 3 _ rfl
  split at hv
  · rename_i hb
    cases hv
    obtain rfl : 8 = g := by simpa using hb
    exact key 4 _ rfl
  split at hv
  · rename_i hb
    cases hv
    obtain rfl : 9 = g := by simpa using hb
    exact key 5 _ rfl
  split at hv
  · rename_i hb
    cases hv
    obtain rfl : 10 = g := by simpa using hb
    exact key 6 _ rfl
  split at hv
  · rename_i hb
    cases hv
    obtain rfl : 2 = g := by simpa using hb
    exact key 7 _ rfl
  split at hv
  · rename_i hb
    cases hv
    obtain rfl : 11 = g := by simpa using hb
    exact key 8 _ rfl
  split at hv
  · rename_i hb
    cases hv
    obtain rfl : 1 = g := by simpa using hb
    exact key 9 _ rfl
  split at hv
  · rename_i hb
    cases hv
    obtain rfl : 12 = g := by simpa using hb
    exact key 10 _ rfl
  split at hv
  · rename_i hb
    cases hv
    obtain rfl : 13 = g := by simpa using hb
    exact key 11 _ rfl
  split at hv
  · rename_i hb
    cases hv
    obtain rfl : 0 = g := by simpa using hb
    exact key 12 _ rfl
  split at hv
  · rename_i hb
    cases hv
    obtain rfl : 14 = g := by simpa using hb
    exact key 13 _ rfl
  split at hv
  · rename_i hb
    cases hv
    obtain rfl : 15 = g := by simpa using hb
    exact key 14 _ rfl
  split at hv
  · rename_i hb
    cases hv
    obtain rfl : 16 = g := by simpa using hb
    exact key 15 _ rfl
  split at hv
  · rename_i hb
    cases hv
    obtain rfl : 17 = g := by simpa using hb
    exact key 16 _ rfl
  cases hv
theorem push {w0 w : World} {base : Nat} {its : List It} {aE : Nat → Addr} (hS : EnvS w0 base aE) (hw : WA w0 base its w) : EnvS w w.heap.size aE where
  at_ i g hi := hw.old (a := ⟨g, 0, none⟩) (hS.lt g (List.mem_of_getElem? hi)) (hS.at_ i g hi)
  lt g hg := Nat.lt_of_lt_of_le (hS.lt g hg) hw.fits
  blk i hi := by
    obtain ⟨h1, c, t, h2⟩ := hS.blk i hi
    exact ⟨Nat.lt_of_lt_of_le h1 hw.fits, c, t, by rw [hw.below.block _ h1]; exact h2⟩
  ne := hS.ne
/-- what calls by the machine have left -/
structure St (hs : List AH) (nx : Nat) (ρ : Rho) (w : World) : Prop where
  ro : RO w w.heap.size ρ hs
  ee : EE w w.heap.size ρ cfg.E
  fr : Fresh ρ nx
theorem RO.below {w w' : World} {ρ : Rho} {hs : List AH} (h : RO w w.heap.size ρ hs) (hb : Below w.heap.size w w') : RO w' w'.heap.size ρ hs := fun id it hi => by
  obtain ⟨p, us, h1, h2, h3, h4, h5⟩ := h id it hi
  exact ⟨p, us, h1, h2, Nat.lt_of_lt_of_le h3 hb.size, fun off u hu => (WA.mk hb hb.size (fun _ h => by cases h) List.Pairwise.nil : WA w w.heap.size [] w').old (a := ⟨p.1, off, none⟩) h3 (h4 off u hu), h5⟩
theorem EE.below {w w' : World} {ρ : Rho} {E : List (Nat × AV)} (h : EE w w.heap.size ρ E) (hb : Below w.heap.size w w') : EE w' w'.heap.size ρ E := fun g v hg => by
  obtain ⟨u, h1, h2, h3⟩ := h g v hg
  exact ⟨u, h1, (WA.mk hb hb.size (fun _ h => by cases h) List.Pairwise.nil : WA w w.heap.size [] w').old (a := ⟨g, 0, none⟩) h3 h2, Nat.lt_of_lt_of_le h3 hb.size⟩
instance {hs : List AH} {nx : Nat} {ρ : Rho} : Stab (St hs nx ρ) where
  st _ _ h hb := ⟨RO.below h.ro hb, EE.below h.ee hb, h.fr⟩
theorem St.start {w : World} {aE : Nat → Addr} (hS : EnvS w w.heap.size aE) : St [] 1 (rho aE) w := ⟨(fun id it h => by cases h), Bsf.ee hS, (fun id _ => rfl)⟩
def pickH (h : AH) : List Nat → Option AH
  | [] => some []
  | id :: t => match findRO [h] id with
    | some it => match pickH h t with
      | some r => some ((id, it) :: r)
      | none => none
    | none => none
theorem findA_at (id : Nat) : ∀ (r : AH) (a b : Nat), (findA r id a).map (·.2) = (findA r id b).map (·.2)
  | [], a, b => rfl
  | (k, it) :: r, a, b => by
    unfold findA
    cases Nat.beq k id with
    | true => rfl
    | false => exact findA_at id r _ _
theorem findRO1 (r : AH) (id : Nat) : findRO [r] id = (findA r id 0).map (·.2) := by
  unfold findRO
  cases findA r id 0 with
  | none => rfl
  | some q => rfl
theorem pickH_ok {h : AH} : ∀ {ids : List Nat} {H : AH}, pickH h ids = some H → ∀ id it, findRO [H] id = some it → findRO [h] id = some it
  | [], H, e, id, it, hi => by cases e; cases hi
  | k :: t, H, e, id, it, hi => by
    unfold pickH at e
    split at e <;> try (cases e; done)
    rename_i it0 h0
    split at e <;> try (cases e; done)
    rename_i r hr
    cases e
    rw [findRO1] at hi
    unfold findA at hi
    cases hb : Nat.beq k id with
    | true =>
      obtain rfl : k = id := Nat.eq_of_beq_eq_true hb
      rw [hb] at hi
      cases hi
      exact h0
    | false =>
      rw [hb] at hi
      refine pickH_ok hr id it ?_
      rw [findRO1, findA_at id r 0 (0 + 1)]; exact hi
def pk (ids : List Nat) (r : Option (AV × AH × Nat)) : Option (AV × AH × Nat) :=
  match r with
  | some (v, h, n) => match pickH h ids with
    | some H => some (v, H, n)
    | none => none
  | none => none
theorem pk_inv {ids : List Nat} {r : Option (AV × AH × Nat)} {v : AV} {H : AH} {n : Nat} (h : pk ids r = some (v, H, n)) : ∃ hp, r = some (v, hp, n) ∧ pickH hp ids = some H := by
  unfold pk at h
  split at h <;> try (cases h; done)
  split at h <;> try (cases h; done)
  rename_i hq
  cases h
  exact ⟨_, rfl, hq⟩
/-- a call: v is what it hands back, H what is kept of the memory that it left; g tells the value by a part a of v -/
theorem callG {hs : List AH} {nx nx' d : Nat} {f : FuncId} {args : List AV} {v a : AV} {H : AH} {ids : List Nat} {g : Value → Value} (hc : pk ids (callB Tryz.prog cfg d hs f args [] nx) = some (v, H, nx')) (hv : ∀ ρ' u, inst ρ' v = some u → ∃ x, inst ρ' a = some x ∧ u = g x)
    {W : World → Prop} [hst : Stab W] {ρ : Rho} {us : List Value} (hS : ∀ w, W w → St hs nx ρ w) (hA : instL ρ args = some us) :
    FnC Tryz.prog f us.toArray W (fun q : Rho × Value => g q.2) (fun q w => (Ext ρ q.1 ∧ inst q.1 a = some q.2) ∧ St (H :: hs) nx' q.1 w ∧ W w) := fun w hw => by
  obtain ⟨hp', hc, hH⟩ := pk_inv hc
  obtain ⟨_, h⟩ := callB_ok cfg_ok _ _ _ _ _ _ _ _ _ hc
  have s := hS w hw
  refine (h w w.heap.size ρ us [] s.ro s.ee rfl hA s.fr w (WA.start w)).mono fun e w' he => ?_
  obtain ⟨ρ', its', e1, e2, e3, e4, u, e5, rfl⟩ := he
  have hb : Below w.heap.size w w' := e4.below
  obtain ⟨x, e6, rfl⟩ := hv _ _ e5
  refine ⟨(ρ', x), rfl, ⟨e1, e6⟩, ⟨fun id it hi => ?_, EE.below (s.ee.ext e1) hb, e2⟩, hst.st w w' hw hb⟩
  have r1 := RO.push e3 (s.ro.ext e1) e4
  have r2 := RO.below (s.ro.ext e1) hb
  cases hf : findA H id 0 with
  | some q =>
    have h1 : findRO [H] id = some q.2 := by rw [findRO1, hf]; rfl
    have h2 : q.2 = it := by
      unfold findRO at hi
      rw [hf] at hi
      cases hi
      rfl
    have h3 := pickH_ok hH id it (h2 ▸ h1)
    refine r1 id it ?_
    rw [findRO1] at h3
    obtain ⟨q2, h4, h5⟩ := Option.map_eq_some_iff.1 h3
    unfold findRO
    rw [h4]
    exact congrArg some h5
  | none =>
    refine r2 id it ?_
    unfold findRO at hi
    rw [hf] at hi
    exact hi
/-- one whose value is closed -/
theorem callL {hs : List AH} {nx nx' d : Nat} {f : FuncId} {args : List AV} {v : AV} {H : AH} {ids : List Nat} {z : Value} (hc : pk ids (callB Tryz.prog cfg d hs f args [] nx) = some (v, H, nx'))
    {W : World → Prop} {ρ : Rho} {us : List Value} (hv : ∀ ρ' u, Ext ρ ρ' → inst ρ' v = some u → u = z) (hS : ∀ w, W w → St hs nx ρ w) (hA : instL ρ args = some us) : FnQ Tryz.prog f us.toArray W z := fun w hw => by
  obtain ⟨hp', hc, hH⟩ := pk_inv hc
  obtain ⟨_, h⟩ := callB_ok cfg_ok _ _ _ _ _ _ _ _ _ hc
  have s := hS w hw
  refine (h w w.heap.size ρ us [] s.ro s.ee rfl hA s.fr w (WA.start w)).mono fun e w' he => ?_
  obtain ⟨ρ', its', e1, e2, e3, e4, u, e5, rfl⟩ := he
  exact ⟨by rw [hv ρ' u e1 e5], e4.below⟩
theorem inst_mkI {ρ : Rho} {t : TypeId} {a : AV} {x : Value} (h : inst ρ a = some x) : inst ρ (.iface t a) = some (.iface t x) := by
  unfold inst
  rw [h]
  rfl
theorem inst_pair {ρ : Rho} {v : AV} {b u : Value} (h : inst ρ (.tup [v, .lit b]) = some u) : ∃ x, inst ρ v = some x ∧ u = .tuple #[x, b] := by
  obtain ⟨us, h1, rfl⟩ := inst_tup h
  obtain ⟨x, us', rfl, h2, h3⟩ := instL_cons h1
  obtain ⟨y, us2, rfl, h4, h5⟩ := instL_cons h3
  cases h5
  obtain rfl := inst_lit h4
  exact ⟨x, h2, rfl⟩
theorem inst_if {ρ : Rho} {t : TypeId} {v : AV} {u : Value} (h : inst ρ (.iface t v) = some u) : ∃ x, inst ρ v = some x ∧ u = .iface t x := by
  unfold inst at h
  cases hx : inst ρ v with
  | none => rw [hx] at h; cases h
  | some x => rw [hx] at h; cases h; exact ⟨x, rfl, rfl⟩
theorem inst_pairI {ρ : Rho} {t : TypeId} {v : AV} {b u : Value} (h : inst ρ (.tup [.iface t v, .lit b]) = some u) : ∃ x, inst ρ v = some x ∧ u = .tuple #[.iface t x, b] := by
  obtain ⟨y, h1, rfl⟩ := inst_pair h
  obtain ⟨x, h2, rfl⟩ := inst_if h1
  exact ⟨x, h2, rfl⟩
theorem instL1 {ρ : Rho} {a : AV} {x : Value} (h : inst ρ a = some x) : instL ρ [a] = some [x] := instL_mk h rfl
end Go.Proofs.YtickdimknfeddaaGreatDoor.Bsf
