/-
  Proved here: what readers of bytes have read so far, and what the next step comes to, as plain values; bytes that lie somewhere, as a text. No program stands here.
-/
import Derived.Test.YtgijpgkckiknjaaGreatDoorByN
import Derived.Test.YtgijpgkckiknjaaGreatDoorByP
import Derived.Test.YtgijpgkckiknjaaGreatDoorAt
namespace Go.SX
open Go.RowKit
variable {P : Program} {l : Fr} {W : World → Prop} {ty t ty2 : TypeId} {x y : Operand} {w0 : World} {base : Nat} {its : List It}
/-- a byte, in a cell -/
def byteA (_ : Rd) (cs : List Value) (c : UInt8) : Prop := cs = [b8 c]
instance : Kept byteA := ⟨fun _ h => h⟩
theorem byteA_at {M : Rd} {av : Option Addr} {b : List UInt8} (h : SlAt 1 byteA M av b) {i : Nat} {c : UInt8} (hc : b[i]? = some c) : ∃ a, av = some a ∧ M (a.add (i * 1)) [b8 c] := by
  obtain ⟨a, cs, h1, _, h2, h3⟩ := h i c hc
  exact ⟨a, h1, by rw [h3] at h2; exact h2⟩
theorem Y.strZ {av : Option Addr} {k cap e : Nat} {bs : List UInt8} {t' : TypeId} (hx : evl l x = some (.slice av k cap)) (hA : SlAt 1 byteA (Lies w0 base) av bs) (hk : bs.length = k) (hs : P.underlying t = some (.slice e)) (he : P.underlying e = some (.int .u8)) (hd : P.underlying t' = some .string) :
    Y P l (WA w0 base its) (.convert t t' x) ty (Go.SX.str bs) := by
  intro ρ hρ o' ho ht w hW
  have h1 : (convert t t' (.slice av k cap)).run P w = .ok (Go.SX.str bs) w := by
    rcases av with _ | a
    · have hb : bs = [] := by
        cases bs with
        | nil => rfl
        | cons c r => obtain ⟨a, h, _⟩ := byteA_at hA (i := 0) (c := c) rfl; cases h
      subst hb
      subst hk
      exact run_convert_bytes_nil w t e hs he 0 cap t' hd
    · have hl : (loadCells a k).run P w = .ok ((bs.map fun c => ((c.toNat : Nat) : Int)).map (Value.int .u8)).toArray w := by
        have := run_loadCells_list (P := P) w a ((bs.map fun c => ((c.toNat : Nat) : Int)).map (Value.int .u8)) (fun j v hj => by
          rw [List.getElem?_map, List.getElem?_map] at hj
          cases hc : bs[j]? with
          | none => rw [hc] at hj; cases hj
          | some c =>
            rw [hc] at hj
            cases hj
            obtain ⟨a', h, hL⟩ := byteA_at hA hc
            cases h
            have h2 := (hL.push hW).at_ 0 _ rfl
            rw [add_zero2, Nat.mul_one] at h2
            exact h2.2)
        simpa [hk] using this
      rw [run_convert_bytes_string w t t' e _ k cap hs he hd, run_bytesToString w _ k cap _ hl, foldl_push_bytes]
      congr 2
      simp only [ByteArray.empty, ByteArray.emptyWithCapacity, List.map_map]
      rw [List.map_congr_left (g := id) (by intro c _; simp)]
      simp
      rfl
  simp only [execOp, ho, hρ _ _ hx]
  rw [Sem.run_bind, h1]
  simp
theorem i64_xor {a : Nat} (h : a < 9223372036854775808) : Go.bits .xor .i64 (a : Int) 0 = (a : Int) ∧ Go.bits .xor .i64 (a : Int) (-1) = -(a : Int) - 1 := by
  have ea : BitVec.ofInt 64 (a : Int) = BitVec.ofNat 64 a := by simp
  have e1 : BitVec.ofInt 64 (-1) = BitVec.allOnes 64 := by decide
  have ma : a % 18446744073709551616 = a := Nat.mod_eq_of_lt (by omega)
  constructor
  · have t : (BitVec.ofNat 64 a ^^^ BitVec.ofInt 64 0).toNat = a := by
      rw [BitVec.toNat_xor, BitVec.toNat_ofNat]
      simp [ma]
    show IntKind.i64.wrap (((BitVec.ofInt 64 (a : Int) ^^^ BitVec.ofInt 64 0).toNat : Nat) : Int) = _
    rw [ea, t]
    simp [IntKind.wrap, IntKind.bits, IntKind.signed]; omega
  · have t : (BitVec.ofNat 64 a ^^^ BitVec.allOnes 64).toNat = 18446744073709551615 - a := by
      rw [BitVec.xor_allOnes, BitVec.toNat_not, BitVec.toNat_ofNat]
      simp [ma]
    show IntKind.i64.wrap (((BitVec.ofInt 64 (a : Int) ^^^ BitVec.ofInt 64 (-1)).toNat : Nat) : Int) = _
    rw [ea, e1, t]
    simp [IntKind.wrap, IntKind.bits, IntKind.signed]; omega
/-- a number, unfolded -/
theorem Y.unzig {u : Nat} (hx : evl l x = some (.int .i64 ((u / 2 : Nat) : Int))) (hy : evl l y = some (.int .i64 (-((u % 2 : Nat) : Int)))) (h : u < 18446744073709551616) : Y P l W (.binOp .xor t x y ty2) ty (.int .i64 (Go.SX.unzig u)) := by
  refine Y.bin hx hy fun w _ => ?_
  obtain ⟨h0, h1⟩ := i64_xor (a := u / 2) (by omega)
  have e : Go.bits .xor .i64 ((u / 2 : Nat) : Int) (-((u % 2 : Nat) : Int)) = Go.SX.unzig u := by
    unfold Go.SX.unzig
    rcases Nat.mod_two_eq_zero_or_one u with hm | hm
    · rw [hm, if_pos rfl]; exact h0
    · rw [hm, if_neg (by decide)]; exact h1
  simp at e
  simp [eqGuard_xor, binOp_xor, intBits_xor, e]
theorem and_127 (v : Nat) (h : v < 256) : v &&& 127 = v % 128 :=
  (show ∀ w : Fin 256, w.val &&& 127 = w.val % 128 by decide +kernel) ⟨v, h⟩
theorem and_1 (v : Nat) : v &&& 1 = v % 2 := Nat.and_one_is_mod v
theorem or_shift {u c i : Nat} (h : u < 2 ^ i) : u ||| c * 2 ^ i = u + c * 2 ^ i := by
  rw [Nat.or_comm, Nat.mul_comm, ← Nat.two_pow_add_eq_or_of_lt h, Nat.add_comm]
theorem Y.low7 {c : Nat} (hx : evl l x = some (.int .u8 (c : Int))) (hy : evl l y = some (.int .u8 127)) (h : c < 256) : Y P l W (.binOp .and t x y ty2) ty (.int .u8 ((c % 128 : Nat) : Int)) := by
  have h1 := Y.and8 (P := P) (W := W) (t := t) (ty := ty) (ty2 := ty2) (b := 127) hx hy h (by decide)
  rwa [and_127 c h] at h1
theorem Y.low1 {u : Nat} (hx : evl l x = some (.int .u64 (u : Int))) (hy : evl l y = some (.int .u64 1)) (h : u < 18446744073709551616) : Y P l W (.binOp .and t x y ty2) ty (.int .u64 ((u % 2 : Nat) : Int)) := by
  have h1 := Y.and64 (P := P) (W := W) (t := t) (ty := ty) (ty2 := ty2) (b := 1) hx hy h (by decide)
  rwa [and_1 u] at h1
theorem Y.half {u : Nat} {k : IntKind} (hx : evl l x = some (.int .u64 (u : Int))) (hy : evl l y = some (.int k 1)) : Y P l W (.binOp .shr t x y ty2) ty (.int .u64 ((u / 2 : Nat) : Int)) :=
  Y.shr64 (b := 1) hx hy (by decide)
theorem Y.shlF {a b : Nat} {k : IntKind} (hx : evl l x = some (.int .u64 (a : Int))) (hy : evl l y = some (.int k (b : Int))) (hb : b ≤ 64) (h : a * 2 ^ b < 18446744073709551616) : Y P l W (.binOp .shl t x y ty2) ty (.int .u64 ((a * 2 ^ b : Nat) : Int)) := by
  have h1 := Y.shl64 (P := P) (W := W) (t := t) (ty := ty) (ty2 := ty2) hx hy hb
  rwa [Nat.mod_eq_of_lt h] at h1
theorem Y.orAdd {u c i : Nat} (hx : evl l x = some (.int .u64 (u : Int))) (hy : evl l y = some (.int .u64 ((c * 2 ^ i : Nat) : Int))) (h : u < 2 ^ i) (h1 : u < 18446744073709551616) (h2 : c * 2 ^ i < 18446744073709551616) : Y P l W (.binOp .or t x y ty2) ty (.int .u64 ((u + c * 2 ^ i : Nat) : Int)) := by
  have h3 := Y.or64 (P := P) (W := W) (t := t) (ty := ty) (ty2 := ty2) hx hy h1 h2
  rwa [or_shift h] at h3
theorem Y.negN {u : Nat} (hx : evl l x = some (.int .i64 (u : Int))) (h : u < 9223372036854775808) : Y P l W (.unOp .neg t x) ty (.int .i64 (-(u : Int))) := by
  intro ρ hρ o' ho ht w hW
  have h1 : IntKind.i64.wrap (-(u : Int)) = -(u : Int) := IntWalk.i64_in _ (by omega)
  simp [execOp, ho, hρ _ _ hx, Op.unary, Op.intArith, h1]
/-- what lies between may lie elsewhere -/
theorem FnC.midI {τ : Type} {f : FuncId} {args : Array Value} {v : τ → Value} {T : τ → World → Prop} {x : It} {i : List It} {y : τ → It} {j : τ → List It}
    (h : ∀ fr, FnC P f args (WA w0 base (x :: (i ++ fr))) v (fun q w => T q w ∧ WA w0 base (y q :: (j q ++ fr)) w)) (f1 f2 : List It) :
    FnC P f args (WA w0 base (x :: (f1 ++ (i ++ f2)))) v (fun q w => T q w ∧ WA w0 base (y q :: (f1 ++ (j q ++ f2))) w) := fun w hw => by
  have hp : ∀ (x : It) (i : List It), (x :: (i ++ (f1 ++ f2))).Perm (x :: (f1 ++ (i ++ f2))) := fun x i => by
    refine List.Perm.cons _ ?_
    rw [← List.append_assoc, ← List.append_assoc]
    exact List.perm_append_comm.append_right f2
  exact (h (f1 ++ f2) w (hw.perm (hp x i))).mono fun _ w' ⟨q, he, ht, hb⟩ => ⟨q, he, ht, hb.perm (hp (y q) (j q)).symm⟩
/-- steps in any order that Go leaves open, where what waits sees less than all -/
theorem CX.regionS {n : Nat} {D : List Deferred} {Q : Exit → Act → World → Prop} (S : World → Prop) [hst : Stab W] {id : Nat} {lo : List Oper} (plan : List (Nat × Kd)) (hm : P.follows .mixedOrders = true) (hB : (Region.noSelect lo.toArray && planOk .any lo.toArray plan (Array.replicate lo.toArray.size false) && (plan.length == lo.toArray.size)) = true)
    (h : MX P lo.toArray n D Q S l W plan []) : CX P n D Q l W (.region id lo.toArray true) := by
  intro a w ha hW
  simp only [Bool.and_eq_true, beq_iff_eq] at hB
  refine wp_mono ?_ (noPanic_imp (Q := Q))
  refine wp_region_any hm (wpAny_of_M (S := S) _ _ [] _ _ ?_)
  have h1 := wpAnyM_plan (Q := noPanic Q) (S := S) hB.1.1 (fun _ _ _ _ _ h => h) plan _ [] a _ hB.1.2 (fun h => absurd rfl h) (h a _ ha (Stab.drew hW))
  rw [hB.2] at h1
  exact h1
theorem FnC.midW {τ : Type} {f : FuncId} {args : Array Value} {v : τ → Value} {x : It} {i : List It} {y : τ → It} {j : τ → List It}
    (h : ∀ fr, FnC P f args (WA w0 base (x :: (i ++ fr))) v (fun q => WA w0 base (y q :: (j q ++ fr)))) (f1 f2 : List It) :
    FnC P f args (WA w0 base (x :: (f1 ++ (i ++ f2)))) v (fun q => WA w0 base (y q :: (f1 ++ (j q ++ f2)))) := fun w hw =>
  (FnC.midI (T := fun _ _ => True) (fun fr => fun w hw => (h fr w hw).mono fun _ w' ⟨q, he, hb⟩ => ⟨q, he, trivial, hb⟩) f1 f2 w hw).mono fun _ w' ⟨q, he, _, hb⟩ => ⟨q, he, hb⟩
/-- a value that lies in a block of its own is given back, and another one -/
theorem PX.retA2 {n : Nat} {R : Ending → World → Prop} {fn : Func} {r s b T k i : Nat} {cs : List Value} {u : Value} {e : Exit} (he : e = .ret ∨ e = .normal) (hr : fn.results = #[.cell r t, .tmp s]) (ht : AggT P t k) (hv : get l r = some (.pointer (some ⟨b, 0, none⟩))) (hu : get l s = some u) (hi : its[i]? = some (blk b cs T)) (hk : cs.length = k)
    (h : ∀ w, WA w0 base its w → R (.returned (.tuple #[.agg cs.toArray, u])) w) : PX n [] (bodyPost P fn R) l (WA w0 base its) e := by
  intro a w ha hW
  obtain ⟨d, hd1, hd⟩ := ht.un
  have hp : a.tmps[r]?.getD undef = .pointer (some ⟨b, 0, none⟩) := by simpa using getD_of ha hv
  have hq : a.tmps[s]?.getD undef = u := by simpa using getD_of ha hu
  have h1 : (results fn a.tmps).run P w = .ok (.tuple #[.agg cs.toArray, u]) w := by
    have hl := run_loadVar_row w b T t cs.toArray (0, 0) d (hW.get hi).2 hd1 (by cases d <;> first | rfl | cases hd) (by rw [ht.info]; simp [hk])
    simp [results, hr, hp, hq, asAddr, hl]
  rcases he with rfl | rfl
  · exact ⟨ha.defs, _, h1, h w hW⟩
  · exact ⟨ha.defs, _, h1, h w hW⟩
/-- two values that lie in blocks of their own are given back -/
theorem PX.retAA {n : Nat} {R : Ending → World → Prop} {fn : Func} {r s b T k i b2 T2 k2 i2 t2 : Nat} {cs cs2 : List Value} {e : Exit} (he : e = .ret ∨ e = .normal) (hr : fn.results = #[.cell r t, .cell s t2]) (ht : AggT P t k) (ht2 : AggT P t2 k2) (hv : get l r = some (.pointer (some ⟨b, 0, none⟩))) (hu : get l s = some (.pointer (some ⟨b2, 0, none⟩)))
    (hi : its[i]? = some (blk b cs T)) (hk : cs.length = k) (hi2 : its[i2]? = some (blk b2 cs2 T2)) (hk2 : cs2.length = k2)
    (h : ∀ w, WA w0 base its w → R (.returned (.tuple #[.agg cs.toArray, .agg cs2.toArray])) w) : PX n [] (bodyPost P fn R) l (WA w0 base its) e := by
  intro a w ha hW
  obtain ⟨d, hd1, hd⟩ := ht.un
  obtain ⟨d2, hd3, hd4⟩ := ht2.un
  have hp : a.tmps[r]?.getD undef = .pointer (some ⟨b, 0, none⟩) := by simpa using getD_of ha hv
  have hq : a.tmps[s]?.getD undef = .pointer (some ⟨b2, 0, none⟩) := by simpa using getD_of ha hu
  have h1 : (results fn a.tmps).run P w = .ok (.tuple #[.agg cs.toArray, .agg cs2.toArray]) w := by
    have hl := run_loadVar_row w b T t cs.toArray (0, 0) d (hW.get hi).2 hd1 (by cases d <;> first | rfl | cases hd) (by rw [ht.info]; simp [hk])
    have hl2 := run_loadVar_row w b2 T2 t2 cs2.toArray (0, 0) d2 (hW.get hi2).2 hd3 (by cases d2 <;> first | rfl | cases hd4) (by rw [ht2.info]; simp [hk2])
    simp [results, hr, hp, hq, asAddr, hl, hl2]
  rcases he with rfl | rfl
  · exact ⟨ha.defs, _, h1, h w hW⟩
  · exact ⟨ha.defs, _, h1, h w hW⟩
/-- a struct within another is loaded -/
theorem Y.ldAggO {vs cs : List Value} {b off T k : Nat} (i : Nat) (ht : AggT P t k) (hx : evl l x = some (.pointer (some ⟨b, off, none⟩))) (hi : its[i]? = some (blk b cs T)) (hv : (cs.drop off).take vs.length = vs) (hk : vs.length = k) : Y P l (WA w0 base its) (.load t x) ty (.agg vs.toArray) :=
  Y.loadAA ht hk hx fun w hW j u hj => by
    rw [Addr.add_mid]
    refine hW.cell hi ?_
    rw [← hv, List.getElem?_take] at hj
    split at hj
    · rw [List.getElem?_drop] at hj; exact hj
    · cases hj
theorem FnC.caps {τ : Type} {f : FuncId} {cap : Array Value} {v : τ → Value} {W' : τ → World → Prop} (h : FnC P f cap W v W') : FnC P f (#[] ++ ([] : List Value).toArray ++ cap) W v W' := by
  rw [show #[] ++ ([] : List Value).toArray ++ cap = cap by simp]; exact h
end Go.SX
namespace Go.By
open Go.SX Go.Ck
/-- how far it has read, and what was amiss -/
structure St where
  at_ : Nat
  e : Option (Nat × Nat)
/-- what reading comes to from here -/
def St.run {α : Type} (s : St) (r : Nat → Er (α × Nat)) : Er (α × Nat) := match s.e with
  | none => r s.at_
  | some e => .error e
/-- this is what came of it -/
def Res {α : Type} : Er (α × Nat) → α → St → Prop
  | .ok q, x, s => x = q.1 ∧ s = ⟨q.2, none⟩
  | .error e, _, s => s.e = some e
theorem Res.bad {α : Type} {r : Nat → Er (α × Nat)} {s : St} {e : Nat × Nat} (he : s.e = some e) (x : α) {s' : St} (h : s'.e = some e) : Res (s.run r) x s' := by
  unfold St.run; rw [he]; exact h
theorem Res.ret {α : Type} {r : Er (α × Nat)} {x : α} {s : St} {q : α × Nat} (h : Res r x s) (hr : r = .ok q) : x = q.1 ∧ s = ⟨q.2, none⟩ := by subst hr; exact h
theorem Res.err {α : Type} {r : Er (α × Nat)} {x : α} {s : St} {e : Nat × Nat} (h : Res r x s) (hr : r = .error e) : s.e = some e := by subst hr; exact h
/-- one after the other -/
theorem Res.seq {α β γ : Type} {a : Er (α × Nat)} {r2 : α → Nat → Er (β × Nat)} {x : α} {y : β} {s1 s2 : St} (h1 : Res a x s1) (h2 : Res (s1.run (r2 x)) y s2) {f : α → β → γ} : Res (a.bind fun q => (r2 q.1 q.2).bind fun z => .ok (f q.1 z.1, z.2)) (f x y) s2 := by
  cases a with
  | error e =>
    have he : s1.e = some e := h1
    unfold St.run at h2
    rw [he] at h2
    exact h2
  | ok q =>
    obtain ⟨rfl, rfl⟩ := h1
    show Res ((r2 q.1 q.2).bind _) _ _
    cases hr : r2 q.1 q.2 with
    | error e =>
      have h3 : Res (r2 q.1 q.2) y s2 := h2
      rw [hr] at h3
      exact h3
    | ok z =>
      have h3 : Res (r2 q.1 q.2) y s2 := h2
      rw [hr] at h3
      obtain ⟨rfl, rfl⟩ := h3
      exact ⟨rfl, rfl⟩
theorem St.run_bind {α β : Type} (s : St) (r : Nat → Er (α × Nat)) (g : α × Nat → Er (β × Nat)) : s.run (fun a => (r a).bind g) = (s.run r).bind g := by
  unfold St.run
  cases s.e <;> rfl
theorem Res.bindR {α β : Type} {s s1 s2 : St} {r : Nat → Er (α × Nat)} {x : α} {y : β} (k : α → Nat → Er (β × Nat)) (h1 : Res (s.run r) x s1) (h2 : Res (s1.run (k x)) y s2) : Res (s.run fun a => (r a).bind fun q => k q.1 q.2) y s2 := by
  rw [St.run_bind]
  cases hr : s.run r with
  | error e =>
    rw [hr] at h1
    have he : s1.e = some e := h1
    unfold St.run at h2
    rw [he] at h2
    exact h2
  | ok q =>
    rw [hr] at h1
    obtain ⟨rfl, rfl⟩ := h1
    exact h2
theorem Res.fin {α : Type} {s : St} (x : α) : Res (s.run fun a => .ok (x, a)) x s := by
  obtain ⟨a, e⟩ := s
  cases e with
  | none => exact ⟨rfl, rfl⟩
  | some e => rfl
variable {b : List UInt8} {s s1 s2 s3 s4 s5 s6 : St}
theorem rIns_res {o x y z : Int} (h1 : Res (s.run (rNum b)) o s1) (h2 : Res (s1.run (rNum b)) x s2) (h3 : Res (s2.run (rNum b)) y s3) (h4 : Res (s3.run (rNum b)) z s4) : Res (s.run (rIns b)) ⟨o, x, y, z⟩ s4 :=
  Res.bindR (fun o a => (rNum b a).bind fun x => (rNum b x.2).bind fun y => (rNum b y.2).bind fun z => .ok ((⟨o, x.1, y.1, z.1⟩ : Ins), z.2)) h1 <|
  Res.bindR (fun x a => (rNum b a).bind fun y => (rNum b y.2).bind fun z => .ok ((⟨o, x, y.1, z.1⟩ : Ins), z.2)) h2 <|
  Res.bindR (fun y a => (rNum b a).bind fun z => .ok ((⟨o, x, y, z.1⟩ : Ins), z.2)) h3 <|
  Res.bindR (fun z a => .ok ((⟨o, x, y, z⟩ : Ins), a)) h4 <| Res.fin _
theorem rC_res {o : Int} {x : List UInt8} (h1 : Res (s.run (rNum b)) o s1) (h2 : Res (s1.run (rText b)) x s2) : Res (s.run (rC b)) ⟨o, 0, 0, x, []⟩ s2 :=
  Res.bindR (fun o a => (rText b a).bind fun x => .ok ((⟨o, 0, 0, x.1, []⟩ : Nd), x.2)) h1 <|
  Res.bindR (fun x a => .ok ((⟨o, 0, 0, x, []⟩ : Nd), a)) h2 <| Res.fin _
theorem rFn_res {n : List UInt8} {x y z : Int} {l : List (List UInt8)} {c : List Ins} (h1 : Res (s.run (rText b)) n s1) (h2 : Res (s1.run (rNum b)) x s2) (h3 : Res (s2.run (rNum b)) y s3) (h4 : Res (s3.run (rNum b)) z s4) (h5 : Res (s4.run (rTexts b)) l s5)
    (h6 : Res (s5.run fun a => (rCount b a).bind fun k => rMany (rIns b) k.1 k.2) c s6) : Res (s.run (rFn b)) ⟨n, x, y, z, l, c⟩ s6 := by
  have h7 : Res (s5.run fun a => (rCount b a).bind fun k => (rMany (rIns b) k.1 k.2).bind fun c => .ok ((⟨n, x, y, z, l, c.1⟩ : Fc), c.2)) ⟨n, x, y, z, l, c⟩ s6 := by
    have h8 := Res.bindR (fun c a => .ok ((⟨n, x, y, z, l, c⟩ : Fc), a)) h6 (Res.fin _)
    have e : (fun a => ((rCount b a).bind fun k => rMany (rIns b) k.1 k.2).bind fun q => (.ok ((⟨n, x, y, z, l, q.1⟩ : Fc), q.2) : Er (Fc × Nat))) = fun a => (rCount b a).bind fun k => (rMany (rIns b) k.1 k.2).bind fun c => .ok ((⟨n, x, y, z, l, c.1⟩ : Fc), c.2) := by
      funext a
      cases rCount b a <;> rfl
    rw [e] at h8
    exact h8
  exact Res.bindR (fun n a => (rNum b a).bind fun x => (rNum b x.2).bind fun y => (rNum b y.2).bind fun z => (rTexts b z.2).bind fun l => (rCount b l.2).bind fun k => (rMany (rIns b) k.1 k.2).bind fun c => .ok ((⟨n, x.1, y.1, z.1, l.1, c.1⟩ : Fc), c.2)) h1 <|
    Res.bindR (fun x a => (rNum b a).bind fun y => (rNum b y.2).bind fun z => (rTexts b z.2).bind fun l => (rCount b l.2).bind fun k => (rMany (rIns b) k.1 k.2).bind fun c => .ok ((⟨n, x, y.1, z.1, l.1, c.1⟩ : Fc), c.2)) h2 <|
    Res.bindR (fun y a => (rNum b a).bind fun z => (rTexts b z.2).bind fun l => (rCount b l.2).bind fun k => (rMany (rIns b) k.1 k.2).bind fun c => .ok ((⟨n, x, y, z.1, l.1, c.1⟩ : Fc), c.2)) h3 <|
    Res.bindR (fun z a => (rTexts b a).bind fun l => (rCount b l.2).bind fun k => (rMany (rIns b) k.1 k.2).bind fun c => .ok ((⟨n, x, y, z, l.1, c.1⟩ : Fc), c.2)) h4 <|
    Res.bindR (fun l a => (rCount b a).bind fun k => (rMany (rIns b) k.1 k.2).bind fun c => .ok ((⟨n, x, y, z, l, c.1⟩ : Fc), c.2)) h5 h7
/-- the head, read so far -/
def HeadTo (b : List UInt8) (i : Nat) (s : St) : Prop := match s.e with
  | none => s.at_ = i ∧ rHead b 0 head = rHead b i (head.drop i)
  | some e => rHead b 0 head = .error e
theorem head_drop {i : Nat} (h : i < 3) : head.drop i = head.getD i 0 :: head.drop (i + 1) := by
  rcases (show i = 0 ∨ i = 1 ∨ i = 2 by omega) with rfl | rfl | rfl <;> rfl
/-- the next byte, and how far it is read then -/
def nxV (b : List UInt8) (a : Nat) : Nat := match b[a]? with | some c => c.toNat | none => 0
def nx (b : List UInt8) (a : Nat) : St := if a < b.length then ⟨a + 1, none⟩ else ⟨a, some (13, b.length)⟩
theorem nx_lt {b : List UInt8} {a : Nat} (h : a < b.length) : nx b a = ⟨a + 1, none⟩ := if_pos h
theorem nx_ge {b : List UInt8} {a : Nat} (h : b.length ≤ a) : nx b a = ⟨a, some (13, b.length)⟩ := if_neg (by omega)
theorem nxV_lt {b : List UInt8} {a : Nat} {c : UInt8} (h : b[a]? = some c) : nxV b a = c.toNat := by unfold nxV; rw [h]
theorem nxV_ge {b : List UInt8} {a : Nat} (h : b.length ≤ a) : nxV b a = 0 := by unfold nxV; rw [List.getElem?_eq_none h]
def St.fail (s : St) (k pl : Nat) : St := match s.e with | none => ⟨s.at_, some (k, pl)⟩ | some _ => s
def nxS (b : List UInt8) (s : St) : St := match s.e with | none => nx b s.at_ | some _ => s
def nxB (b : List UInt8) (s : St) : Nat := match s.e with | none => nxV b s.at_ | some _ => 0
theorem fail_e (s : St) (k pl : Nat) : (s.fail k pl).e ≠ none := by
  obtain ⟨a, e⟩ := s
  cases e <;> exact fun h => by cases h
theorem nxS_le {s : St} (h : s.at_ ≤ b.length) : (nxS b s).at_ ≤ b.length := by
  obtain ⟨a, e⟩ := s
  cases e with
  | some e => exact h
  | none =>
    show (nx b a).at_ ≤ _
    rcases Nat.lt_or_ge a b.length with h1 | h1
    · rw [nx_lt h1]; exact h1
    · rw [nx_ge h1]; exact h
theorem fail_le {s : St} {k pl : Nat} (h : s.at_ ≤ b.length) : (s.fail k pl).at_ ≤ b.length := by
  obtain ⟨a, e⟩ := s
  cases e <;> exact h
theorem rHead_end {i : Nat} {h : UInt8} {r : List UInt8} (hi : b.length ≤ i) : rHead b i (h :: r) = .error (13, b.length) := by
  unfold rHead; rw [List.getElem?_eq_none hi]
theorem rHead_ok {i : Nat} {c : UInt8} {r : List UInt8} (hi : b[i]? = some c) : rHead b i (c :: r) = rHead b (i + 1) r := by
  conv => lhs; unfold rHead
  rw [hi]; exact if_pos rfl
theorem rHead_no {i : Nat} {c h : UInt8} {r : List UInt8} (hi : b[i]? = some c) (hc : c ≠ h) : rHead b i (h :: r) = .error (12, i) := by
  conv => lhs; unfold rHead
  rw [hi]; exact if_neg hc
theorem head_step {i : Nat} (hi : i < 3) (h : HeadTo b i s) (hn : ¬((nxS b s).e = none ∧ nxB b s ≠ (head.getD i 0).toNat)) : HeadTo b (i + 1) (nxS b s) := by
  obtain ⟨a, e⟩ := s
  cases e with
  | some e => exact h
  | none =>
    obtain ⟨rfl, hR⟩ : a = i ∧ rHead b 0 head = rHead b i (head.drop i) := h
    rw [head_drop hi] at hR
    rcases Nat.lt_or_ge a b.length with h1 | h1
    · obtain ⟨c, hc⟩ : ∃ c, b[a]? = some c := ⟨_, List.getElem?_eq_getElem h1⟩
      have e1 : nxS b ⟨a, none⟩ = ⟨a + 1, none⟩ := nx_lt h1
      have e2 : nxB b ⟨a, none⟩ = c.toNat := nxV_lt hc
      rw [e1, e2] at hn
      have hch : c.toNat = (head.getD a 0).toNat := Classical.byContradiction fun h => hn ⟨rfl, h⟩
      have hcc : c = head.getD a 0 := UInt8.toNat_inj.1 hch
      rw [e1]
      exact ⟨rfl, by rw [hR, ← hcc, rHead_ok hc]⟩
    · have e1 : nxS b ⟨a, none⟩ = ⟨a, some (13, b.length)⟩ := nx_ge h1
      rw [e1]
      show rHead b 0 head = _
      rw [hR, rHead_end h1]
theorem head_bad {i : Nat} (hi : i < 3) (h : HeadTo b i s) (h1 : (nxS b s).e = none) (h2 : nxB b s ≠ (head.getD i 0).toNat) : HeadTo b (i + 1) ((nxS b s).fail 12 i) := by
  obtain ⟨a, e⟩ := s
  cases e with
  | some e => cases h1
  | none =>
    obtain ⟨rfl, hR⟩ : a = i ∧ rHead b 0 head = rHead b i (head.drop i) := h
    rw [head_drop hi] at hR
    rcases Nat.lt_or_ge a b.length with h3 | h3
    · obtain ⟨c, hc⟩ : ∃ c, b[a]? = some c := ⟨_, List.getElem?_eq_getElem h3⟩
      have e1 : nxS b ⟨a, none⟩ = ⟨a + 1, none⟩ := nx_lt h3
      have e2 : nxB b ⟨a, none⟩ = c.toNat := nxV_lt hc
      rw [e1]
      show rHead b 0 head = _
      rw [hR, rHead_no hc (fun h => h2 (by rw [e2, h]))]
    · have e1 : nxS b ⟨a, none⟩ = ⟨a, some (13, b.length)⟩ := nx_ge h3
      rw [e1] at h1
      cases h1
/-- the head, read so far, wherever the place stands -/
def HeadG (b : List UInt8) (i : Nat) (s : St) : Prop := match s.e with
  | none => rHead b 0 head = rHead b i (head.drop i)
  | some e => rHead b 0 head = .error e
theorem headG_end {i a : Nat} (hi : i < 3) (h : HeadG b i ⟨a, none⟩) (hl : b.length ≤ i) : HeadG b (i + 1) ⟨a, some (13, b.length)⟩ := by
  have h1 : rHead b 0 head = rHead b i (head.drop i) := h
  rw [head_drop hi] at h1
  exact h1.trans (rHead_end hl)
theorem headG_no {i a : Nat} {c : UInt8} (hi : i < 3) (h : HeadG b i ⟨a, none⟩) (hc : b[i]? = some c) (hn : c.toNat ≠ (head.getD i 0).toNat) : HeadG b (i + 1) ⟨a, some (12, i)⟩ := by
  have h1 : rHead b 0 head = rHead b i (head.drop i) := h
  rw [head_drop hi] at h1
  exact h1.trans (rHead_no hc fun e => hn (by rw [e]))
theorem headG_ok {i a : Nat} {c : UInt8} (hi : i < 3) (h : HeadG b i ⟨a, none⟩) (hc : b[i]? = some c) (hn : c.toNat = (head.getD i 0).toNat) : HeadG b (i + 1) ⟨a, none⟩ := by
  have h1 : rHead b 0 head = rHead b i (head.drop i) := h
  rw [head_drop hi, ← UInt8.toNat_inj.1 hn] at h1
  exact h1.trans (rHead_ok hc)
theorem headG_to {i : Nat} (h : HeadG b i s) (hi : s.e = none → i = 3) : HeadTo b 3 ⟨3, s.e⟩ := by
  obtain ⟨a, e⟩ := s
  cases e with
  | none =>
    obtain rfl : i = 3 := hi rfl
    exact ⟨rfl, h⟩
  | some e => exact h
theorem rPg_end {c : List Nd} {g m : List (List UInt8)} {f : List Fc} (h0 : HeadTo b 3 s) (h1 : Res (s.run fun a => (rCount b a).bind fun k => rMany (rC b) k.1 k.2) c s1) (h2 : Res (s1.run (rTexts b)) g s2) (h3 : Res (s2.run (rTexts b)) m s3)
    (h4 : Res (s3.run fun a => (rCount b a).bind fun k => rMany (rFn b) k.1 k.2) f s4) :
    rPg b = match s4.e with | some e => .error e | none => if s4.at_ < b.length then .error (12, s4.at_) else .ok ⟨f, c, g, m⟩ := by
  have hP : Res (s.run fun a => ((rCount b a).bind fun k => rMany (rC b) k.1 k.2).bind fun c => (rTexts b c.2).bind fun g => (rTexts b g.2).bind fun m => ((rCount b m.2).bind fun k => rMany (rFn b) k.1 k.2).bind fun f => .ok ((⟨f.1, c.1, g.1, m.1⟩ : Pg), f.2)) ⟨f, c, g, m⟩ s4 :=
    Res.bindR (fun c a => (rTexts b a).bind fun g => (rTexts b g.2).bind fun m => ((rCount b m.2).bind fun k => rMany (rFn b) k.1 k.2).bind fun f => .ok ((⟨f.1, c, g.1, m.1⟩ : Pg), f.2)) h1 <|
    Res.bindR (fun g a => (rTexts b a).bind fun m => ((rCount b m.2).bind fun k => rMany (rFn b) k.1 k.2).bind fun f => .ok ((⟨f.1, c, g, m.1⟩ : Pg), f.2)) h2 <|
    Res.bindR (fun m a => ((rCount b a).bind fun k => rMany (rFn b) k.1 k.2).bind fun f => .ok ((⟨f.1, c, g, m⟩ : Pg), f.2)) h3 <|
    Res.bindR (fun f a => .ok ((⟨f, c, g, m⟩ : Pg), a)) h4 <| Res.fin _
  have hall : rPg b = ((rHead b 0 head).bind fun _ => ((rCount b 3).bind fun k => rMany (rC b) k.1 k.2).bind fun c => (rTexts b c.2).bind fun g => (rTexts b g.2).bind fun m => ((rCount b m.2).bind fun k => rMany (rFn b) k.1 k.2).bind fun f => .ok ((⟨f.1, c.1, g.1, m.1⟩ : Pg), f.2)).bind fun q => if q.2 < b.length then .error (12, q.2) else .ok q.1 := by
    unfold rPg
    cases rHead b 0 head with
    | error e => rfl
    | ok _ =>
      show (rCount b 3).bind _ = (((rCount b 3).bind _).bind _).bind _
      cases rCount b 3 with
      | error e => rfl
      | ok n =>
        show (rMany (rC b) n.1 n.2).bind _ = ((rMany (rC b) n.1 n.2).bind _).bind _
        cases rMany (rC b) n.1 n.2 with
        | error e => rfl
        | ok c =>
          show (rTexts b c.2).bind _ = ((rTexts b c.2).bind _).bind _
          cases rTexts b c.2 with
          | error e => rfl
          | ok g =>
            show (rTexts b g.2).bind _ = ((rTexts b g.2).bind _).bind _
            cases rTexts b g.2 with
            | error e => rfl
            | ok m =>
              show (rCount b m.2).bind _ = (((rCount b m.2).bind _).bind _).bind _
              cases rCount b m.2 with
              | error e => rfl
              | ok k =>
                show (rMany (rFn b) k.1 k.2).bind _ = ((rMany (rFn b) k.1 k.2).bind _).bind _
                cases rMany (rFn b) k.1 k.2 <;> rfl
  rw [hall]
  unfold HeadTo at h0
  obtain ⟨a, e⟩ := s
  cases e with
  | some e =>
    have h0' : rHead b 0 head = .error e := h0
    rw [h0']
    have h5 : s4.e = some e := hP
    rw [h5]
    rfl
  | none =>
    obtain ⟨h6, h7⟩ := h0
    obtain rfl : a = 3 := h6
    have h8 : rHead b 0 head = .ok () := h7
    rw [h8]
    show ((((rCount b 3).bind fun k => rMany (rC b) k.1 k.2).bind _).bind _ : Er Pg) = _
    have hP' : Res (((rCount b 3).bind fun k => rMany (rC b) k.1 k.2).bind fun c => (rTexts b c.2).bind fun g => (rTexts b g.2).bind fun m => ((rCount b m.2).bind fun k => rMany (rFn b) k.1 k.2).bind fun f => .ok ((⟨f.1, c.1, g.1, m.1⟩ : Pg), f.2)) ⟨f, c, g, m⟩ s4 := hP
    revert hP'
    cases (((rCount b 3).bind fun k => rMany (rC b) k.1 k.2).bind fun c => (rTexts b c.2).bind fun g => (rTexts b g.2).bind fun m => ((rCount b m.2).bind fun k => rMany (rFn b) k.1 k.2).bind fun f => .ok ((⟨f.1, c.1, g.1, m.1⟩ : Pg), f.2) : Er (Pg × Nat)) with
    | error e =>
      intro hP'
      have h9 : s4.e = some e := hP'
      rw [h9]
      rfl
    | ok q =>
      rintro ⟨h9, h10⟩
      subst h10
      rw [h9]
      rfl
/-- a step of a number's reading -/
theorem rU_end {b : List UInt8} {f i at_ u : Nat} (h : b.length ≤ at_) : rU b (f + 1) i at_ u = .error (13, b.length) := by
  unfold rU; rw [List.getElem?_eq_none h]
theorem rU_bad {b : List UInt8} {f i at_ u : Nat} {c : UInt8} (h : b[at_]? = some c) (hc : (i = 9 ∧ 1 < c.toNat) ∨ (0 < i ∧ c.toNat = 0)) : rU b (f + 1) i at_ u = .error (12, at_) := by
  unfold rU; rw [h]; exact if_pos hc
theorem rU_last {b : List UInt8} {f i at_ u : Nat} {c : UInt8} (h : b[at_]? = some c) (hc : ¬((i = 9 ∧ 1 < c.toNat) ∨ (0 < i ∧ c.toNat = 0))) (hl : c.toNat < 128) : rU b (f + 1) i at_ u = .ok (u + c.toNat % 128 * 2 ^ (7 * i), at_ + 1) := by
  unfold rU; rw [h]; exact (if_neg hc).trans (if_pos hl)
theorem rU_more {b : List UInt8} {f i at_ u : Nat} {c : UInt8} (h : b[at_]? = some c) (hc : ¬((i = 9 ∧ 1 < c.toNat) ∨ (0 < i ∧ c.toNat = 0))) (hl : ¬c.toNat < 128) : rU b (f + 1) i at_ u = rU b f (i + 1) (at_ + 1) (u + c.toNat % 128 * 2 ^ (7 * i)) := by
  conv => lhs; unfold rU
  rw [h]; exact (if_neg hc).trans (if_neg hl)
theorem byte_step {u i : Nat} {c : UInt8} (hi : i ≤ 9) (hu : u < 2 ^ (7 * i)) (hc : ¬((i = 9 ∧ 1 < c.toNat) ∨ (0 < i ∧ c.toNat = 0))) :
    c.toNat % 128 * 2 ^ (7 * i) < 18446744073709551616 ∧ u < 18446744073709551616 ∧ u + c.toNat % 128 * 2 ^ (7 * i) < 2 ^ (7 * (i + 1)) ∧ u + c.toNat % 128 * 2 ^ (7 * i) < 18446744073709551616 := by
  have hp : (2 : Nat) ^ (7 * (i + 1)) = 128 * 2 ^ (7 * i) := by rw [show 7 * (i + 1) = 7 + 7 * i by omega, Nat.pow_add]
  have hm : c.toNat % 128 < 128 := Nat.mod_lt _ (by decide)
  have h1 : c.toNat % 128 * 2 ^ (7 * i) ≤ 127 * 2 ^ (7 * i) := Nat.mul_le_mul_right _ (by omega)
  rcases Nat.lt_or_ge i 9 with h9 | h9
  · have h2 : (2 : Nat) ^ (7 * i) ≤ 2 ^ 56 := Nat.pow_le_pow_right (by decide) (by omega)
    have h3 : (2 : Nat) ^ 56 = 72057594037927936 := by decide
    omega
  · obtain rfl : i = 9 := by omega
    have hc1 : c.toNat ≤ 1 := by omega
    have h3 : (2 : Nat) ^ (7 * 9) = 9223372036854775808 := by decide
    have h4 : c.toNat % 128 * 2 ^ (7 * 9) ≤ 1 * 2 ^ (7 * 9) := Nat.mul_le_mul_right _ (by omega)
    omega
theorem unzig_inI {u : Nat} (h : u < 18446744073709551616) : inI (unzig u) := by
  unfold inI unzig
  split <;> omega
theorem num_bad {b : List UInt8} {a : Nat} {e : Nat × Nat} (h : rU b 10 0 a 0 = .error e) : rNum b a = .error e := by unfold rNum; rw [h]; rfl
theorem num_fine {b : List UInt8} {a u a' : Nat} (h : rU b 10 0 a 0 = .ok (u, a')) : rNum b a = .ok (unzig u, a') := by unfold rNum; rw [h]; rfl
theorem Res.e_of {α : Type} {r : Er (α × Nat)} {x : α} {s : St} (h : Res r x s) (he : s.e ≠ none) : ∃ e, s.e = some e ∧ r = .error e := by
  cases r with
  | ok q => obtain ⟨_, rfl⟩ := h; exact absurd rfl he
  | error e => exact ⟨e, h, rfl⟩
theorem Res.fine {α : Type} {r : Er (α × Nat)} {x : α} {a : Nat} (h : Res r x ⟨a, none⟩) : r = .ok (x, a) := by
  cases r with
  | ok q => obtain ⟨rfl, h⟩ := h; injection h with h1 h2; subst h1; rfl
  | error e => cases h
theorem count_bad {b : List UInt8} {a : Nat} {e : Nat × Nat} (h : rNum b a = .error e) : rCount b a = .error e := by unfold rCount; rw [h]; rfl
theorem count_many {b : List UInt8} {a a' : Nat} {n : Int} (h : rNum b a = .ok (n, a')) (hn : 1048576 < n) : rCount b a = .error (9, a) := by unfold rCount; rw [h]; exact if_pos hn
theorem count_low {b : List UInt8} {a a' : Nat} {n : Int} (h : rNum b a = .ok (n, a')) (hn : n < 0) : rCount b a = .error (12, a) := by unfold rCount; rw [h]; exact (if_neg (by omega)).trans (if_pos hn)
theorem count_fine {b : List UInt8} {a a' : Nat} {n : Int} (h : rNum b a = .ok (n, a')) (h1 : ¬1048576 < n) (h2 : ¬n < 0) : rCount b a = .ok (n.toNat, a') := by unfold rCount; rw [h]; exact (if_neg h1).trans (if_neg h2)
theorem text_bad {b : List UInt8} {a : Nat} {e : Nat × Nat} (h : rCount b a = .error e) : rText b a = .error e := by unfold rText; rw [h]; rfl
theorem text_end {b : List UInt8} {a a' n : Nat} (h : rCount b a = .ok (n, a')) (hn : b.length - a' < n) : rText b a = .error (13, b.length) := by unfold rText; rw [h]; exact if_pos hn
theorem text_fine {b : List UInt8} {a a' n : Nat} (h : rCount b a = .ok (n, a')) (hn : ¬b.length - a' < n) : rText b a = .ok ((b.drop a').take n, a' + n) := by unfold rText; rw [h]; exact if_neg hn
theorem u_lt {i u : Nat} (hi : i ≤ 9) (hu : u < 2 ^ (7 * i)) : u < 9223372036854775808 := by
  have h2 : (2 : Nat) ^ (7 * i) ≤ 2 ^ 63 := Nat.pow_le_pow_right (by decide) (by omega)
  have h3 : (2 : Nat) ^ 63 = 9223372036854775808 := by decide
  omega
theorem Res.none_of {α : Type} {r : Nat → Er (α × Nat)} {x : α} {s s1 : St} (h : Res (s.run r) x s1) (h1 : s1.e = none) : s.e = none ∧ r s.at_ = .ok (x, s1.at_) := by
  obtain ⟨a, e⟩ := s
  obtain ⟨a1, e1⟩ := s1
  obtain rfl : e1 = none := h1
  cases e with
  | some e => cases h
  | none => exact ⟨rfl, h.fine⟩
theorem Res.of_none {α : Type} {r : Nat → Er (α × Nat)} {x : α} {s s1 : St} (h : s.e = none) (hr : Res (r s.at_) x s1) : Res (s.run r) x s1 := by
  unfold St.run; rw [h]; exact hr
theorem fail_some {s : St} {k pl : Nat} (h : s.e = none) : (s.fail k pl).e = some (k, pl) := by unfold St.fail; rw [h]
theorem cres_low {n : Int} {x : Nat} (h : Res (s.run (rNum b)) n s1) (h1 : s1.e = none) (hn : n < 0) : Res (s.run (rCount b)) x (s1.fail 12 s.at_) := by
  obtain ⟨h2, h3⟩ := h.none_of h1
  refine Res.of_none h2 ?_
  rw [count_low h3 hn]; exact fail_some h1
theorem cres_many {n : Int} {x : Nat} (h : Res (s.run (rNum b)) n s1) (h1 : s1.e = none) (hn : 1048576 < n) : Res (s.run (rCount b)) x (s1.fail 9 s.at_) := by
  obtain ⟨h2, h3⟩ := h.none_of h1
  refine Res.of_none h2 ?_
  rw [count_many h3 hn]; exact fail_some h1
theorem cres_bad {n : Int} {x : Nat} (h : Res (s.run (rNum b)) n s1) (h1 : s1.e ≠ none) : Res (s.run (rCount b)) x s1 := by
  obtain ⟨e, he, hr⟩ := h.e_of h1
  unfold St.run at hr ⊢
  cases hs : s.e with
  | none => rw [hs] at hr; rw [count_bad hr]; exact he
  | some e' => rw [hs] at hr; cases hr; exact he
theorem cres_ok {n : Int} (h : Res (s.run (rNum b)) n s1) (h1 : s1.e = none) (hn : ¬1048576 < n) (hn2 : ¬n < 0) : Res (s.run (rCount b)) n.toNat s1 := by
  obtain ⟨h2, h3⟩ := h.none_of h1
  refine Res.of_none h2 ?_
  rw [count_fine h3 hn hn2]
  obtain ⟨a1, e1⟩ := s1
  obtain rfl : e1 = none := h1
  exact ⟨rfl, rfl⟩
theorem tres_bad {n : Nat} {x : List UInt8} (h : Res (s.run (rCount b)) n s1) (h1 : s1.e ≠ none) : Res (s.run (rText b)) x s1 := by
  obtain ⟨e, he, hr⟩ := h.e_of h1
  unfold St.run at hr ⊢
  cases hs : s.e with
  | none => rw [hs] at hr; rw [text_bad hr]; exact he
  | some e' => rw [hs] at hr; cases hr; exact he
theorem tres_end {n a1 : Nat} {x : List UInt8} (h : Res (s.run (rCount b)) n ⟨a1, none⟩) (hn : b.length - a1 < n) : Res (s.run (rText b)) x ⟨a1, some (13, b.length)⟩ := by
  obtain ⟨h2, h3⟩ := h.none_of rfl
  refine Res.of_none h2 ?_
  rw [text_end h3 hn]; rfl
theorem tres_ok {n a1 : Nat} (h : Res (s.run (rCount b)) n ⟨a1, none⟩) (hn : ¬b.length - a1 < n) : Res (s.run (rText b)) ((b.drop a1).take n) ⟨a1 + n, none⟩ := by
  obtain ⟨h2, h3⟩ := h.none_of rfl
  refine Res.of_none h2 ?_
  rw [text_fine h3 hn]; exact ⟨rfl, rfl⟩
/-- many: what is left, when some are read -/
theorem many_nil {α : Type} {item : Nat → Er (α × Nat)} {at_ : Nat} : rMany item 0 at_ = .ok ([], at_) := rfl
def Left {α : Type} (item : Nat → Er (α × Nat)) (a : Er (List α × Nat)) (xs : List α) (n : Nat) (s : St) : Prop := match s.e with
  | none => a = (rMany item n s.at_).bind fun r => .ok (xs ++ r.1, r.2)
  | some e => a = .error e
theorem Left.start {α : Type} {item : Nat → Er (α × Nat)} {n at_ : Nat} : Left item (rMany item n at_) [] n ⟨at_, none⟩ := by
  show rMany item n at_ = (rMany item n at_).bind _
  cases rMany item n at_ <;> rfl
theorem Left.from {α : Type} {item : Nat → Er (α × Nat)} {r : Er (Nat × Nat)} {n : Nat} {s : St} (h : Res r n s) : Left item (r.bind fun k => rMany item k.1 k.2) [] n s := by
  cases r with
  | ok q => obtain ⟨rfl, rfl⟩ := h; exact Left.start
  | error e =>
    have he : s.e = some e := h
    unfold Left
    rw [he]
    rfl
theorem Left.out {α : Type} {item : Nat → Er (α × Nat)} {a : Er (List α × Nat)} {xs : List α} {n : Nat} {s : St} (h : Left item a xs n s) (hz : s.e = none → n = 0) : Res a xs s := by
  obtain ⟨at_, e⟩ := s
  cases e with
  | none =>
    obtain rfl : n = 0 := hz rfl
    have h1 : a = .ok (xs ++ [], at_) := h
    subst h1
    exact ⟨by simp, rfl⟩
  | some e =>
    have h1 : a = .error e := h
    subst h1
    rfl
theorem Left.done {α : Type} {item : Nat → Er (α × Nat)} {a : Er (List α × Nat)} {xs : List α} {s : St} (h : Left item a xs 0 s) : Res a xs s := by
  obtain ⟨at_, e⟩ := s
  cases e with
  | none =>
    have h1 : a = .ok (xs ++ [], at_) := h
    subst h1
    exact ⟨by simp, rfl⟩
  | some e =>
    have h1 : a = .error e := h
    subst h1
    rfl
theorem Left.bad {α : Type} {item : Nat → Er (α × Nat)} {a : Er (List α × Nat)} {xs ys : List α} {n : Nat} {s : St} {e : Nat × Nat} (h : Left item a xs n s) (he : s.e = some e) : Res a ys s := by
  obtain ⟨at_, e'⟩ := s
  cases e' with
  | none => cases he
  | some e' =>
    have h1 : a = .error e' := h
    subst h1
    rfl
theorem Left.next {α : Type} {item : Nat → Er (α × Nat)} {a : Er (List α × Nat)} {xs : List α} {n at_ : Nat} {x : α} {s' : St} (h : Left item a xs (n + 1) ⟨at_, none⟩) (hr : Res (item at_) x s') : Left item a (xs ++ [x]) n s' := by
  have h1 : a = ((item at_).bind fun q => (rMany item n q.2).bind fun r => .ok (q.1 :: r.1, r.2)).bind fun r => .ok (xs ++ r.1, r.2) := h
  cases hi : item at_ with
  | error e =>
    rw [hi] at h1 hr
    have h2 : s'.e = some e := hr
    unfold Left
    rw [h2]
    exact h1
  | ok q =>
    rw [hi] at h1 hr
    obtain ⟨rfl, rfl⟩ := hr
    have h2 : a = ((rMany item n q.2).bind fun r => .ok (q.1 :: r.1, r.2)).bind fun r => .ok (xs ++ r.1, r.2) := h1
    show a = (rMany item n q.2).bind fun r => .ok ((xs ++ [q.1]) ++ r.1, r.2)
    rw [h2]
    cases rMany item n q.2 with
    | error e => rfl
    | ok r => show Except.ok _ = Except.ok _; simp
end Go.By
