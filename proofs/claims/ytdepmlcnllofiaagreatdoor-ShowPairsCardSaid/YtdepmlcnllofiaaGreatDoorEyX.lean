/-
  Proved here: rules of a machine of mine that a slimmer base lacks.
-/
import Derived.Test.YtdepmlcnllofiaaGreatDoorEyK
import Derived.Recover
import Derived.Lib.Bytealg
import Derived.Test.YtdepmlcnllofiaaGreatDoorTmod
namespace Go.SX
open Go.RowKit
variable {P : Program} {ops : Array Oper} {n : Nat} {D : List Deferred} {m : Mode} {l l' : Fr} {W W' : World → Prop} {rest : List Oper} {o : Oper} {d : Nat} {v : Value}
end Go.SX
namespace Go.SX
open Go.RowKit
variable {P : Program} {l : Fr} {W : World → Prop} {ty t : TypeId} {v u : Value} {x y : Operand}
section ints
variable {k : IntKind} {a b : Int} {ty2 : TypeId}
end ints
section others
variable {ty2 : TypeId}
section nats
variable {k : IntKind} {a b : Nat}
end nats
section bytes
variable {a b : Nat}
end bytes
end others
end Go.SX
namespace Go.SX
open Go.RowKit
end Go.SX
namespace Go.SX
open Go.RowKit
variable {P : Program} {ops : Array Oper} {n : Nat} {D : List Deferred} {m : Mode} {l l' : Fr} {W W' : World → Prop} {rest : List Oper} {o : Oper} {d : Nat} {u v : Value}
def b8 (c : UInt8) : Value := .int .u8 (c.toNat : Int)
end Go.SX
namespace Go.SX
open Go.RowKit
variable {P : Program} {ops : Array Oper} {n : Nat} {D : List Deferred} {m : Mode} {l l' : Fr} {W W' : World → Prop} {rest : List Oper} {o : Oper} {d : Nat} {u v : Value}
end Go.SX
namespace Go.SX
open Go.RowKit
section
variable {P : Program} {ops : Array Oper} {Q : Exit → Act → World → Prop} {md : Region.Mode} {S : World → Prop}
end
section
variable {P : Program} {ops : Array Oper} {n : Nat} {D : List Deferred} {l l' : Fr} {W W' S : World → Prop} {o : Oper} {d : Nat} {v : Value} {Q : Exit → Act → World → Prop} {r : List (Nat × Kd)} {pend : List Nat} {i : Nat}
end
end Go.SX
namespace Go.EX
open Go.SX Go.RowKit
def dropH : AH → Nat → AH
  | [], _ => []
  | (k, it) :: t, id => match Nat.beq k id with | true => t | false => (k, it) :: dropH t id
end Go.EX
namespace Go.EX
open Go.SX Go.RowKit
section
variable {P : Program} {w0 : World} {base : Nat} {ρ : Rho} {hp : AH} {ro : List AH} {its : List It} {E : List (Nat × AV)} {af : AF} {l : Fr}
def bytesA : List AV → Option (List UInt8)
  | [] => some []
  | .lit (.int .u8 (.ofNat k)) :: r => match Nat.blt k 256 with
    | true => (bytesA r).map fun bs => k.toUInt8 :: bs
    | false => none
  | _ :: _ => none
end
end Go.EX
namespace Go.EY
open Go.SX Go.EX Go.RowKit
section
variable {P : Program} {w0 : World} {base : Nat} {ρ0 ρ : Rho} {T : HT} {ro : List HT} {nx : Nat} {its : List It} {E : List (Nat × AV)} {af : AF} {l : Fr}
variable {ops : Array Oper} {n : Nat} {D : List Deferred} {Q : Exit → Act → World → Prop} {rest : List Oper} {o : Oper} {d : Nat}
variable {r : AR} {T' : HT} {n' c : Nat} {x y : Operand} {a b v : AV} {t t2 : TypeId}
theorem FRel.ext' {ρ ρ' : Rho} {af : AF} (h : FRel ρ af l) (he : Ext ρ ρ') : FRel ρ' af l := h.ext he
/-- 'make(T, 0, k)' -/
noncomputable def mk0K (c : Nat) (T : HT) (nx : Nat) (e : TypeId) (size by' : Nat) (b : AV) (k : AV → HT → Nat → R) : R :=
  natK c b fun q => bif Nat.ble (Nat.mul by' q) 1000000 then bif Nat.ble q 1000000 then T.insK nx (.row 0 e size .nil) fun T1 => k (.sl nx 0 0 0) T1 (Nat.add nx 1) else .bad c else .bad c
theorem LV.mk0 {k : AV → HT → Nat → R} {e size by' : Nat} {z : Value} {kl : IntKind} (hS : ST w0 base E ρ0 ρ T ro nx its) (h : mk0K c T nx e size by' b k = .ok r T' n') (hx : evalA af x = some (.lit (.int kl 0))) (hy : evalA af y = some b) (ho : o.op = .makeSlice t x y) (he : elemT P t = some (e, size, by', z))
    (hw : wantA ops af o.guard = some true) (hd : o.dst = some d) (hdn : Nat.blt d n = true)
    (hk : ∀ v T1 n1, k v T1 n1 = .ok r T' n' → After P ops n D Q w0 base E ρ0 ro its T1 n1 ((d, v) :: af) rest) : LV P ops n D (.plain Q) w0 base ρ its af (o :: rest) := fun l hf => by
  obtain ⟨kk, q, rfl, h⟩ := natK_inv h
  obtain ⟨hb1, h⟩ := bif_ok h
  obtain ⟨hb2, h⟩ := bif_ok h
  have hb1' : by' * q ≤ 1000000 := by simpa using hb1
  have hb2' : q ≤ 1000000 := by simpa using hb2
  obtain ⟨hEl, _, _⟩ := elemT_ok he
  obtain ⟨hp, hs, hH⟩ := hS.hp
  refine LX.unguard (wantA_ok hf hw) ?_
  rw [HT.insK_eq] at h
  refine LX.make0 (o := { o with guard := none }) (c := q) hEl ho (evlit hf hx) (evlit hf hy) (by omega) (by omega) rfl hd hdn fun b => ?_
  have hE := Ext.add hS.fresh b q
  have hST := hS.new hs hH b q (m := .row 0 e size .nil) ⟨[], rfl, VRel.nil _⟩ (instI_mkrow (rat_add _ _ _ _) rfl)
  exact hk _ _ _ h _ _ hST (fun w hw => hw.drop (List.sublist_cons_self _ _)) _ (FRel.cons (hf.ext hE) d (by unfold inst; rw [rat_add]; rfl))
end
end Go.EY
namespace Go.EY
open Go.SX Go.EX Go.RowKit
section
variable {P : Program} {w0 : World} {base : Nat} {ρ0 ρ : Rho} {T : HT} {ro : List HT} {nx : Nat} {its : List It} {E : List (Nat × AV)} {af : AF} {l : Fr}
variable {ops : Array Oper} {n : Nat} {D : List Deferred} {Q : Exit → Act → World → Prop} {rest lo : List Oper} {o : Oper} {d i id : Nat} {m : SX.Mode} {S W : World → Prop} {pl : List (Nat × Kd)} {pend : List Nat}
variable {r : AR} {T' : HT} {n' c : Nat} {x y : Operand} {a b v : AV} {t t2 : TypeId} {cd cd' : Code} {e : Exit} {F : AF}
noncomputable def bytK (c : Nat) (vt : VT) (q : Nat) : Nat → (List UInt8 → R) → R :=
  Nat.rec (motive := fun _ => Nat → (List UInt8 → R) → R) (fun _ k => k []) (fun _ ih i k => vt.getK (fun v => natK c v fun b => bif Nat.blt b 256 then (match v with | .lit (.int .u8 _) => ih (Nat.add i 1) fun l => k (Nat.toUInt8 b :: l) | _ => .bad c) else .bad c) (.bad c) (Nat.add i 1)) q
theorem bytK_inv {vt : VT} {cs : List AV} (hv : VRel vt cs) {us : List Value} (hu : instL ρ cs = some us) : ∀ {q i : Nat} {k : List UInt8 → R}, bytK c vt q i k = .ok r T' n' → ∃ l, k l = .ok r T' n' ∧ (us.drop i).take q = l.map b8 := by
  intro q
  induction q with
  | zero => intro i k h; exact ⟨[], h, by simp⟩
  | succ q ih =>
    intro i k h
    have h' : vt.getK (fun v => natK c v fun b => bif Nat.blt b 256 then (match v with | .lit (.int .u8 _) => bytK c vt q (i + 1) fun l => k (Nat.toUInt8 b :: l) | _ => .bad c) else .bad c) (.bad c) (i + 1) = _ := h
    rcases VT.getK_inv h' with ⟨v, h1, h2⟩ | ⟨_, h2⟩
    · obtain ⟨kk, b, rfl, h3⟩ := natK_inv h2
      obtain ⟨hb, h4⟩ := bif_ok h3
      have hb' : b < 256 := by simpa using hb
      split at h4
      · rename_i heq
        cases heq
        obtain ⟨l, e1, e2⟩ := ih h4
        refine ⟨_, e1, ?_⟩
        obtain ⟨u, g1, g2⟩ := instL_get hu (hv i _ h1)
        obtain rfl := inst_lit g2
        have hlt := (List.getElem?_eq_some_iff.1 g1).1
        rw [List.drop_eq_getElem_cons hlt, List.take_succ_cons, (List.getElem?_eq_some_iff.1 g1).2, e2, List.map_cons]
        congr 1
        simp only [b8]
        have : (Nat.toUInt8 b).toNat = b := by simp; omega
        rw [this]; rfl
      · cases h4
    · cases h2
end
end Go.EY
namespace Go.EY
open Go.EX Go.SX Go.RowKit
section
variable {P : Program} {W : World → Prop} {ρ : Rho} {af : AF} {x : Operand} {t t2 : TypeId} {b k : Nat} {n : Int}
theorem remA (hx : evalA af x = some (.lit (.int .i64 n))) (_n : Int) (h0 : 0 < b) : VAL P W ρ af (.binOp .rem t x (.const (.int .i64 (.ofNat b))) t2) (.lit (.int .i64 (n.tmod (Int.ofNat b)))) :=
  VAL.yy (v := .int .i64 (n.tmod (Int.ofNat b))) fun l hf ty => Y.rem (evlit hf hx) (evlit hf rfl) (by simp; omega)
theorem addA (hx : evalA af x = some (.lit (.int .i64 (n.tmod (Int.ofNat b))))) (_n : Int) (h0 : 0 < b) (h1 : b ≤ 1000) : VAL P W ρ af (.binOp .add t x (.const (.int .i64 (.ofNat b))) t2) (.lit (.int .i64 (n.tmod (Int.ofNat b) + Int.ofNat b))) := by
  have h2 := tmod_in n h0
  exact VAL.yy (v := .int .i64 (n.tmod (Int.ofNat b) + Int.ofNat b)) fun l hf ty => Y.add (evlit hf hx) (evlit hf rfl) (by simp only [Int.ofNat_eq_natCast]; omega)
theorem remB (hx : evalA af x = some (.lit (.int .i64 (n.tmod (Int.ofNat b) + Int.ofNat b)))) (e : numI n b = (k : Int)) (h0 : 0 < b) : VAL P W ρ af (.binOp .rem t x (.const (.int .i64 (.ofNat b))) t2) (.lit (.int .i64 (.ofNat k))) := by
  have h3 : (Int.ofNat k) = (n.tmod (Int.ofNat b) + Int.ofNat b).tmod (Int.ofNat b) := e.symm
  rw [h3]
  exact VAL.yy (v := .int .i64 ((n.tmod (Int.ofNat b) + Int.ofNat b).tmod (Int.ofNat b))) fun l hf ty => Y.rem (evlit hf hx) (evlit hf rfl) (by simp; omega)
end
end Go.EY
