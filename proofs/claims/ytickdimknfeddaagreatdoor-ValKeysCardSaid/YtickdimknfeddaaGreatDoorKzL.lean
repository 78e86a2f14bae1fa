/-
  Proved here: the statement.
-/
import Derived.Test.YtickdimknfeddaaGreatDoorKzI
import Derived.Test.YtickdimknfeddaaGreatDoorFsE
set_option linter.unusedSimpArgs false
namespace Go.Proofs.YtickdimknfeddaaGreatDoor
open Go.SX Go.RowKit Go.Vo Go.Ky Go.Proofs.YtickdimknfeddaaGreatDoor.Env Go.Tr
namespace Kuj
theorem en10 : Enters Tryz.prog 10 := Enters.of Tryz.func10 (by kernel_rfl) (by kernel_rfl)
theorem en5 : Enters Tryz.prog 5 := Enters.of Tryz.func5 (by kernel_rfl) (by kernel_rfl)
theorem en6 : Enters Tryz.prog 6 := Enters.of Tryz.func6 (by kernel_rfl) (by kernel_rfl)
theorem en7 : Enters Tryz.prog 7 := Enters.of Tryz.func7 (by kernel_rfl) (by kernel_rfl)
theorem en8 : Enters Tryz.prog 8 := Enters.of Tryz.func8 (by kernel_rfl) (by kernel_rfl)
theorem un26 : Tryz.prog.underlying 26 = some (.interface #[("Kind", 119), ("smithy/val.value", 1)]) := by kernel_rfl
end Kuj
theorem eqE {P : Program} {l : Fr} {W : World → Prop} {x : Operand} {t ty : TypeId} {q : Option (TypeId × Value)} {ms : Array (String × TypeId)} {ty2 : TypeId} (h : P.underlying t = some (.interface ms)) (hx : evl l x = some (eV q)) : Y P l W (.binOp .eql t x (.const .nilIface) ty2) ty (.bool q.isNone) := by
  cases q with
  | none => exact Y.eqNilNil h hx
  | some p => exact Y.eqNil h hx rfl
theorem pv_o {er : Option (TypeId × Value)} {v : Value} {ds : List It} (h : Pv er v ds) : ∃ o : Option (TypeId × Value), v = eV o ∧ (er = none → ∃ t p, o = some p ∧ VI ds t (eV o)) ∧ (er ≠ none → o = none) := by
  cases er with
  | some e => exact ⟨none, h.no (by simp), (fun h => by cases h), fun _ => rfl⟩
  | none =>
    obtain ⟨t, ht⟩ := h.ok rfl
    obtain ⟨k, u, rfl⟩ := ht.iface
    exact ⟨some (k, u), rfl, fun _ => ⟨t, _, rfl, ht⟩, fun h => absurd rfl h⟩
theorem law_c {w0 : World} {base : Nat} {aE : Nat → Addr} (hE : EnvK w0 base aE) {al am : Option Addr} (cl cm : Nat) {l m : List Nd} (hl : SlAt 5 ndA (Lies w0 base) al l) (hm : SlAt 5 ndA (Lies w0 base) am m) : FnC Tryz.prog 3 #[.slice al l.length cl, .slice am m.length cm] (WA w0 base []) (fun _ : Unit => .bool true) (fun _ => WA w0 base []) := by
  have hE2 := hE.s
  have hS := hE.s
  refine FnC.of_body (fn := Tryz.f3) [(0, _), (1, _)] Tryz.func3 rfl Tryz.ntmps3 rfl ⟨rfl, rfl, trivial⟩ ?_
  refine CX.seq <| CX.region <| LX.pure (Y.assign rfl) rfl rfl rfl <| LX.sub (l' := [(0, _), (1, _), (4, _)]) ⟨rfl, rfl, rfl, trivial⟩ <| LX.next <| PX.thenN <| CX.seq <| CX.region <| LX.callQ (Bsf.first_q hE.s []) Kuj.en5 rfl rfl rfl rfl rfl <| LX.pure (Y.assign rfl) rfl rfl rfl <| LX.sub (l' := [(0, _), (1, _), (4, _), (5, _)]) ⟨rfl, rfl, rfl, rfl, trivial⟩ <| LX.next <| PX.thenN <| CX.seq <| CX.seq <| CX.region <| LX.pure (Y.move rfl) rfl rfl rfl <| LX.pure (Y.not rfl) rfl rfl rfl <| LX.sub (l' := [(0, _), (1, _), (4, _), (5, _), (20, _)]) ⟨rfl, rfl, rfl, rfl, rfl, trivial⟩ <| LX.next <| PX.thenN ?_
  refine CX.cond rfl (fun hb1 => ?_) (fun hb1 => ?_)
  · try simp at hb1
    done
  try simp at hb1
  refine CX.skip <| PX.thenN <| CX.seq <| CX.seq <| CX.region <| LX.pure (Y.move rfl) rfl rfl rfl <| LX.call (treeB_w cl (fun w hw => hl.push hw)) Kuj.en6 rfl rfl rfl rfl rfl ?_
  intro bl
  refine LX.have fun htl => LX.pure (Y.not rfl) rfl rfl rfl <| LX.pure (Y.move rfl) rfl rfl rfl ?_
  refine LX.caseB (s := 24) rfl (fun hb2 => ?_) (fun hb2 => ?_)
  ·
    have hb2p := hb2
    try simp at hb2p
    refine LX.gF rfl rfl rfl hb2 rfl rfl <| LX.gF rfl rfl rfl hb2 rfl rfl <| LX.gF rfl rfl rfl hb2 rfl rfl <| LX.pure (Y.pickT rfl hb2 rfl) rfl rfl rfl <| LX.pure (Y.move rfl) rfl rfl rfl ?_
    refine LX.caseB (s := 29) rfl (fun hb3 => ?_) (fun hb3 => ?_)
    ·
      have hb3p := hb3
      try simp at hb3p
      refine LX.gF rfl rfl rfl hb3 rfl rfl <| LX.gF rfl rfl rfl hb3 rfl rfl <| LX.gF rfl rfl rfl hb3 rfl rfl <| LX.pure (Y.pickT rfl hb3 rfl) rfl rfl rfl <| LX.pure (Y.move rfl) rfl rfl rfl ?_
      refine LX.caseB (s := 34) rfl (fun hb4 => ?_) (fun hb4 => ?_)
      ·
        have hb4p := hb4
        try simp at hb4p
        refine LX.gF rfl rfl rfl hb4 rfl rfl <| LX.gF rfl rfl rfl hb4 rfl rfl <| LX.gF rfl rfl rfl hb4 rfl rfl <| LX.pure (Y.pickT rfl hb4 rfl) rfl rfl rfl <| LX.pure (Y.move rfl) rfl rfl rfl ?_
        refine LX.caseB (s := 39) rfl (fun hb5 => ?_) (fun hb5 => ?_)
        ·
          refine LX.gF rfl rfl rfl hb5 rfl rfl <| LX.gF rfl rfl rfl hb5 rfl rfl <| LX.pure (Y.pickT rfl hb5 rfl) rfl rfl rfl <| LX.sub (l' := [(0, _), (1, _), (4, _), (5, _), (42, _)]) ⟨rfl, rfl, rfl, rfl, rfl, trivial⟩ <| LX.next <| PX.thenN ?_
          refine CX.cond rfl (fun hb6 => ?_) (fun hb6 => ?_)
          · try simp at hb6
            refine CX.seq <| CX.region <| LX.pure (Y.move rfl) rfl rfl rfl <| LX.pure (Y.assign rfl) rfl rfl rfl <| LX.sub (l' := [(0, _), (1, _), (4, _)]) ⟨rfl, rfl, rfl, trivial⟩ <| LX.next <| PX.thenN <| CX.ret <| PX.thenR <| PX.ret1 (by simp) Tryz.results3 rfl ?_
            exact fun w hw => ⟨(), rfl, hw.drop (List.nil_sublist _)⟩
          try simp at hb6
          done
        (exfalso; simp_all; done)
      (exfalso; simp_all; done)
    (exfalso; simp_all; done)
  have hb2p := hb2
  try simp at hb2p
  refine LX.gT rfl rfl rfl hb2 (Y.move rfl) rfl rfl <| LX.callT rfl rfl rfl hb2 (treeB_w cm (fun w hw => hm.push hw)) Kuj.en6 rfl rfl rfl rfl ?_
  intro bm
  refine LX.have fun htm => LX.gT rfl rfl rfl hb2 (Y.not rfl) rfl rfl <| LX.pure (Y.pickF rfl hb2 rfl) rfl rfl rfl <| LX.pure (Y.move rfl) rfl rfl rfl ?_
  refine LX.caseB (s := 29) rfl (fun hb7 => ?_) (fun hb7 => ?_)
  ·
    have hb7p := hb7
    try simp at hb7p
    refine LX.gF rfl rfl rfl hb7 rfl rfl <| LX.gF rfl rfl rfl hb7 rfl rfl <| LX.gF rfl rfl rfl hb7 rfl rfl <| LX.pure (Y.pickT rfl hb7 rfl) rfl rfl rfl <| LX.pure (Y.move rfl) rfl rfl rfl ?_
    refine LX.caseB (s := 34) rfl (fun hb8 => ?_) (fun hb8 => ?_)
    ·
      have hb8p := hb8
      try simp at hb8p
      refine LX.gF rfl rfl rfl hb8 rfl rfl <| LX.gF rfl rfl rfl hb8 rfl rfl <| LX.gF rfl rfl rfl hb8 rfl rfl <| LX.pure (Y.pickT rfl hb8 rfl) rfl rfl rfl <| LX.pure (Y.move rfl) rfl rfl rfl ?_
      refine LX.caseB (s := 39) rfl (fun hb9 => ?_) (fun hb9 => ?_)
      ·
        refine LX.gF rfl rfl rfl hb9 rfl rfl <| LX.gF rfl rfl rfl hb9 rfl rfl <| LX.pure (Y.pickT rfl hb9 rfl) rfl rfl rfl <| LX.sub (l' := [(0, _), (1, _), (4, _), (5, _), (42, _)]) ⟨rfl, rfl, rfl, rfl, rfl, trivial⟩ <| LX.next <| PX.thenN ?_
        refine CX.cond rfl (fun hb10 => ?_) (fun hb10 => ?_)
        · try simp at hb10
          refine CX.seq <| CX.region <| LX.pure (Y.move rfl) rfl rfl rfl <| LX.pure (Y.assign rfl) rfl rfl rfl <| LX.sub (l' := [(0, _), (1, _), (4, _)]) ⟨rfl, rfl, rfl, trivial⟩ <| LX.next <| PX.thenN <| CX.ret <| PX.thenR <| PX.ret1 (by simp) Tryz.results3 rfl ?_
          exact fun w hw => ⟨(), rfl, hw.drop (List.nil_sublist _)⟩
        try simp at hb10
        done
      (exfalso; simp_all; done)
    (exfalso; simp_all; done)
  have hb7p := hb7
  try simp at hb7p
  refine LX.gT rfl rfl rfl hb7 (Y.move rfl) rfl rfl <| LX.callT rfl rfl rfl hb7 (deepB_w cl (htl (by assumption)) (fun w hw => hl.push hw)) Kuj.en7 rfl rfl rfl rfl ?_
  intro el
  refine LX.gT rfl rfl rfl hb7 (Y.not rfl) rfl rfl <| LX.pure (Y.pickF rfl hb7 rfl) rfl rfl rfl <| LX.pure (Y.move rfl) rfl rfl rfl ?_
  refine LX.caseB (s := 34) rfl (fun hb11 => ?_) (fun hb11 => ?_)
  ·
    have hb11p := hb11
    try simp at hb11p
    refine LX.gF rfl rfl rfl hb11 rfl rfl <| LX.gF rfl rfl rfl hb11 rfl rfl <| LX.gF rfl rfl rfl hb11 rfl rfl <| LX.pure (Y.pickT rfl hb11 rfl) rfl rfl rfl <| LX.pure (Y.move rfl) rfl rfl rfl ?_
    refine LX.caseB (s := 39) rfl (fun hb12 => ?_) (fun hb12 => ?_)
    ·
      refine LX.gF rfl rfl rfl hb12 rfl rfl <| LX.gF rfl rfl rfl hb12 rfl rfl <| LX.pure (Y.pickT rfl hb12 rfl) rfl rfl rfl <| LX.sub (l' := [(0, _), (1, _), (4, _), (5, _), (42, _)]) ⟨rfl, rfl, rfl, rfl, rfl, trivial⟩ <| LX.next <| PX.thenN ?_
      refine CX.cond rfl (fun hb13 => ?_) (fun hb13 => ?_)
      · try simp at hb13
        refine CX.seq <| CX.region <| LX.pure (Y.move rfl) rfl rfl rfl <| LX.pure (Y.assign rfl) rfl rfl rfl <| LX.sub (l' := [(0, _), (1, _), (4, _)]) ⟨rfl, rfl, rfl, trivial⟩ <| LX.next <| PX.thenN <| CX.ret <| PX.thenR <| PX.ret1 (by simp) Tryz.results3 rfl ?_
        exact fun w hw => ⟨(), rfl, hw.drop (List.nil_sublist _)⟩
      try simp at hb13
      done
    (exfalso; simp_all; done)
  have hb11p := hb11
  try simp at hb11p
  refine LX.gT rfl rfl rfl hb11 (Y.move rfl) rfl rfl <| LX.callT rfl rfl rfl hb11 (deepB_w cm (htm (by assumption)) (fun w hw => hm.push hw)) Kuj.en7 rfl rfl rfl rfl ?_
  intro em
  refine LX.gT rfl rfl rfl hb11 (Y.not rfl) rfl rfl <| LX.pure (Y.pickF rfl hb11 rfl) rfl rfl rfl <| LX.pure (Y.move rfl) rfl rfl rfl ?_
  refine LX.caseB (s := 39) rfl (fun hb14 => ?_) (fun hb14 => ?_)
  ·
    refine LX.gF rfl rfl rfl hb14 rfl rfl <| LX.gF rfl rfl rfl hb14 rfl rfl <| LX.pure (Y.pickT rfl hb14 rfl) rfl rfl rfl <| LX.sub (l' := [(0, _), (1, _), (4, _), (5, _), (42, _)]) ⟨rfl, rfl, rfl, rfl, rfl, trivial⟩ <| LX.next <| PX.thenN ?_
    refine CX.cond rfl (fun hb15 => ?_) (fun hb15 => ?_)
    · try simp at hb15
      refine CX.seq <| CX.region <| LX.pure (Y.move rfl) rfl rfl rfl <| LX.pure (Y.assign rfl) rfl rfl rfl <| LX.sub (l' := [(0, _), (1, _), (4, _)]) ⟨rfl, rfl, rfl, trivial⟩ <| LX.next <| PX.thenN <| CX.ret <| PX.thenR <| PX.ret1 (by simp) Tryz.results3 rfl ?_
      exact fun w hw => ⟨(), rfl, hw.drop (List.nil_sublist _)⟩
    try simp at hb15
    done
  refine LX.gT rfl rfl rfl hb14 (Y.move rfl) rfl rfl <| LX.gT rfl rfl rfl hb14 (Y.not rfl) rfl rfl <| LX.pure (Y.pickF rfl hb14 rfl) rfl rfl rfl <| LX.sub (l' := [(0, _), (1, _), (4, _), (5, _), (42, _)]) ⟨rfl, rfl, rfl, rfl, rfl, trivial⟩ <| LX.next <| PX.thenN ?_
  refine CX.cond rfl (fun hb16 => ?_) (fun hb16 => ?_)
  · try simp at hb16
    done
  try simp at hb16
  refine CX.skip <| PX.thenN <| CX.seq <| CX.region ?_
  have hTl : TreeOk l := htl (by assumption)
  have hTm : TreeOk m := htm (by assumption)
  refine LX.pure (Y.move rfl) rfl rfl rfl <| LX.call (onto_c (R := fun q : Value × Option (TypeId × Value) × List It => Pv q.2.1 q.1 q.2.2) (new := fun q => q.2.2) (fun w hw => Of_c (hE.push hw) cl hTl.pos hTl.few hTl.sm (hl.push hw))) Kuj.en8 rfl rfl rfl rfl rfl ?_
  rintro ⟨va, ea, da⟩
  refine LX.have fun hPa => ?_
  try dsimp only at hPa ⊢
  obtain ⟨oa, rfl, hoa1, hoa2⟩ := pv_o hPa
  refine LX.pure (Y.move rfl) rfl rfl rfl <| LX.pure (Y.extract rfl rfl) rfl rfl rfl <| LX.pure (Y.extract rfl rfl) rfl rfl rfl <| LX.pure (Y.assign rfl) rfl rfl rfl <| LX.pure (Y.assign rfl) rfl rfl rfl <| LX.sub (l' := [(1, _), (4, _), (6, _), (7, _)]) ⟨rfl, rfl, rfl, rfl, trivial⟩ <| LX.next <| PX.thenN <| CX.seq <| CX.region <| LX.pure (Y.move rfl) rfl rfl rfl <| LX.call (onto_c (R := fun q : Value × Option (TypeId × Value) × List It => Pv q.2.1 q.1 q.2.2) (new := fun q => q.2.2) (fun w hw => Of_c (hE.push hw) cm hTm.pos hTm.few hTm.sm (hm.push hw))) Kuj.en8 rfl rfl rfl rfl rfl ?_
  rintro ⟨vb, eb, db⟩
  refine LX.have fun hPb => ?_
  try dsimp only at hPb ⊢
  obtain ⟨ob, rfl, hob1, hob2⟩ := pv_o hPb
  refine LX.pure (Y.move rfl) rfl rfl rfl <| LX.pure (Y.extract rfl rfl) rfl rfl rfl <| LX.pure (Y.extract rfl rfl) rfl rfl rfl <| LX.pure (Y.assign rfl) rfl rfl rfl <| LX.pure (Y.assign rfl) rfl rfl rfl <| LX.sub (l' := [(4, _), (6, _), (7, _), (8, _), (9, _)]) ⟨rfl, rfl, rfl, rfl, rfl, trivial⟩ <| LX.next <| PX.thenN <| CX.seq <| CX.seq <| CX.region <| LX.pure (Y.move rfl) rfl rfl rfl <| LX.pure (Y.neE Kd.un28 rfl) rfl rfl rfl <| LX.pure (Y.move rfl) rfl rfl rfl <| LX.sub (l' := [(4, _), (6, _), (8, _), (9, _), (56, _)]) ⟨rfl, rfl, rfl, rfl, rfl, trivial⟩ ?_
  apply LX.joinOr 3 59 56 rfl
  · intro hb17
    refine LX.gF rfl rfl rfl hb17 rfl rfl <| LX.gF rfl rfl rfl hb17 rfl rfl <| LX.pure (Y.pickT rfl hb17 rfl) rfl rfl rfl ?_
    exact LX.left ⟨rfl, rfl, rfl, rfl, rfl, rfl, trivial⟩
  · intro hb17
    refine LX.gT rfl rfl rfl hb17 (Y.move rfl) rfl rfl <| LX.gT rfl rfl rfl hb17 (Y.neE Kd.un28 rfl) rfl rfl <| LX.pure (Y.pickF rfl hb17 rfl) rfl rfl rfl ?_
    exact LX.left ⟨rfl, rfl, rfl, rfl, rfl, rfl, trivial⟩
  refine LX.pure (Y.move rfl) rfl rfl rfl <| LX.sub (l' := [(4, _), (6, _), (8, _), (60, _)]) ⟨rfl, rfl, rfl, rfl, trivial⟩ ?_
  apply LX.joinOr 3 63 60 rfl
  · intro hb18
    refine LX.gF rfl rfl rfl hb18 rfl rfl <| LX.gF rfl rfl rfl hb18 rfl rfl <| LX.pure (Y.pickT rfl hb18 rfl) rfl rfl rfl ?_
    exact LX.left ⟨rfl, rfl, rfl, rfl, rfl, trivial⟩
  · intro hb18
    refine LX.gT rfl rfl rfl hb18 (Y.move rfl) rfl rfl <| LX.gT rfl rfl rfl hb18 (eqE Kuj.un26 rfl) rfl rfl <| LX.pure (Y.pickF rfl hb18 rfl) rfl rfl rfl ?_
    exact LX.left ⟨rfl, rfl, rfl, rfl, rfl, trivial⟩
  refine LX.pure (Y.move rfl) rfl rfl rfl <| LX.sub (l' := [(4, _), (6, _), (8, _), (64, _)]) ⟨rfl, rfl, rfl, rfl, trivial⟩ ?_
  apply LX.joinOr 3 67 64 rfl
  · intro hb19
    refine LX.gF rfl rfl rfl hb19 rfl rfl <| LX.gF rfl rfl rfl hb19 rfl rfl <| LX.pure (Y.pickT rfl hb19 rfl) rfl rfl rfl ?_
    exact LX.left ⟨rfl, rfl, rfl, rfl, rfl, trivial⟩
  · intro hb19
    refine LX.gT rfl rfl rfl hb19 (Y.move rfl) rfl rfl <| LX.gT rfl rfl rfl hb19 (eqE Kuj.un26 rfl) rfl rfl <| LX.pure (Y.pickF rfl hb19 rfl) rfl rfl rfl ?_
    exact LX.left ⟨rfl, rfl, rfl, rfl, rfl, trivial⟩
  refine LX.sub (l' := [(4, _), (6, _), (8, _), (67, _)]) ⟨rfl, rfl, rfl, rfl, trivial⟩ <| LX.next <| PX.thenN ?_
  refine CX.cond rfl (fun hb20 => ?_) (fun hb20 => ?_)
  · try simp at hb20
    have hno : oa = none ∨ ob = none := by
      cases ea with
      | some e => exact .inl (hoa2 (by simp))
      | none =>
        cases eb with
        | some e => exact .inr (hob2 (by simp))
        | none => cases oa <;> cases ob <;> simp_all
    refine CX.seq <| CX.region <| LX.pure (Y.move rfl) rfl rfl rfl <| LX.pure (eqE Kuj.un26 rfl) rfl rfl rfl <| LX.pure (Y.move rfl) rfl rfl rfl <| LX.sub (l' := [(4, _), (6, _), (8, _), (70, _)]) ⟨rfl, rfl, rfl, rfl, trivial⟩ ?_
    apply LX.joinOr 3 73 70 rfl
    · intro hb21
      refine LX.gF rfl rfl rfl hb21 rfl rfl <| LX.gF rfl rfl rfl hb21 rfl rfl <| LX.pure (Y.pickT rfl hb21 rfl) rfl rfl rfl ?_
      exact LX.left ⟨rfl, rfl, rfl, rfl, rfl, trivial⟩
    · intro hb21
      refine LX.gT rfl rfl rfl hb21 (Y.move rfl) rfl rfl <| LX.gT rfl rfl rfl hb21 (eqE Kuj.un26 rfl) rfl rfl <| LX.pure (Y.pickF rfl hb21 rfl) rfl rfl rfl ?_
      exact LX.left ⟨rfl, rfl, rfl, rfl, rfl, trivial⟩
    refine LX.pure (Y.assign rfl) rfl rfl rfl <| LX.sub (l' := [(4, _), (6, _), (8, _)]) ⟨rfl, rfl, rfl, trivial⟩ <| LX.next <| PX.thenN <| CX.ret <| PX.thenR <| PX.ret1 (by simp) Tryz.results3 rfl ?_
    exact fun w hw => ⟨(), congrArg (fun z => Ending.returned (Value.bool z)) (by rcases hno with h | h <;> simp [h]), hw.drop (List.nil_sublist _)⟩
  try simp at hb20
  obtain rfl : ea = none := by cases ea <;> simp_all
  obtain rfl : eb = none := by cases eb <;> simp_all
  obtain ⟨ta, pa, rfl, hva⟩ := hoa1 rfl
  obtain ⟨tb, pb, rfl, hvb⟩ := hob1 rfl
  refine CX.skip <| PX.thenN <| CX.seq <| CX.region <| LX.pure (Y.move rfl) rfl rfl rfl <| LX.call (Key_c (fun w hw => hE.push hw) (t := ta) (fun w hw => hva.lies (fun it h => by simp [h]) hw)) Kn_.en9 rfl rfl rfl rfl rfl ?_
  rintro ⟨g1, s1⟩
  refine LX.have fun hk1 => ?_
  try dsimp only at hk1 ⊢
  refine LX.pure (Y.move rfl) rfl rfl rfl <| LX.pure (Y.extract rfl rfl) rfl rfl rfl <| LX.pure (Y.extract rfl rfl) rfl rfl rfl <| LX.pure (Y.assign rfl) rfl rfl rfl <| LX.pure (Y.assign rfl) rfl rfl rfl <| LX.sub (l' := [(4, _), (6, _), (8, _), (10, _), (11, _)]) ⟨rfl, rfl, rfl, rfl, rfl, trivial⟩ <| LX.next <| PX.thenN <| CX.seq <| CX.region <| LX.pure (Y.move rfl) rfl rfl rfl <| LX.call (Key_c (fun w hw => hE.push hw) (t := tb) (fun w hw => hvb.lies (fun it h => by simp [h]) hw)) Kn_.en9 rfl rfl rfl rfl rfl ?_
  rintro ⟨g2, s2⟩
  refine LX.have fun hk2 => ?_
  try dsimp only at hk2 ⊢
  refine LX.pure (Y.move rfl) rfl rfl rfl <| LX.pure (Y.extract rfl rfl) rfl rfl rfl <| LX.pure (Y.extract rfl rfl) rfl rfl rfl <| LX.pure (Y.assign rfl) rfl rfl rfl <| LX.pure (Y.assign rfl) rfl rfl rfl <| LX.sub (l' := [(4, _), (6, _), (8, _), (10, _), (11, _), (12, _), (13, _)]) ⟨rfl, rfl, rfl, rfl, rfl, rfl, rfl, trivial⟩ <| LX.next <| PX.thenN <| CX.seq <| CX.region <| LX.pure (Y.move rfl) rfl rfl rfl <| LX.pure (Y.move rfl) rfl rfl rfl <| LX.call (Equal_c (fun w hw => hE.push hw) (t := ta) (u := tb) (fun w hw => hva.lies (fun it h => by simp [h]) hw) (fun w hw => hvb.lies (fun it h => by simp [h]) hw)) Kuj.en10 rfl rfl rfl rfl rfl ?_
  rintro ⟨g3, q3⟩
  refine LX.have fun hq3 => ?_
  try dsimp only at hq3 ⊢
  refine LX.pure (Y.move rfl) rfl rfl rfl <| LX.pure (Y.extract rfl rfl) rfl rfl rfl <| LX.pure (Y.extract rfl rfl) rfl rfl rfl <| LX.pure (Y.assign rfl) rfl rfl rfl <| LX.pure (Y.assign rfl) rfl rfl rfl <| LX.sub (l' := [(4, _), (6, _), (10, _), (11, _), (12, _), (13, _), (14, _), (15, _)]) ⟨rfl, rfl, rfl, rfl, rfl, rfl, rfl, rfl, trivial⟩ <| LX.next <| PX.thenN <| CX.seq <| CX.seq <| CX.region <| LX.pure (Y.move rfl) rfl rfl rfl <| LX.pure (Y.neE Kd.un28 rfl) rfl rfl rfl <| LX.pure (Y.move rfl) rfl rfl rfl <| LX.sub (l' := [(4, _), (6, _), (10, _), (12, _), (13, _), (14, _), (15, _), (92, _)]) ⟨rfl, rfl, rfl, rfl, rfl, rfl, rfl, rfl, trivial⟩ ?_
  apply LX.joinOr 3 95 92 rfl
  · intro hb22
    refine LX.gF rfl rfl rfl hb22 rfl rfl <| LX.gF rfl rfl rfl hb22 rfl rfl <| LX.pure (Y.pickT rfl hb22 rfl) rfl rfl rfl ?_
    exact LX.left ⟨rfl, rfl, rfl, rfl, rfl, rfl, rfl, rfl, rfl, trivial⟩
  · intro hb22
    refine LX.gT rfl rfl rfl hb22 (Y.move rfl) rfl rfl <| LX.gT rfl rfl rfl hb22 (Y.neE Kd.un28 rfl) rfl rfl <| LX.pure (Y.pickF rfl hb22 rfl) rfl rfl rfl ?_
    exact LX.left ⟨rfl, rfl, rfl, rfl, rfl, rfl, rfl, rfl, rfl, trivial⟩
  refine LX.pure (Y.move rfl) rfl rfl rfl <| LX.sub (l' := [(4, _), (6, _), (10, _), (12, _), (14, _), (15, _), (96, _)]) ⟨rfl, rfl, rfl, rfl, rfl, rfl, rfl, trivial⟩ ?_
  apply LX.joinOr 3 99 96 rfl
  · intro hb23
    refine LX.gF rfl rfl rfl hb23 rfl rfl <| LX.gF rfl rfl rfl hb23 rfl rfl <| LX.pure (Y.pickT rfl hb23 rfl) rfl rfl rfl ?_
    exact LX.left ⟨rfl, rfl, rfl, rfl, rfl, rfl, rfl, rfl, trivial⟩
  · intro hb23
    refine LX.gT rfl rfl rfl hb23 (Y.move rfl) rfl rfl <| LX.gT rfl rfl rfl hb23 (Y.neE Kd.un28 rfl) rfl rfl <| LX.pure (Y.pickF rfl hb23 rfl) rfl rfl rfl ?_
    exact LX.left ⟨rfl, rfl, rfl, rfl, rfl, rfl, rfl, rfl, trivial⟩
  refine LX.sub (l' := [(4, _), (6, _), (10, _), (12, _), (14, _), (99, _)]) ⟨rfl, rfl, rfl, rfl, rfl, rfl, trivial⟩ <| LX.next <| PX.thenN ?_
  refine CX.cond rfl (fun hb24 => ?_) (fun hb24 => ?_)
  · try simp at hb24
    refine CX.seq <| CX.region <| LX.pure (Y.assign rfl) rfl rfl rfl <| LX.sub (l' := [(4, _), (6, _), (10, _), (12, _), (14, _)]) ⟨rfl, rfl, rfl, rfl, rfl, trivial⟩ <| LX.next <| PX.thenN <| CX.ret <| PX.thenR <| PX.ret1 (by simp) Tryz.results3 rfl ?_
    exact fun w hw => ⟨(), rfl, hw.drop (List.nil_sublist _)⟩
  try simp at hb24
  obtain rfl : g1 = none := by cases g1 <;> simp_all
  obtain rfl : g2 = none := by cases g2 <;> simp_all
  obtain rfl : g3 = none := by cases g3 <;> simp_all
  have hKa := hk1 rfl
  have hKb := hk2 rfl
  refine CX.skip <| PX.thenN <| CX.seq <| CX.region <| LX.pure (Y.move rfl) rfl rfl rfl <| LX.pure (Y.move rfl) rfl rfl rfl <| LX.call (Equal_c (fun w hw => hE.push hw) (t := ta) (u := ta) (fun w hw => hva.lies (fun it h => by simp [h]) hw) (fun w hw => hva.lies (fun it h => by simp [h]) hw)) Kuj.en10 rfl rfl rfl rfl rfl ?_
  rintro ⟨g4, q4⟩
  refine LX.have fun hq4 => ?_
  try dsimp only at hq4 ⊢
  obtain ⟨rfl, rfl⟩ := hq4.2 rfl hKa.h hKa.l hKa.d
  have hEq := hq3.1 rfl hKa.h hKb.h
  have hse : s1 = s2 ↔ ta = tb := by rw [hKa.e, hKb.e]; exact enc_eq hKa.h hKb.h
  have hq3e : q3 = decide (s1 = s2) := by rw [Bool.eq_iff_iff, decide_eq_true_iff, hEq, hse]
  refine LX.pure (Y.move rfl) rfl rfl rfl <| LX.pure (Y.extract rfl rfl) rfl rfl rfl <| LX.pure (Y.extract rfl rfl) rfl rfl rfl <| LX.pure (Y.assign rfl) rfl rfl rfl <| LX.pure (Y.assign rfl) rfl rfl rfl <| LX.sub (l' := [(4, _), (10, _), (12, _), (14, _), (16, _), (17, _)]) ⟨rfl, rfl, rfl, rfl, rfl, rfl, trivial⟩ <| LX.next <| PX.thenN <| CX.seq <| CX.region <| LX.pure (Y.move rfl) rfl rfl rfl <| LX.pure (Y.move rfl) rfl rfl rfl <| LX.pure (Y.eqS rfl rfl) rfl rfl rfl <| LX.pure (Y.move rfl) rfl rfl rfl <| LX.pure (Y.eqB rfl rfl Ka.un4) rfl rfl rfl <| LX.pure (Y.move rfl) rfl rfl rfl <| LX.sub (l' := [(4, _), (16, _), (17, _), (111, _)]) ⟨rfl, rfl, rfl, rfl, trivial⟩ ?_
  apply LX.joinAnd 2 113 111 rfl
  · intro hb25
    refine LX.gT rfl rfl rfl hb25 (Y.move rfl) rfl rfl <| LX.pure (Y.pickT rfl hb25 rfl) rfl rfl rfl ?_
    exact LX.left ⟨rfl, rfl, rfl, rfl, rfl, trivial⟩
  · intro hb25
    refine LX.gF rfl rfl rfl hb25 rfl rfl <| LX.pure (Y.pickF rfl hb25 rfl) rfl rfl rfl ?_
    exact LX.left ⟨rfl, rfl, rfl, rfl, rfl, trivial⟩
  refine LX.pure (Y.move rfl) rfl rfl rfl <| LX.sub (l' := [(4, _), (17, _), (114, _)]) ⟨rfl, rfl, rfl, trivial⟩ ?_
  apply LX.joinAnd 3 117 114 rfl
  · intro hb26
    refine LX.gT rfl rfl rfl hb26 (Y.move rfl) rfl rfl <| LX.gT rfl rfl rfl hb26 (eqE (q := none) Kd.un28 rfl) rfl rfl <| LX.pure (Y.pickT rfl hb26 rfl) rfl rfl rfl ?_
    exact LX.left ⟨rfl, rfl, rfl, rfl, trivial⟩
  · intro hb26
    refine LX.gF rfl rfl rfl hb26 rfl rfl <| LX.gF rfl rfl rfl hb26 rfl rfl <| LX.pure (Y.pickF rfl hb26 rfl) rfl rfl rfl ?_
    exact LX.left ⟨rfl, rfl, rfl, rfl, trivial⟩
  refine LX.pure (Y.assign rfl) rfl rfl rfl <| LX.sub (l' := [(4, _)]) ⟨rfl, trivial⟩ <| LX.next <| PX.thenN <| CX.ret <| PX.ret1 (by simp) Tryz.results3 rfl ?_
  exact fun w hw => ⟨(), congrArg (fun z => Ending.returned (Value.bool z)) (by rw [hq3e]; simp), hw.drop (List.nil_sublist _)⟩
end Go.Proofs.YtickdimknfeddaaGreatDoor
