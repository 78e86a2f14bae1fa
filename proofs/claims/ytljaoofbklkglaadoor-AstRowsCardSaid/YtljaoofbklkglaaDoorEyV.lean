/-
  Proved here: calls on what a machine of mine does not look into: Number, whether a name is one, names put in order by a function of the document's.
-/
import Derived.Test.YtljaoofbklkglaaDoorEyU
namespace Go.EY
open Go.SX Go.EX Go.RowKit Go.Sort
open Go.Proofs (encStr)
section
variable {P : Program} {w0 : World} {base : Nat} {ρ0 ρ : Rho} {T : HT} {ro : List HT} {nx : Nat} {its : List It} {E : List (Nat × AV)} {af : AF} {l : Fr}
variable {r : AR} {T' : HT} {n' c : Nat} {a b v : AV} {t t2 : TypeId} {g pn pm : Nat} {f : FuncId}
/-- what is settled once, by itself, is settled anywhere -/
theorem GOk.calm {args : List AV} {T2 : HT} {n2 : Nat} (hG : GOk P E f args [] .nil 1 (.ok (.val v) T2 n2)) (hv : ∀ ρ ρ' : Rho, inst ρ v = inst ρ' v) (ha : ∀ ρ ρ' : Rho, instL ρ args = instL ρ' args)
    (hE : ∀ g u, lookE E g = some u → ∀ ρ ρ' : Rho, ρ.opq = ρ'.opq → inst ρ u = inst ρ' u) (ro : List HT) (T : HT) (nx : Nat) : GOk P E f args ro T nx (.ok (.val v) T nx) := by
  intro v' T' n' h
  cases h
  obtain ⟨hen, hcc⟩ := hG _ _ _ rfl
  refine ⟨hen, fun w0 base ρ vs its hS hA w hW => ?_⟩
  have hSe : ST w w.heap.size E ⟨[], ρ.opq, ρ.one⟩ ⟨[], ρ.opq, ρ.one⟩ .nil [] 1 [] := by
    refine ⟨⟨[], (fun id m h => by cases h), rfl⟩, (fun id _ => rfl), (fun id m h => by cases h), fun g u hg => ?_, Ext.refl _, hS.opq.push hW⟩
    obtain ⟨u', e1, e2⟩ := (hS.push hW).env g u hg
    exact ⟨u', by rw [hE g u hg ⟨[], ρ.opq, ρ.one⟩ ρ rfl]; exact e1, e2⟩
  refine (hcc w w.heap.size ⟨[], ρ.opq, ρ.one⟩ vs [] hSe (by rw [ha ⟨[], ρ.opq, ρ.one⟩ ρ]; exact hA) w (WA.start w)).mono fun e w' he => ?_
  obtain ⟨ρ1, its1, e1, e2, z, e3, rfl⟩ := he
  exact ⟨ρ, its, hS, Stab.st w w' hW e2.below, z, by rw [hv ρ ρ1]; exact e3, rfl⟩
/-- a call's arguments by what they stand for -/
theorem GOk.swap {args : List AV} (hen : Enters P f) (hG : ∀ w0 base ρ its, ST w0 base E ρ ρ T ro nx its → ∃ args' u, instL ρ args = instL ρ args' ∧ GOk P E f args' ro T nx (.ok (.val (.lit u)) T nx) ∧ inst ρ v = some u) : GOk P E f args ro T nx (.ok (.val v) T nx) := by
  intro w1 T' n' h
  cases h
  refine ⟨hen, fun w0 base ρ vs its hS hA w hW => ?_⟩
  obtain ⟨args', u, h1, h2, h3⟩ := hG w0 base ρ its hS
  obtain ⟨_, hc⟩ := h2 _ _ _ rfl
  refine (hc w0 base ρ vs its hS (by rw [← h1]; exact hA) w hW).mono fun e w' he => ?_
  obtain ⟨ρ1, its1, e1, e2, z, e3, rfl⟩ := he
  cases e3
  exact ⟨ρ1, its1, e1, e2, _, inst_ext e1.ext _ _ h3, rfl⟩
/-! Number -/
noncomputable def numTK (c : Nat) (z q : AV) (T : HT) (nx : Nat) : R :=
  match q with
  | .lit (.int .i64 (.ofNat 8)) => tokK c 100 z fun i => .ok (.val (.opq (Nat.add 200 i))) T nx
  | _ => .bad c
theorem numTK_ok (hen : Enters P f) (hE : E.getLast? = some (g, .ptr pn pm)) (hn : ∀ (m : Int) (ro : List HT) (T : HT) (nx : Nat), GOk P E f [.lit (.int .i64 m), .lit (.int .i64 (.ofNat 8))] ro T nx (.ok (.val (.lit (.int .i64 (numI m 8)))) T nx)) (z q : AV) (ro : List HT) (T : HT) (nx : Nat) :
    GOk P E f [z, q] ro T nx (numTK c z q T nx) := by
  intro v T' n' h
  have h0 := h
  unfold numTK at h0
  split at h0
  · obtain ⟨i, hi, rfl, h1⟩ := tokK_inv h0
    cases h1
    refine GOk.swap hen (fun w0 base ρ its hS => ?_) _ _ _ rfl
    obtain ⟨_, a0, cap, z, _, hz, _⟩ := hS.tok hE
    refine ⟨[.lit (.int .i64 (z i)), .lit (.int .i64 (.ofNat 8))], _, ?_, hn (z i) ro T nx, ?_⟩
    · show instL ρ [.opq (100 + i), _] = _
      unfold instL
      rw [inst_tok, hz.tl i hi]
      rfl
    · rw [inst_tok, show Nat.add 200 i = 200 + i from rfl, hz.tk i hi]
      rfl
  · cases h0
/-! whether a name is one -/
noncomputable def nameTK (c : Nat) (a : AV) (X : R) (T : HT) (nx : Nat) : R :=
  match a with
  | .opq j => tokK c 500 (.opq j) fun _ => .ok (.val (.lit (.bool true))) T nx
  | _ => X
theorem nameTK_ok {X : R} (hE : E.getLast? = some (g, .ptr pn pm)) (hen : Enters P f) (h8 : ∀ k, k < 8 → ∀ (ro : List HT) (T : HT) (nx : Nat), GOk P E f [.lit (bytV (nmB k))] ro T nx (.ok (.val (.lit (.bool true))) T nx)) (ro : List HT) (T : HT) (nx : Nat) (hX : GOk P E f [a] ro T nx X) :
    GOk P E f [a] ro T nx (nameTK c a X T nx) := by
  intro v T' n' h
  have h0 := h
  unfold nameTK at h0
  split at h0
  · obtain ⟨i, hi, e, h1⟩ := tokK_inv h0
    cases e
    cases h1
    refine GOk.swap hen (fun w0 base ρ its hS => ?_) _ _ _ rfl
    obtain ⟨_, a0, cap, z, _, hz, _⟩ := hS.tok hE
    have h7 := nmI_in (z i)
    refine ⟨[.lit (bytV (nmB (nmI (z i)).toNat))], .bool true, ?_, h8 _ (by omega) ro T nx, rfl⟩
    unfold instL
    rw [inst_tok, hz.ts i hi, nameL_eq]
    rfl
  · exact hX v T' n' h0
/-! names put in order, each once -/
theorem perm_erase {α : Type} : ∀ {l : List α} {i : Nat} {x : α}, l[i]? = some x → (x :: l.eraseIdx i).Perm l
  | [], i, x, h => by cases h
  | a :: l, 0, x, h => by cases h; exact List.Perm.refl _
  | a :: l, i + 1, x, h => by
    have := perm_erase (l := l) (i := i) (x := x) (by simpa using h)
    exact (List.Perm.swap a x _).trans (this.cons a)
noncomputable def seqTK (c pn pm ety : Nat) (a : AV) (T : HT) (nx : Nat) : R := rowTK c 500 pn T a fun _ e => bif Nat.beq e ety then bif Nat.ble pm 60 then bif Nat.blt 0 pm then vtK (toks 700 pm) 1 .nil fun vt => T.insK nx (.row pm e 1 vt) fun T1 => .ok (.val (.sl nx 0 pm 0)) T1 (Nat.add nx 1) else .bad c else .bad c else .bad c
theorem seqTK_ok {ety : Nat} (hen : Enters P f) (hc : ∀ (w0 : World) (base : Nat) (fr : List It) (bn cn : Nat) (ks : List Nat), (∀ k ∈ ks, k < 8) → ks.length ≤ 60 →
      FnC P f #[.slice (some ⟨bn, 0, none⟩) ks.length cn] (WA w0 base (.row (some bn) cn ks.length ety 1 ((ks.map nmB).map encStr) :: fr)) (fun p : Option Nat × Nat => rv p.1 (canon fun k => ks.contains k).length p.2)
        (fun p => WA w0 base (.row p.1 p.2 (canon fun k => ks.contains k).length ety 1 (((canon fun k => ks.contains k).map nmB).map encStr) :: .row (some bn) cn ks.length ety 1 ((ks.map nmB).map encStr) :: fr)))
    (hE : E.getLast? = some (g, .ptr pn pm)) (a : AV) (ro : List HT) (T : HT) (nx : Nat) : GOk P E f [a] ro T nx (seqTK c pn pm ety a T nx) := by
  intro v T' n' h
  refine ⟨hen, fun w0 base ρ vs its hS hA w hW => ?_⟩
  obtain ⟨id, e, vt, hp, i, p, us, rfl, h0p, h9, hs, hH, hm1, ⟨it, hfd⟩, hp1, hxs, hus⟩ := rowTK_inv hS hW h
  obtain ⟨hbe, k9⟩ := bif_ok h9
  clear h9
  obtain rfl := beqT hbe
  obtain ⟨hb1, h9⟩ := bif_ok k9
  obtain ⟨hb2, h9⟩ := bif_ok h9
  have hb1 : pm ≤ 60 := by simpa using hb1
  have hb2 : 0 < pm := by simpa using hb2
  obtain ⟨hn, a0, cap, z, _, hz, _⟩ := hS.tok hE
  have hkl : (keyL z pn).length = pn := by simp [keyL]
  have hu : us = ((keyL z pn).map nmB).map encStr := by
    rw [← namesL_eq]
    rw [toks_inst (f := fun i => encStr (nameL (z i))) pn 500 (fun i hi => hz.ts i (by omega))] at hus
    cases hus
    unfold namesL
    rw [List.map_map]; rfl
  have hvs : vs = [.slice (some ⟨p.1, 0, none⟩) pn p.2] := by
    have : instL ρ [AV.sl id 0 pn 0] = some [.slice (some ⟨p.1, 0, none⟩) pn p.2] := instL_mk (by unfold inst; rw [hp1]; rfl) rfl
    rw [this] at hA; cases hA; rfl
  subst hvs
  have hperm := perm_erase hxs
  rw [hu] at hperm
  have hdm : (canon fun k => (keyL z pn).contains k).length = pm := by
    have := hz.tm (by omega)
    rw [dstL_eq, List.length_map] at this
    exact this
  have hcall := hc w0 base (its.eraseIdx i) p.1 p.2 (keyL z pn) (fun k hk => key_lt hk) (by omega)
  rw [hkl, hdm] at hcall
  refine (hcall w (hW.perm hperm)).mono fun e' w' he => ?_
  obtain ⟨⟨g', c'⟩, rfl, hW'⟩ := he
  have hW2 := hW'.perm (its' := .row g' c' pm e 1 (((canon fun k => (keyL z pn).contains k).map nmB).map encStr) :: its) (hperm.symm.cons _)
  obtain ⟨bk, cur, rfl, _⟩ := row_some (hW2.get (i := 0) rfl) hb2
  rw [vtK_eq, HT.insK_eq] at h9
  cases h9
  have hto : instL ρ (toks 700 pm) = some (((canon fun k => (keyL z pn).contains k).map nmB).map encStr) := by
    rw [← dstL_eq, toks_inst (f := fun i => ρ.opq (700 + i)) pm 700 (fun _ _ => rfl)]
    have hdl : (dstL z pn).length = pm := hz.tm (by omega)
    have := map_get (l := dstL z pn) (f := fun i => ρ.opq (700 + i)) (q := encStr) (fun j x hx => by
      have hj : j < (dstL z pn).length := (List.getElem?_eq_some_iff.1 hx).1
      obtain ⟨y, e1, e2⟩ := hz.td j (by omega)
      rw [e1, e2 x hx])
    rw [hdl] at this
    rw [this]
  have hEx := Ext.add hS.fresh bk c'
  have hST := hS.new hs hH bk c' (m := .row pm e 1 (vtOf (toks 700 pm) 1 .nil)) (it := .row pm e 1 (toks 700 pm)) ⟨_, rfl, by simpa using vtOf_rel (toks 700 pm) [] .nil (VRel.nil _)⟩
    (instI_mkrow (rat_add ρ nx bk c') (instL_ext hEx _ _ hto))
  refine ⟨ρ.add nx bk c', _, hST, hW2, .slice (some ⟨bk, 0, none⟩) pm c', ?_, rfl⟩
  unfold inst
  rw [rat_add]; rfl
/-- a run whose one argument is a list -/
theorem okT_tok {X : R} (hG : GOk P E f [.opq 90] [] .nil 1 X) (h : okT X = true) (ρ : Rho) (hE : EE w0 base ρ E) (hO : OPQ w0 base E ρ) (hF : Fresh ρ 1) :
    FnC P f #[ρ.opq 90] (WA w0 base []) (fun _ : Unit => .bool true) (fun _ => WA w0 base []) := fun w hw => by
  obtain ⟨T, n, hX⟩ := okT_eq h
  obtain ⟨_, hc⟩ := hG _ _ _ hX
  refine (hc w0 base ρ [ρ.opq 90] [] ⟨⟨[], (fun id m h => by cases h), rfl⟩, hF, (fun id m h => by cases h), hE, Ext.refl _, hO⟩ rfl w hw).mono fun e w' he => ?_
  obtain ⟨ρ1, its1, _, h2, u, h3, rfl⟩ := he
  cases h3
  exact ⟨(), rfl, h2.drop (List.nil_sublist _)⟩
end
end Go.EY
