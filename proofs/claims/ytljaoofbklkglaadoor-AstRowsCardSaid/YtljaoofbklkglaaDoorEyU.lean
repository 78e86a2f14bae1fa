/-
  Proved here: sorting, and taking out twins, as a machine of mine takes them: on rows of names that it does not look into.
-/
import Derived.Test.YtljaoofbklkglaaDoorSrt
import Derived.Sort.Grow
import Derived.Lib.RowBridge
import Derived.Sort.EncStr
namespace Go.EY
open Go.SX Go.EX Go.RowKit Go.Sort
open Go.Proofs (encStr)
section
variable {P : Program} {w0 : World} {base : Nat} {ρ0 ρ : Rho} {T : HT} {ro : List HT} {nx : Nat} {its : List It} {E : List (Nat × AV)} {af : AF} {l : Fr}
variable {r : AR} {T' : HT} {n' c : Nat} {a b v : AV} {t t2 : TypeId} {g pn pm : Nat}
def toks (lo : Nat) : Nat → List AV
  | 0 => []
  | n + 1 => .opq lo :: toks (lo + 1) n
noncomputable def isToks (lo : Nat) (l : List AV) : Bool := List.rec (motive := fun _ => Nat → Bool) (fun _ => true) (fun a _ ih lo => match a with | .opq j => bif Nat.beq j lo then ih (Nat.add lo 1) else false | _ => false) l lo
theorem isToks_eq : ∀ {l : List AV} {lo : Nat}, isToks lo l = true → l = toks lo l.length
  | [], _, _ => rfl
  | .opq j :: l, lo, h => by
    have h' : (bif Nat.beq j lo then isToks (lo + 1) l else false) = true := h
    obtain ⟨hb, h2⟩ := bif_and h'
    obtain rfl := beqT hb
    have := isToks_eq (l := l) (lo := j + 1) h2
    show _ = AV.opq j :: toks (j + 1) l.length
    rw [← this]
  | .lit _ :: _, _, h => by cases h
  | .ptr _ _ :: _, _, h => by cases h
  | .sl _ _ _ _ :: _, _, h => by cases h
  | .agg _ :: _, _, h => by cases h
  | .tup _ :: _, _, h => by cases h
  | .iface _ _ :: _, _, h => by cases h
  | .fn _ _ _ :: _, _, h => by cases h
  | .mp _ :: _, _, h => by cases h
theorem toks_len : ∀ (n lo : Nat), (toks lo n).length = n
  | 0, _ => rfl
  | n + 1, lo => by show (toks (lo + 1) n).length + 1 = _; rw [toks_len n]
theorem toks_inst {f : Nat → Value} : ∀ (n lo : Nat), (∀ i, i < n → ρ.opq (lo + i) = f i) → instL ρ (toks lo n) = some ((List.range n).map f) := by
  intro n
  induction n generalizing f with
  | zero => intro lo h; rfl
  | succ n ih =>
    intro lo h
    have h0 : ρ.opq lo = f 0 := h 0 (by omega)
    have h1 := ih (f := fun i => f (i + 1)) (lo + 1) fun i hi => by
      rw [show lo + 1 + i = lo + (i + 1) by omega]; exact h (i + 1) (by omega)
    rw [List.range_succ_eq_map, List.map_cons, List.map_map]
    exact instL_mk (show inst ρ (.opq lo) = some (f 0) by rw [← h0]; rfl) h1
theorem map_get {α β : Type} {l : List α} {f : Nat → β} {q : α → β} (h : ∀ j x, l[j]? = some x → f j = q x) : (List.range l.length).map f = l.map q := by
  refine List.ext_getElem (by simp) fun i h1 h2 => ?_
  have hi : i < l.length := by simpa using h1
  simp only [List.getElem_map, List.getElem_range]
  exact h i _ (List.getElem?_eq_getElem hi)
theorem Below.grow' {w : World} (os : Array Obj) : Below w.heap.size w (Sort.grow w os) := ⟨rfl, rfl, rfl, by simp [Sort.grow], fun k hk => heap_grow_old w os hk⟩
theorem Below.drewN' {w : World} (q : Nat) : Below w.heap.size w (w.drewN q) := ⟨rfl, rfl, rfl, Nat.le_refl _, fun _ _ => rfl⟩
/-- a row of names is written over -/
theorem WA.putRow {w : World} {i bk cap n e : Nat} {us : List Value} {xs ys : List (List UInt8)} (hW : WA w0 base its w) (hi : its[i]? = some (.row (some bk) cap n e 1 us)) (hu : us = xs.map encStr) (hl : ys.length = xs.length) (q : Nat) (os : Array Obj) :
    WA w0 base (its.set i (.row (some bk) cap n e 1 (ys.map encStr))) (Sort.grow (Sort.putRow encStr (Sort.ahead w q) bk 0 ys.toArray) os) := by
  have hH : Holds encStr w bk 0 xs.toArray := fun j hj => by
    have hj' : j < xs.length := by simpa using hj
    have hc : us[j]? = some (encStr xs[j]) := by rw [hu, List.getElem?_map, List.getElem?_eq_getElem hj']; rfl
    have := hW.rowCell hi hc
    rw [Nat.zero_add, getElem!_pos _ j hj]
    exact ⟨by simpa using this.1, by simpa using this.2.1⟩
  rw [Lib.putRow_eq_setCells encStr w bk 0 xs.toArray ys q hH (by simpa using hl)]
  have h1 : WA w0 base its (w.drewN q) := Stab.st w _ hW (Below.drewN' q)
  have hlen : (ys.map encStr).length = us.length := by rw [hu]; simpa using hl
  have h2 := WA.setRowCells (ys.map encStr) us 0 (by omega) h1 hi
  have h3 : setAll us 0 (ys.map encStr) = ys.map encStr := by
    rw [setAll_over _ _ _ (by omega)]
    unfold overlayV
    rw [Nat.zero_add, hlen]
    simp
  rw [h3] at h2
  exact Stab.st _ _ h2 (Below.grow' os)
/-! rows of names in a run -/
noncomputable def rowTK (c lo pn : Nat) (T : HT) (a : AV) (f : Nat → TypeId → R) : R := slcK c a fun id off q sk => bif Nat.beq off 0 then bif Nat.beq sk 0 then bif Nat.beq q pn then bif Nat.blt 0 pn then
  T.getK (fun m => rowK c m fun q' e s vt => bif Nat.beq q' pn then bif Nat.beq s 1 then (MI.row q' e s vt).cellsK c pn 0 fun l => bif isToks lo l then f id e else .bad c else .bad c else .bad c) (.bad c) id else .bad c else .bad c else .bad c else .bad c
theorem rowTK_inv {w : World} {lo : Nat} {f : Nat → TypeId → R} (hS : ST w0 base E ρ0 ρ T ro nx its) (hW : WA w0 base its w) (h : rowTK c lo pn T a f = .ok r T' n') :
    ∃ id e vt hp i p us, a = .sl id 0 pn 0 ∧ 0 < pn ∧ f id e = .ok r T' n' ∧ Sub T hp ∧ instH ρ hp = some its ∧ T.get id = some (.row pn e 1 vt) ∧ (∃ it, findA hp id 0 = some (i, it)) ∧ rat ρ.blk id = some p ∧ its[i]? = some (.row (some p.1) p.2 pn e 1 us) ∧ instL ρ (toks lo pn) = some us := by
  obtain ⟨id, off, q, sk, rfl, k0⟩ := slcK_inv h
  obtain ⟨h1, k1⟩ := bif_ok k0
  obtain ⟨h2, k2⟩ := bif_ok k1
  obtain ⟨h3, k3⟩ := bif_ok k2
  obtain ⟨h4, k4⟩ := bif_ok k3
  obtain rfl := beqT h1
  obtain rfl := beqT h2
  obtain rfl := beqT h3
  rcases HT.getK_inv k4 with ⟨m, hm1, k5⟩ | ⟨_, k5⟩
  · obtain ⟨q', e, s, vt, rfl, k6⟩ := rowK_inv k5
    obtain ⟨h5, k7⟩ := bif_ok k6
    obtain ⟨h6, k8⟩ := bif_ok k7
    obtain rfl := beqT h5
    obtain rfl := beqT h6
    obtain ⟨l, hl, k9⟩ := MI.cellsK_inv k8
    obtain ⟨h7, k10⟩ := bif_ok k9
    obtain ⟨hp, hs, hH⟩ := hS.hp
    obtain ⟨i, it, hfd, hm⟩ := hs id _ hm1
    obtain ⟨q1, q2⟩ := MI.cells_it hm hl
    obtain ⟨cs, rfl, hv⟩ := hm
    obtain ⟨xi, _, hxs, hi⟩ := findA_ok hH hfd
    rw [Nat.sub_zero] at hxs
    obtain ⟨p, us, g1, g2, rfl⟩ := instI_row hi
    have hlen : us.length = q' := by have := (row_len (hW.get hxs)).1; omega
    have hcl : cs.length = q' := by rw [← instL_len g2]; exact hlen
    have hcs : cs = l := by
      rw [← q1]
      show cs = (cs.drop 0).take q'
      rw [List.drop_zero, ← hcl, List.take_length]
    have hl2 := isToks_eq h7
    rw [q2] at hl2
    rw [hcs, hl2] at g2
    exact ⟨id, e, vt, hp, i, p, us, rfl, by simpa using h4, k10, hs, hH, hm1, ⟨_, hfd⟩, g1, hxs, g2⟩
  · cases k5
noncomputable def sortTK (c pn : Nat) (a : AV) (T : HT) (nx : Nat) : R := rowTK c 500 pn T a fun id e => vtK (toks 600 pn) 1 .nil fun vt => T.insK id (.row pn e 1 vt) fun T1 => .ok (.val (.tup [])) T1 nx
theorem sortTK_ok {f : FuncId} (hen : Enters P f) (hc : ∀ (blk off cap : Nat) (ss : List (List UInt8)) (w : World), Holds encStr w blk off ss.toArray → blk < w.heap.size → ss.length < 4611686018427387904 → Calls P f #[.slice (some ⟨blk, off, none⟩) ss.length cap] w fun e w' =>
      e = .returned (.tuple #[]) ∧ ∃ n os, w' = Sort.grow (Sort.putRow encStr (Sort.ahead w n) blk off (ss.mergeSort fun x y => decide (x ≤ y)).toArray) os)
    (hE : E.getLast? = some (g, .ptr pn pm)) (a : AV) (ro : List HT) (T : HT) (nx : Nat) : GOk P E f [a] ro T nx (sortTK c pn a T nx) := by
  intro v' T' n' h
  refine ⟨hen, fun w0 base ρ vs its hS hA w hW => ?_⟩
  obtain ⟨id, e, vt, hp, i, p, us, rfl, h0p, h9, hs, hH, hm1, ⟨it, hfd⟩, hp1, hxs, hus⟩ := rowTK_inv hS hW h
  obtain ⟨hn, a0, cap, z, _, hz, _⟩ := hS.tok hE
  have hu : us = (namesL z pn).map encStr := by
    rw [toks_inst (f := fun i => encStr (nameL (z i))) pn 500 (fun i hi => hz.ts i (by omega))] at hus
    cases hus
    unfold namesL
    rw [List.map_map]; rfl
  have hsl : (srtL z pn).length = (namesL z pn).length := by unfold srtL; exact List.length_mergeSort _
  have hnl : (namesL z pn).length = pn := by simp [namesL]
  have hHold : Holds encStr w p.1 0 (namesL z pn).toArray := fun j hj => by
    have hj' : j < (namesL z pn).length := by simpa using hj
    have hc : us[j]? = some (encStr (namesL z pn)[j]) := by rw [hu, List.getElem?_map, List.getElem?_eq_getElem hj']; rfl
    have := hW.rowCell hxs hc
    rw [Nat.zero_add, getElem!_pos _ j hj]
    exact ⟨by simpa using this.1, by simpa using this.2.1⟩
  have hvs : vs = [.slice (some ⟨p.1, 0, none⟩) pn p.2] := by
    have : instL ρ [AV.sl id 0 pn 0] = some [.slice (some ⟨p.1, 0, none⟩) pn p.2] := instL_mk (by unfold inst; rw [hp1]; rfl) rfl
    rw [this] at hA; cases hA; rfl
  subst hvs
  have hcall := hc p.1 0 p.2 (namesL z pn) w hHold ((hW.get hxs).lt p.1 rfl).2 (by omega)
  rw [hnl] at hcall
  refine hcall.mono fun e' w' he => ?_
  obtain ⟨rfl, q, os, rfl⟩ := he
  have hW' := WA.putRow hW hxs hu (by exact hsl) q os
  rw [vtK_eq, HT.insK_eq] at h9
  cases h9
  have hto : instL ρ (toks 600 pn) = some ((srtL z pn).map encStr) := by
    rw [toks_inst (f := fun i => ρ.opq (600 + i)) pn 600 (fun _ _ => rfl)]
    have hlp : (srtL z pn).length = pn := hsl.trans hnl
    have := map_get (l := srtL z pn) (f := fun i => ρ.opq (600 + i)) (q := encStr) hz.to
    rw [hlp] at this
    rw [this]
  have e2 := setH_ok hH hfd (instI_mkrow (ρ := ρ) (id := id) (n := pn) (e := e) (s := 1) hp1 hto)
  rw [Nat.sub_zero] at e2
  refine ⟨ρ, _, ⟨⟨_, hs.set hfd (m := .row pn e 1 (vtOf (toks 600 pn) 1 .nil)) ⟨_, rfl, by simpa using vtOf_rel (toks 600 pn) [] .nil (VRel.nil _)⟩, e2⟩, hS.fresh, hS.ro, hS.env, hS.ext, hS.opq⟩, hW', ?_⟩
  exact ⟨_, rfl, rfl⟩
noncomputable def compTK (c pn pm : Nat) (a : AV) (T : HT) (nx : Nat) : R := rowTK c 600 pn T a fun id e => bif Nat.ble pm pn then bif Nat.ble pm 60 then vtK (toks 700 pm) 1 .nil fun vt => T.insK id (.row pm e 1 vt) fun T1 => .ok (.val (.sl id 0 pm 0)) T1 nx else .bad c else .bad c
theorem compTK_ok {f : FuncId} (hen : Enters P f) (hc : ∀ (blk off cap : Nat) (zs : List (List UInt8)) (w : World), Holds encStr w blk off zs.toArray → zs.length ≤ 9223372036854775807 → zs.length ≤ cap → Calls P f #[.slice (some ⟨blk, off, none⟩) zs.length cap] w fun e w' =>
      e = .returned (.slice (some ⟨blk, off, none⟩) (Lib.compact zs).length cap) ∧ ∃ q, w' = Sort.putRow encStr (Sort.ahead w q) blk off (Lib.compact zs ++ List.replicate (zs.length - (Lib.compact zs).length) []).toArray)
    (hE : E.getLast? = some (g, .ptr pn pm)) (a : AV) (ro : List HT) (T : HT) (nx : Nat) : GOk P E f [a] ro T nx (compTK c pn pm a T nx) := by
  intro v' T' n' h
  refine ⟨hen, fun w0 base ρ vs its hS hA w hW => ?_⟩
  obtain ⟨id, e, vt, hp, i, p, us, rfl, h0p, h9, hs, hH, hm1, ⟨it, hfd⟩, hp1, hxs, hus⟩ := rowTK_inv hS hW h
  obtain ⟨hb1, h9⟩ := bif_ok h9
  obtain ⟨hb2, h9⟩ := bif_ok h9
  have hb1 : pm ≤ pn := by simpa using hb1
  have hb2 : pm ≤ 60 := by simpa using hb2
  obtain ⟨hn, a0, cap, z, _, hz, _⟩ := hS.tok hE
  have hnl : (srtL z pn).length = pn := srtL_len z pn
  have hu : us = (srtL z pn).map encStr := by
    rw [toks_inst (f := fun i => ρ.opq (600 + i)) pn 600 (fun _ _ => rfl)] at hus
    have := map_get (l := srtL z pn) (f := fun i => ρ.opq (600 + i)) (q := encStr) hz.to
    rw [hnl] at this
    rw [this] at hus
    cases hus; rfl
  have hHold : Holds encStr w p.1 0 (srtL z pn).toArray := fun j hj => by
    have hj' : j < (srtL z pn).length := by simpa using hj
    have hc : us[j]? = some (encStr (srtL z pn)[j]) := by rw [hu, List.getElem?_map, List.getElem?_eq_getElem hj']; rfl
    have := hW.rowCell hxs hc
    rw [Nat.zero_add, getElem!_pos _ j hj]
    exact ⟨by simpa using this.1, by simpa using this.2.1⟩
  have hvs : vs = [.slice (some ⟨p.1, 0, none⟩) pn p.2] := by
    have : instL ρ [AV.sl id 0 pn 0] = some [.slice (some ⟨p.1, 0, none⟩) pn p.2] := instL_mk (by unfold inst; rw [hp1]; rfl) rfl
    rw [this] at hA; cases hA; rfl
  subst hvs
  have hcap := (row_len (hW.get hxs)).2
  have hcall := hc p.1 0 p.2 (srtL z pn) w hHold (by omega) (by omega)
  rw [hnl] at hcall
  refine hcall.mono fun e' w' he => ?_
  obtain ⟨rfl, q, rfl⟩ := he
  have hdm : (dstL z pn).length = pm := hz.tm (by omega)
  have hyl : (Lib.compact (srtL z pn) ++ List.replicate (pn - (Lib.compact (srtL z pn)).length) ([] : List UInt8)).length = (srtL z pn).length := by
    have : (Lib.compact (srtL z pn)).length = pm := hdm
    rw [List.length_append, List.length_replicate, this, hnl]; omega
  have hW' := WA.putRow hW hxs hu hyl q #[]
  rw [Sort.grow_empty] at hW'
  have hlt := (List.getElem?_eq_some_iff.1 hxs).1
  have hW2 := WA.cut hW' (List.getElem?_set_self hlt) hb1
  rw [List.set_set] at hW2
  have hcut : ((Lib.compact (srtL z pn) ++ List.replicate (pn - (Lib.compact (srtL z pn)).length) ([] : List UInt8)).map encStr).take (pm * 1) = (dstL z pn).map encStr := by
    have : (Lib.compact (srtL z pn)).length = pm := hdm
    rw [Nat.mul_one, List.map_append, List.take_append_of_le_length (by rw [List.length_map, this]; exact Nat.le_refl _)]
    exact List.take_of_length_le (by rw [List.length_map, this]; exact Nat.le_refl _)
  rw [hcut] at hW2
  rw [vtK_eq, HT.insK_eq] at h9
  cases h9
  have hto : instL ρ (toks 700 pm) = some ((dstL z pn).map encStr) := by
    rw [toks_inst (f := fun i => ρ.opq (700 + i)) pm 700 (fun _ _ => rfl)]
    have := map_get (l := dstL z pn) (f := fun i => ρ.opq (700 + i)) (q := encStr) (fun j x hx => by
      have hj : j < (dstL z pn).length := (List.getElem?_eq_some_iff.1 hx).1
      obtain ⟨y, e1, e2⟩ := hz.td j (by omega)
      rw [e1, e2 x hx])
    rw [hdm] at this
    rw [this]
  have e2 := setH_ok hH hfd (instI_mkrow (ρ := ρ) (id := id) (n := pm) (e := e) (s := 1) hp1 hto)
  rw [Nat.sub_zero] at e2
  refine ⟨ρ, _, ⟨⟨_, hs.set hfd (m := .row pm e 1 (vtOf (toks 700 pm) 1 .nil)) ⟨_, rfl, by simpa using vtOf_rel (toks 700 pm) [] .nil (VRel.nil _)⟩, e2⟩, hS.fresh, hS.ro, hS.env, hS.ext, hS.opq⟩, hW2, ?_⟩
  exact ⟨.slice (some ⟨p.1, 0, none⟩) pm p.2, by unfold inst; rw [hp1]; rfl, by rw [show (Lib.compact (srtL z pn)).length = pm from hdm]⟩
end
end Go.EY
