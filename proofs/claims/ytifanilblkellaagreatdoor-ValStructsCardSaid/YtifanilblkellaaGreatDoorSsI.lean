/-
  Proved here: the parts of the law.
-/
import Derived.Test.YtifanilblkellaaGreatDoorSsF
import Derived.Test.YtifanilblkellaaGreatDoorSsG
import Derived.Test.YtifanilblkellaaGreatDoorFsE
namespace Go.Proofs.YtifanilblkellaaGreatDoor
open Go.SX Go.RowKit Go.Vo Go.Ss Go.Proofs.YtifanilblkellaaGreatDoor.Env
namespace Fu

end Fu
@[reducible] def dR (i : Nat) (g : Option Nat) (c : Nat) : It := .row g c (digs (i : Int).natAbs).length 84 1 (dv (digs (i : Int).natAbs))
theorem onto_c {its : List It} {τ : Type} {f : FuncId} {args : Array Value} {vv : τ → Value} {w0 : World} {base : Nat} {R : τ → Prop} {new : τ → List It} (h : ∀ w, WA w0 base its w → FnC Tryz.prog f args (WA w w.heap.size []) vv (fun q w' => R q ∧ WA w w.heap.size (new q) w')) : FnC Tryz.prog f args (WA w0 base its) vv (fun q w' => R q ∧ WA w0 base (new q ++ its) w') := fun w hw =>
  (h w hw w (WA.start w)).mono fun e w' ⟨q, he, hr, hn⟩ => ⟨q, he, hr, WA.onto hw hn⟩
theorem onto_d {its : List It} {τ : Type} {f : FuncId} {args : Array Value} {vv : τ → Value} {w0 : World} {base : Nat} {new : τ → List It} (h : ∀ w, WA w0 base its w → FnC Tryz.prog f args (WA w w.heap.size []) vv (fun q w' => WA w w.heap.size (new q) w')) : FnC Tryz.prog f args (WA w0 base its) vv (fun q w' => WA w0 base (new q ++ its) w') := fun w hw =>
  (h w hw w (WA.start w)).mono fun e w' ⟨q, he, hn⟩ => ⟨q, he, WA.onto hw hn⟩
/-- numbers, their digits in rows of their own -/
structure Own (os : List (Option Nat)) (us : List Value) (ds : List It) : Prop where
  len : us.length = os.length
  at_ : ∀ (k : Nat) o u, os[k]? = some o → us[k]? = some u → ∃ j g c, o = some j ∧ j < 12 ∧ u = .iface 82 (numV (j : Int) g c) ∧ NX j (numV (j : Int) g c) ∧ dR j g c ∈ ds
theorem Own.nil (ds : List It) : Own [] [] ds := ⟨rfl, fun k o u h => by cases h⟩
theorem Own.snoc {os : List (Option Nat)} {us : List Value} {ds ds' : List It} {j : Nat} {g : Option Nat} {c : Nat} (h : Own os us ds) (hs : ∀ it ∈ ds, it ∈ ds') (hj : j < 12) (hx : NX j (numV (j : Int) g c)) (hm : dR j g c ∈ ds') : Own (os ++ [some j]) (us ++ [.iface 82 (numV (j : Int) g c)]) ds' := ⟨by simp [h.len], fun k o u h1 h2 => by
  rcases Nat.lt_or_ge k os.length with hk | hk
  · rw [List.getElem?_append_left hk] at h1
    rw [List.getElem?_append_left (by rw [h.len]; exact hk)] at h2
    obtain ⟨j, g, c, e1, e2, e3, e4, e5⟩ := h.at_ k o u h1 h2
    exact ⟨j, g, c, e1, e2, e3, e4, hs _ e5⟩
  · obtain rfl : k = os.length := by
      have := (List.getElem?_eq_some_iff.1 h1).1
      simp at this; omega
    rw [List.getElem?_append_right (Nat.le_refl _), Nat.sub_self] at h1
    rw [← h.len, List.getElem?_append_right (Nat.le_refl _), Nat.sub_self] at h2
    cases h1
    cases h2
    exact ⟨j, g, c, rfl, hj, rfl, hx, hm⟩⟩
theorem Own.one {os : List (Option Nat)} {us : List Value} {ds : List It} (h : Own os us ds) : ∀ u ∈ us, ∃ t x, u = .iface t x := fun u hu => by
  obtain ⟨k, hk⟩ := List.mem_iff_getElem?.1 hu
  have hl := (List.getElem?_eq_some_iff.1 hk).1
  obtain ⟨o, ho⟩ : ∃ o, os[k]? = some o := ⟨_, List.getElem?_eq_getElem (by rw [← h.len]; exact hl)⟩
  obtain ⟨j, g, c, _, _, e3, _⟩ := h.at_ k o u ho hk
  exact ⟨_, _, e3⟩
theorem Own.vs {w0 w : World} {base : Nat} {its ds : List It} {os : List (Option Nat)} {us : List Value} (h : Own os us ds) (hw : WA w0 base its w) (hd : ∀ it ∈ ds, it ∈ its) : Vs w w.heap.size os us := ⟨h.len, fun i o u h1 h2 => by
  obtain ⟨j, g, c, rfl, e2, rfl, e4, e5⟩ := h.at_ i o u h1 h2
  exact ⟨_, rfl, ⟨⟨g, c, rfl, row_at hw (hd _ e5)⟩, by omega⟩, e4⟩⟩
theorem Vs.set {w0 : World} {base : Nat} {os : List (Option Nat)} {us : List Value} (h : Vs w0 base os us) (m : Nat) : Vs w0 base (os.set m none) (us.set m (.iface 107 (.agg #[]))) := ⟨by simp [h.len], fun i o u h1 h2 => by
  rw [List.getElem?_set] at h1 h2
  split at h1
  · rename_i e
    rw [if_pos e] at h2
    split at h1
    · cases h1
      split at h2
      · cases h2
        exact rfl
      · cases h2
    · cases h1
  · rename_i e
    rw [if_neg e] at h2
    exact h.at_ i o u h1 h2⟩
theorem rev_take {ns : List T} {i : Nat} (h : i < ns.length) : (ns.reverse.take (i + 1)).map str = (ns.reverse.take i).map str ++ [str (ns.getD (ns.length - 1 - i) [])] := by
  rw [List.take_add_one, List.getElem?_reverse h, List.map_append, List.getD_eq_getElem?_getD, List.getElem?_eq_getElem (by omega)]
  rfl
theorem upto_take {n i : Nat} (h : i < n) : (upto n).take (i + 1) = (upto n).take i ++ [some i] := by rw [List.take_add_one, upto_at h]; rfl
theorem uptor_take {n i : Nat} (h : i < n) : (upto n).reverse.take (i + 1) = (upto n).reverse.take i ++ [some (n - 1 - i)] := by rw [List.take_add_one, upto_rev h]; rfl
theorem st_w {w0 w : World} {base : Nat} {its : List It} {ns : List T} {os : List (Option Nat)} {us : List Value} {b c1 c2 n : Nat} {g1 g2 : Option Nat} (hw : WA w0 base its w) (hn : ns.length = n) (hnn : ns.Nodup) (hv : Vs w w.heap.size os us) (hol : os.length = n)
    (h0 : blk b [rv g1 n c1, rv g2 n c2] 115 ∈ its) (h1 : It.row g1 c1 n 9 1 ((srt ns).map str) ∈ its) (h2 : It.row g2 c2 n 31 1 (vals .nilIface ns us) ∈ its) : StV w w.heap.size (srt ns) (vals none ns os) (.iface 109 (.pointer (some ⟨b, 0, none⟩))) :=
  st_of hw (by rw [srt_len.2 hnn, hn]) h0 h1 h2 (hv.vals hnn (by rw [hol, hn])) vals_len
theorem struct_w {w0 : World} {base : Nat} {its : List It} {aE : Nat → Addr} (hS : EnvS w0 base aE) {av lv : Option Addr} {ns : List T} {us : List Value} {n cn cl : Nat} (hn : ns.length = n) (hN : ∀ w, WA w0 base its w → Sl w w.heap.size av (ns.map str)) (hL : ∀ w, WA w0 base its w → Sl w w.heap.size lv us) (hul : us.length = n) (h12 : n ≤ 12)
    (hone : ∀ u ∈ us, ∃ t x, u = .iface t x) (hlen : ∀ s ∈ ns, s.length ≤ 30) (hnn : ns.Nodup) : FnC Tryz.prog 26 #[.slice av n cn, .slice lv n cl] (WA w0 base its) (fun q : Nat × (Option Nat × Nat) × (Option Nat × Nat) => .tuple #[.iface 109 (.pointer (some ⟨q.1, 0, none⟩)), .nilIface])
      (fun q w => (n = 0 → q.2.1 = (none, 0) ∧ q.2.2 = (none, 0)) ∧ WA w0 base (blk q.1 [rv q.2.1.1 n q.2.1.2, rv q.2.2.1 n q.2.2.2] 115 :: .row q.2.1.1 q.2.1.2 n 9 1 ((srt ns).map str) :: .row q.2.2.1 q.2.2.2 n 31 1 (vals .nilIface ns us) :: its) w) := by
  subst hn
  exact onto_c (R := fun q : Nat × (Option Nat × Nat) × (Option Nat × Nat) => ns.length = 0 → q.2.1 = (none, 0) ∧ q.2.2 = (none, 0)) (new := fun q => [blk q.1 [rv q.2.1.1 ns.length q.2.1.2, rv q.2.2.1 ns.length q.2.2.2] 115, .row q.2.1.1 q.2.1.2 ns.length 9 1 ((srt ns).map str), .row q.2.2.1 q.2.2.2 ns.length 31 1 (vals .nilIface ns us)])
    fun w hw => struct_c (Bsf.push hS hw) (hN w hw) (hL w hw) hul h12 hone hlen hnn
theorem struct_dw {w0 : World} {base : Nat} {its : List It} {aE : Nat → Addr} (hS : EnvS w0 base aE) {av lv : Option Addr} {ns : List T} {us : List Value} {n cn cl : Nat} (hn : ns.length = n) (hN : ∀ w, WA w0 base its w → Sl w w.heap.size av (ns.map str)) (hL : ∀ w, WA w0 base its w → Sl w w.heap.size lv us) (hul : us.length = n) (h12 : n ≤ 12)
    (hnn : ¬ns.Nodup) : FnC Tryz.prog 26 #[.slice av n cn, .slice lv n cl] (WA w0 base its) (fun _ : Unit => .tuple #[.nilIface, errV (aE 12)]) (fun _ => WA w0 base its) := by
  subst hn
  exact FnC.re fun w hw => struct_dup (Bsf.push hS hw) (hN w hw) (hL w hw) hul h12 hnn
theorem equal_w {W : World → Prop} [Stab W] {S : List T} {os1 os2 : List (Option Nat)} {x y : Value} {b : Bool} (hx : ∀ w, W w → StV w w.heap.size S os1 x) (hy : ∀ w, W w → StV w w.heap.size S os2 y) (l1 : S.length ≤ 12) (hsm : ∀ o ∈ os1, o ≠ none) (hb : decide (os1 = os2) = b) : FnC Tryz.prog 28 #[x, y] W (fun _ : Unit => .tuple #[.bool b, .nilIface]) (fun _ => W) := by
  subst hb
  exact FnC.re fun w hw => Equal_c (hx w hw) (hy w hw) l1 hsm
theorem fields_w {w0 : World} {base : Nat} {its : List It} {S : List T} {os : List (Option Nat)} {x : Value} (hx : ∀ w, WA w0 base its w → StV w w.heap.size S os x) (l1 : S.length ≤ 12) : FnC Tryz.prog 30 #[x] (WA w0 base its) (fun q : Option Nat × Nat => rv q.1 S.length q.2) (fun q => WA w0 base (.row q.1 q.2 S.length 9 1 (S.map str) :: its)) :=
  onto_d (new := fun q : Option Nat × Nat => [.row q.1 q.2 S.length 9 1 (S.map str)]) fun w hw => Fields_c (hx w hw) l1
theorem same_w {W : World → Prop} [Stab W] {S : List T} {av bv : Option Addr} (c1 c2 : Nat) (s1 : ∀ w, W w → Sl w w.heap.size av (S.map str)) (s2 : ∀ w, W w → Sl w w.heap.size bv (S.map str)) (l1 : S.length ≤ 12) : FnC Tryz.prog 29 #[.slice av S.length c1, .slice bv S.length c2] W (fun _ : Unit => .bool true) (fun _ => W) :=
  FnC.re fun w hw => same_c c1 c2 (s1 w hw) (s2 w hw) l1
theorem field_w {W : World → Prop} [hst : Stab W] {S : List T} {os : List (Option Nat)} {x : Value} (hx : ∀ w, W w → StV w w.heap.size S os x) (l1 : S.length ≤ 12) (hinc : Inc S) {m : Nat} (hm : m < S.length) {s : T} (hs : S.getD m [] = s) {i : Nat} (ho : os[m]? = some (some i)) : FnC Tryz.prog 31 #[x, str s] W (fun u : Value => .tuple #[u, .bool true]) (fun u w => VV w w.heap.size (some i) u ∧ W w) := fun w hw => by
  subst hs
  obtain ⟨o, u, e1, e2, h⟩ := Field_c (fr := []) (hx w hw) l1 hinc hm
  rw [ho] at e1
  cases e1
  exact (h w (WA.start w)).mono fun e w' ⟨_, he, hn⟩ => ⟨u, he, e2.push hn, hst.st w w' hw hn.below⟩
theorem of_w {W : World → Prop} [hst : Stab W] {aE : Nat → Addr} (hS : ∀ w, W w → EnvS w w.heap.size aE) {i : Nat} (hi : i < 12) : FnC Tryz.prog 10 #[.int .i64 (i : Int)] W (fun q : Option Nat × Nat => numV (i : Int) q.1 q.2) (fun q w => NX i (numV (i : Int) q.1 q.2) ∧ NumV w w.heap.size (i : Int) (numV (i : Int) q.1 q.2) ∧ W w) := fun w hw =>
  (Bsf.of_n (fr := []) (hS w hw) hi w (WA.start w)).mono fun e w' ⟨q, he, hx, hn⟩ => ⟨q, he, hx, ⟨⟨q.1, q.2, rfl, row_at hn List.mem_cons_self⟩, by omega⟩, hst.st w w' hw hn.below⟩
theorem vals_some {ns : List T} (hn : ns.Nodup) : ∀ o ∈ vals none ns (upto ns.length), o ≠ none := fun o ho => by
  obtain ⟨s, hs, rfl⟩ := List.mem_map.1 ho
  obtain ⟨j, hj⟩ := mem_at (mem_srt.1 hs)
  rw [pick_at hn hj (upto_at (List.getElem?_eq_some_iff.1 hj).1)]
  exact fun h => by cases h
theorem field_at {ns : List T} (hn : ns.Nodup) {i : Nat} (hi : i < ns.length) : ∃ m, m < (srt ns).length ∧ (srt ns).getD m [] = ns.getD i [] ∧ (vals none ns (upto ns.length))[m]? = some (some i) := by
  have hs : ns[i]? = some (ns.getD i []) := by rw [List.getD_eq_getElem?_getD, List.getElem?_eq_getElem hi]; rfl
  obtain ⟨m, hm⟩ := mem_at (mem_srt.2 (List.mem_of_getElem? hs))
  refine ⟨m, (List.getElem?_eq_some_iff.1 hm).1, by rw [List.getD_eq_getElem?_getD, hm]; rfl, ?_⟩
  unfold vals
  rw [List.getElem?_map, hm]
  exact congrArg some (pick_at hn hs (upto_at hi))
theorem one_set {us : List Value} {m : Nat} {x : Value} (h : ∀ u ∈ us, ∃ t x, u = .iface t x) (hx : ∃ t y, x = .iface t y) : ∀ u ∈ us.set m x, ∃ t x, u = .iface t x := fun u hu => by
  rcases List.mem_or_eq_of_mem_set hu with h1 | rfl
  · exact h u h1
  · exact hx
theorem cells_of {w0 w : World} {base : Nat} {its : List It} {b t : Nat} {x y : Value} (hw : WA w0 base its w) (h0 : blk b [x, y] t ∈ its) : b < w.heap.size ∧ w.cell? ⟨b, 0, none⟩ = some x ∧ w.cell? ⟨b, 1, none⟩ = some y := by
  obtain ⟨j, hj⟩ := List.mem_iff_getElem?.1 h0
  have h2 := (hw.get hj).2
  have hc0 : w.cell? ⟨b, 0, none⟩ = some x := by simp [World.cell?, h2]
  have hc1 : w.cell? ⟨b, 1, none⟩ = some y := by simp [World.cell?, h2]
  exact ⟨World.block_lt_of_cell? _ _ hc0, hc0, hc1⟩
theorem bent {ns : List T} (hn : ns.Nodup) {m : Nat} (hm : m < ns.length) : decide (vals none ns (upto ns.length) = vals none ns.reverse ((upto ns.length).reverse.set m none)) = false := by
  have hr := (List.reverse_perm ns).nodup_iff.2 hn
  have h1 := vals_set (d := none) (x := none) (us := (upto ns.length).reverse) hr (by simp [upto_len]) (m := m) (by simpa using hm) (fun u hu => upto_some u (List.mem_reverse.1 hu))
  rw [vals_rev hn (upto_len _)] at h1
  exact decide_eq_false (fun e => h1 e.symm)
end Go.Proofs.YtifanilblkellaaGreatDoor
