/-
  Proved here: texts in order, each once; which of a row of values stands for a name. No program stands here.
-/
import Derived.Sort.Walk0
import Derived.Sort.KeysCollected
namespace Go.Ss
abbrev T := List UInt8
theorem lt_tri {x y : T} (h1 : ¬x < y) (h2 : ¬y < x) : x = y := List.le_antisymm (List.not_lt.1 h2) (List.not_lt.1 h1)
theorem lt_no {x y : T} (h : x < y) (h2 : y < x) : False := List.lt_irrefl _ (List.lt_trans h h2)
/-- a text is put into its place; one that is there stays -/
def ins (x : T) : List T → List T
  | [] => [x]
  | y :: l => if y < x then y :: ins x l else if y = x then y :: l else x :: y :: l
def srt (l : List T) : List T := l.foldl (fun o x => ins x o) []
abbrev Inc (l : List T) : Prop := l.Pairwise (· < ·)
theorem mem_ins {x z : T} : ∀ {l : List T}, z ∈ ins x l ↔ z = x ∨ z ∈ l
  | [] => by simp [ins]
  | y :: l => by
    unfold ins
    split
    · rw [List.mem_cons, mem_ins, List.mem_cons]
      constructor
      · rintro (h | h | h) <;> simp [h]
      · rintro (h | h | h) <;> simp [h]
    · split
      · rename_i h
        subst h
        simp
      · simp
theorem ins_inc {x : T} : ∀ {l : List T}, Inc l → Inc (ins x l)
  | [], _ => by simp [ins]
  | y :: l, h => by
    have h' := List.pairwise_cons.1 h
    unfold ins
    split
    · rename_i hy
      refine List.pairwise_cons.2 ⟨fun z hz => ?_, ins_inc h'.2⟩
      rcases mem_ins.1 hz with rfl | hz
      · exact hy
      · exact h'.1 z hz
    · rename_i hy
      split
      · exact h
      · rename_i hne
        have hxy : x < y := by
          by_cases hq : x < y
          · exact hq
          · exact absurd (lt_tri hy hq) hne
        refine List.pairwise_cons.2 ⟨fun z hz => ?_, h⟩
        rcases List.mem_cons.1 hz with rfl | hz
        · exact hxy
        · exact List.lt_trans hxy (h'.1 z hz)
theorem ins_len {x : T} : ∀ {l : List T}, Inc l → (x ∈ l → (ins x l).length = l.length) ∧ (x ∉ l → (ins x l).length = l.length + 1)
  | [], _ => by simp [ins]
  | y :: l, h => by
    have h' := List.pairwise_cons.1 h
    have ih := ins_len (x := x) h'.2
    unfold ins
    split
    · rename_i hy
      have hne : x ≠ y := fun e => List.lt_irrefl x (by rw [e] at hy ⊢; exact hy)
      simp only [List.mem_cons, hne, false_or, List.length_cons]
      exact ⟨fun hm => by rw [ih.1 hm], fun hm => by rw [ih.2 hm]⟩
    · rename_i hy
      split
      · rename_i e
        subst e
        exact ⟨fun _ => rfl, fun hm => absurd List.mem_cons_self hm⟩
      · rename_i hne
        refine ⟨fun hm => ?_, fun _ => rfl⟩
        rcases List.mem_cons.1 hm with rfl | hm
        · exact absurd rfl hne
        · exact absurd (h'.1 x hm) hy
theorem fold_inc : ∀ {l o : List T}, Inc o → Inc (l.foldl (fun o x => ins x o) o)
  | [], _, h => h
  | _ :: l, _, h => fold_inc (l := l) (ins_inc h)
theorem fold_mem {z : T} : ∀ {l o : List T}, z ∈ l.foldl (fun o x => ins x o) o ↔ z ∈ o ∨ z ∈ l
  | [], _ => by simp
  | x :: l, o => by
    show z ∈ l.foldl (fun o x => ins x o) (ins x o) ↔ _
    rw [fold_mem, mem_ins, List.mem_cons]
    constructor
    · rintro ((h | h) | h) <;> simp [h]
    · rintro (h | h | h) <;> simp [h]
theorem srt_inc (l : List T) : Inc (srt l) := fold_inc List.Pairwise.nil
theorem mem_srt {l : List T} {z : T} : z ∈ srt l ↔ z ∈ l := by unfold srt; rw [fold_mem]; simp
theorem fold_len : ∀ {l o : List T}, Inc o → (l.foldl (fun o x => ins x o) o).length ≤ o.length + l.length ∧ ((l.foldl (fun o x => ins x o) o).length = o.length + l.length ↔ l.Nodup ∧ ∀ x ∈ l, x ∉ o)
  | [], o, h => by simp
  | x :: l, o, h => by
    have ih := fold_len (l := l) (ins_inc (x := x) h)
    have hl := ins_len (x := x) h
    show (l.foldl (fun o x => ins x o) (ins x o)).length ≤ _ ∧ ((l.foldl (fun o x => ins x o) (ins x o)).length = _ ↔ _)
    by_cases hm : x ∈ o
    · rw [hl.1 hm] at ih
      simp only [List.length_cons]
      refine ⟨by omega, ⟨fun e => by omega, fun e => absurd hm (e.2 x List.mem_cons_self)⟩⟩
    · rw [hl.2 hm] at ih
      simp only [List.length_cons]
      refine ⟨by omega, ?_⟩
      rw [show o.length + (l.length + 1) = o.length + 1 + l.length by omega, ih.2, List.nodup_cons]
      constructor
      · rintro ⟨h1, h2⟩
        refine ⟨⟨fun hx => h2 x hx (mem_ins.2 (.inl rfl)), h1⟩, fun z hz => ?_⟩
        rcases List.mem_cons.1 hz with rfl | hz
        · exact hm
        · exact fun ho => h2 z hz (mem_ins.2 (.inr ho))
      · rintro ⟨⟨h1, h2⟩, h3⟩
        refine ⟨h2, fun z hz ho => ?_⟩
        rcases mem_ins.1 ho with rfl | ho
        · exact h1 hz
        · exact h3 z (List.mem_cons_of_mem _ hz) ho
theorem srt_len {l : List T} : (srt l).length = l.length ↔ l.Nodup := by
  have h := (fold_len (l := l) (o := []) List.Pairwise.nil).2
  simp only [List.length_nil, Nat.zero_add] at h
  unfold srt
  rw [h]
  simp
theorem srt_le (l : List T) : (srt l).length ≤ l.length := by
  have h := (fold_len (l := l) (o := []) List.Pairwise.nil).1
  simpa [srt] using h
theorem inc_nodup {l : List T} (h : Inc l) : l.Nodup := List.Pairwise.imp (S := (· ≠ ·)) (fun {a b} (hab : a < b) (e : a = b) => by subst e; exact List.lt_irrefl a hab) h
theorem inc_ext {a b : List T} (ha : Inc a) (hb : Inc b) (h : ∀ z, z ∈ a ↔ z ∈ b) : a = b :=
  List.Perm.eq_of_pairwise (le := fun x y : T => x < y) (fun _ _ _ _ h1 h2 => (lt_no h1 h2).elim) ha hb ((List.perm_ext_iff_of_nodup (inc_nodup ha) (inc_nodup hb)).2 h)
theorem srt_congr {l l' : List T} (h : ∀ z, z ∈ l ↔ z ∈ l') : srt l = srt l' := inc_ext (srt_inc l) (srt_inc l') fun z => by rw [mem_srt, mem_srt, h]
theorem srt_rev (l : List T) : srt l.reverse = srt l := srt_congr fun z => List.mem_reverse
/-- what sorting gives, where none is there twice -/
theorem mergeSort_srt {ss ks : List T} (hp : ss.Perm ks) (hn : ks.Nodup) : (ss.mergeSort (fun x y => decide (x ≤ y))) = srt ks := by
  have tr : ∀ a b c : T, (decide (a ≤ b)) = true → (decide (b ≤ c)) = true → (decide (a ≤ c)) = true := fun a b c h1 h2 => by simp only [decide_eq_true_eq] at *; exact List.le_trans h1 h2
  have to : ∀ a b : T, ((decide (a ≤ b)) || (decide (b ≤ a))) = true := fun a b => by simp only [Bool.or_eq_true, decide_eq_true_eq]; exact List.le_total a b
  have hpm := (List.mergeSort_perm ss (fun x y => decide (x ≤ y))).trans hp
  have hs := List.pairwise_mergeSort tr to ss
  have hnd : (ss.mergeSort (fun x y => decide (x ≤ y))).Nodup := hpm.nodup_iff.2 hn
  refine inc_ext ?_ (srt_inc ks) fun z => by rw [mem_srt]; exact hpm.mem_iff
  refine (List.pairwise_and_iff.2 ⟨hs, hnd⟩).imp fun {a b} h => ?_
  by_cases hq : a < b
  · exact hq
  · have h1 : a ≤ b := by simpa using h.1
    exact absurd (List.le_antisymm h1 (List.not_lt.1 hq)) h.2
/-- where a text would stand -/
def cut (x : T) : List T → Nat
  | [] => 0
  | y :: l => if y < x then cut x l + 1 else 0
theorem cut_le (x : T) : ∀ l : List T, cut x l ≤ l.length
  | [] => Nat.le_refl _
  | y :: l => by
    unfold cut
    split
    · have := cut_le x l; simp; omega
    · simp
theorem cut_lt {x : T} : ∀ {l : List T} {k : Nat}, k < cut x l → l.getD k [] < x
  | y :: l, k, h => by
    unfold cut at h
    split at h
    · rename_i hy
      cases k with
      | zero => exact hy
      | succ k => exact cut_lt (l := l) (by omega)
    · omega
theorem cut_at {x : T} : ∀ {l : List T}, cut x l < l.length → ¬l.getD (cut x l) [] < x
  | y :: l, h => by
    unfold cut at h ⊢
    split
    · rename_i hy
      rw [if_pos hy] at h
      exact cut_at (l := l) (by simpa using h)
    · rename_i hy
      exact hy
theorem ins_same {x : T} : ∀ {l : List T}, cut x l < l.length → l.getD (cut x l) [] = x → ins x l = l
  | y :: l, h, e => by
    unfold cut at h e
    unfold ins
    split
    · rename_i hy
      rw [if_pos hy] at h e
      rw [ins_same (l := l) (by simpa using h) e]
    · rename_i hy
      rw [if_neg hy] at e
      rw [if_pos (show y = x from e)]
theorem ins_put {x : T} : ∀ {l : List T}, (cut x l < l.length → l.getD (cut x l) [] ≠ x) → ins x l = l.take (cut x l) ++ x :: l.drop (cut x l)
  | [], _ => rfl
  | y :: l, h => by
    unfold cut at h ⊢
    unfold ins
    split
    · rename_i hy
      rw [if_pos hy] at h
      rw [ins_put (l := l) (fun hl => by have := h (by simpa using hl); simpa using this)]
      rfl
    · rename_i hy
      rw [if_neg hy] at h
      rw [if_neg (show ¬y = x from h (by simp))]
      rfl
theorem srt_step {l : List T} {i : Nat} (h : i < l.length) : srt (l.take (i + 1)) = ins (l.getD i []) (srt (l.take i)) := by
  unfold srt
  rw [List.take_succ_eq_append_getElem h, List.foldl_append, List.getD_eq_getElem?_getD, List.getElem?_eq_getElem h]
  rfl
/-! values by names -/
section
variable {α : Type}
theorem idx_at : ∀ {ns : List T} {j : Nat} {s : T}, ns.Nodup → ns[j]? = some s → ns.idxOf s = j
  | n :: ns, 0, s, _, h => by cases h; simp
  | n :: ns, j + 1, s, hn, h => by
    have h' := List.nodup_cons.1 hn
    have h2 : ns[j]? = some s := by simpa using h
    have hne : n ≠ s := fun e => h'.1 (e ▸ List.mem_of_getElem? h2)
    rw [List.idxOf_cons, show (n == s) = false by simpa using hne]
    simp [idx_at h'.2 h2]
/-- the value that stands for a name -/
def pick (d : α) (ns : List T) (us : List α) (s : T) : α := us.getD (ns.idxOf s) d
theorem pick_at {d : α} {ns : List T} {us : List α} {j : Nat} {s : T} {u : α} (hn : ns.Nodup) (h : ns[j]? = some s) (hu : us[j]? = some u) : pick d ns us s = u := by
  unfold pick
  rw [idx_at hn h, List.getD_eq_getElem?_getD, hu]
  rfl
theorem pick_map {β : Type} {d : α} {f : α → β} {ns : List T} {us : List α} {s : T} : pick (f d) ns (us.map f) s = f (pick d ns us s) := by
  unfold pick
  simp only [List.getD_eq_getElem?_getD, List.getElem?_map]
  cases us[ns.idxOf s]? <;> rfl
/-- the values by names, in the names' order -/
def vals (d : α) (ns : List T) (us : List α) : List α := (srt ns).map (pick d ns us)
theorem vals_len {d : α} {ns : List T} {us : List α} : (vals d ns us).length = (srt ns).length := List.length_map _
theorem rev_at {β : Type} {l : List β} {j : Nat} {b : β} (h : l[j]? = some b) : l.reverse[l.length - 1 - j]? = some b := by
  have hj := (List.getElem?_eq_some_iff.1 h).1
  rw [List.getElem?_reverse (by omega), ← h]
  congr 1
  omega
theorem mem_at {l : List T} {s : T} (h : s ∈ l) : ∃ j : Nat, l[j]? = some s := List.mem_iff_getElem?.1 h
theorem vals_rev {d : α} {ns : List T} {us : List α} (hn : ns.Nodup) (hl : us.length = ns.length) : vals d ns.reverse us.reverse = vals d ns us := by
  unfold vals
  rw [srt_rev]
  refine List.map_congr_left fun s hs => ?_
  obtain ⟨j, hj⟩ := mem_at (mem_srt.1 hs)
  have hlt := (List.getElem?_eq_some_iff.1 hj).1
  obtain ⟨u, hu⟩ : ∃ u, us[j]? = some u := ⟨_, List.getElem?_eq_getElem (by omega)⟩
  have h2 := rev_at hu
  rw [hl] at h2
  rw [pick_at hn hj hu, pick_at ((List.reverse_perm ns).nodup_iff.2 hn) (rev_at hj) h2]
theorem vals_set {d x : α} {ns : List T} {us : List α} (hn : ns.Nodup) (hl : us.length = ns.length) {m : Nat} (hm : m < ns.length) (hx : ∀ u ∈ us, u ≠ x) : vals d ns (us.set m x) ≠ vals d ns us := fun e => by
  unfold vals at e
  have hs : ns[m]? = some ns[m] := List.getElem?_eq_getElem hm
  have h1 := List.map_inj_left.1 e ns[m] (mem_srt.2 (List.getElem_mem hm))
  have hu : us[m]? = some us[m] := List.getElem?_eq_getElem (by omega)
  rw [pick_at hn hs hu, pick_at hn hs (u := x) (by rw [List.getElem?_set_self (by omega)])] at h1
  exact hx _ (List.getElem_mem _) h1.symm
/-- as many numbers -/
def upto (n : Nat) : List (Option Nat) := (List.range n).map some
theorem upto_len (n : Nat) : (upto n).length = n := by simp [upto]
theorem upto_at {n i : Nat} (h : i < n) : (upto n)[i]? = some (some i) := by unfold upto; rw [List.getElem?_map, List.getElem?_range h]; rfl
theorem upto_some {n : Nat} : ∀ u ∈ upto n, u ≠ none := fun u hu => by
  obtain ⟨i, _, rfl⟩ := List.mem_map.1 hu
  exact fun h => by cases h
theorem upto_rev {n i : Nat} (h : i < n) : (upto n).reverse[i]? = some (some (n - 1 - i)) := by
  rw [List.getElem?_reverse (by rw [upto_len]; exact h), upto_len, upto_at (by omega)]
end
end Go.Ss
