/-
  Proved here: a constant's bytes: the row is marked behind its last cell; what is put behind it lies in a new row. No program stands here.
-/
import Derived.Test.YtgijpgkckiknjaaGreatDoorAt
namespace Go.SX
open Go.RowKit Go.Lib
section
variable {P : Program} {w0 : World} {base : Nat} {its : List It} {l : Fr} {ops : Array Oper} {n : Nat} {D : List Deferred} {Q : Exit → Act → World → Prop} {rest : List Oper} {o : Oper} {d : Nat} {x y : Operand}
/-- an item that can be put behind: a row, or a marked one that is full -/
def AppR (e : Nat) (I : It) (q : Option Nat × Nat) (k : Nat) (xs : List Value) : Prop :=
  I = .row q.1 q.2 k e 1 xs ∨ ∃ b fz, q = (some b, k) ∧ xs.length = k ∧ I = .obj b (.cells xs.toArray e fz)
theorem LX.appendI (i : Nat) {t j c e bytes k b : Nat} {I : It} {q : Option Nat × Nat} {xs news : List Value} {ats : Array TypeId} (he : Elem P t e 1 bytes) (hI : AppR e I q k xs)
    (ho : o.op = .call { callee := .builtin .append, args := #[x, y], argTypes := ats }) (hat : ats = #[t, t])
    (hx : evl l x = some (rv q.1 k q.2)) (hy : evl l y = some (.slice (some ⟨b, 0, none⟩) j c)) (hi : its[i]? = some I)
    (hl : news.length = j * 1) (h1 : news.all (·.oneCell') = true) (hj : 0 < j)
    (hbytes : (k + j) * bytes ≤ 140737488355328) (h63 : k + j ≤ 9223372036854775807)
    (hg : o.guard = none) (hd : o.dst = some d) (hdn : Nat.blt d n = true)
    (h : ∀ g' cap', LX P ops n D (.plain Q) ((d, rv g' (k + j) cap') :: l) (WA w0 base (its.set i (.row g' cap' (k + j) e 1 (xs ++ news)))) rest) :
    LX P ops n D (.plain Q) l (WA w0 base (.row (some b) c j e 1 news :: its)) (o :: rest) := by
  rcases hI with rfl | ⟨b2, fz, rfl, hxl, rfl⟩
  · exact LX.appendT i he ho hat hx hy hi hl h1 hbytes h63 hg hd hdn h
  · refine LX.effx (τ := Option Nat × Nat) (v := fun p => rv p.1 (k + j) p.2) (W' := fun p => WA w0 base (its.set i (.row p.1 p.2 (k + j) e 1 (xs ++ news)))) (fun ρ hρ w hW => ?_) hg hd hdn (fun p => h p.1 p.2)
    obtain ⟨inf, z, e1, e2, e3, e4, e5⟩ := he.ex
    have hW2 : WA w0 base its w := hW.drop (List.sublist_cons_self _ _)
    have hob := hW2.get hi
    have holds : ∀ q u, xs[q]? = some u → w.cell? ((⟨b2, 0, none⟩ : Addr).add q) = some u := by
      intro q u hu
      rw [Addr.add_lit]
      simp only [World.cell?, hob.2, Nat.zero_add]
      simpa using hu
    have hnews : ∀ q u, news[q]? = some u → w.cell? ((⟨b, 0, none⟩ : Addr).add q) = some u := fun q u hu => by
      have := (hW.rowCell (i := 0) rfl hu).1
      rw [Addr.add_lit]
      simpa using this
    have hfit := hW2.fits
    have hm : k + j ≤ maxLen := by unfold maxLen; omega
    have hr := run_append_grow (P := P) w t o.type e inf z he.ht e1 e2 ⟨b2, 0, none⟩ k k xs (by rw [e3, hxl, Nat.mul_one]) holds ⟨b, 0, none⟩ j c news (by rw [e3]; exact hl) hnews (by omega) (by omega) (by rw [e4]; exact growslice_fits (by omega) hbytes)
    have hlen : (xs ++ news).length = (k + j) * 1 := by rw [List.length_append, hxl, hl]; omega
    have hrow := row_grow (w := w) (base := base) (e := e) (size := 1) (k := k + j) (cap' := grownCap w (k + j) k e) (z := z) (all := xs ++ news) hfit hlen (grownCap_ge w (k + j) k e) (grownCap_le_maxLen w (k + j) k e hm) (by rw [e5])
    rw [show (xs ++ news).toArray = xs.toArray ++ news.toArray by simp] at hrow
    refine ⟨(some w.heap.size, _), _, ?_, hW2.others hi (w' := w.drew.alloc (.cells (xs.toArray ++ news.toArray ++ Builtin.zeroCells z.cells (grownCap w (k + j) k e - (k + j))) e)) rfl rfl rfl (by simp) (fun q hq _ => Below.heap_alloc w.drew _ q hq) hrow fun q hq => ?_⟩
    · subst hat
      simp only [execOp, ho, resolve, invoke, builtin, Sem.run_bind, Sem.run_pure, Result.andThen_ok, List.map_toArray, List.map_cons, List.map_nil, hρ _ _ hx, hρ _ _ hy]
      rw [show rv (some b2) k k = Value.slice (some ⟨b2, 0, none⟩) k k from rfl, hr]
      rfl
    · cases hq; exact .inr (Nat.le_refl _)
/-- '[]byte("abc")' of a constant: the full row is marked -/
theorem LX.convM (i : Nat) {g k e t : Nat} {xs : List Value} (ht : P.underlying t = some (.slice e)) (he : P.underlying e = some (.int .u8))
    (ho : o.op = .convert t t x) (hx : evl l x = some (.slice (some ⟨g, 0, none⟩) k k)) (hi : its[i]? = some (.row (some g) k k e 1 xs)) (hk : xs.length = k) (hk0 : 0 < k)
    (hg : o.guard = none) (hd : o.dst = some d) (hdn : Nat.blt d n = true)
    (h : LX P ops n D (.plain Q) ((d, .slice (some ⟨g, 0, none⟩) k k) :: l) (WA w0 base (its.set i (.obj g (.cells xs.toArray e (k, k + 1))))) rest) :
    LX P ops n D (.plain Q) l (WA w0 base its) (o :: rest) := by
  refine LX.effx (τ := Unit) (v := fun _ => .slice (some ⟨g, 0, none⟩) k k) (W' := fun _ => WA w0 base (its.set i (.obj g (.cells xs.toArray e (k, k + 1))))) (fun ρ hρ w hW => ?_) hg hd hdn (fun _ => h)
  obtain ⟨b, cur, hb, hbg, hh, _, _, hcs, htake⟩ := row_some (hW.get hi) hk0
  cases hb
  have hcur : cur = xs.toArray := by
    apply Array.ext'
    rw [← htake]
    simp only [List.toList_toArray]
    rw [List.take_of_length_le (by rw [Array.length_toList]; omega)]
  subst hcur
  have hsz : xs.toArray.size = k := by simpa using hk
  have hsh : w.shape? g = some (e, k) := by
    unfold World.shape?
    rw [hh]
    simp [hk]
  refine ⟨(), w.freeze ⟨g, k, none⟩ 1, ?_, ?_⟩
  · simp [execOp, ho, hρ _ _ hx, convert, run_underlying ht, run_underlying he, markStringish, hsh]
  · have hlt : g < w.heap.size := (Array.getElem?_eq_some_iff.1 hh).1
    have hf1 : (w.freeze ⟨g, k, none⟩ 1).os = w.os ∧ (w.freeze ⟨g, k, none⟩ 1).tape = w.tape ∧ (w.freeze ⟨g, k, none⟩ 1).output = w.output ∧ (w.freeze ⟨g, k, none⟩ 1).heap.size = w.heap.size := by
      unfold World.freeze
      rw [if_neg (by decide)]
      exact ⟨rfl, rfl, rfl, by simp⟩
    have hf2 : ∀ q, (w.freeze ⟨g, k, none⟩ 1).heap[q]? = if g = q then some (.cells xs.toArray e (k, k + 1)) else w.heap[q]? := by
      intro q
      unfold World.freeze
      rw [if_neg (by decide)]
      simp only [Array.getElem?_modify]
      split
      · next heq => subst heq; rw [hh]; rfl
      · rfl
    refine hW.others hi hf1.1 hf1.2.1 hf1.2.2.1 (by rw [hf1.2.2.2]; exact Nat.le_refl _) (fun q _ hne => ?_) ⟨hbg, ?_⟩ fun q hq => .inl hq
    · rw [hf2, if_neg (fun e => hne (by rw [e]; rfl))]
    · rw [hf2, if_pos rfl]
end
end Go.SX
