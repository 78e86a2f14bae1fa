/-
  Proved here: guarded steps in plans that fork; a call's memory as memory that was there; small programs' bounds. No program stands here.
-/
import Derived.Test.YtgijpgkckiknjaaGreatDoorMt
import Derived.Test.YtgijpgkckiknjaaGreatDoorByX
import Derived.Test.YtgijpgkckiknjaaGreatDoorLgP
import Derived.Test.YtgijpgkckiknjaaGreatDoorCkS
namespace Go.SX
open Go.RowKit
section
variable {P : Program} {ops : Array Oper} {n : Nat} {D : List Deferred} {l l' : Fr} {W W' S : World → Prop} {o : Oper} {d : Nat} {v : Value} {Q : Exit → Act → World → Prop} {r ri rj : Pl} {pend : List Nat} {i j : Nat}
theorem MT.caseB {s : Nat} {b : Bool} (_hs : get l s = some (.bool b)) (hT : b = true → MT P ops n D Q S l W r pend) (hF : b = false → MT P ops n D Q S l W r pend) : MT P ops n D Q S l W r pend := by
  cases b
  · exact hF rfl
  · exact hT rfl
theorem MT.gT0 {j s : Nat} {b want : Bool} (hi : ops[i]? = some o) (hg : o.guard = some (j, want)) (hj : (ops[j]?).bind (·.dst) = some s) (hs : get l s = some (.bool b)) (hb : b = want)
    (hy : Y P l (fun _ => True) o.op o.type v) (hd : o.dst = some d) (hdn : Nat.blt d n = true)
    (h : MT P ops n D Q S ((d, v) :: l) W r pend) : MT P ops n D Q S l W (.step i .anywhere r) pend := by
  intro a w ha hW
  refine ⟨o, v, hi, .inl ⟨by simp [Region.wanted, hg, ha.yielded hj hs, hb], fun w => hy a.eval ha.eval o rfl rfl w trivial⟩, ?_⟩
  rw [hd]; exact h _ _ (ha.put hdn v) hW
theorem MT.gF0 {j s : Nat} {b want : Bool} (hi : ops[i]? = some o) (hg : o.guard = some (j, want)) (hj : (ops[j]?).bind (·.dst) = some s) (hs : get l s = some (.bool b)) (hb : b = !want)
    (hd : o.dst = some d) (hdn : Nat.blt d n = true)
    (h : MT P ops n D Q S ((d, undef) :: l) W r pend) : MT P ops n D Q S l W (.step i .anywhere r) pend := by
  intro a w ha hW
  refine ⟨o, undef, hi, .inr ⟨by simp only [Region.wanted, hg, ha.yielded hj hs, hb]; cases want <;> rfl, rfl⟩, ?_⟩
  rw [hd]; exact h _ _ (ha.put hdn undef) hW
theorem CX.regionTS (S : World → Prop) [hst : Stab W] {id : Nat} {lo : List Oper} (t : Pl) (hm : P.follows .mixedOrders = true) (hB : (Region.noSelect lo.toArray && treeOk .any lo.toArray t (Array.replicate lo.toArray.size false) && (t.depth == lo.toArray.size)) = true)
    (h : MT P lo.toArray n D Q S l W t []) : CX P n D Q l W (.region id lo.toArray true) := by
  intro a w ha hW
  simp only [Bool.and_eq_true, beq_iff_eq] at hB
  refine wp_mono ?_ (noPanic_imp (Q := Q))
  refine wp_region_any hm (wpAny_of_M (S := S) _ _ [] _ _ ?_)
  have h1 := wpAnyM_tree (Q := noPanic Q) (S := S) hB.1.1 (fun _ _ _ _ _ h => h) t _ [] a _ hB.1.2 (fun h => absurd rfl h) (h a _ ha (Stab.drew hW))
  rw [hB.2] at h1
  exact h1
variable {m : Mode} {rest : List Oper} {w0 : World} {base : Nat} {its : List It}
/-- on with another class of worlds, of which more is known -/
theorem LX.riseTo (Φ : World → Nat → Prop) (its : List It) (h1 : ∀ w, W w → ∃ w2 n2, Φ w2 n2 ∧ WA w2 n2 its w) (h2 : ∀ w2 n2, Φ w2 n2 → LX P ops n D (.plain Q) l (WA w2 n2 its) rest) : LX P ops n D (.plain Q) l W rest := fun a w ha hW => by
  obtain ⟨w2, n2, h3, h4⟩ := h1 w hW
  exact h2 w2 n2 h3 a w ha h4
end
/-- a block that was owned, as memory that was there -/
theorem blk_lies {w0 w : World} {base : Nat} {its : List It} (hw : WA w0 base its w) {i b T : Nat} {cs : List Value} (hi : its[i]? = some (blk b cs T)) : Lies w w.heap.size ⟨b, 0, none⟩ cs := ⟨fun j u hj => by
  have h1 := hw.cell hi hj
  have e : (⟨b, 0, none⟩ : Addr).add j = ⟨b, j, none⟩ := by rw [Addr.add_mid, Nat.zero_add]
  rw [e]
  have h2 := World.block_lt_of_cell? w ⟨b, j, none⟩ h1
  exact ⟨h2, h1⟩⟩
theorem It.holds.mono {it : It} {base base' : Nat} {w : World} (h : it.holds base w) (hb : base' ≤ base) : it.holds base' w := by
  cases it with
  | obj b o => exact ⟨Nat.le_trans hb h.1, h.2⟩
  | row g cap n e size xs =>
    obtain ⟨h1, h2⟩ := h
    exact ⟨h1, h2.imp id fun ⟨g, cap, cur, e1, e2, r⟩ => ⟨g, cap, cur, e1, Nat.le_trans hb e2, r⟩⟩
/-- what a call leaves, laid on what was there -/
theorem WA.onto1 {w0 w w' : World} {base : Nat} {its : List It} {it : It} (h : WA w0 base its w) (h' : WA w w.heap.size [it] w') : WA w0 base (it :: its) w' :=
  h.cons h'.below ((h'.all it List.mem_cons_self).mono h.fits) fun k hk => ((h'.all it List.mem_cons_self).lt k hk).1
end Go.SX
namespace Go.By
open Go.SX Go.Ck
theorem flat_bound {α : Type} {f : α → List UInt8} {c : Nat} : ∀ (l : List α), (∀ x ∈ l, (f x).length ≤ c) → (l.flatMap f).length ≤ c * l.length
  | [], _ => by simp
  | x :: l, h => by
    rw [List.flatMap_cons, List.length_append, List.length_cons, Nat.mul_add]
    have h1 := h x List.mem_cons_self
    have h2 := flat_bound l fun y hy => h y (List.mem_cons_of_mem _ hy)
    omega
theorem nat_inI {n : Nat} (h : n ≤ 1048576) : inI (n : Int) := by unfold inI; omega
theorem txt_bound {s : List UInt8} {n : Nat} (h : s.length ≤ n) (hn : n ≤ 1048576) : (txt s).length ≤ n + 10 := by
  unfold txt
  rw [List.length_append]
  have := num_len (nat_inI (Nat.le_trans h hn))
  omega
theorem txts_bound {l : List (List UInt8)} {m n : Nat} (hl : l.length ≤ m) (hm : m ≤ 1048576) (hs : ∀ s ∈ l, s.length ≤ n) (hn : n ≤ 1048576) : (txts l).length ≤ 10 + (n + 10) * l.length := by
  unfold txts
  rw [List.length_append]
  have h1 := num_len (nat_inI (Nat.le_trans hl hm))
  have h2 := flat_bound (f := txt) l fun s hs' => txt_bound (hs s hs') hn
  omega
/-- numbers of a program, as they are given -/
def ckI (p : Pg) : Prop := (∀ x ∈ p.consts, inI x.op) ∧ ∀ f ∈ p.funcs, (inI f.params ∧ inI f.given ∧ inI f.slots) ∧ ∀ i ∈ f.code, insI i
theorem ck_in {M : Rd} {X : Cx} {p : Pg} {f : Fc} (h : CkAt M X p f) : ckI p := by
  refine ⟨fun x hx => ?_, fun g hg => ?_⟩
  · obtain ⟨i, hi⟩ := List.mem_iff_getElem?.1 hx
    obtain ⟨_, _, _, _, _, vk, _, _, h1, _⟩ := h.hC i x hi
    exact h1
  · obtain ⟨i, hi⟩ := List.mem_iff_getElem?.1 hg
    obtain ⟨_, _, _, _, _, vn, vc, _, _, hcd, h1⟩ := h.hF i g hi
    refine ⟨h1, fun q hq => ?_⟩
    obtain ⟨k, hk⟩ := List.mem_iff_getElem?.1 hq
    obtain ⟨ad, cd, rfl, _, hda⟩ := hcd.sl
    obtain ⟨_, _, _, _, _, _, h2⟩ := hda k q hk
    exact h2
/-- a constant has an op and a text alone -/
def plainK (x : Nd) : Prop := x.n = 0 ∧ x.pos = 0 ∧ x.kids = []
theorem light_I {p : Pg} (hl : lightB p) (hi : ckI p) (hk : ∀ x ∈ p.consts, plainK x) : pgI p := by
  obtain ⟨⟨h1, ⟨h2, h3⟩, ⟨h4, h5⟩, h6, h7⟩, h8⟩ := hl
  refine ⟨⟨by omega, fun x hx => ⟨hi.1 x hx, by have := (h3 x hx).2; omega, hk x hx⟩⟩, ⟨by omega, fun s hs => by have := h5 s hs; omega⟩, ⟨by omega, fun s hs => by have := h7 s hs; omega⟩, by omega, fun f hf => ?_⟩
  obtain ⟨g1, g2, g3, g4⟩ := h8 f hf
  obtain ⟨q1, q2⟩ := hi.2 f hf
  exact ⟨by omega, q1, ⟨by omega, fun s hs => by have := g4 s hs; omega⟩, by omega, q2⟩
theorem ins_bound {i : Ins} (h : insI i) : (insB i).length ≤ 40 := by
  unfold insB
  simp only [List.length_append]
  have h1 := num_len h.1
  have h2 := num_len h.2.1
  have h3 := num_len h.2.2.1
  have h4 := num_len h.2.2.2
  omega
theorem light_len {p : Pg} (hl : lightB p) (hi : ckI p) : (pgB p).length ≤ 100000000 := by
  obtain ⟨⟨h1, ⟨h2, h3⟩, ⟨h4, h5⟩, h6, h7⟩, h8⟩ := hl
  have e : (pgB p).length = 3 + (num p.consts.length).length + (p.consts.flatMap cB).length + (txts p.globals).length + (txts p.names).length + (num p.funcs.length).length + (p.funcs.flatMap fnB).length := by
    unfold pgB
    simp only [List.length_append]
    show 3 + _ = _
    omega
  have b1 := num_len (nat_inI (n := p.consts.length) (by omega))
  have b2 := flat_bound (f := cB) (c := 320) p.consts fun x hx => by
    unfold cB
    rw [List.length_append]
    have q1 := num_len (hi.1 x hx)
    have q2 := txt_bound (h3 x hx).2 (by decide)
    omega
  have b3 := txts_bound h4 (by decide) h5 (by decide)
  have b4 := txts_bound h6 (by decide) h7 (by decide)
  have b5 := num_len (nat_inI (n := p.funcs.length) (by omega))
  have b6 := flat_bound (f := fnB) (c := 20000) p.funcs fun f hf => by
    obtain ⟨g1, g2, g3, g4⟩ := h8 f hf
    obtain ⟨⟨i1, i2, i3⟩, q2⟩ := hi.2 f hf
    unfold fnB
    simp only [List.length_append]
    have c1 := txt_bound g2 (by decide)
    have c2 := num_len i1
    have c3 := num_len i2
    have c4 := num_len i3
    have c5 := txts_bound g3 (by decide) g4 (by decide)
    have c6 := num_len (nat_inI (n := f.code.length) (by omega))
    have c7 := flat_bound (f := insB) (c := 40) f.code fun i hi => ins_bound (q2 i hi)
    omega
  omega
/-- what goes wrong in reading is one of three things -/
def E13 {α : Type} (r : Nat → Er (α × Nat)) : Prop := ∀ a e, r a = .error e → e.1 ≤ 13
theorem E13.two {α γ : Type} {r : Nat → Er (α × Nat)} (h1 : E13 r) {k : α → Nat → Er (γ × Nat)} (h2 : ∀ x, E13 (k x)) : E13 (fun a => (r a).bind fun q => k q.1 q.2) := fun a e h => by
  cases hr : r a with
  | error e' => have h : ((r a).bind fun q => k q.1 q.2) = .error e := h; rw [hr] at h; cases h; exact h1 a _ hr
  | ok q => have h : ((r a).bind fun q => k q.1 q.2) = .error e := h; rw [hr] at h; exact h2 q.1 q.2 e h
theorem E13.ok {α : Type} (f : Nat → α × Nat) : E13 (fun a => .ok (f a)) := fun a e h => by cases h
theorem rU_13 {b : List UInt8} : ∀ (f i a u : Nat) (e : Nat × Nat), rU b f i a u = .error e → e.1 ≤ 13
  | 0, _, _, _, _, h => by cases h
  | f + 1, i, a, u, e, h => by
    cases hc : b[a]? with
    | none => rw [rU_end (List.getElem?_eq_none_iff.1 hc)] at h; cases h; simp
    | some c =>
      by_cases hbad : (i = 9 ∧ 1 < c.toNat) ∨ (0 < i ∧ c.toNat = 0)
      · rw [rU_bad hc hbad] at h; cases h; simp
      · by_cases hl : c.toNat < 128
        · rw [rU_last hc hbad hl] at h; cases h
        · rw [rU_more hc hbad hl] at h; exact rU_13 f (i + 1) (a + 1) _ e h
theorem rNum_13 {b : List UInt8} : E13 (rNum b) := fun a e h => by
  unfold rNum at h
  cases hr : rU b 10 0 a 0 with
  | error e' => rw [hr] at h; cases h; exact rU_13 10 0 a 0 _ hr
  | ok q => rw [hr] at h; cases h
theorem rCount_13 {b : List UInt8} : E13 (rCount b) := fun a e h => by
  unfold rCount at h
  cases hr : rNum b a with
  | error e' => rw [hr] at h; cases h; exact rNum_13 a _ hr
  | ok q =>
    rw [hr] at h
    have h1 : (if 1048576 < q.1 then Except.error (9, a) else if q.1 < 0 then Except.error (12, a) else Except.ok (q.1.toNat, q.2) : Er (Nat × Nat)) = .error e := h
    split at h1
    · cases h1; simp
    · split at h1
      · cases h1; simp
      · cases h1
theorem rText_13 {b : List UInt8} : E13 (rText b) := fun a e h => by
  unfold rText at h
  cases hr : rCount b a with
  | error e' => rw [hr] at h; cases h; exact rCount_13 a _ hr
  | ok q =>
    rw [hr] at h
    have h1 : (if b.length - q.2 < q.1 then Except.error (13, b.length) else Except.ok ((b.drop q.2).take q.1, q.2 + q.1) : Er (List UInt8 × Nat)) = .error e := h
    split at h1
    · cases h1; simp
    · cases h1
theorem rMany_13 {α : Type} {item : Nat → Er (α × Nat)} (hi : E13 item) : ∀ n, E13 (rMany item n)
  | 0 => fun a e h => by cases h
  | n + 1 => E13.two hi (k := fun x a => (rMany item n a).bind fun r => .ok (x :: r.1, r.2)) fun x => E13.two (rMany_13 hi n) (k := fun l a => .ok (x :: l, a)) fun l => E13.ok fun a => (x :: l, a)
theorem many_13 {α : Type} {b : List UInt8} {item : Nat → Er (α × Nat)} (hi : E13 item) : E13 (fun a => (rCount b a).bind fun k => rMany item k.1 k.2) := E13.two rCount_13 fun n => rMany_13 hi n
theorem rTexts_13 {b : List UInt8} : E13 (rTexts b) := many_13 rText_13
theorem rIns_13 {b : List UInt8} : E13 (rIns b) :=
  E13.two rNum_13 (k := fun o a => (rNum b a).bind fun x => (rNum b x.2).bind fun y => (rNum b y.2).bind fun z => .ok ((⟨o, x.1, y.1, z.1⟩ : Ins), z.2)) fun o =>
  E13.two rNum_13 (k := fun x a => (rNum b a).bind fun y => (rNum b y.2).bind fun z => .ok ((⟨o, x, y.1, z.1⟩ : Ins), z.2)) fun x =>
  E13.two rNum_13 (k := fun y a => (rNum b a).bind fun z => .ok ((⟨o, x, y, z.1⟩ : Ins), z.2)) fun y =>
  E13.two rNum_13 (k := fun z a => .ok ((⟨o, x, y, z⟩ : Ins), a)) fun z => E13.ok fun a => ((⟨o, x, y, z⟩ : Ins), a)
theorem rC_13 {b : List UInt8} : E13 (rC b) :=
  E13.two rNum_13 (k := fun o a => (rText b a).bind fun x => .ok ((⟨o, 0, 0, x.1, []⟩ : Nd), x.2)) fun o =>
  E13.two rText_13 (k := fun x a => .ok ((⟨o, 0, 0, x, []⟩ : Nd), a)) fun x => E13.ok fun a => ((⟨o, 0, 0, x, []⟩ : Nd), a)
theorem E13.ext {α : Type} {r r' : Nat → Er (α × Nat)} (h : E13 r) (he : ∀ a, r' a = r a) : E13 r' := fun a e hr => h a e ((he a).symm.trans hr)
theorem rFn_13 {b : List UInt8} : E13 (rFn b) :=
  E13.two rText_13 (k := fun n a => (rNum b a).bind fun x => (rNum b x.2).bind fun y => (rNum b y.2).bind fun z => (rTexts b z.2).bind fun l => (rCount b l.2).bind fun k => (rMany (rIns b) k.1 k.2).bind fun c => .ok ((⟨n, x.1, y.1, z.1, l.1, c.1⟩ : Fc), c.2)) fun n =>
  E13.two rNum_13 (k := fun x a => (rNum b a).bind fun y => (rNum b y.2).bind fun z => (rTexts b z.2).bind fun l => (rCount b l.2).bind fun k => (rMany (rIns b) k.1 k.2).bind fun c => .ok ((⟨n, x, y.1, z.1, l.1, c.1⟩ : Fc), c.2)) fun x =>
  E13.two rNum_13 (k := fun y a => (rNum b a).bind fun z => (rTexts b z.2).bind fun l => (rCount b l.2).bind fun k => (rMany (rIns b) k.1 k.2).bind fun c => .ok ((⟨n, x, y, z.1, l.1, c.1⟩ : Fc), c.2)) fun y =>
  E13.two rNum_13 (k := fun z a => (rTexts b a).bind fun l => (rCount b l.2).bind fun k => (rMany (rIns b) k.1 k.2).bind fun c => .ok ((⟨n, x, y, z, l.1, c.1⟩ : Fc), c.2)) fun z =>
  E13.two rTexts_13 (k := fun l a => (rCount b a).bind fun k => (rMany (rIns b) k.1 k.2).bind fun c => .ok ((⟨n, x, y, z, l, c.1⟩ : Fc), c.2)) fun l =>
  (E13.two (many_13 rIns_13) (k := fun c a => .ok ((⟨n, x, y, z, l, c⟩ : Fc), a)) fun c => E13.ok fun a => ((⟨n, x, y, z, l, c⟩ : Fc), a)).ext fun _ => bind_many
theorem rHead_13 {b : List UInt8} : ∀ (r : List UInt8) (i : Nat) (e : Nat × Nat), rHead b i r = .error e → e.1 ≤ 13
  | [], _, _, h => by cases h
  | x :: r, i, e, h => by
    cases hc : b[i]? with
    | none => rw [rHead_end (List.getElem?_eq_none_iff.1 hc)] at h; cases h; simp
    | some c =>
      by_cases hch : c = x
      · subst hch
        rw [rHead_ok hc] at h
        exact rHead_13 r (i + 1) e h
      · rw [rHead_no hc hch] at h; cases h; simp
theorem rPg_13 {b : List UInt8} {e : Nat × Nat} (h : rPg b = .error e) : e.1 ≤ 13 := by
  unfold rPg at h
  cases h0 : rHead b 0 head with
  | error e' => rw [h0] at h; cases h; exact rHead_13 _ _ _ h0
  | ok u =>
    rw [h0] at h
    have h : ((rCount b 3).bind fun n => (rMany (rC b) n.1 n.2).bind fun c => (rTexts b c.2).bind fun g => (rTexts b g.2).bind fun m => (rCount b m.2).bind fun k => (rMany (rFn b) k.1 k.2).bind fun f => if f.2 < b.length then .error (12, f.2) else .ok (⟨f.1, c.1, g.1, m.1⟩ : Pg)) = Except.error e := h
    rw [bind_many] at h
    cases h1 : (rCount b 3).bind fun n => rMany (rC b) n.1 n.2 with
    | error e' => rw [h1] at h; cases h; exact many_13 rC_13 3 _ h1
    | ok c =>
      rw [h1] at h
      have h : ((rTexts b c.2).bind fun g => (rTexts b g.2).bind fun m => (rCount b m.2).bind fun k => (rMany (rFn b) k.1 k.2).bind fun f => if f.2 < b.length then .error (12, f.2) else .ok (⟨f.1, c.1, g.1, m.1⟩ : Pg)) = Except.error e := h
      cases h2 : rTexts b c.2 with
      | error e' => rw [h2] at h; cases h; exact rTexts_13 _ _ h2
      | ok g =>
        rw [h2] at h
        have h : ((rTexts b g.2).bind fun m => (rCount b m.2).bind fun k => (rMany (rFn b) k.1 k.2).bind fun f => if f.2 < b.length then .error (12, f.2) else .ok (⟨f.1, c.1, g.1, m.1⟩ : Pg)) = Except.error e := h
        cases h3 : rTexts b g.2 with
        | error e' => rw [h3] at h; cases h; exact rTexts_13 _ _ h3
        | ok m =>
          rw [h3] at h
          have h : ((rCount b m.2).bind fun k => (rMany (rFn b) k.1 k.2).bind fun f => if f.2 < b.length then .error (12, f.2) else .ok (⟨f.1, c.1, g.1, m.1⟩ : Pg)) = Except.error e := h
          rw [bind_many] at h
          cases h4 : (rCount b m.2).bind fun k => rMany (rFn b) k.1 k.2 with
          | error e' => rw [h4] at h; cases h; exact many_13 rFn_13 _ _ h4
          | ok f =>
            rw [h4] at h
            have h : (if f.2 < b.length then Except.error (12, f.2) else .ok ⟨f.1, c.1, g.1, m.1⟩ : Er Pg) = Except.error e := h
            split at h
            · cases h; simp
            · cases h
end Go.By
