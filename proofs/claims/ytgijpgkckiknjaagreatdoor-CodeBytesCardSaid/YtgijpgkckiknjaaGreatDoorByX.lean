/-
  Proved here: bytes that are read as a program are just the bytes that this program is written as, as plain values. No program stands here.
-/
import Derived.Test.YtgijpgkckiknjaaGreatDoorByR
namespace Go.By
open Go.SX Go.Ck
variable {b : List UInt8}
theorem Pre.join {a : Nat} {s t : List UInt8} (h1 : Pre b a s) (h2 : Pre b (a + s.length) t) : Pre b a (s ++ t) := by
  obtain ⟨r, hr⟩ := h1
  have h3 : b.drop (a + s.length) = r := by rw [← List.drop_drop, ← hr, List.drop_left]
  unfold Pre at h2
  rw [h3] at h2
  obtain ⟨q, hq⟩ := h2
  exact ⟨q, by rw [List.append_assoc, hq, hr]⟩
theorem Pre.one {a : Nat} {c : UInt8} (h : b[a]? = some c) : Pre b a [c] := by
  have ha : a < b.length := (List.getElem?_eq_some_iff.1 h).1
  refine ⟨b.drop (a + 1), ?_⟩
  rw [List.drop_eq_getElem_cons ha]
  have : b[a] = c := (List.getElem?_eq_some_iff.1 h).2
  rw [this]; rfl
theorem Pre.cons {a : Nat} {c : UInt8} {s : List UInt8} (h : b[a]? = some c) (h2 : Pre b (a + 1) s) : Pre b a (c :: s) := Pre.join (s := [c]) (Pre.one h) h2
theorem Pre.nil (a : Nat) : Pre b a [] := ⟨b.drop a, rfl⟩
theorem zig_unzig (u : Nat) : zig (unzig u) = u := by
  unfold zig unzig
  split <;> split <;> omega
theorem rU_inv : ∀ (f i a u v a' : Nat), f + i = 10 → u < 2 ^ (7 * i) → rU b f i a u = .ok (v, a') → ∃ d, v = u + d * 2 ^ (7 * i) ∧ ((0 < f ∧ 0 < i) → 0 < d) ∧ (0 < f → Pre b a (leb d) ∧ a' = a + (leb d).length ∧ v < 18446744073709551616)
  | 0, i, a, u, v, a', hf, hu, h => by
    have : (u, a) = (v, a') := by injection h
    injection this with h1 h2
    exact ⟨0, by omega, fun h => absurd h.1 (by omega), fun h => absurd h (by omega)⟩
  | f + 1, i, a, u, v, a', hf, hu, h => by
    have hi : i ≤ 9 := by omega
    cases hc : b[a]? with
    | none =>
      have hl : b.length ≤ a := List.getElem?_eq_none_iff.1 hc
      rw [rU_end hl] at h; cases h
    | some c =>
      by_cases hbad : (i = 9 ∧ 1 < c.toNat) ∨ (0 < i ∧ c.toNat = 0)
      · rw [rU_bad hc hbad] at h; cases h
      · obtain ⟨hs1, hs2, hs3, hs4⟩ := byte_step hi hu hbad
        by_cases hl : c.toNat < 128
        · rw [rU_last hc hbad hl] at h
          have : (u + c.toNat % 128 * 2 ^ (7 * i), a + 1) = (v, a') := by injection h
          injection this with h1 h2
          have hm : c.toNat % 128 = c.toNat := Nat.mod_eq_of_lt hl
          refine ⟨c.toNat, by rw [← h1, hm], fun hp => by omega, fun _ => ?_⟩
          have hleb : leb c.toNat = [c] := by rw [leb_lt hl]; congr 1; exact UInt8.toNat_inj.1 (u8_toNat c.toNat_lt)
          rw [hleb]
          exact ⟨Pre.one hc, h2.symm, by omega⟩
        · rw [rU_more hc hbad hl] at h
          have hpos : 0 < f := by
            rcases Nat.eq_zero_or_pos f with rfl | h0
            · obtain rfl : i = 9 := by omega
              omega
            · exact h0
          obtain ⟨d, hd1, hd2, hd3⟩ := rU_inv f (i + 1) (a + 1) _ v a' (by omega) hs3 h
          obtain ⟨hp, ha, hv⟩ := hd3 hpos
          have hd0 := hd2 ⟨hpos, by omega⟩
          have hpow : (2 : Nat) ^ (7 * (i + 1)) = 128 * 2 ^ (7 * i) := by rw [show 7 * (i + 1) = 7 + 7 * i by omega, Nat.pow_add]
          refine ⟨c.toNat % 128 + 128 * d, ?_, fun _ => by omega, fun _ => ?_⟩
          · rw [hd1, hpow, Nat.add_mul, Nat.add_assoc, ← Nat.mul_assoc, Nat.mul_comm d 128]
          · have hleb : leb (c.toNat % 128 + 128 * d) = c :: leb d := by
              rw [leb_ge (by omega), show (c.toNat % 128 + 128 * d) / 128 = d by omega]
              congr 1
              have hc2 := c.toNat_lt
              rw [show (c.toNat % 128 + 128 * d) % 128 + 128 = c.toNat by omega]
              exact UInt8.toNat_inj.1 (u8_toNat c.toNat_lt)
            rw [hleb]
            exact ⟨Pre.cons hc hp, by rw [ha, List.length_cons]; omega, hv⟩
/-- what a reader tells of a writer -/
def Inv {α : Type} (b : List UInt8) (r : Nat → Er (α × Nat)) (wr : α → List UInt8) (Q : α → Prop) : Prop := ∀ a x a', r a = .ok (x, a') → Pre b a (wr x) ∧ a' = a + (wr x).length ∧ Q x
theorem rNum_inv : Inv b (rNum b) num inI := fun a x a' h => by
  unfold rNum at h
  cases hr : rU b 10 0 a 0 with
  | error e => rw [hr] at h; cases h
  | ok q =>
    rw [hr] at h
    have h1 : (unzig q.1, q.2) = (x, a') := by injection h
    injection h1 with h2 h3
    obtain ⟨d, hd1, _, hd3⟩ := rU_inv 10 0 a 0 q.1 q.2 rfl (by decide) hr
    obtain ⟨hp, ha, hv⟩ := hd3 (by decide)
    have hd : d = q.1 := by rw [hd1]; simp
    subst hd
    have hn : num x = leb q.1 := by rw [← h2]; unfold num; rw [zig_unzig]
    rw [hn, ← h3, ← h2]
    exact ⟨hp, ha, unzig_inI hv⟩
theorem rCount_inv : Inv b (rCount b) (fun n => num n) (fun n => n ≤ 1048576) := fun a x a' h => by
  unfold rCount at h
  cases hr : rNum b a with
  | error e => rw [hr] at h; cases h
  | ok q =>
    rw [hr] at h
    have h1 : (if 1048576 < q.1 then Except.error (9, a) else if q.1 < 0 then Except.error (12, a) else Except.ok (q.1.toNat, q.2) : Er (Nat × Nat)) = .ok (x, a') := h
    split at h1
    · cases h1
    · split at h1
      · cases h1
      · have h2 : (q.1.toNat, q.2) = (x, a') := by injection h1
        injection h2 with h3 h4
        obtain ⟨hp, ha, _⟩ := rNum_inv a q.1 q.2 hr
        have e : ((x : Nat) : Int) = q.1 := by omega
        show Pre b a (num (x : Int)) ∧ a' = a + (num (x : Int)).length ∧ x ≤ 1048576
        rw [e, ← h4]
        exact ⟨hp, ha, by omega⟩
theorem rText_inv : Inv b (rText b) txt (fun s => s.length ≤ 1048576) := fun a x a' h => by
  unfold rText at h
  cases hr : rCount b a with
  | error e => rw [hr] at h; cases h
  | ok q =>
    rw [hr] at h
    have h1 : (if b.length - q.2 < q.1 then Except.error (13, b.length) else Except.ok ((b.drop q.2).take q.1, q.2 + q.1) : Er (List UInt8 × Nat)) = .ok (x, a') := h
    split at h1
    · cases h1
    · have h2 : ((b.drop q.2).take q.1, q.2 + q.1) = (x, a') := by injection h1
      injection h2 with h3 h4
      obtain ⟨hp, ha, hn⟩ := rCount_inv a q.1 q.2 hr
      have hl : x.length = q.1 := by rw [← h3, List.length_take, List.length_drop]; omega
      have hx : Pre b q.2 x := by rw [← h3]; exact List.take_prefix _ _
      unfold txt
      rw [hl]
      have ha2 : q.2 = a + (num (q.1 : Int)).length := ha
      refine ⟨Pre.join hp (by rw [← ha2]; exact hx), ?_, by show x.length ≤ 1048576; rw [hl]; exact hn⟩
      rw [List.length_append, hl, ← h4]
      omega
theorem rMany_inv {α : Type} {item : Nat → Er (α × Nat)} {wr : α → List UInt8} {Q : α → Prop} (hi : Inv b item wr Q) : ∀ (n a : Nat) (l : List α) (a' : Nat), rMany item n a = .ok (l, a') → Pre b a (l.flatMap wr) ∧ a' = a + (l.flatMap wr).length ∧ l.length = n ∧ ∀ x ∈ l, Q x
  | 0, a, l, a', h => by
    have h1 : (([] : List α), a) = (l, a') := by injection h
    injection h1 with h2 h3
    subst h2; subst h3
    exact ⟨Pre.nil _, rfl, rfl, fun x h => by cases h⟩
  | n + 1, a, l, a', h => by
    have h0 : ((item a).bind fun q => (rMany item n q.2).bind fun r => .ok (q.1 :: r.1, r.2)) = Except.ok (l, a') := h
    cases hr : item a with
    | error e => rw [hr] at h0; cases h0
    | ok q =>
      rw [hr] at h0
      have h1 : ((rMany item n q.2).bind fun r => .ok (q.1 :: r.1, r.2)) = Except.ok (l, a') := h0
      cases hr2 : rMany item n q.2 with
      | error e => rw [hr2] at h1; cases h1
      | ok r =>
        rw [hr2] at h1
        have h2 : (q.1 :: r.1, r.2) = (l, a') := by injection h1
        injection h2 with h3 h4
        obtain ⟨p1, p2, p3⟩ := hi a q.1 q.2 hr
        obtain ⟨r1, r2, r3, r4⟩ := rMany_inv hi n q.2 r.1 r.2 hr2
        subst h3; subst h4
        rw [List.flatMap_cons]
        refine ⟨p1.join (by rw [← p2]; exact r1), by rw [List.length_append, r2, p2]; omega, by rw [List.length_cons, r3], fun x hx => ?_⟩
        rcases List.mem_cons.1 hx with rfl | hx
        · exact p3
        · exact r4 x hx
/-- two readers, one behind the other -/
theorem Inv.two {α β γ : Type} {a a' : Nat} {r : Nat → Er (α × Nat)} {wr : α → List UInt8} {Q : α → Prop} (h1 : Inv b r wr Q) {k : α → Nat → Er (γ × Nat)} {y : γ} (h : ((r a).bind fun q => k q.1 q.2) = .ok (y, a')) :
    ∃ x a1, Pre b a (wr x) ∧ a1 = a + (wr x).length ∧ Q x ∧ k x a1 = .ok (y, a') := by
  cases hr : r a with
  | error e => rw [hr] at h; cases h
  | ok q =>
    rw [hr] at h
    obtain ⟨p1, p2, p3⟩ := h1 a q.1 q.2 hr
    exact ⟨q.1, q.2, p1, p2, p3, h⟩
theorem many_inv {α : Type} {item : Nat → Er (α × Nat)} {wr : α → List UInt8} {Q : α → Prop} (hi : Inv b item wr Q) : Inv b (fun a => (rCount b a).bind fun k => rMany item k.1 k.2) (fun l => num l.length ++ l.flatMap wr) (fun l => l.length ≤ 1048576 ∧ ∀ x ∈ l, Q x) := fun a x a' h => by
  obtain ⟨n, a1, p1, p2, p3, h2⟩ := Inv.two (γ := List α) (β := Nat) rCount_inv h
  obtain ⟨r1, r2, r3, r4⟩ := rMany_inv hi n a1 x a' h2
  subst r3
  exact ⟨p1.join (by rw [← p2]; exact r1), by rw [List.length_append, r2, p2]; omega, p3, r4⟩
theorem rTexts_inv : Inv b (rTexts b) txts (fun l => l.length ≤ 1048576 ∧ ∀ s ∈ l, s.length ≤ 1048576) := many_inv rText_inv
theorem rIns_inv : Inv b (rIns b) insB insI := fun a x a' h => by
  obtain ⟨o, a1, p1, e1, q1, h⟩ := Inv.two (γ := Ins) (β := Nat) rNum_inv (k := fun o a => (rNum b a).bind fun x => (rNum b x.2).bind fun y => (rNum b y.2).bind fun z => .ok ((⟨o, x.1, y.1, z.1⟩ : Ins), z.2)) h
  obtain ⟨u, a2, p2, e2, q2, h⟩ := Inv.two (γ := Ins) (β := Nat) rNum_inv (k := fun x a => (rNum b a).bind fun y => (rNum b y.2).bind fun z => .ok ((⟨o, x, y.1, z.1⟩ : Ins), z.2)) h
  obtain ⟨y, a3, p3, e3, q3, h⟩ := Inv.two (γ := Ins) (β := Nat) rNum_inv (k := fun y a => (rNum b a).bind fun z => .ok ((⟨o, u, y, z.1⟩ : Ins), z.2)) h
  obtain ⟨z, a4, p4, e4, q4, h⟩ := Inv.two (γ := Ins) (β := Nat) rNum_inv (k := fun z a => .ok ((⟨o, u, y, z⟩ : Ins), a)) h
  have h5 : ((⟨o, u, y, z⟩ : Ins), a4) = (x, a') := by injection h
  injection h5 with h6 h7
  subst h6; subst h7
  subst e1; subst e2; subst e3; subst e4
  refine ⟨p1.join (p2.join (p3.join p4)), ?_, q1, q2, q3, q4⟩
  unfold insB
  simp only [List.length_append]
  omega
theorem rC_inv : Inv b (rC b) cB cI := fun a x a' h => by
  obtain ⟨o, a1, p1, e1, q1, h⟩ := Inv.two (γ := Nd) (β := Nat) rNum_inv (k := fun o a => (rText b a).bind fun s => .ok ((⟨o, 0, 0, s.1, []⟩ : Nd), s.2)) h
  obtain ⟨s, a2, p2, e2, q2, h⟩ := Inv.two (γ := Nd) (β := Nat) rText_inv (k := fun s a => .ok ((⟨o, 0, 0, s, []⟩ : Nd), a)) h
  have h5 : ((⟨o, 0, 0, s, []⟩ : Nd), a2) = (x, a') := by injection h
  injection h5 with h6 h7
  subst h6; subst h7
  subst e1; subst e2
  refine ⟨p1.join p2, ?_, q1, q2, rfl, rfl, rfl⟩
  unfold cB
  simp only [List.length_append]
  omega
theorem bind_many {α γ : Type} {item : Nat → Er (α × Nat)} {a : Nat} {k : List α × Nat → Er γ} : ((rCount b a).bind fun q => (rMany item q.1 q.2).bind k) = ((rCount b a).bind fun q => rMany item q.1 q.2).bind k := by
  cases rCount b a <;> rfl
theorem rFn_inv : Inv b (rFn b) fnB fnI := fun a x a' h => by
  obtain ⟨n, a1, p1, e1, q1, h⟩ := Inv.two (γ := Fc) (β := Nat) rText_inv (k := fun n a => (rNum b a).bind fun x => (rNum b x.2).bind fun y => (rNum b y.2).bind fun z => (rTexts b z.2).bind fun l => (rCount b l.2).bind fun k => (rMany (rIns b) k.1 k.2).bind fun c => .ok ((⟨n, x.1, y.1, z.1, l.1, c.1⟩ : Fc), c.2)) h
  obtain ⟨u, a2, p2, e2, q2, h⟩ := Inv.two (γ := Fc) (β := Nat) rNum_inv (k := fun x a => (rNum b a).bind fun y => (rNum b y.2).bind fun z => (rTexts b z.2).bind fun l => (rCount b l.2).bind fun k => (rMany (rIns b) k.1 k.2).bind fun c => .ok ((⟨n, x, y.1, z.1, l.1, c.1⟩ : Fc), c.2)) h
  obtain ⟨y, a3, p3, e3, q3, h⟩ := Inv.two (γ := Fc) (β := Nat) rNum_inv (k := fun y a => (rNum b a).bind fun z => (rTexts b z.2).bind fun l => (rCount b l.2).bind fun k => (rMany (rIns b) k.1 k.2).bind fun c => .ok ((⟨n, u, y, z.1, l.1, c.1⟩ : Fc), c.2)) h
  obtain ⟨z, a4, p4, e4, q4, h⟩ := Inv.two (γ := Fc) (β := Nat) rNum_inv (k := fun z a => (rTexts b a).bind fun l => (rCount b l.2).bind fun k => (rMany (rIns b) k.1 k.2).bind fun c => .ok ((⟨n, u, y, z, l.1, c.1⟩ : Fc), c.2)) h
  obtain ⟨l, a5, p5, e5, q5, h⟩ := Inv.two (γ := Fc) (β := Nat) rTexts_inv (k := fun l a => (rCount b a).bind fun k => (rMany (rIns b) k.1 k.2).bind fun c => .ok ((⟨n, u, y, z, l, c.1⟩ : Fc), c.2)) h
  rw [bind_many] at h
  obtain ⟨c, a6, p6, e6, q6, h⟩ := Inv.two (γ := Fc) (β := Nat) (many_inv rIns_inv) (k := fun c a => .ok ((⟨n, u, y, z, l, c⟩ : Fc), a)) h
  have h5 : ((⟨n, u, y, z, l, c⟩ : Fc), a6) = (x, a') := by injection h
  injection h5 with h6 h7
  subst h6; subst h7
  subst e1; subst e2; subst e3; subst e4; subst e5; subst e6
  refine ⟨p1.join (p2.join (p3.join (p4.join (p5.join p6)))), ?_, q1, ⟨q2, q3, q4⟩, q5, q6.1, q6.2⟩
  unfold fnB
  simp only [List.length_append]
  omega
theorem rHead_inv : ∀ (r : List UInt8) (i : Nat) {u : Unit}, rHead b i r = .ok u → Pre b i r
  | [], _, _, _ => Pre.nil _
  | h :: r, i, u, hr => by
    cases hc : b[i]? with
    | none => rw [rHead_end (List.getElem?_eq_none_iff.1 hc)] at hr; cases hr
    | some c =>
      by_cases hch : c = h
      · subst hch
        rw [rHead_ok hc] at hr
        exact Pre.cons hc (rHead_inv r (i + 1) hr)
      · rw [rHead_no hc hch] at hr; cases hr
theorem rPg_inv {p : Pg} (h : rPg b = .ok p) : pgB p = b ∧ pgI p := by
  unfold rPg at h
  cases h0 : rHead b 0 head with
  | error e => rw [h0] at h; cases h
  | ok u =>
    rw [h0] at h
    have p0 := rHead_inv _ _ h0
    have h : ((rCount b 3).bind fun n => (rMany (rC b) n.1 n.2).bind fun c => (rTexts b c.2).bind fun g => (rTexts b g.2).bind fun m => (rCount b m.2).bind fun k => (rMany (rFn b) k.1 k.2).bind fun f => if f.2 < b.length then .error (12, f.2) else .ok ⟨f.1, c.1, g.1, m.1⟩) = Except.ok p := h
    rw [bind_many] at h
    cases h1 : (rCount b 3).bind fun n => rMany (rC b) n.1 n.2 with
    | error e => rw [h1] at h; cases h
    | ok c =>
      rw [h1] at h
      obtain ⟨p1, e1, q1⟩ := many_inv rC_inv 3 c.1 c.2 h1
      have h : ((rTexts b c.2).bind fun g => (rTexts b g.2).bind fun m => (rCount b m.2).bind fun k => (rMany (rFn b) k.1 k.2).bind fun f => if f.2 < b.length then .error (12, f.2) else .ok ⟨f.1, c.1, g.1, m.1⟩) = Except.ok p := h
      cases h2 : rTexts b c.2 with
      | error e => rw [h2] at h; cases h
      | ok g =>
        rw [h2] at h
        obtain ⟨p2, e2, q2⟩ := rTexts_inv c.2 g.1 g.2 h2
        have h : ((rTexts b g.2).bind fun m => (rCount b m.2).bind fun k => (rMany (rFn b) k.1 k.2).bind fun f => if f.2 < b.length then .error (12, f.2) else .ok ⟨f.1, c.1, g.1, m.1⟩) = Except.ok p := h
        cases h3 : rTexts b g.2 with
        | error e => rw [h3] at h; cases h
        | ok m =>
          rw [h3] at h
          obtain ⟨p3, e3, q3⟩ := rTexts_inv g.2 m.1 m.2 h3
          have h : ((rCount b m.2).bind fun k => (rMany (rFn b) k.1 k.2).bind fun f => if f.2 < b.length then .error (12, f.2) else .ok ⟨f.1, c.1, g.1, m.1⟩) = Except.ok p := h
          rw [bind_many] at h
          cases h4 : (rCount b m.2).bind fun k => rMany (rFn b) k.1 k.2 with
          | error e => rw [h4] at h; cases h
          | ok f =>
            rw [h4] at h
            obtain ⟨p4, e4, q4⟩ := many_inv rFn_inv m.2 f.1 f.2 h4
            have h : (if f.2 < b.length then Except.error (12, f.2) else .ok ⟨f.1, c.1, g.1, m.1⟩ : Er Pg) = Except.ok p := h
            split at h
            · cases h
            · rename_i hl
              have hp : (⟨f.1, c.1, g.1, m.1⟩ : Pg) = p := by injection h
              subst hp
              rw [e1] at p2 e2
              rw [e2] at p3 e3
              rw [e3] at p4 e4
              have hall : Pre b 0 (head ++ ((num c.1.length ++ c.1.flatMap cB) ++ (txts g.1 ++ (txts m.1 ++ (num f.1.length ++ f.1.flatMap fnB))))) := p0.join (p1.join (p2.join (p3.join p4)))
              have hpg : pgB ⟨f.1, c.1, g.1, m.1⟩ = head ++ ((num c.1.length ++ c.1.flatMap cB) ++ (txts g.1 ++ (txts m.1 ++ (num f.1.length ++ f.1.flatMap fnB)))) := by
                unfold pgB; simp only [List.append_assoc]
              rw [← hpg] at hall
              refine ⟨?_, q1, q2, q3, q4⟩
              obtain ⟨r, hr⟩ := hall
              have hr' : pgB ⟨f.1, c.1, g.1, m.1⟩ ++ r = b := hr
              have hlen : (pgB ⟨f.1, c.1, g.1, m.1⟩).length = f.2 := by
                rw [hpg, e4]
                simp only [List.length_append]
                show 3 + _ = _
                omega
              have h9 := congrArg List.length hr'
              rw [List.length_append, hlen] at h9
              have hr0 : r = [] := List.eq_nil_of_length_eq_zero (by omega)
              rw [hr0, List.append_nil] at hr'
              exact hr'
end Go.By
