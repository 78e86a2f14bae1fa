/-
  Proved here: programs as bytes, and bytes as programs, as plain values; what is written is read again the same. No program stands here.
-/
import Derived.Test.YtgijpgkckiknjaaGreatDoorByN
import Derived.Test.YtgijpgkckiknjaaGreatDoorCkP
import Derived.Test.YtgijpgkckiknjaaGreatDoorAt
namespace Go.By
open Go.SX Go.Ck
def leb (u : Nat) : List UInt8 := if h : u < 128 then [u.toUInt8] else (u % 128 + 128).toUInt8 :: leb (u / 128)
termination_by u
decreasing_by omega
def num (n : Int) : List UInt8 := leb (zig n)
def txt (s : List UInt8) : List UInt8 := num s.length ++ s
def txts (l : List (List UInt8)) : List UInt8 := num l.length ++ l.flatMap txt
def insB (i : Ins) : List UInt8 := num i.op ++ (num i.a ++ (num i.b ++ num i.pos))
def fnB (f : Fc) : List UInt8 := txt f.name ++ (num f.params ++ (num f.given ++ (num f.slots ++ (txts f.names ++ (num f.code.length ++ f.code.flatMap insB)))))
def cB (x : Nd) : List UInt8 := num x.op ++ txt x.s
def head : List UInt8 := [83, 77, 49]
def pgB (p : Pg) : List UInt8 := head ++ (num p.consts.length ++ (p.consts.flatMap cB ++ (txts p.globals ++ (txts p.names ++ (num p.funcs.length ++ p.funcs.flatMap fnB)))))
/-! reading: what goes wrong is a sort and a place -/
abbrev Er := Except (Nat × Nat)
def rU (b : List UInt8) : Nat → Nat → Nat → Nat → Er (Nat × Nat)
  | 0, _, at_, u => .ok (u, at_)
  | f + 1, i, at_, u => match b[at_]? with
    | none => .error (13, b.length)
    | some c => if (i = 9 ∧ 1 < c.toNat) ∨ (0 < i ∧ c.toNat = 0) then .error (12, at_) else
      if c.toNat < 128 then .ok (u + c.toNat % 128 * 2 ^ (7 * i), at_ + 1) else rU b f (i + 1) (at_ + 1) (u + c.toNat % 128 * 2 ^ (7 * i))
def rNum (b : List UInt8) (at_ : Nat) : Er (Int × Nat) := (rU b 10 0 at_ 0).bind fun q => .ok (unzig q.1, q.2)
def rCount (b : List UInt8) (at_ : Nat) : Er (Nat × Nat) := (rNum b at_).bind fun q => if 1048576 < q.1 then .error (9, at_) else if q.1 < 0 then .error (12, at_) else .ok (q.1.toNat, q.2)
def rText (b : List UInt8) (at_ : Nat) : Er (List UInt8 × Nat) := (rCount b at_).bind fun q => if b.length - q.2 < q.1 then .error (13, b.length) else .ok ((b.drop q.2).take q.1, q.2 + q.1)
def rMany {α : Type} (item : Nat → Er (α × Nat)) : Nat → Nat → Er (List α × Nat)
  | 0, at_ => .ok ([], at_)
  | n + 1, at_ => (item at_).bind fun q => (rMany item n q.2).bind fun r => .ok (q.1 :: r.1, r.2)
def rTexts (b : List UInt8) (at_ : Nat) : Er (List (List UInt8) × Nat) := (rCount b at_).bind fun q => rMany (rText b) q.1 q.2
def rIns (b : List UInt8) (at_ : Nat) : Er (Ins × Nat) := (rNum b at_).bind fun o => (rNum b o.2).bind fun x => (rNum b x.2).bind fun y => (rNum b y.2).bind fun z => .ok (⟨o.1, x.1, y.1, z.1⟩, z.2)
def rFn (b : List UInt8) (at_ : Nat) : Er (Fc × Nat) := (rText b at_).bind fun n => (rNum b n.2).bind fun x => (rNum b x.2).bind fun y => (rNum b y.2).bind fun z => (rTexts b z.2).bind fun l => (rCount b l.2).bind fun k =>
  (rMany (rIns b) k.1 k.2).bind fun c => .ok (⟨n.1, x.1, y.1, z.1, l.1, c.1⟩, c.2)
def rC (b : List UInt8) (at_ : Nat) : Er (Nd × Nat) := (rNum b at_).bind fun o => (rText b o.2).bind fun s => .ok (⟨o.1, 0, 0, s.1, []⟩, s.2)
/-- what stands ahead -/
def rHead (b : List UInt8) : Nat → List UInt8 → Er Unit
  | _, [] => .ok ()
  | i, h :: r => match b[i]? with
    | none => .error (13, b.length)
    | some c => if c = h then rHead b (i + 1) r else .error (12, i)
def rPg (b : List UInt8) : Er Pg := (rHead b 0 head).bind fun _ => (rCount b 3).bind fun n => (rMany (rC b) n.1 n.2).bind fun c => (rTexts b c.2).bind fun g => (rTexts b g.2).bind fun m => (rCount b m.2).bind fun k => (rMany (rFn b) k.1 k.2).bind fun f =>
  if f.2 < b.length then .error (12, f.2) else .ok ⟨f.1, c.1, g.1, m.1⟩
theorem leb_lt {u : Nat} (h : u < 128) : leb u = [u.toUInt8] := by unfold leb; rw [dif_pos h]
theorem leb_ge {u : Nat} (h : ¬u < 128) : leb u = (u % 128 + 128).toUInt8 :: leb (u / 128) := by
  conv => lhs; unfold leb
  rw [dif_neg h]
theorem u8_toNat {n : Nat} (h : n < 256) : n.toUInt8.toNat = n := by simp; omega
theorem leb_len : ∀ (k v : Nat), v < 2 ^ (7 * k) → 0 < k → (leb v).length ≤ k
  | 0, _, _, h => absurd h (by omega)
  | k + 1, v, h, _ => by
    by_cases hlt : v < 128
    · rw [leb_lt hlt]; simp
    · rw [leb_ge hlt, List.length_cons]
      have hk : 0 < k := by
        rcases Nat.eq_zero_or_pos k with rfl | h0
        · exact absurd h (by omega)
        · exact h0
      have : v / 128 < 2 ^ (7 * k) := by
        rw [show 7 * (k + 1) = 7 * k + 7 by omega, Nat.pow_add] at h
        omega
      have := leb_len k (v / 128) this hk
      omega
theorem num_len {n : Int} (h : inI n) : (num n).length ≤ 10 := leb_len 10 _ (Nat.lt_of_lt_of_le (zig_lt h.1 h.2) (by decide)) (by omega)
/-! what is written is read again -/
/-- these bytes stand there -/
def Pre (b : List UInt8) (at_ : Nat) (s : List UInt8) : Prop := s <+: b.drop at_
theorem Pre.app {b : List UInt8} {at_ : Nat} {s t : List UInt8} (h : Pre b at_ (s ++ t)) : Pre b at_ s ∧ Pre b (at_ + s.length) t := by
  obtain ⟨r, hr⟩ := h
  refine ⟨⟨t ++ r, by rw [← List.append_assoc]; exact hr⟩, ⟨r, ?_⟩⟩
  rw [← List.drop_drop, ← hr, List.append_assoc, List.drop_left]
theorem Pre.get {b : List UInt8} {at_ : Nat} {c : UInt8} {s : List UInt8} (h : Pre b at_ (c :: s)) : b[at_]? = some c ∧ Pre b (at_ + 1) s := by
  obtain ⟨r, hr⟩ := h
  have h1 : (b.drop at_)[0]? = some c := by rw [← hr]; rfl
  rw [List.getElem?_drop] at h1
  refine ⟨by simpa using h1, ⟨r, ?_⟩⟩
  rw [← List.drop_drop, ← hr]; rfl
theorem rU_leb {b : List UInt8} : ∀ (v : Nat) (f i at_ u : Nat), f + i = 10 → v * 2 ^ (7 * i) < 2 ^ 64 → (0 < i → 0 < v) → Pre b at_ (leb v) → rU b f i at_ u = .ok (u + v * 2 ^ (7 * i), at_ + (leb v).length) := by
  intro v
  induction v using Nat.strongRecOn with
  | ind v ih =>
    intro f i at_ u hf hv hp hpre
    have hi : i ≤ 9 := by
      rcases Nat.lt_or_ge i 10 with h | h
      · omega
      · exfalso
        have h1 : 0 < v := hp (by omega)
        have h2 : 2 ^ (7 * 10) ≤ 2 ^ (7 * i) := Nat.pow_le_pow_right (by omega) (by omega)
        have h3 : 1 * 2 ^ (7 * i) ≤ v * 2 ^ (7 * i) := Nat.mul_le_mul_right _ h1
        have h4 : (2 : Nat) ^ (7 * 10) > 2 ^ 64 := by decide
        omega
    obtain ⟨f, rfl⟩ : ∃ g, f = g + 1 := ⟨f - 1, by omega⟩
    unfold rU
    have h9 : i = 9 → v ≤ 1 := by
      rintro rfl
      have : (2 : Nat) ^ (7 * 9) = 9223372036854775808 := by decide
      rw [this] at hv
      have : (2 : Nat) ^ 64 = 18446744073709551616 := by decide
      omega
    by_cases hlt : v < 128
    · rw [leb_lt hlt] at hpre ⊢
      obtain ⟨h1, _⟩ := hpre.get
      rw [h1]
      dsimp only
      rw [u8_toNat (by omega), if_neg (fun h => h.elim (fun ⟨h, h'⟩ => by have := h9 h; omega) (fun ⟨h, h'⟩ => by have := hp h; omega)), if_pos hlt, Nat.mod_eq_of_lt hlt]
      rfl
    · rw [leb_ge hlt] at hpre ⊢
      obtain ⟨h1, h2⟩ := hpre.get
      rw [h1]
      dsimp only
      rw [u8_toNat (by omega), if_neg (fun h => h.elim (fun ⟨h, h'⟩ => by have := h9 h; omega) (fun ⟨h, h'⟩ => by omega)), if_neg (by omega)]
      have e : (v % 128 + 128) % 128 = v % 128 := by omega
      have hpow : (2 : Nat) ^ (7 * (i + 1)) = 128 * 2 ^ (7 * i) := by rw [show 7 * (i + 1) = 7 + 7 * i by omega, Nat.pow_add]
      have hd : v / 128 * 128 + v % 128 = v := by omega
      have hm : v * 2 ^ (7 * i) = v / 128 * 2 ^ (7 * (i + 1)) + v % 128 * 2 ^ (7 * i) := by
        rw [hpow, ← Nat.mul_assoc, ← Nat.add_mul, hd]
      rw [e, ih (v / 128) (by omega) f (i + 1) (at_ + 1) _ (by omega) (by omega) (fun _ => by omega) h2, List.length_cons]
      congr 2
      · omega
      · omega
theorem rNum_num {b : List UInt8} {at_ : Nat} {n : Int} (h1 : -9223372036854775808 ≤ n) (h2 : n ≤ 9223372036854775807) (h : Pre b at_ (num n)) : rNum b at_ = .ok (n, at_ + (num n).length) := by
  unfold rNum
  have hz := zig_lt h1 h2
  rw [rU_leb (zig n) 10 0 at_ 0 rfl (by simpa using hz) (by omega) h]
  show Except.ok (unzig (0 + zig n * 2 ^ (7 * 0)), _) = _
  rw [show 0 + zig n * 2 ^ (7 * 0) = zig n by simp, unzig_zig]
  rfl
theorem rCount_num {b : List UInt8} {at_ n : Nat} (h1 : n ≤ 1048576) (h : Pre b at_ (num n)) : rCount b at_ = .ok (n, at_ + (num n).length) := by
  unfold rCount
  rw [rNum_num (by omega) (by omega) h]
  show (if _ then _ else _) = _
  rw [if_neg (by show ¬(1048576 : Int) < n; omega), if_neg (by show ¬(n : Int) < 0; omega)]
  rfl
theorem Pre.len {b : List UInt8} {at_ : Nat} {s : List UInt8} (h : Pre b at_ s) : s.length ≤ b.length - at_ ∧ (b.drop at_).take s.length = s := by
  obtain ⟨r, hr⟩ := h
  constructor
  · have := congrArg List.length hr
    rw [List.length_append, List.length_drop] at this
    omega
  · rw [← hr, List.take_left]
theorem rText_txt {b : List UInt8} {at_ : Nat} {s : List UInt8} (h1 : s.length ≤ 1048576) (h : Pre b at_ (txt s)) : rText b at_ = .ok (s, at_ + (txt s).length) := by
  obtain ⟨g1, g2⟩ := h.app
  unfold rText
  rw [rCount_num h1 g1]
  obtain ⟨l1, l2⟩ := g2.len
  show (if _ then _ else _) = _
  rw [if_neg (by show ¬(b.length - (at_ + (num s.length).length) < s.length); omega)]
  show Except.ok ((b.drop (at_ + (num s.length).length)).take s.length, at_ + (num s.length).length + s.length) = _
  rw [l2]
  unfold txt
  rw [List.length_append, Nat.add_assoc]
theorem rMany_rt {α : Type} {b : List UInt8} {item : Nat → Er (α × Nat)} {wr : α → List UInt8} {Q : α → Prop} (hi : ∀ x at_, Q x → Pre b at_ (wr x) → item at_ = .ok (x, at_ + (wr x).length)) :
    ∀ (l : List α) (at_ : Nat), (∀ x ∈ l, Q x) → Pre b at_ (l.flatMap wr) → rMany item l.length at_ = .ok (l, at_ + (l.flatMap wr).length)
  | [], at_, _, _ => rfl
  | x :: l, at_, hq, h => by
    rw [List.flatMap_cons] at h
    obtain ⟨g1, g2⟩ := h.app
    show (item at_).bind _ = _
    rw [hi x at_ (hq x List.mem_cons_self) g1]
    show (rMany item l.length (at_ + (wr x).length)).bind _ = _
    rw [rMany_rt hi l _ (fun y hy => hq y (List.mem_cons_of_mem _ hy)) g2]
    show Except.ok (x :: l, at_ + (wr x).length + (l.flatMap wr).length) = _
    rw [List.flatMap_cons, List.length_append, Nat.add_assoc]
theorem rTexts_txts {b : List UInt8} {at_ : Nat} {l : List (List UInt8)} (h1 : l.length ≤ 1048576) (h2 : ∀ s ∈ l, s.length ≤ 1048576) (h : Pre b at_ (txts l)) : rTexts b at_ = .ok (l, at_ + (txts l).length) := by
  obtain ⟨g1, g2⟩ := h.app
  unfold rTexts
  rw [rCount_num h1 g1]
  show rMany (rText b) l.length (at_ + (num l.length).length) = _
  rw [rMany_rt (Q := fun s => s.length ≤ 1048576) (fun x a hx hp => rText_txt hx hp) l _ h2 g2]
  unfold txts
  rw [List.length_append, Nat.add_assoc]
def insI (i : Ins) : Prop := inI i.op ∧ inI i.a ∧ inI i.b ∧ inI i.pos
theorem rIns_rt {b : List UInt8} {at_ : Nat} {i : Ins} (hi : insI i) (h : Pre b at_ (insB i)) : rIns b at_ = .ok (i, at_ + (insB i).length) := by
  obtain ⟨g1, g2⟩ := h.app
  obtain ⟨g2, g3⟩ := g2.app
  obtain ⟨g3, g4⟩ := g3.app
  unfold rIns
  rw [rNum_num hi.1.1 hi.1.2 g1]
  show (rNum b _).bind _ = _
  rw [rNum_num hi.2.1.1 hi.2.1.2 g2]
  show (rNum b _).bind _ = _
  rw [rNum_num hi.2.2.1.1 hi.2.2.1.2 g3]
  show (rNum b _).bind _ = _
  rw [rNum_num hi.2.2.2.1 hi.2.2.2.2 g4]
  show Except.ok ((⟨i.op, i.a, i.b, i.pos⟩ : Ins), _) = _
  unfold insB
  congr 2
  simp only [List.length_append]
  omega
def fnI (f : Fc) : Prop := f.name.length ≤ 1048576 ∧ (inI f.params ∧ inI f.given ∧ inI f.slots) ∧ (f.names.length ≤ 1048576 ∧ ∀ s ∈ f.names, s.length ≤ 1048576) ∧ f.code.length ≤ 1048576 ∧ ∀ i ∈ f.code, insI i
theorem rFn_rt {b : List UInt8} {at_ : Nat} {f : Fc} (hf : fnI f) (h : Pre b at_ (fnB f)) : rFn b at_ = .ok (f, at_ + (fnB f).length) := by
  obtain ⟨h1, ⟨h2, h3, h4⟩, ⟨h5, h6⟩, h7, h8⟩ := hf
  obtain ⟨g1, g2⟩ := h.app
  obtain ⟨g2, g3⟩ := g2.app
  obtain ⟨g3, g4⟩ := g3.app
  obtain ⟨g4, g5⟩ := g4.app
  obtain ⟨g5, g6⟩ := g5.app
  obtain ⟨g6, g7⟩ := g6.app
  unfold rFn
  rw [rText_txt h1 g1]
  show (rNum b _).bind _ = _
  rw [rNum_num h2.1 h2.2 g2]
  show (rNum b _).bind _ = _
  rw [rNum_num h3.1 h3.2 g3]
  show (rNum b _).bind _ = _
  rw [rNum_num h4.1 h4.2 g4]
  show (rTexts b _).bind _ = _
  rw [rTexts_txts h5 h6 g5]
  show (rCount b _).bind _ = _
  rw [rCount_num h7 g6]
  show (rMany (rIns b) _ _).bind _ = _
  rw [rMany_rt (Q := insI) (fun x a hx hp => rIns_rt hx hp) f.code _ h8 g7]
  show Except.ok ((⟨f.name, f.params, f.given, f.slots, f.names, f.code⟩ : Fc), _) = _
  unfold fnB
  congr 2
  simp only [List.length_append]
  omega
def cI (x : Nd) : Prop := inI x.op ∧ x.s.length ≤ 1048576 ∧ x.n = 0 ∧ x.pos = 0 ∧ x.kids = []
theorem rC_rt {b : List UInt8} {at_ : Nat} {x : Nd} (hx : cI x) (h : Pre b at_ (cB x)) : rC b at_ = .ok (x, at_ + (cB x).length) := by
  obtain ⟨h1, h2, h3, h4, h5⟩ := hx
  obtain ⟨g1, g2⟩ := h.app
  unfold rC
  rw [rNum_num h1.1 h1.2 g1]
  show (rText b _).bind _ = _
  rw [rText_txt h2 g2]
  show Except.ok ((⟨x.op, 0, 0, x.s, []⟩ : Nd), _) = _
  obtain ⟨o, n, q, s, k⟩ := x
  simp only at h3 h4 h5
  subst h3; subst h4; subst h5
  unfold cB
  congr 2
  simp only [List.length_append]
  omega
def pgI (p : Pg) : Prop := (p.consts.length ≤ 1048576 ∧ ∀ x ∈ p.consts, cI x) ∧ (p.globals.length ≤ 1048576 ∧ ∀ s ∈ p.globals, s.length ≤ 1048576) ∧ (p.names.length ≤ 1048576 ∧ ∀ s ∈ p.names, s.length ≤ 1048576) ∧ p.funcs.length ≤ 1048576 ∧ ∀ f ∈ p.funcs, fnI f
theorem rPg_rt {p : Pg} (hp : pgI p) : rPg (pgB p) = .ok p := by
  obtain ⟨⟨h1, h2⟩, ⟨h3, h4⟩, ⟨h5, h6⟩, h7, h8⟩ := hp
  have h : Pre (pgB p) 0 (pgB p) := ⟨[], by simp⟩
  have hh : rHead (pgB p) 0 head = .ok () := rfl
  obtain ⟨_, g1⟩ := Pre.app (s := head) h
  obtain ⟨g1, g2⟩ := g1.app
  obtain ⟨g2, g3⟩ := g2.app
  obtain ⟨g3, g4⟩ := g3.app
  obtain ⟨g4, g5⟩ := g4.app
  obtain ⟨g5, g6⟩ := g5.app
  have hl : (pgB p).length = 0 + head.length + (num p.consts.length).length + (p.consts.flatMap cB).length + (txts p.globals).length + (txts p.names).length + (num p.funcs.length).length + (p.funcs.flatMap fnB).length := by
    conv => lhs; unfold pgB
    simp only [List.length_append]
    omega
  unfold rPg
  rw [hh]
  show (rCount _ 3).bind _ = _
  rw [show (3 : Nat) = 0 + head.length from rfl, rCount_num h1 g1]
  show (rMany (rC _) _ _).bind _ = _
  rw [rMany_rt (Q := cI) (fun x a hx hp => rC_rt hx hp) p.consts _ h2 g2]
  show (rTexts _ _).bind _ = _
  rw [rTexts_txts h3 h4 g3]
  show (rTexts _ _).bind _ = _
  rw [rTexts_txts h5 h6 g4]
  show (rCount _ _).bind _ = _
  rw [rCount_num h7 g5]
  show (rMany (rFn _) _ _).bind _ = _
  rw [rMany_rt (Q := fnI) (fun x a hx hp => rFn_rt hx hp) p.funcs _ h8 g6]
  show (if _ then _ else _) = _
  rw [if_neg (by rw [hl]; omega)]
end Go.By
