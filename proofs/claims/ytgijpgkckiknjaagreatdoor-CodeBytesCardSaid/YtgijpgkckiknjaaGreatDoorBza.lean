/-
  Proved here: readers and writers, at any world.
-/
import Derived.Test.YtgijpgkckiknjaaGreatDoorByx
import Derived.Test.YtgijpgkckiknjaaGreatDoorByv
import Derived.Test.YtgijpgkckiknjaaGreatDoorByu
import Derived.Test.YtgijpgkckiknjaaGreatDoorBym
namespace Go.Proofs.YtgijpgkckiknjaaGreatDoor
open Go.SX Go.RowKit Go.Ck Go.Lex Go.By
namespace Hx

end Hx
open Go.Proofs.YtgijpgkckiknjaaGreatDoor.Env (EnvS errV sentG)
theorem envS_push {w0 w : World} {base : Nat} {its : List It} {aE : Nat → Addr} (h : EnvS w0 base aE) (hw : WA w0 base its w) : EnvS w w.heap.size aE :=
  ⟨fun i g hi => hw.old (h.lt g (List.mem_of_getElem? hi)) (h.at_ i g hi), fun g hg => Nat.lt_of_lt_of_le (h.lt g hg) hw.fits, fun i hi => by
    obtain ⟨h1, c, t, h2⟩ := h.blk i hi
    exact ⟨Nat.lt_of_lt_of_le h1 hw.fits, c, t, (hw.below.block _ h1).trans h2⟩, h.ne⟩
theorem mid_of_I {p : Pg} (h : pgI p) : midB p := by
  obtain ⟨⟨h1, h2⟩, ⟨h3, h4⟩, ⟨h5, h6⟩, h7, h8⟩ := h
  exact ⟨⟨h7, ⟨h1, fun x hx => by obtain ⟨_, q1, _, _, q2⟩ := h2 x hx; exact ⟨by rw [q2]; exact Nat.zero_le _, q1⟩⟩, ⟨h3, h4⟩, h5, h6⟩, fun f hf => by obtain ⟨q1, _, q2, q3, _⟩ := h8 f hf; exact ⟨q3, q1, q2⟩⟩
theorem mid_of_light {p : Pg} (h : lightB p) : midB p := by
  obtain ⟨⟨h1, ⟨h2, h3⟩, ⟨h4, h5⟩, h6, h7⟩, h8⟩ := h
  exact ⟨⟨by omega, ⟨by omega, fun x hx => by have := h3 x hx; omega⟩, ⟨by omega, fun s hs => by have := h5 s hs; omega⟩, by omega, fun s hs => by have := h7 s hs; omega⟩, fun f hf => by obtain ⟨g1, g2, g3, g4⟩ := h8 f hf; exact ⟨by omega, by omega, by omega, fun s hs => by have := g4 s hs; omega⟩⟩
theorem gBytes_w {w0 : World} {base : Nat} {its : List It} {X : Cx} {p : Pg} (hm : midB p) (hlen : (pgB p).length ≤ 100000000) : FnC Tryz.prog 33 #[.agg (X.pcs p).toArray] (fun w => CkAt (Lies w w.heap.size) X p ⟨[], 0, 0, 0, [], []⟩ ∧ WA w0 base its w) (fun q : Option Nat × Nat => rv q.1 (pgB p).length q.2) (fun q => WA w0 base (.row q.1 q.2 (pgB p).length 5 1 ((pgB p).map b8) :: its)) := fun w hw =>
  (gBytes_c (fr := []) hw.1 hm hlen w (WA.start w)).mono fun _ w' ⟨q, he, hb⟩ => ⟨q, he, WA.onto1 hw.2 hb⟩
theorem row_bytes {w0 w : World} {base : Nat} {its : List It} (hw : WA w0 base its w) {j : Nat} {q : Option Nat × Nat} {bs : List UInt8} (hj : its[j]? = some (.row q.1 q.2 bs.length 5 1 (bs.map b8))) : SlAt 1 byteA (Lies w w.heap.size) (q.1.map fun b => ⟨b, 0, none⟩) bs ∧ bs.length ≤ q.2 :=
  ⟨Go.Tr.row_at hw hj rfl (by decide) (fun i z h => Go.Tr.map_A h), (row_len (hw.get hj)).2⟩
/-- what was written is read -/
theorem readBack_w {w0 : World} {base : Nat} {its : List It} {aE : Nat → Addr} (hS : EnvS w0 base aE) {p : Pg} {q : Option Nat × Nat} (hr : rPg (pgB p) = .ok p) (hlen : (pgB p).length ≤ 100000000) : FnC Tryz.prog 32 #[rv q.1 (pgB p).length q.2] (WA w0 base (.row q.1 q.2 (pgB p).length 5 1 ((pgB p).map b8) :: its)) (fun X2 : Cx => .tuple #[.agg (X2.pcs p).toArray, .nilIface]) (fun X2 w => CkAt (Lies w w.heap.size) X2 p ⟨[], 0, 0, 0, [], []⟩ ∧ WA w0 base (.row q.1 q.2 (pgB p).length 5 1 ((pgB p).map b8) :: its) w) := fun w hw => by
  obtain ⟨hA, hc⟩ := row_bytes hw (j := 0) rfl
  refine (read_c (fr := []) (envS_push hS hw) hA (by omega) hc w (WA.start w)).mono fun _ w' ⟨⟨X2, p2, e, ax⟩, he, ⟨h1, h2⟩, h3, h4⟩ => ?_
  cases e with
  | some e =>
    have h1' : rPg (pgB p) = .error e := h1
    rw [hr] at h1'
    cases h1'
  | none =>
    have h1' : rPg (pgB p) = .ok p2 := h1
    rw [hr] at h1'
    have hp : p = p2 := by injection h1'
    subst hp
    exact ⟨X2, he, h3, Stab.st w w' hw h4.below⟩
theorem read_ok {w0 : World} {base : Nat} {fr : List It} {ab : Option Addr} {cb : Nat} {b : List UInt8} {aE : Nat → Addr} (hS : EnvS w0 base aE) (hb : SlAt 1 byteA (Lies w0 base) ab b) (hbn : b.length ≤ 1099511627776) (hcb : b.length ≤ cb) {r : Pg} (hr : rPg b = .ok r) : FnC Tryz.prog 32 #[.slice ab b.length cb] (WA w0 base fr) (fun X2 : Cx => .tuple #[.agg (X2.pcs r).toArray, .nilIface]) (fun X2 w => CkAt (Lies w w.heap.size) X2 r ⟨[], 0, 0, 0, [], []⟩ ∧ WA w0 base fr w) := fun w hw => by
  refine (read_c hS hb hbn hcb w hw).mono fun _ w' ⟨⟨X2, p2, e, ax⟩, he, ⟨h1, h2⟩, h3, h4⟩ => ?_
  cases e with
  | some e =>
    have h1' : rPg b = .error e := h1
    rw [hr] at h1'
    cases h1'
  | none =>
    have h1' : rPg b = .ok p2 := h1
    rw [hr] at h1'
    have hp : r = p2 := by injection h1'
    subst hp
    exact ⟨X2, he, h3, h4⟩
theorem read_err {w0 : World} {base : Nat} {fr : List It} {ab : Option Addr} {cb : Nat} {b : List UInt8} {aE : Nat → Addr} (hS : EnvS w0 base aE) (hb : SlAt 1 byteA (Lies w0 base) ab b) (hbn : b.length ≤ 1099511627776) (hcb : b.length ≤ cb) {k pl : Nat} (hr : rPg b = .error (k, pl)) : FnC Tryz.prog 32 #[.slice ab b.length cb] (WA w0 base fr) (fun X2 : Cx × Nat => .tuple #[.agg (X2.1.pcs ⟨[], [], [], []⟩).toArray, atW X2.2]) (fun X2 w => CkAt (Lies w w.heap.size) X2.1 ⟨[], [], [], []⟩ ⟨[], 0, 0, 0, [], []⟩ ∧ WA w0 base (atJ X2.2 pl (errV (aE k)) :: fr) w) := fun w hw => by
  refine (read_c hS hb hbn hcb w hw).mono fun _ w' ⟨⟨X2, p2, e, ax⟩, he, ⟨h1, h2⟩, h3, h4⟩ => ?_
  cases e with
  | none =>
    have h1' : rPg b = .ok p2 := h1
    rw [hr] at h1'
    cases h1'
  | some e =>
    have h1' : rPg b = .error e := h1
    rw [hr] at h1'
    have hp : (k, pl) = e := by injection h1'
    subst hp
    have h2' : p2 = ⟨[], [], [], []⟩ := h2 (by simp)
    subst h2'
    exact ⟨(X2, ax), he, h3, h4⟩
theorem gRead_ok {w0 : World} {base : Nat} {fr : List It} {ab : Option Addr} {cb : Nat} {b : List UInt8} (hb : SlAt 1 byteA (Lies w0 base) ab b) (hbn : b.length ≤ 1099511627776) (hcb : b.length ≤ cb) {r : Pg} (hr : rPg b = .ok r) : FnC Tryz.prog 34 #[.slice ab b.length cb] (WA w0 base fr) (fun X2 : Cx => .tuple #[.agg (X2.pcs r).toArray, .agg (fltC none).toArray]) (fun X2 w => CkAt (Lies w w.heap.size) X2 r ⟨[], 0, 0, 0, [], []⟩ ∧ WA w0 base fr w) := fun w hw => by
  refine (gRead_c hb hbn hcb w hw).mono fun _ w' ⟨⟨X2, p2, e⟩, he, ⟨h1, h2⟩, h3, h4⟩ => ?_
  cases e with
  | some e =>
    have h1' : rPg b = .error e := h1
    rw [hr] at h1'
    cases h1'
  | none =>
    have h1' : rPg b = .ok p2 := h1
    rw [hr] at h1'
    have hp : r = p2 := by injection h1'
    subst hp
    exact ⟨X2, he, h3, h4⟩
theorem gRead_err {w0 : World} {base : Nat} {fr : List It} {ab : Option Addr} {cb : Nat} {b : List UInt8} (hb : SlAt 1 byteA (Lies w0 base) ab b) (hbn : b.length ≤ 1099511627776) (hcb : b.length ≤ cb) {k pl : Nat} (hr : rPg b = .error (k, pl)) : FnC Tryz.prog 34 #[.slice ab b.length cb] (WA w0 base fr) (fun X2 : Cx => .tuple #[.agg (X2.pcs ⟨[], [], [], []⟩).toArray, .agg (fltC (some (k, pl))).toArray]) (fun X2 w => CkAt (Lies w w.heap.size) X2 ⟨[], [], [], []⟩ ⟨[], 0, 0, 0, [], []⟩ ∧ WA w0 base fr w) := fun w hw => by
  refine (gRead_c hb hbn hcb w hw).mono fun _ w' ⟨⟨X2, p2, e⟩, he, ⟨h1, h2⟩, h3, h4⟩ => ?_
  cases e with
  | none =>
    have h1' : rPg b = .ok p2 := h1
    rw [hr] at h1'
    cases h1'
  | some e =>
    have h1' : rPg b = .error e := h1
    rw [hr] at h1'
    have hp : (k, pl) = e := by injection h1'
    subst hp
    have h2' : p2 = ⟨[], [], [], []⟩ := h2 (by simp)
    subst h2'
    exact ⟨X2, he, h3, h4⟩
end Go.Proofs.YtgijpgkckiknjaaGreatDoor
