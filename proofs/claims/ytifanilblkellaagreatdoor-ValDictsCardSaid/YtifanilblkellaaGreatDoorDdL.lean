/-
  Proved here: the parts of the law.
-/
import Derived.Test.YtifanilblkellaaGreatDoorDdJ
namespace Go.Proofs.YtifanilblkellaaGreatDoor
open Go.SX Go.RowKit Go.Vo Go.Ss Go.Proofs.YtifanilblkellaaGreatDoor.Env Go.Proofs.YtifanilblkellaaGreatDoor.Bsf Go.EX Go.EB
namespace Dy

end Dy
theorem FnC.conv {P : Program} {f : FuncId} {args : Array Value} {W W1 : World → Prop} {τ : Type} {vv : τ → Value} {W1' W' : τ → World → Prop} (h : FnC P f args W1 vv W1') (h1 : ∀ w, W w → W1 w) (h2 : ∀ q w, W1' q w → W' q w) : FnC P f args W vv W' := fun w hw =>
  (h w (h1 w hw)).mono fun e w' ⟨q, he, hq⟩ => ⟨q, he, h2 q w' hq⟩
theorem DI_in {w0 w : World} {base d ce bm ck : Nat} {ge : Option Nat} {fz : Bool} {es : List En} {bs : List Nat} {r : List It} {K V : It} (hw : WA w0 base (K :: V :: DI d ge ce bm fz es bs ck r) w) : WA w0 base (DI d ge ce bm fz es bs ck (K :: V :: r)) w :=
  hw.perm (List.perm_append_comm_assoc ([_, _, _] ++ es.map entI) [K, V] r)
theorem DI_out {w0 w : World} {base d ce bm ck : Nat} {ge : Option Nat} {fz : Bool} {es : List En} {bs : List Nat} {r : List It} {K V : It} (hw : WA w0 base (DI d ge ce bm fz es bs ck (K :: V :: r)) w) : WA w0 base (K :: V :: DI d ge ce bm fz es bs ck r) w :=
  hw.perm (List.perm_append_comm_assoc [K, V] ([_, _, _] ++ es.map entI) r)
theorem to_in {w0 w : World} {base : Nat} {A M r : List It} (hw : WA w0 base (A ++ (M ++ r)) w) : WA w0 base (M ++ (A ++ r)) w := hw.perm (List.perm_append_comm_assoc M A r)
theorem set_old2 {w0 : World} {base : Nat} {r : List It} {aE : Nat → Addr} (hS : EnvS w0 base aE) {K V : It} {d bm ce ck : Nat} {ge : Option Nat} {es : List En} {bs : List Nat} (hD : Dk es bs ck) {k : Nat} (hk : k < 12) {kv : Value} (hK : ∀ w, WA w0 base (K :: V :: DI d ge ce bm false es bs ck r) w → KW k kv w) {i : Nat} {e : En} (hi : es[i]? = some e) (he : e.k = k) {v : Int} {vt : TypeId} {vx : Value} : FnC Tryz.prog 12 #[.pointer (some ⟨d, 0, none⟩), kv, .iface vt vx] (WA w0 base (K :: V :: DI d ge ce bm false es bs ck r)) (fun _ : Unit => .nilIface) (fun _ => WA w0 base (K :: V :: DI d ge ce bm false (es.set i ⟨e.k, v, e.eb, e.kv, .iface vt vx⟩) bs ck r)) := FnC.conv (set_old hS hD hk (fun w hw => hK w (DI_out hw)) hi he) (fun w hw => DI_in hw) (fun q w hw => DI_out hw)
theorem set_new2 {w0 : World} {base : Nat} {r : List It} {aE : Nat → Addr} (hS : EnvS w0 base aE) {K V : It} {d bm ce ck : Nat} {ge : Option Nat} {es : List En} {bs : List Nat} (hD : Dk es bs ck) {k : Nat} (hk : k < 12) {kv : Value} (hK : ∀ w, WA w0 base (K :: V :: DI d ge ce bm false es bs ck r) w → KW k kv w) (hn : k ∉ es.map (·.k)) {v : Int} {vt : TypeId} {vx : Value} {kt : TypeId} {kx : Value} (hkv : kv = .iface kt kx) : FnC Tryz.prog 12 #[.pointer (some ⟨d, 0, none⟩), kv, .iface vt vx] (WA w0 base (K :: V :: DI d ge ce bm false es bs ck r)) (fun _ : Nat × (Option Nat × Nat) × List Nat × Nat => .nilIface) (fun q w => Dk (es ++ [⟨k, v, q.1, kv, .iface vt vx⟩]) q.2.2.1 q.2.2.2 ∧ WA w0 base (K :: V :: DI d q.2.1.1 q.2.1.2 bm false (es ++ [⟨k, v, q.1, kv, .iface vt vx⟩]) q.2.2.1 q.2.2.2 r) w) := FnC.conv (set_new hS hD hk (fun w hw => hK w (DI_out hw)) hn hkv hD.few) (fun w hw => DI_in hw) (fun q w hw => ⟨hw.1, DI_out hw.2⟩)
theorem get_no2 {w0 : World} {base : Nat} {r : List It} {aE : Nat → Addr} (hS : EnvS w0 base aE) {K V : It} {d bm ce ck : Nat} {ge : Option Nat} {es : List En} {bs : List Nat} (hD : Dk es bs ck) {k : Nat} (hk : k < 12) {kv : Value} (hK : ∀ w, WA w0 base (K :: V :: DI d ge ce bm false es bs ck r) w → KW k kv w) (hn : k ∉ es.map (·.k)) : FnC Tryz.prog 15 #[.pointer (some ⟨d, 0, none⟩), kv] (WA w0 base (K :: V :: DI d ge ce bm false es bs ck r)) (fun _ : Unit => .tuple #[.nilIface, .bool false, .nilIface]) (fun _ => WA w0 base (K :: V :: DI d ge ce bm false es bs ck r)) := FnC.conv (get_no hS hD hk (fun w hw => hK w (DI_out hw)) hn) (fun w hw => DI_in hw) (fun q w hw => DI_out hw)
theorem get_yes2 {w0 : World} {base : Nat} {r : List It} {aE : Nat → Addr} (hS : EnvS w0 base aE) {K V : It} {d bm ce ck : Nat} {ge : Option Nat} {es : List En} {bs : List Nat} (hD : Dk es bs ck) {k : Nat} (hk : k < 12) {kv : Value} (hK : ∀ w, WA w0 base (K :: V :: DI d ge ce bm false es bs ck r) w → KW k kv w) {i : Nat} {e : En} (hi : es[i]? = some e) (he : e.k = k) : FnC Tryz.prog 15 #[.pointer (some ⟨d, 0, none⟩), kv] (WA w0 base (K :: V :: DI d ge ce bm false es bs ck r)) (fun _ : Unit => .tuple #[e.vv, .bool true, .nilIface]) (fun _ => WA w0 base (K :: V :: DI d ge ce bm false es bs ck r)) := FnC.conv (get_yes hS hD hk (fun w hw => hK w (DI_out hw)) hi he) (fun w hw => DI_in hw) (fun q w hw => DI_out hw)
theorem del_no2 {w0 : World} {base : Nat} {r : List It} {aE : Nat → Addr} (hS : EnvS w0 base aE) {K V : It} {d bm ce ck : Nat} {ge : Option Nat} {es : List En} {bs : List Nat} (hD : Dk es bs ck) {k : Nat} (hk : k < 12) {kv : Value} (hK : ∀ w, WA w0 base (K :: V :: DI d ge ce bm false es bs ck r) w → KW k kv w) (hn : k ∉ es.map (·.k)) : FnC Tryz.prog 13 #[.pointer (some ⟨d, 0, none⟩), kv] (WA w0 base (K :: V :: DI d ge ce bm false es bs ck r)) (fun _ : Unit => .tuple #[.nilIface, .bool false, .nilIface]) (fun _ => WA w0 base (K :: V :: DI d ge ce bm false es bs ck r)) := FnC.conv (del_no hS hD hk (fun w hw => hK w (DI_out hw)) hn) (fun w hw => DI_in hw) (fun q w hw => DI_out hw)
theorem del_yes2 {w0 : World} {base : Nat} {r : List It} {aE : Nat → Addr} (hS : EnvS w0 base aE) {K V : It} {d bm ce ck : Nat} {ge : Option Nat} {es : List En} {bs : List Nat} (hD : Dk es bs ck) {k : Nat} (hk : k < 12) {kv : Value} (hK : ∀ w, WA w0 base (K :: V :: DI d ge ce bm false es bs ck r) w → KW k kv w) {i : Nat} {e : En} (hi : es[i]? = some e) (he : e.k = k) : FnC Tryz.prog 13 #[.pointer (some ⟨d, 0, none⟩), kv] (WA w0 base (K :: V :: DI d ge ce bm false es bs ck r)) (fun _ : Option Nat × Nat => .tuple #[e.vv, .bool true, .nilIface]) (fun q => WA w0 base (K :: V :: DI d q.1 q.2 bm false (es.eraseIdx i) (bs.eraseIdx i) ck r)) := FnC.conv (del_yes hS hD hk (fun w hw => hK w (DI_out hw)) hi he) (fun w hw => DI_in hw) (fun q w hw => DI_out hw)
theorem len2 {w0 : World} {base : Nat} {r : List It} {K V : It} {d bm ce ck : Nat} {ge : Option Nat} {fz : Bool} {es : List En} {bs : List Nat} : FnC Tryz.prog 18 #[.pointer (some ⟨d, 0, none⟩)] (WA w0 base (K :: V :: DI d ge ce bm fz es bs ck r)) (fun _ : Unit => .int .i64 (es.length : Int)) (fun _ => WA w0 base (K :: V :: DI d ge ce bm fz es bs ck r)) := FnC.conv len_c (fun w hw => DI_in hw) (fun q w hw => DI_out hw)
theorem freeze2 {w0 : World} {base : Nat} {r : List It} {aE : Nat → Addr} (hS : EnvS w0 base aE) {K V : It} {d bm ce ck : Nat} {ge : Option Nat} {es : List En} {bs : List Nat} (hD : Dk es bs ck) {ds : List It} (hent : ∀ e ∈ es, KI e.k e.kv ds ∧ VI e.v e.vv ds) (hds : ∀ it ∈ ds, it ∈ r) : FnC Tryz.prog 21 #[.iface 24 (.pointer (some ⟨d, 0, none⟩))] (WA w0 base (K :: V :: DI d ge ce bm false es bs ck r)) (fun _ : Unit => .tuple #[]) (fun _ => WA w0 base (K :: V :: DI d ge ce bm true es bs ck r)) := FnC.conv (Freeze_c hS hD hent (fun it h => List.mem_cons_of_mem _ (List.mem_cons_of_mem _ (hds it h)))) (fun w hw => DI_in hw) (fun q w hw => DI_out hw)
theorem items2 {w0 : World} {base : Nat} {r : List It} {K V : It} {d bm ce ck : Nat} {ge : Option Nat} {fz : Bool} {es : List En} {bs : List Nat} {ds : List It} (hD : Dk es bs ck) (hent : ∀ e ∈ es, KI e.k e.kv ds ∧ VI e.v e.vv ds) : FnC Tryz.prog 19 #[.iface 24 (.pointer (some ⟨d, 0, none⟩))] (WA w0 base (K :: V :: DI d ge ce bm fz es bs ck r)) (fun q : Option Nat × Nat => .tuple #[rv q.1 es.length q.2, .bool true]) (fun q => WA w0 base (.row q.1 q.2 (es.length) 31 1 (es.map fun e => e.kv) :: K :: V :: DI d ge ce bm fz es bs ck r)) := FnC.conv (Items_c hD hent) (fun w hw => DI_in hw) (fun q w hw => hw.perm ((List.perm_append_comm_assoc [K, V] ([_, _, _] ++ es.map entI) r).cons _))
theorem frozen2 {w0 : World} {base : Nat} {r : List It} {K V : It} {d bm ce ck : Nat} {ge : Option Nat} {es : List En} {bs : List Nat} : FnC Tryz.prog 22 #[.iface 24 (.pointer (some ⟨d, 0, none⟩))] (WA w0 base (K :: V :: DI d ge ce bm true es bs ck r)) (fun _ : Unit => .bool true) (fun _ => WA w0 base (K :: V :: DI d ge ce bm true es bs ck r)) := FnC.conv Frozen_c (fun w hw => DI_in hw) (fun q w hw => DI_out hw)
theorem setf2 {w0 : World} {base : Nat} {r : List It} {aE : Nat → Addr} (hS : EnvS w0 base aE) {K V : It} {d bm ce ck : Nat} {ge : Option Nat} {es : List En} {bs : List Nat} : FnC Tryz.prog 12 #[.pointer (some ⟨d, 0, none⟩), .iface 107 (.agg #[]), .iface 107 (.agg #[])] (WA w0 base (K :: V :: DI d ge ce bm true es bs ck r)) (fun _ : Unit => errV (aE 3)) (fun _ => WA w0 base (K :: V :: DI d ge ce bm true es bs ck r)) := FnC.conv (set_frozen hS) (fun w hw => DI_in hw) (fun q w hw => DI_out hw)
theorem onto_d {its : List It} {τ : Type} {f : FuncId} {args : Array Value} {vv : τ → Value} {w0 : World} {base : Nat} {new : τ → List It} (h : ∀ w, WA w0 base its w → FnC Tryz.prog f args (WA w w.heap.size []) vv (fun q w' => WA w w.heap.size (new q) w')) : FnC Tryz.prog f args (WA w0 base its) vv (fun q w' => WA w0 base (new q ++ its) w') := fun w hw =>
  (h w hw w (WA.start w)).mono fun e w' ⟨q, he, hn⟩ => ⟨q, he, WA.onto hw hn⟩
theorem ints_w {w0 : World} {base : Nat} {its : List It} {av : Option Addr} {cv m : Nat} {zs : List Int} {vs : List Value} (hv : vs = zs.map fun z => Value.int .i64 z) (hs : ∀ w, WA w0 base its w → Sl w w.heap.size av vs) (hm : vs.length = m) (h12 : m ≤ 12) : FnC Tryz.prog 14 #[.slice av m cv] (WA w0 base its) (fun q : Option Nat × Nat => rv q.1 m q.2) (fun q => WA w0 base (.row q.1 q.2 m 3 1 vs :: its)) := by
  subst hm
  exact onto_d (new := fun q : Option Nat × Nat => [.row q.1 q.2 vs.length 3 1 vs]) fun w hw => ints_c hv (hs w hw) h12
/-- what a Dict is told, where it lies -/
structure DoAt (w0 : World) (base : Nat) (av : Option Addr) (l : List (Int × Int × Int)) : Prop where
  at_ : ∀ (i : Nat) q, l[i]? = some q → ∃ a, av = some a ∧ (((a.add (i * 3)).add 0).block < base ∧ w0.cell? ((a.add (i * 3)).add 0) = some (.int .i64 q.1)) ∧ (((a.add (i * 3)).add 1).block < base ∧ w0.cell? ((a.add (i * 3)).add 1) = some (.int .i64 q.2.1)) ∧ (((a.add (i * 3)).add 2).block < base ∧ w0.cell? ((a.add (i * 3)).add 2) = some (.int .i64 q.2.2))
theorem Y.idxT {P : Program} {l : Fr} {W : World → Prop} {x y : Operand} {t ty : TypeId} {av : Option Addr} {a : Addr} {k c e i size : Nat} {kk : IntKind} (ht : P.underlying t = some (.slice e)) (hs : SizeIs P e size) (hx : evl l x = some (.slice av k c)) (hy : evl l y = some (.int kk (i : Int))) (hi : i < k) (ha : av = some a) :
    Y P l W (.indexAddr t x y) ty (.pointer (some (a.add (i * size)))) := by
  subst ha
  exact Y.idxA ht hs hx hy hi
def kI (es : List En) : List Value := es.map fun e => .int .i64 (e.k : Int)
def vI (es : List En) : List Value := es.map fun e => .int .i64 e.v
theorem kI_at {es : List En} {i : Nat} {e : En} (h : es[i]? = some e) : (kI es)[i]? = some (.int .i64 (e.k : Int)) := by unfold kI; rw [List.getElem?_map, h]; rfl
theorem vI_at {es : List En} {i : Nat} {e : En} (h : es[i]? = some e) : (vI es)[i]? = some (.int .i64 e.v) := by unfold vI; rw [List.getElem?_map, h]; rfl
theorem kI_len (es : List En) : (kI es).length = es.length := List.length_map _
theorem vI_len (es : List En) : (vI es).length = es.length := List.length_map _
theorem kI_one (es : List En) : (kI es).all (·.oneCell') = true := List.all_eq_true.2 fun v hv => by
  obtain ⟨x, _, rfl⟩ := List.mem_map.1 hv
  rfl
theorem vI_one (es : List En) : (vI es).all (·.oneCell') = true := List.all_eq_true.2 fun v hv => by
  obtain ⟨x, _, rfl⟩ := List.mem_map.1 hv
  rfl
theorem kI_take (es : List En) (i : Nat) : (kI es).take i = ((es.map fun e => (e.k : Int)).take i).map fun z => Value.int .i64 z := by unfold kI; rw [← List.map_take, ← List.map_take, List.map_map]; rfl
theorem vI_take (es : List En) (i : Nat) : (vI es).take i = ((es.map fun e => e.v).take i).map fun z => Value.int .i64 z := by unfold vI; rw [← List.map_take, ← List.map_take, List.map_map]; rfl
theorem erase_parts {xs : List Value} {n i : Nat} (hl : xs.length = n) (hi : i < n) : xs.take i ++ (xs.drop (i + 1)).take (n - (i + 1)) = xs.eraseIdx i := by
  rw [List.eraseIdx_eq_take_drop_succ]
  exact congrArg (xs.take i ++ ·) (List.take_of_length_le (by rw [List.length_drop]; omega))
/-- a place in the loop -/
structure MSt where
  i : Nat
  es : List En
  ge : Option Nat
  ce : Nat
  bs : List Nat
  ck : Nat
  gk : Option Nat
  kc : Nat
  gv : Option Nat
  vc : Nat
  ds : List It
structure MOk (s : MSt) : Prop where
  dk : Dk s.es s.bs s.ck
  ent : ∀ e ∈ s.es, KI e.k e.kv s.ds ∧ VI e.v e.vv s.ds
def atQ (q : Option (Nat × En)) : Int := match q with
  | none => -1
  | some x => (x.1 : Int)
/-- is it there, and where -/
def AtOk (es : List En) (k : Nat) (q : Option (Nat × En)) : Prop := match q with
  | none => k ∉ es.map (·.k)
  | some x => es[x.1]? = some x.2 ∧ x.2.k = k
end Go.Proofs.YtifanilblkellaaGreatDoor
