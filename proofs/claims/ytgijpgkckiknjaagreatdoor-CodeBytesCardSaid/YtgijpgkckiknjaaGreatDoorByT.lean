/-
  Proved here: numbers are written.
-/
import Derived.Test.YtgijpgkckiknjaaGreatDoorByS
import Derived.Test.YtgijpgkckiknjaaGreatDoorByP
namespace Go.Proofs.YtgijpgkckiknjaaGreatDoor
open Go.SX Go.RowKit Go.Ck Go.Lex Go.By
namespace Gb
theorem fa153_0 : FieldOffA Tryz.prog 153 0 0 := fun a w => by kernel_rfl
theorem fo153_0 : FieldOff Tryz.prog 153 0 0 := fun b o w => by kernel_rfl
theorem one79 : One Tryz.prog 79 := fun w => by kernel_rfl
theorem sz79 : SizeIs Tryz.prog 79 1 := fun w => by kernel_rfl
theorem un228 : Tryz.prog.underlying 228 = some (.int .u64) := by kernel_rfl
theorem un3 : Tryz.prog.underlying 3 = some (.int .i64) := by kernel_rfl
theorem un5 : Tryz.prog.underlying 5 = some (.int .u8) := by kernel_rfl
theorem un79 : Tryz.prog.underlying 79 = some (.slice 5) := by kernel_rfl
theorem el79 : Elem Tryz.prog 79 5 1 1 := Elem.of un79 (z := .int .u8 0) (by kernel_rfl) rfl
end Gb
theorem getD_mem {ns : List Int} {j : Nat} (h : j < ns.length) : ns.getD j 0 ∈ ns := by
  rw [List.getD_eq_getElem?_getD, List.getElem?_eq_getElem h]; exact List.getElem_mem h
theorem ints_at {ns : List Int} {j : Nat} (h : j < ns.length) : (ns.map iv)[j * 1]? = some (.int .i64 (ns.getD j 0)) := by
  rw [Nat.mul_one, List.getElem?_map, List.getD_eq_getElem?_getD, List.getElem?_eq_getElem h]; rfl
theorem flat_len {ns : List Int} (h : ∀ n ∈ ns, inI n) (j : Nat) : ((ns.take j).flatMap num).length ≤ 10 * ns.length := by
  induction ns generalizing j with
  | nil => simp
  | cons n r ih =>
    cases j with
    | zero => simp
    | succ j =>
      rw [List.take_succ_cons, List.flatMap_cons, List.length_append, List.length_cons]
      have h1 := num_len (h n List.mem_cons_self)
      have h2 := ih (fun x hx => h x (List.mem_cons_of_mem _ hx)) j
      omega
theorem pre_len {n : Int} (hn : inI n) {pre : List UInt8} {u : Nat} (h : pre ++ leb u = num n) : pre.length ≤ 10 := by
  have h1 := num_len hn
  have h2 := congrArg List.length h
  rw [List.length_append] at h2
  omega
theorem or_byte (u : Nat) : (u % 256 ||| 128) = u % 128 + 128 := by
  rw [or_128 _ (by omega)]; omega
/-- one more byte -/
theorem next_byte {WW : List UInt8 → Prop} {u : Nat} (bs ds pre : List UInt8) (h : WW ((bs ++ (ds ++ pre)) ++ [(u % 128 + 128).toUInt8])) : WW (bs ++ (ds ++ (pre ++ [(u % 128 + 128).toUInt8]))) := by
  rw [← List.append_assoc ds, ← List.append_assoc bs]; exact h
theorem last_byte {WW : List UInt8 → Prop} {u j : Nat} {bs pre : List UInt8} {ns : List Int} (hu : u < 128) (hd : pre ++ leb u = num (ns.getD j 0)) (hj : j < ns.length) (h : WW ((bs ++ ((ns.take j).flatMap num ++ pre)) ++ [u.toUInt8])) : WW (bs ++ (ns.take (j + 1)).flatMap num) := by
  rw [leb_lt hu] at hd
  have e : ns[j]? = some (ns.getD j 0) := by rw [List.getD_eq_getElem?_getD, List.getElem?_eq_getElem hj]; rfl
  rw [List.take_add_one, e, List.flatMap_append]
  simp only [Option.toList_some, List.flatMap_cons, List.flatMap_nil, List.append_nil]
  rw [← hd, ← List.append_assoc ((ns.take j).flatMap num), ← List.append_assoc bs]
  exact h
theorem map_b8 (bs : List UInt8) {n : Nat} (h : n < 256) : bs.map b8 ++ [Value.int .u8 ((n : Nat) : Int)] = (bs ++ [n.toUInt8]).map b8 := by
  rw [List.map_append, b8_of h]; rfl
theorem map_b8_len (bs : List UInt8) (c : UInt8) : (bs ++ [c]).length = bs.length + 1 := by simp
theorem wNum_c {w0 : World} {base : Nat} {fr : List It} {bw gt ct : Nat} {bs : List UInt8} {ns : List Int} (hns : ∀ n ∈ ns, inI n) (hb : bs.length ≤ 1099511627776) (hn : ns.length ≤ 10) (q : Option Nat × Nat) : FnC Tryz.prog 75 #[.pointer (some ⟨bw, 0, none⟩), .slice (some ⟨gt, 0, none⟩) ns.length ct] (WA w0 base (.row (some gt) ct ns.length 3 1 (ns.map iv) :: blk bw [rv q.1 bs.length q.2] 153 :: .row q.1 q.2 bs.length 5 1 (bs.map b8) :: fr)) (fun _ : Option Nat × Nat => .tuple #[]) (fun q => WA w0 base (.row (some gt) ct ns.length 3 1 (ns.map iv) :: blk bw [rv q.1 (bs ++ ns.flatMap num).length q.2] 153 :: .row q.1 q.2 (bs ++ ns.flatMap num).length 5 1 ((bs ++ ns.flatMap num).map b8) :: fr)) := by
  refine FnC.of_body (fn := Tryz.f75) [(0, _), (1, _)] Tryz.func75 rfl Tryz.ntmps75 rfl ⟨rfl, rfl, trivial⟩ ?_
  refine CX.seq ?_
  refine CX.region ?_
  refine LX.pure (Y.move rfl) rfl rfl rfl ?_
  refine LX.pure (Y.lenSl rfl Fj.un42 rfl) rfl rfl rfl ?_
  refine LX.pure (Y.move rfl) rfl rfl rfl ?_
  refine LX.sub (l' := [(0, _), (7, _), (8, _), (9, _)]) ⟨rfl, rfl, rfl, rfl, trivial⟩ ?_
  refine LX.next ?_
  refine PX.thenN ?_
  refine CX.block ?_
  refine CX.loop (fun s : Nat × Option Nat × Nat => [(0, .pointer (some ⟨bw, 0, none⟩)), (7, .slice (some ⟨gt, 0, none⟩) ns.length ct), (8, .int .i64 (ns.length : Int)), (9, .int .i64 (s.1 : Int))]) (fun (s : Nat × Option Nat × Nat) w => s.1 ≤ ns.length ∧ WA w0 base (.row (some gt) ct ns.length 3 1 (ns.map iv) :: blk bw [rv s.2.1 (bs ++ (ns.take s.1).flatMap num).length s.2.2] 153 :: .row s.2.1 s.2.2 (bs ++ (ns.take s.1).flatMap num).length 5 1 ((bs ++ (ns.take s.1).flatMap num).map b8) :: fr) w) (fun s => ns.length - s.1) (0, q) ⟨rfl, rfl, rfl, rfl, trivial⟩ (fun w hw => ⟨Nat.zero_le _, by rw [show bs ++ (ns.take 0).flatMap num = bs by simp]; exact hw⟩) ?_
  rintro ⟨j, q⟩
  refine CX.have fun hj0 => ?_
  try dsimp only at hj0 ⊢
  refine CX.seq ?_
  refine CX.region ?_
  refine LX.pure (Y.ltN rfl rfl) rfl rfl rfl ?_
  refine LX.sub (l' := [(0, _), (7, _), (8, _), (9, _), (10, _)]) ⟨rfl, rfl, rfl, rfl, rfl, trivial⟩ ?_
  refine LX.next ?_
  refine PX.thenN ?_
  refine CX.seq ?_
  refine CX.cond rfl (fun hb1 => ?_) (fun hb1 => ?_)
  · try simp at hb1
    have hj : j < ns.length := by omega
    have hin := hns _ (getD_mem hj)
    have hlj := flat_len hns j
    refine CX.skip ?_
    refine PX.thenN ?_
    refine CX.seq ?_
    refine CX.block ?_
    refine CX.seq ?_
    refine CX.region ?_
    refine LX.pure (Y.idxR 0 Fj.un42 Fjb.sz3 rfl rfl rfl hj) rfl rfl rfl ?_
    refine LX.pure (Y.ldR 0 (v := .int .i64 (ns.getD j 0)) Fjb.one3 rfl rfl (ints_at hj)) rfl rfl rfl ?_
    refine LX.pure (Y.assign rfl) rfl rfl rfl ?_
    refine LX.sub (l' := [(0, _), (5, _), (7, _), (8, _), (9, _)]) ⟨rfl, rfl, rfl, rfl, rfl, trivial⟩ ?_
    refine LX.next ?_
    refine PX.thenN ?_
    refine CX.seq ?_
    refine CX.region ?_
    refine LX.pure (Y.move rfl) rfl rfl rfl ?_
    refine LX.pure (Y.convU64 rfl Gb.un3 Gb.un228) rfl rfl rfl ?_
    refine LX.pure (Y.shl64 rfl rfl (by decide)) rfl rfl rfl ?_
    refine LX.pure (Y.move rfl) rfl rfl rfl ?_
    refine LX.pure (Y.shrI rfl rfl (by decide)) rfl rfl rfl ?_
    refine LX.pure (Y.convU64 rfl Gb.un3 Gb.un228) rfl rfl rfl ?_
    refine LX.pure (Y.xor64 rfl rfl (by omega) (low_lt _)) rfl rfl rfl ?_
    refine LX.pure (Y.assign rfl) rfl rfl rfl ?_
    refine LX.sub (l' := [(0, _), (6, _), (7, _), (8, _), (9, _)]) ⟨rfl, rfl, rfl, rfl, rfl, trivial⟩ ?_
    refine LX.next ?_
    refine PX.thenN ?_
    refine CX.seq ?_
    refine CX.block ?_
    refine CX.loop (fun s : (List UInt8 × Nat) × Option Nat × Nat => [(0, .pointer (some ⟨bw, 0, none⟩)), (6, .int .u64 (s.1.2 : Int)), (7, .slice (some ⟨gt, 0, none⟩) ns.length ct), (8, .int .i64 (ns.length : Int)), (9, .int .i64 (j : Int))]) (fun (s : (List UInt8 × Nat) × Option Nat × Nat) w => s.1.1 ++ leb s.1.2 = num (ns.getD j 0) ∧ WA w0 base (.row (some gt) ct ns.length 3 1 (ns.map iv) :: blk bw [rv s.2.1 (bs ++ ((ns.take j).flatMap num ++ s.1.1)).length s.2.2] 153 :: .row s.2.1 s.2.2 (bs ++ ((ns.take j).flatMap num ++ s.1.1)).length 5 1 ((bs ++ ((ns.take j).flatMap num ++ s.1.1)).map b8) :: fr) w) (fun s => s.1.2) (([], _), q) ⟨rfl, rfl, rfl, rfl, rfl, trivial⟩ (fun w hw => ⟨by rw [zig_eq hin.1 hin.2]; rfl, by rw [show bs ++ ((ns.take j).flatMap num ++ []) = bs ++ (ns.take j).flatMap num by simp]; exact hw⟩) ?_
    rintro ⟨⟨pre, u⟩, q⟩
    refine CX.have fun hdone => ?_
    try dsimp only at hdone ⊢
    have hpl := pre_len hin hdone
    have hlt : (bs ++ ((ns.take j).flatMap num ++ pre)).length ≤ 1099511627976 := by simp only [List.length_append]; omega
    refine CX.seq ?_
    refine CX.seq ?_
    refine CX.region ?_
    refine LX.pure (Y.move rfl) rfl rfl rfl ?_
    refine LX.pure (Y.geN rfl rfl) rfl rfl rfl ?_
    refine LX.sub (l' := [(0, _), (6, _), (7, _), (8, _), (9, _), (21, _)]) ⟨rfl, rfl, rfl, rfl, rfl, rfl, trivial⟩ ?_
    refine LX.next ?_
    refine PX.thenN ?_
    refine CX.cond rfl (fun hb2 => ?_) (fun hb2 => ?_)
    · try simp at hb2
      have hu : 128 ≤ u := by omega
      refine CX.skip ?_
      refine PX.thenN ?_
      refine CX.block ?_
      refine CX.seq ?_
      refine CX.region ?_
      refine LX.pure (Y.move rfl) rfl rfl rfl ?_
      refine LX.pure (Y.move rfl) rfl rfl rfl ?_
      refine LX.pure (Y.nilCheck rfl) rfl rfl rfl ?_
      refine LX.pure (Y.fieldAddr0 Gb.fo153_0 rfl) rfl rfl rfl ?_
      refine LX.pure (Y.ldB 1 Gb.one79 rfl rfl rfl) rfl rfl rfl ?_
      refine LX.pure (Y.move rfl) rfl rfl rfl ?_
      refine LX.pure (Y.convU8 rfl Gb.un228 Gb.un5) rfl rfl rfl ?_
      refine LX.pure (Y.or8 rfl rfl (by omega) (by decide)) rfl rfl rfl ?_
      refine LX.buildSlice (e := 5) (size := 1) rfl rfl (fun _ => by kernel_rfl) rfl (by decide) rfl rfl rfl ?_
      intro gt25
      refine LX.appendT 2 Gb.el79 rfl rfl rfl rfl rfl rfl rfl (by omega) (by omega) rfl rfl rfl ?_
      intro g' cap'
      refine LX.pure (Y.nilCheck rfl) rfl rfl rfl ?_
      refine LX.pure (Y.fieldAddr0 Gb.fo153_0 rfl) rfl rfl rfl ?_
      refine LX.storeB 1 Gb.sz79 rfl rfl rfl rfl rfl rfl rfl rfl ?_
      refine LX.sub (l' := [(0, _), (6, _), (7, _), (8, _), (9, _)]) ⟨rfl, rfl, rfl, rfl, rfl, trivial⟩ ?_
      refine LX.next ?_
      refine PX.thenN ?_
      refine CX.region ?_
      refine LX.pure (Y.move rfl) rfl rfl rfl ?_
      refine LX.pure (Y.shr64 rfl rfl (by decide)) rfl rfl rfl ?_
      refine LX.pure (Y.assign rfl) rfl rfl rfl ?_
      refine LX.sub (l' := [(0, _), (6, _), (7, _), (8, _), (9, _)]) ⟨rfl, rfl, rfl, rfl, rfl, trivial⟩ ?_
      refine LX.next ?_
      refine PX.blockN ?_
      exact PX.again (L := (fun s : (List UInt8 × Nat) × Option Nat × Nat => [(0, .pointer (some ⟨bw, 0, none⟩)), (6, .int .u64 (s.1.2 : Int)), (7, .slice (some ⟨gt, 0, none⟩) ns.length ct), (8, .int .i64 (ns.length : Int)), (9, .int .i64 (j : Int))])) (WW := (fun (s : (List UInt8 × Nat) × Option Nat × Nat) w => s.1.1 ++ leb s.1.2 = num (ns.getD j 0) ∧ WA w0 base (.row (some gt) ct ns.length 3 1 (ns.map iv) :: blk bw [rv s.2.1 (bs ++ ((ns.take j).flatMap num ++ s.1.1)).length s.2.2] 153 :: .row s.2.1 s.2.2 (bs ++ ((ns.take j).flatMap num ++ s.1.1)).length 5 1 ((bs ++ ((ns.take j).flatMap num ++ s.1.1)).map b8) :: fr) w)) (μ := fun s => s.1.2) (i := ((pre, u), q)) ((pre ++ [(u % 128 + 128).toUInt8], u / 128), (g', cap')) (by show u / 128 < u; omega) ⟨rfl, rfl, rfl, rfl, rfl, trivial⟩ (fun w hw => ⟨by show (pre ++ [_]) ++ leb (u / 128) = _; rw [← hdone, leb_ge (u := u) (by omega), List.append_assoc]; rfl, by have h1 := next_byte (WW := fun bs => WA w0 base (.row (some gt) ct ns.length 3 1 (ns.map iv) :: blk bw [rv g' bs.length cap'] 153 :: .row g' cap' bs.length 5 1 (bs.map b8) :: fr) w) (u := u) bs ((ns.take j).flatMap num) pre; refine h1 ?_; show WA w0 base (_ :: blk bw [rv g' ((bs ++ ((ns.take j).flatMap num ++ pre)) ++ [(u % 128 + 128).toUInt8]).length cap'] _ :: .row g' cap' ((bs ++ ((ns.take j).flatMap num ++ pre)) ++ [(u % 128 + 128).toUInt8]).length _ 1 (((bs ++ ((ns.take j).flatMap num ++ pre)) ++ [(u % 128 + 128).toUInt8]).map b8) :: fr) w; rw [map_b8_len, ← map_b8 _ (show u % 128 + 128 < 256 by omega), ← or_byte u]; exact hw⟩)
    · try simp at hb2
      have hu : u < 128 := by omega
      refine CX.exit ?_
      refine PX.thenE ?_
      refine PX.thenE ?_
      refine PX.blockE ?_
      refine PX.thenN ?_
      refine CX.region ?_
      refine LX.pure (Y.move rfl) rfl rfl rfl ?_
      refine LX.pure (Y.move rfl) rfl rfl rfl ?_
      refine LX.pure (Y.nilCheck rfl) rfl rfl rfl ?_
      refine LX.pure (Y.fieldAddr0 Gb.fo153_0 rfl) rfl rfl rfl ?_
      refine LX.pure (Y.ldB 1 Gb.one79 rfl rfl rfl) rfl rfl rfl ?_
      refine LX.pure (Y.move rfl) rfl rfl rfl ?_
      refine LX.pure (Y.convU8 rfl Gb.un228 Gb.un5) rfl rfl rfl ?_
      refine LX.buildSlice (e := 5) (size := 1) rfl rfl (fun _ => by kernel_rfl) rfl (by decide) rfl rfl rfl ?_
      intro gt40
      refine LX.appendT 2 Gb.el79 rfl rfl rfl rfl rfl rfl rfl (by omega) (by omega) rfl rfl rfl ?_
      intro g' cap'
      refine LX.pure (Y.nilCheck rfl) rfl rfl rfl ?_
      refine LX.pure (Y.fieldAddr0 Gb.fo153_0 rfl) rfl rfl rfl ?_
      refine LX.storeB 1 Gb.sz79 rfl rfl rfl rfl rfl rfl rfl rfl ?_
      refine LX.sub (l' := [(0, _), (7, _), (8, _), (9, _)]) ⟨rfl, rfl, rfl, rfl, trivial⟩ ?_
      refine LX.next ?_
      refine PX.blockN ?_
      refine PX.thenN ?_
      refine CX.region ?_
      refine LX.pure (Y.addN rfl rfl (by (simp only []; omega))) rfl rfl rfl ?_
      refine LX.pure (Y.move rfl) rfl rfl rfl ?_
      refine LX.sub (l' := [(0, _), (7, _), (8, _), (9, _)]) ⟨rfl, rfl, rfl, rfl, trivial⟩ ?_
      refine LX.next ?_
      exact PX.again (L := (fun s : Nat × Option Nat × Nat => [(0, .pointer (some ⟨bw, 0, none⟩)), (7, .slice (some ⟨gt, 0, none⟩) ns.length ct), (8, .int .i64 (ns.length : Int)), (9, .int .i64 (s.1 : Int))])) (WW := (fun (s : Nat × Option Nat × Nat) w => s.1 ≤ ns.length ∧ WA w0 base (.row (some gt) ct ns.length 3 1 (ns.map iv) :: blk bw [rv s.2.1 (bs ++ (ns.take s.1).flatMap num).length s.2.2] 153 :: .row s.2.1 s.2.2 (bs ++ (ns.take s.1).flatMap num).length 5 1 ((bs ++ (ns.take s.1).flatMap num).map b8) :: fr) w)) (μ := fun s => ns.length - s.1) (i := (j, q)) (j + 1, (g', cap')) (by show ns.length - (j + 1) < ns.length - j; omega) ⟨rfl, rfl, rfl, rfl, trivial⟩ (fun w hw => ⟨by show j + 1 ≤ ns.length; omega, by have h1 := last_byte (WW := fun bs => WA w0 base (.row (some gt) ct ns.length 3 1 (ns.map iv) :: blk bw [rv g' bs.length cap'] 153 :: .row g' cap' bs.length 5 1 (bs.map b8) :: fr) w) (bs := bs) hu hdone hj; refine h1 ?_; show WA w0 base (_ :: blk bw [rv g' ((bs ++ ((ns.take j).flatMap num ++ pre)) ++ [u.toUInt8]).length cap'] _ :: .row g' cap' ((bs ++ ((ns.take j).flatMap num ++ pre)) ++ [u.toUInt8]).length _ 1 (((bs ++ ((ns.take j).flatMap num ++ pre)) ++ [u.toUInt8]).map b8) :: fr) w; rw [map_b8_len, ← map_b8 _ (show u < 256 by omega)]; have hw2 := hw; rw [show u % 256 = u from Nat.mod_eq_of_lt (by omega)] at hw2; exact hw2⟩)
  · try simp at hb1
    have hje : j = ns.length := by omega
    subst hje
    rw [List.take_length]
    refine CX.exit ?_
    refine PX.thenE ?_
    refine PX.thenE ?_
    refine PX.blockE ?_
    refine PX.ret0 (by simp) Tryz.results75 ?_
    exact fun w hw => ⟨q, rfl, hw⟩
end Go.Proofs.YtgijpgkckiknjaaGreatDoor
