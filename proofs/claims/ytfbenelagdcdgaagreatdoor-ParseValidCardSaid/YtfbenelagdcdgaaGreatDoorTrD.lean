/-
  Proved here: a node's kids.
-/
import Derived.Test.YtfbenelagdcdgaaGreatDoorTrC
set_option linter.unusedSimpArgs false
namespace Go.Proofs.YtfbenelagdcdgaaGreatDoor
open Go.SX Go.RowKit Go.Tr
namespace Fw
theorem en165 : Enters Tryz.prog 165 := Enters.of Tryz.func165 (by kernel_rfl) (by kernel_rfl)
theorem en166 : Enters Tryz.prog 166 := Enters.of Tryz.func166 (by kernel_rfl) (by kernel_rfl)
theorem en168 : Enters Tryz.prog 168 := Enters.of Tryz.func168 (by kernel_rfl) (by kernel_rfl)
theorem en171 : Enters Tryz.prog 171 := Enters.of Tryz.func171 (by kernel_rfl) (by kernel_rfl)
theorem en172 : Enters Tryz.prog 172 := Enters.of Tryz.func172 (by kernel_rfl) (by kernel_rfl)
theorem en174 : Enters Tryz.prog 174 := Enters.of Tryz.func174 (by kernel_rfl) (by kernel_rfl)
theorem en176 : Enters Tryz.prog 176 := Enters.of Tryz.func176 (by kernel_rfl) (by kernel_rfl)
theorem en234 : Enters Tryz.prog 234 := Enters.of Tryz.func234 (by kernel_rfl) (by kernel_rfl)
end Fw
theorem more_c {w0 : World} {base : Nat} {bq : Nat} {al : Option Addr} {cl : Nat} {uv : Value} {l : List Nd} (i : Nat) (hi : i ≤ l.length) (hA : Ahead l i) (n : Nat) (hni : i ≤ n) {ak : Option Addr} (ck : Nat) {ks : List Int} (hkn : ks.length ≤ 9223372036854775807) (hr : ∀ k ∈ ks, 0 ≤ k ∧ k < (i : Int)) (hkc : ks.length ≤ ck) (op : Int)  (hq : Cq w0 base bq al cl uv l ndA) (hk : SlAt 1 intA (Lies w0 base) ak ks) : FnC Tryz.prog 176 #[.pointer (some ⟨bq, 0, none⟩), .int .i64 op, .slice ak ks.length ck] (WA w0 base []) (fun _ : Unit => .bool (more l n op ks)) (fun _ => WA w0 base []) := by
  refine FnC.of_body (fn := Tryz.f176) [(0, _), (1, _), (2, _)] Tryz.func176 rfl Tryz.ntmps176 rfl ⟨rfl, rfl, rfl, trivial⟩ ?_
  refine CX.seq <| CX.region <| LX.pure (Y.assign rfl) rfl rfl rfl <| LX.sub (l' := [(0, _), (1, _), (2, _), (6, _)]) ⟨rfl, rfl, rfl, rfl, trivial⟩ <| LX.next <| PX.thenN <| CX.seq <| CX.seq <| CX.region <| LX.pure (Y.move rfl) rfl rfl rfl <| LX.sub (l' := [(0, _), (1, _), (2, _), (6, _), (8, _)]) ⟨rfl, rfl, rfl, rfl, rfl, trivial⟩ <| LX.next <| PX.thenN <| CX.block <| CX.seq <| CX.region <| LX.pure (Y.eqI rfl rfl) rfl rfl rfl <| LX.pure (Y.assign rfl) rfl rfl rfl <| LX.sub (l' := [(0, _), (1, _), (2, _), (6, _), (8, _), (9, _)]) ⟨rfl, rfl, rfl, rfl, rfl, rfl, trivial⟩ <| LX.next <| PX.thenN ?_
  refine CX.cond rfl (fun hb1 => ?_) (fun hb1 => ?_)
  · try simp at hb1
    refine CX.seq <| CX.region <| LX.pure (Y.move rfl) rfl rfl rfl <| LX.pure (Y.lenSl rfl Ft.un30 rfl) rfl rfl rfl <| LX.pure (Y.eqN rfl rfl) rfl rfl rfl <| LX.pure (Y.move rfl) rfl rfl rfl <| LX.sub (l' := [(0, _), (1, _), (2, _), (6, _), (14, _)]) ⟨rfl, rfl, rfl, rfl, rfl, trivial⟩ ?_
    apply LX.joinAnd 6 20 14 rfl
    · intro hb2
      have hb2p := hb2
      try simp at hb2p
      refine LX.gT rfl rfl rfl hb2 (Y.move rfl) rfl rfl <| LX.gT rfl rfl rfl hb2 (Y.move rfl) rfl rfl ?_
      obtain ⟨a0, hav0, hL0, _⟩ := hk.int_at (j := 0) (by omega)
      have hr0 := hr _ (getD_mem (j := 0) (by omega))
      refine LX.gT rfl rfl rfl hb2 (Y.idxZ Ft.un30 Ft.sz3 rfl rfl hav0 (j := 0) rfl (by omega)) rfl rfl <| LX.gT rfl rfl rfl hb2 (Y.ldO1 (v := .int .i64 (ks.getD 0 0)) Ft.one3 rfl hL0) rfl rfl <| LX.callQT rfl rfl rfl hb2 (target_q i hA hi n _ hr0.1 hr0.2 (by omega) (fun w hw => hq.push hw)) Fu.en170 rfl rfl rfl rfl <| LX.pure (Y.pickT rfl hb2 rfl) rfl rfl rfl ?_
      exact LX.left ⟨rfl, rfl, rfl, rfl, rfl, rfl, trivial⟩
    · intro hb2
      have hb2p := hb2
      try simp at hb2p
      refine LX.gF rfl rfl rfl hb2 rfl rfl <| LX.gF rfl rfl rfl hb2 rfl rfl <| LX.gF rfl rfl rfl hb2 rfl rfl <| LX.gF rfl rfl rfl hb2 rfl rfl <| LX.gF rfl rfl rfl hb2 rfl rfl <| LX.pure (Y.pickF rfl hb2 rfl) rfl rfl rfl ?_
      exact LX.left ⟨rfl, rfl, rfl, rfl, rfl, rfl, trivial⟩
    refine LX.pure (Y.move rfl) rfl rfl rfl <| LX.sub (l' := [(0, _), (1, _), (2, _), (6, _), (21, _)]) ⟨rfl, rfl, rfl, rfl, rfl, trivial⟩ ?_
    apply LX.joinAnd 5 26 21 rfl
    · intro hb3
      have hb3p := hb3
      try simp at hb3p
      refine LX.gT rfl rfl rfl hb3 (Y.move rfl) rfl rfl <| LX.gT rfl rfl rfl hb3 (Y.move rfl) rfl rfl <| LX.gT rfl rfl rfl hb3 (Y.cutLoT (b := 1) (m := (ks.drop 1).length) Ft.un30 Ft.sz3 rfl rfl (by omega) (by rw [List.length_drop])) rfl rfl <| LX.callQT rfl rfl rfl hb3 (exprs_q i hi (ck - 1) (by rw [List.length_drop]; omega) (fun q hq2 => hr q (List.mem_of_mem_drop hq2)) _ _ (fun w hw => hq.push hw) (fun w hw => (hk.dropV hkc 1).push hw)) Fw.en165 rfl rfl rfl rfl <| LX.pure (Y.pickT rfl hb3 rfl) rfl rfl rfl ?_
      exact LX.left ⟨rfl, rfl, rfl, rfl, rfl, rfl, trivial⟩
    · intro hb3
      have hb3p := hb3
      try simp at hb3p
      refine LX.gF rfl rfl rfl hb3 rfl rfl <| LX.gF rfl rfl rfl hb3 rfl rfl <| LX.gF rfl rfl rfl hb3 rfl rfl <| LX.gF rfl rfl rfl hb3 rfl rfl <| LX.pure (Y.pickF rfl hb3 rfl) rfl rfl rfl ?_
      exact LX.left ⟨rfl, rfl, rfl, rfl, rfl, rfl, trivial⟩
    refine LX.pure (Y.assign rfl) rfl rfl rfl <| LX.sub (l' := [(0, _), (1, _), (2, _), (6, _)]) ⟨rfl, rfl, rfl, rfl, trivial⟩ <| LX.next <| PX.thenN <| CX.ret <| PX.blockR <| PX.thenR <| PX.ret1 (by simp) Tryz.results176 rfl ?_
    exact fun w hw => ⟨(), congrArg (fun z => Ending.returned (Value.bool z)) (by
      unfold more
      repeat (rw [if_pos (by omega)])
      try rfl), hw⟩
  try simp at hb1
  refine CX.seq <| CX.region <| LX.pure (Y.eqI rfl rfl) rfl rfl rfl <| LX.pure (Y.assign rfl) rfl rfl rfl <| LX.sub (l' := [(0, _), (1, _), (2, _), (6, _), (8, _), (27, _)]) ⟨rfl, rfl, rfl, rfl, rfl, rfl, trivial⟩ <| LX.next <| PX.thenN ?_
  refine CX.cond rfl (fun hb4 => ?_) (fun hb4 => ?_)
  · try simp at hb4
    refine CX.seq <| CX.region <| LX.pure (Y.move rfl) rfl rfl rfl <| LX.pure (Y.lenSl rfl Ft.un30 rfl) rfl rfl rfl <| LX.pure (Y.eqN rfl rfl) rfl rfl rfl <| LX.pure (Y.move rfl) rfl rfl rfl <| LX.sub (l' := [(0, _), (1, _), (2, _), (6, _), (32, _)]) ⟨rfl, rfl, rfl, rfl, rfl, trivial⟩ ?_
    apply LX.joinAnd 13 45 32 rfl
    · intro hb5
      have hb5p := hb5
      try simp at hb5p
      refine LX.gT rfl rfl rfl hb5 (Y.move rfl) rfl rfl <| LX.gT rfl rfl rfl hb5 (Y.move rfl) rfl rfl ?_
      obtain ⟨a0, hav0, hL0, _⟩ := hk.int_at (j := 0) (by omega)
      have hr0 := hr _ (getD_mem (j := 0) (by omega))
      refine LX.gT rfl rfl rfl hb5 (Y.idxZ Ft.un30 Ft.sz3 rfl rfl hav0 (j := 0) rfl (by omega)) rfl rfl <| LX.gT rfl rfl rfl hb5 (Y.ldO1 (v := .int .i64 (ks.getD 0 0)) Ft.one3 rfl hL0) rfl rfl <| LX.callQT rfl rfl rfl hb5 (op_q _ _ ⟨hr0.1, by omega⟩ (fun w hw => hq.push hw)) Fu.en173 rfl rfl rfl rfl <| LX.gT rfl rfl rfl hb5 (Y.move rfl) rfl rfl <| LX.sub (l' := [(0, _), (1, _), (2, _), (6, _), (32, _), (38, _)]) ⟨rfl, rfl, rfl, rfl, rfl, rfl, trivial⟩ ?_
      apply LX.joinOr 6 44 38 rfl
      · intro hb6
        have hb6p := hb6
        try simp at hb6p
        refine LX.gF rfl rfl rfl hb6 rfl rfl <| LX.gF rfl rfl rfl hb6 rfl rfl <| LX.gF rfl rfl rfl hb6 rfl rfl <| LX.gF rfl rfl rfl hb6 rfl rfl <| LX.gF rfl rfl rfl hb6 rfl rfl <| LX.gT rfl rfl rfl hb5 (Y.pickT rfl hb6 rfl) rfl rfl ?_
        exact LX.left ⟨rfl, rfl, rfl, rfl, rfl, rfl, rfl, trivial⟩
      · intro hb6
        have hb6p := hb6
        try simp at hb6p
        refine LX.gT rfl rfl rfl hb6 (Y.move rfl) rfl rfl <| LX.gT rfl rfl rfl hb6 (Y.move rfl) rfl rfl ?_
        obtain ⟨a0, hav0, hL0, _⟩ := hk.int_at (j := 0) (by omega)
        have hr0 := hr _ (getD_mem (j := 0) (by omega))
        refine LX.gT rfl rfl rfl hb6 (Y.idxZ Ft.un30 Ft.sz3 rfl rfl hav0 (j := 0) rfl (by omega)) rfl rfl <| LX.gT rfl rfl rfl hb6 (Y.ldO1 (v := .int .i64 (ks.getD 0 0)) Ft.one3 rfl hL0) rfl rfl <| LX.callQT rfl rfl rfl hb6 (op_q _ _ ⟨hr0.1, by omega⟩ (fun w hw => hq.push hw)) Fu.en173 rfl rfl rfl rfl <| LX.gT rfl rfl rfl hb5 (Y.pickF rfl hb6 rfl) rfl rfl ?_
        exact LX.left ⟨rfl, rfl, rfl, rfl, rfl, rfl, rfl, trivial⟩
      refine LX.pure (Y.pickT rfl hb5 rfl) rfl rfl rfl ?_
      exact LX.left ⟨rfl, rfl, rfl, rfl, rfl, rfl, trivial⟩
    · intro hb5
      have hb5p := hb5
      try simp at hb5p
      refine LX.gF rfl rfl rfl hb5 rfl rfl <| LX.gF rfl rfl rfl hb5 rfl rfl <| LX.gF rfl rfl rfl hb5 rfl rfl <| LX.gF rfl rfl rfl hb5 rfl rfl <| LX.gF rfl rfl rfl hb5 rfl rfl <| LX.gF rfl rfl rfl hb5 rfl rfl <| LX.gU rfl rfl rfl rfl rfl <| LX.gU rfl rfl rfl rfl rfl <| LX.gU rfl rfl rfl rfl rfl <| LX.gU rfl rfl rfl rfl rfl <| LX.gU rfl rfl rfl rfl rfl <| LX.gF rfl rfl rfl hb5 rfl rfl <| LX.pure (Y.pickF rfl hb5 rfl) rfl rfl rfl ?_
      exact LX.left ⟨rfl, rfl, rfl, rfl, rfl, rfl, trivial⟩
    refine LX.pure (Y.move rfl) rfl rfl rfl <| LX.sub (l' := [(0, _), (1, _), (2, _), (6, _), (46, _)]) ⟨rfl, rfl, rfl, rfl, rfl, trivial⟩ ?_
    apply LX.joinAnd 5 51 46 rfl
    · intro hb7
      have hb7p := hb7
      try simp at hb7p
      refine LX.gT rfl rfl rfl hb7 (Y.move rfl) rfl rfl <| LX.gT rfl rfl rfl hb7 (Y.move rfl) rfl rfl <| LX.gT rfl rfl rfl hb7 (Y.cutLoT (b := 1) (m := (ks.drop 1).length) Ft.un30 Ft.sz3 rfl rfl (by omega) (by rw [List.length_drop])) rfl rfl <| LX.callQT rfl rfl rfl hb7 (exprs_q i hi (ck - 1) (by rw [List.length_drop]; omega) (fun q hq2 => hr q (List.mem_of_mem_drop hq2)) _ _ (fun w hw => hq.push hw) (fun w hw => (hk.dropV hkc 1).push hw)) Fw.en165 rfl rfl rfl rfl <| LX.pure (Y.pickT rfl hb7 rfl) rfl rfl rfl ?_
      exact LX.left ⟨rfl, rfl, rfl, rfl, rfl, rfl, trivial⟩
    · intro hb7
      have hb7p := hb7
      try simp at hb7p
      refine LX.gF rfl rfl rfl hb7 rfl rfl <| LX.gF rfl rfl rfl hb7 rfl rfl <| LX.gF rfl rfl rfl hb7 rfl rfl <| LX.gF rfl rfl rfl hb7 rfl rfl <| LX.pure (Y.pickF rfl hb7 rfl) rfl rfl rfl ?_
      exact LX.left ⟨rfl, rfl, rfl, rfl, rfl, rfl, trivial⟩
    refine LX.pure (Y.assign rfl) rfl rfl rfl <| LX.sub (l' := [(0, _), (1, _), (2, _), (6, _)]) ⟨rfl, rfl, rfl, rfl, trivial⟩ <| LX.next <| PX.thenN <| CX.ret <| PX.blockR <| PX.thenR <| PX.ret1 (by simp) Tryz.results176 rfl ?_
    exact fun w hw => ⟨(), congrArg (fun z => Ending.returned (Value.bool z)) (by
      unfold more
      repeat (first | rw [if_pos (by omega)] | rw [if_neg (by omega)])
      try rfl), hw⟩
  try simp at hb4
  refine CX.seq <| CX.region <| LX.pure (Y.eqI rfl rfl) rfl rfl rfl <| LX.pure (Y.assign rfl) rfl rfl rfl <| LX.sub (l' := [(0, _), (1, _), (2, _), (6, _), (8, _), (52, _)]) ⟨rfl, rfl, rfl, rfl, rfl, rfl, trivial⟩ <| LX.next <| PX.thenN ?_
  refine CX.cond rfl (fun hb8 => ?_) (fun hb8 => ?_)
  · try simp at hb8
    refine CX.seq <| CX.region <| LX.pure (Y.move rfl) rfl rfl rfl <| LX.pure (Y.lenSl rfl Ft.un30 rfl) rfl rfl rfl <| LX.pure (Y.eqN rfl rfl) rfl rfl rfl <| LX.pure (Y.move rfl) rfl rfl rfl <| LX.sub (l' := [(0, _), (1, _), (2, _), (6, _), (57, _)]) ⟨rfl, rfl, rfl, rfl, rfl, trivial⟩ ?_
    apply LX.joinOr 4 61 57 rfl
    · intro hb9
      have hb9p := hb9
      try simp at hb9p
      refine LX.gF rfl rfl rfl hb9 rfl rfl <| LX.gF rfl rfl rfl hb9 rfl rfl <| LX.gF rfl rfl rfl hb9 rfl rfl <| LX.pure (Y.pickT rfl hb9 rfl) rfl rfl rfl ?_
      exact LX.left ⟨rfl, rfl, rfl, rfl, rfl, rfl, trivial⟩
    · intro hb9
      have hb9p := hb9
      try simp at hb9p
      refine LX.gT rfl rfl rfl hb9 (Y.move rfl) rfl rfl <| LX.gT rfl rfl rfl hb9 (Y.lenSl rfl Ft.un30 rfl) rfl rfl <| LX.gT rfl rfl rfl hb9 (Y.eqN rfl rfl) rfl rfl <| LX.pure (Y.pickF rfl hb9 rfl) rfl rfl rfl ?_
      exact LX.left ⟨rfl, rfl, rfl, rfl, rfl, rfl, trivial⟩
    refine LX.pure (Y.move rfl) rfl rfl rfl <| LX.sub (l' := [(0, _), (1, _), (2, _), (6, _), (62, _)]) ⟨rfl, rfl, rfl, rfl, rfl, trivial⟩ ?_
    apply LX.joinAnd 5 67 62 rfl
    · intro hb10
      have hb10p := hb10
      try simp at hb10p
      refine LX.gT rfl rfl rfl hb10 (Y.move rfl) rfl rfl <| LX.gT rfl rfl rfl hb10 (Y.move rfl) rfl rfl <| LX.gT rfl rfl rfl hb10 (Y.cutHiT (b := 1) (m := (ks.take (1)).length) Ft.un30 Ft.sz3 rfl rfl (by omega) (by rw [List.length_take]; omega)) rfl rfl <| LX.callQT rfl rfl rfl hb10 (exprs_q i hi ck (by rw [List.length_take]; omega) (fun q hq2 => hr q (List.mem_of_mem_take hq2)) _ _ (fun w hw => hq.push hw) (fun w hw => (hk.take (1)).push hw)) Fw.en165 rfl rfl rfl rfl <| LX.pure (Y.pickT rfl hb10 rfl) rfl rfl rfl ?_
      exact LX.left ⟨rfl, rfl, rfl, rfl, rfl, rfl, trivial⟩
    · intro hb10
      have hb10p := hb10
      try simp at hb10p
      refine LX.gF rfl rfl rfl hb10 rfl rfl <| LX.gF rfl rfl rfl hb10 rfl rfl <| LX.gF rfl rfl rfl hb10 rfl rfl <| LX.gF rfl rfl rfl hb10 rfl rfl <| LX.pure (Y.pickF rfl hb10 rfl) rfl rfl rfl ?_
      exact LX.left ⟨rfl, rfl, rfl, rfl, rfl, rfl, trivial⟩
    refine LX.pure (Y.move rfl) rfl rfl rfl <| LX.sub (l' := [(0, _), (1, _), (2, _), (6, _), (68, _)]) ⟨rfl, rfl, rfl, rfl, rfl, trivial⟩ ?_
    apply LX.joinAnd 5 73 68 rfl
    · intro hb11
      have hb11p := hb11
      try simp at hb11p
      refine LX.gT rfl rfl rfl hb11 (Y.move rfl) rfl rfl <| LX.gT rfl rfl rfl hb11 (Y.move rfl) rfl rfl <| LX.gT rfl rfl rfl hb11 (Y.cutLoT (b := 1) (m := (ks.drop 1).length) Ft.un30 Ft.sz3 rfl rfl (by omega) (by rw [List.length_drop])) rfl rfl <| LX.callQT rfl rfl rfl hb11 (all_q i hi (ck - 1) (by rw [List.length_drop]; omega) (fun q hq2 => hr q (List.mem_of_mem_drop hq2)) _ #[] (fun x => decide (x.op = 47)) (fun w hw => hq.push hw) (fun w hw => (hk.dropV hkc 1).push hw) (fun w hw => ⟨Fw.en234, fun its k x cs hx hi hn => more1_q (fun w hw => Kept.mono (fun _ _ h => h.push hw) hn)⟩)) Ft.en167 rfl rfl rfl rfl <| LX.pure (Y.pickT rfl hb11 rfl) rfl rfl rfl ?_
      exact LX.left ⟨rfl, rfl, rfl, rfl, rfl, rfl, trivial⟩
    · intro hb11
      have hb11p := hb11
      try simp at hb11p
      refine LX.gF rfl rfl rfl hb11 rfl rfl <| LX.gF rfl rfl rfl hb11 rfl rfl <| LX.gF rfl rfl rfl hb11 rfl rfl <| LX.gF rfl rfl rfl hb11 rfl rfl <| LX.pure (Y.pickF rfl hb11 rfl) rfl rfl rfl ?_
      exact LX.left ⟨rfl, rfl, rfl, rfl, rfl, rfl, trivial⟩
    refine LX.pure (Y.assign rfl) rfl rfl rfl <| LX.sub (l' := [(0, _), (1, _), (2, _), (6, _)]) ⟨rfl, rfl, rfl, rfl, trivial⟩ <| LX.next <| PX.thenN <| CX.ret <| PX.blockR <| PX.thenR <| PX.ret1 (by simp) Tryz.results176 rfl ?_
    exact fun w hw => ⟨(), congrArg (fun z => Ending.returned (Value.bool z)) (by
      unfold more
      repeat (first | rw [if_pos (by omega)] | rw [if_neg (by omega)])
      try rfl), hw⟩
  try simp at hb8
  refine CX.seq <| CX.region <| LX.pure (Y.eqI rfl rfl) rfl rfl rfl <| LX.pure (Y.assign rfl) rfl rfl rfl <| LX.sub (l' := [(0, _), (1, _), (2, _), (6, _), (74, _)]) ⟨rfl, rfl, rfl, rfl, rfl, trivial⟩ <| LX.next <| PX.thenN ?_
  refine CX.cond rfl (fun hb12 => ?_) (fun hb12 => ?_)
  · try simp at hb12
    refine CX.seq <| CX.region <| LX.pure (Y.move rfl) rfl rfl rfl <| LX.pure (Y.lenSl rfl Ft.un30 rfl) rfl rfl rfl <| LX.pure (Y.eqN rfl rfl) rfl rfl rfl <| LX.pure (Y.move rfl) rfl rfl rfl <| LX.sub (l' := [(0, _), (1, _), (2, _), (6, _), (79, _)]) ⟨rfl, rfl, rfl, rfl, rfl, trivial⟩ ?_
    apply LX.joinAnd 6 85 79 rfl
    · intro hb13
      have hb13p := hb13
      try simp at hb13p
      refine LX.gT rfl rfl rfl hb13 (Y.move rfl) rfl rfl <| LX.gT rfl rfl rfl hb13 (Y.move rfl) rfl rfl ?_
      obtain ⟨a0, hav0, hL0, _⟩ := hk.int_at (j := 0) (by omega)
      have hr0 := hr _ (getD_mem (j := 0) (by omega))
      refine LX.gT rfl rfl rfl hb13 (Y.idxZ Ft.un30 Ft.sz3 rfl rfl hav0 (j := 0) rfl (by omega)) rfl rfl <| LX.gT rfl rfl rfl hb13 (Y.ldO1 (v := .int .i64 (ks.getD 0 0)) Ft.one3 rfl hL0) rfl rfl <| LX.callQT rfl rfl rfl hb13 (target_q i hA hi n _ hr0.1 hr0.2 (by omega) (fun w hw => hq.push hw)) Fu.en170 rfl rfl rfl rfl <| LX.pure (Y.pickT rfl hb13 rfl) rfl rfl rfl ?_
      exact LX.left ⟨rfl, rfl, rfl, rfl, rfl, rfl, trivial⟩
    · intro hb13
      have hb13p := hb13
      try simp at hb13p
      refine LX.gF rfl rfl rfl hb13 rfl rfl <| LX.gF rfl rfl rfl hb13 rfl rfl <| LX.gF rfl rfl rfl hb13 rfl rfl <| LX.gF rfl rfl rfl hb13 rfl rfl <| LX.gF rfl rfl rfl hb13 rfl rfl <| LX.pure (Y.pickF rfl hb13 rfl) rfl rfl rfl ?_
      exact LX.left ⟨rfl, rfl, rfl, rfl, rfl, rfl, trivial⟩
    refine LX.pure (Y.move rfl) rfl rfl rfl <| LX.sub (l' := [(0, _), (1, _), (2, _), (6, _), (86, _)]) ⟨rfl, rfl, rfl, rfl, rfl, trivial⟩ ?_
    apply LX.joinAnd 5 91 86 rfl
    · intro hb14
      have hb14p := hb14
      try simp at hb14p
      refine LX.gT rfl rfl rfl hb14 (Y.move rfl) rfl rfl <| LX.gT rfl rfl rfl hb14 (Y.move rfl) rfl rfl <| LX.gT rfl rfl rfl hb14 (Y.cutBothT (a' := 1) (b := 2) (m := ((ks.take 2).drop 1).length) Ft.un30 Ft.sz3 rfl rfl rfl (by omega) (by omega) (by rw [List.length_drop, List.length_take]; omega)) rfl rfl <| LX.callQT rfl rfl rfl hb14 (exprs_q i hi (ck - 1) (by rw [List.length_drop, List.length_take]; omega) (fun q hq2 => hr q (List.mem_of_mem_take (List.mem_of_mem_drop hq2))) _ _ (fun w hw => hq.push hw) (fun w hw => ((hk.take 2).dropV (c := ck) (by rw [List.length_take]; omega) 1).push hw)) Fw.en165 rfl rfl rfl rfl <| LX.pure (Y.pickT rfl hb14 rfl) rfl rfl rfl ?_
      exact LX.left ⟨rfl, rfl, rfl, rfl, rfl, rfl, trivial⟩
    · intro hb14
      have hb14p := hb14
      try simp at hb14p
      refine LX.gF rfl rfl rfl hb14 rfl rfl <| LX.gF rfl rfl rfl hb14 rfl rfl <| LX.gF rfl rfl rfl hb14 rfl rfl <| LX.gF rfl rfl rfl hb14 rfl rfl <| LX.pure (Y.pickF rfl hb14 rfl) rfl rfl rfl ?_
      exact LX.left ⟨rfl, rfl, rfl, rfl, rfl, rfl, trivial⟩
    refine LX.pure (Y.move rfl) rfl rfl rfl <| LX.sub (l' := [(0, _), (1, _), (2, _), (6, _), (92, _)]) ⟨rfl, rfl, rfl, rfl, rfl, trivial⟩ ?_
    apply LX.joinAnd 6 98 92 rfl
    · intro hb15
      have hb15p := hb15
      try simp at hb15p
      refine LX.gT rfl rfl rfl hb15 (Y.move rfl) rfl rfl <| LX.gT rfl rfl rfl hb15 (Y.move rfl) rfl rfl ?_
      obtain ⟨a0, hav0, hL0, _⟩ := hk.int_at (j := 2) (by omega)
      have hr0 := hr _ (getD_mem (j := 2) (by omega))
      refine LX.gT rfl rfl rfl hb15 (Y.idxZ Ft.un30 Ft.sz3 rfl rfl hav0 (j := 2) rfl (by omega)) rfl rfl <| LX.gT rfl rfl rfl hb15 (Y.ldO1 (v := .int .i64 (ks.getD 2 0)) Ft.one3 rfl hL0) rfl rfl <| LX.callQT rfl rfl rfl hb15 (op_q _ _ ⟨hr0.1, by omega⟩ (fun w hw => hq.push hw)) Fu.en173 rfl rfl rfl rfl <| LX.pure (Y.pickT rfl hb15 rfl) rfl rfl rfl ?_
      exact LX.left ⟨rfl, rfl, rfl, rfl, rfl, rfl, trivial⟩
    · intro hb15
      have hb15p := hb15
      try simp at hb15p
      refine LX.gF rfl rfl rfl hb15 rfl rfl <| LX.gF rfl rfl rfl hb15 rfl rfl <| LX.gF rfl rfl rfl hb15 rfl rfl <| LX.gF rfl rfl rfl hb15 rfl rfl <| LX.gF rfl rfl rfl hb15 rfl rfl <| LX.pure (Y.pickF rfl hb15 rfl) rfl rfl rfl ?_
      exact LX.left ⟨rfl, rfl, rfl, rfl, rfl, rfl, trivial⟩
    refine LX.pure (Y.assign rfl) rfl rfl rfl <| LX.sub (l' := [(0, _), (1, _), (2, _), (6, _)]) ⟨rfl, rfl, rfl, rfl, trivial⟩ <| LX.next <| PX.thenN <| CX.ret <| PX.blockR <| PX.thenR <| PX.ret1 (by simp) Tryz.results176 rfl ?_
    exact fun w hw => ⟨(), congrArg (fun z => Ending.returned (Value.bool z)) (by
      unfold more
      repeat (first | rw [if_pos (by omega)] | rw [if_neg (by omega)])
      try rfl), hw⟩
  try simp at hb12
  refine CX.skip <| PX.blockN <| PX.thenN <| CX.seq <| CX.region <| LX.pure (Y.move rfl) rfl rfl rfl <| LX.pure (Y.eqI rfl rfl) rfl rfl rfl <| LX.pure (Y.move rfl) rfl rfl rfl <| LX.sub (l' := [(0, _), (1, _), (2, _), (6, _), (101, _)]) ⟨rfl, rfl, rfl, rfl, rfl, trivial⟩ ?_
  apply LX.joinOr 3 104 101 rfl
  · intro hb16
    have hb16p := hb16
    try simp at hb16p
    refine LX.gF rfl rfl rfl hb16 rfl rfl <| LX.gF rfl rfl rfl hb16 rfl rfl <| LX.pure (Y.pickT rfl hb16 rfl) rfl rfl rfl ?_
    exact LX.left ⟨rfl, rfl, rfl, rfl, rfl, rfl, trivial⟩
  · intro hb16
    have hb16p := hb16
    try simp at hb16p
    refine LX.gT rfl rfl rfl hb16 (Y.move rfl) rfl rfl <| LX.gT rfl rfl rfl hb16 (Y.eqI rfl rfl) rfl rfl <| LX.pure (Y.pickF rfl hb16 rfl) rfl rfl rfl ?_
    exact LX.left ⟨rfl, rfl, rfl, rfl, rfl, rfl, trivial⟩
  refine LX.pure (Y.move rfl) rfl rfl rfl <| LX.sub (l' := [(0, _), (1, _), (2, _), (6, _), (105, _)]) ⟨rfl, rfl, rfl, rfl, rfl, trivial⟩ ?_
  apply LX.joinOr 3 108 105 rfl
  · intro hb17
    have hb17p := hb17
    try simp at hb17p
    refine LX.gF rfl rfl rfl hb17 rfl rfl <| LX.gF rfl rfl rfl hb17 rfl rfl <| LX.pure (Y.pickT rfl hb17 rfl) rfl rfl rfl ?_
    exact LX.left ⟨rfl, rfl, rfl, rfl, rfl, rfl, trivial⟩
  · intro hb17
    have hb17p := hb17
    try simp at hb17p
    refine LX.gT rfl rfl rfl hb17 (Y.move rfl) rfl rfl <| LX.gT rfl rfl rfl hb17 (Y.eqI rfl rfl) rfl rfl <| LX.pure (Y.pickF rfl hb17 rfl) rfl rfl rfl ?_
    exact LX.left ⟨rfl, rfl, rfl, rfl, rfl, rfl, trivial⟩
  refine LX.pure (Y.move rfl) rfl rfl rfl <| LX.sub (l' := [(0, _), (1, _), (2, _), (6, _), (109, _)]) ⟨rfl, rfl, rfl, rfl, rfl, trivial⟩ ?_
  apply LX.joinOr 7 116 109 rfl
  · intro hb18
    have hb18p := hb18
    try simp at hb18p
    refine LX.gF rfl rfl rfl hb18 rfl rfl <| LX.gF rfl rfl rfl hb18 rfl rfl <| LX.gF rfl rfl rfl hb18 rfl rfl <| LX.gU rfl rfl rfl rfl rfl <| LX.gU rfl rfl rfl rfl rfl <| LX.gF rfl rfl rfl hb18 rfl rfl <| LX.pure (Y.pickT rfl hb18 rfl) rfl rfl rfl ?_
    exact LX.left ⟨rfl, rfl, rfl, rfl, rfl, rfl, trivial⟩
  · intro hb18
    have hb18p := hb18
    try simp at hb18p
    refine LX.gT rfl rfl rfl hb18 (Y.move rfl) rfl rfl <| LX.gT rfl rfl rfl hb18 (Y.geI rfl rfl) rfl rfl <| LX.gT rfl rfl rfl hb18 (Y.move rfl) rfl rfl <| LX.sub (l' := [(0, _), (1, _), (2, _), (6, _), (109, _), (112, _)]) ⟨rfl, rfl, rfl, rfl, rfl, rfl, trivial⟩ ?_
    apply LX.joinAnd 3 115 112 rfl
    · intro hb19
      have hb19p := hb19
      try simp at hb19p
      refine LX.gT rfl rfl rfl hb19 (Y.move rfl) rfl rfl <| LX.gT rfl rfl rfl hb19 (Y.leI rfl rfl) rfl rfl <| LX.gT rfl rfl rfl hb18 (Y.pickT rfl hb19 rfl) rfl rfl ?_
      exact LX.left ⟨rfl, rfl, rfl, rfl, rfl, rfl, rfl, trivial⟩
    · intro hb19
      have hb19p := hb19
      try simp at hb19p
      refine LX.gF rfl rfl rfl hb19 rfl rfl <| LX.gF rfl rfl rfl hb19 rfl rfl <| LX.gT rfl rfl rfl hb18 (Y.pickF rfl hb19 rfl) rfl rfl ?_
      exact LX.left ⟨rfl, rfl, rfl, rfl, rfl, rfl, rfl, trivial⟩
    refine LX.pure (Y.pickF rfl hb18 rfl) rfl rfl rfl ?_
    exact LX.left ⟨rfl, rfl, rfl, rfl, rfl, rfl, trivial⟩
  refine LX.pure (Y.assign rfl) rfl rfl rfl <| LX.sub (l' := [(0, _), (2, _), (6, _), (7, _)]) ⟨rfl, rfl, rfl, rfl, trivial⟩ <| LX.next <| PX.thenN <| CX.seq <| CX.region <| LX.pure (Y.move rfl) rfl rfl rfl <| LX.pure (Y.move rfl) rfl rfl rfl <| LX.sub (l' := [(0, _), (2, _), (6, _), (118, _)]) ⟨rfl, rfl, rfl, rfl, trivial⟩ ?_
  apply LX.joinAnd 4 122 118 rfl
  · intro hb20
    have hb20p := hb20
    try simp at hb20p
    refine LX.gT rfl rfl rfl hb20 (Y.move rfl) rfl rfl <| LX.gT rfl rfl rfl hb20 (Y.move rfl) rfl rfl <| LX.callQT rfl rfl rfl hb20 (exprs_q i hi ck hkn hr _ _ (fun w hw => hq.push hw) (fun w hw => hk.push hw)) Fw.en165 rfl rfl rfl rfl <| LX.pure (Y.pickT rfl hb20 rfl) rfl rfl rfl ?_
    exact LX.left ⟨rfl, rfl, rfl, rfl, rfl, trivial⟩
  · intro hb20
    have hb20p := hb20
    try simp at hb20p
    refine LX.gF rfl rfl rfl hb20 rfl rfl <| LX.gF rfl rfl rfl hb20 rfl rfl <| LX.gF rfl rfl rfl hb20 rfl rfl <| LX.pure (Y.pickF rfl hb20 rfl) rfl rfl rfl ?_
    exact LX.left ⟨rfl, rfl, rfl, rfl, rfl, trivial⟩
  refine LX.pure (Y.assign rfl) rfl rfl rfl <| LX.sub (l' := [(6, _)]) ⟨rfl, trivial⟩ <| LX.next <| PX.thenN <| CX.ret <| PX.ret1 (by simp) Tryz.results176 rfl ?_
  exact fun w hw => ⟨(), congrArg (fun z => Ending.returned (Value.bool z)) (by
    unfold more
    repeat (rw [if_neg (by omega)])
    try rfl), hw⟩
theorem more_q {W : World → Prop} [Stab W] {bq : Nat} {al : Option Addr} {cl : Nat} {uv : Value} {l : List Nd} (i : Nat) (hi : i ≤ l.length) (hA : Ahead l i) (n : Nat) (hni : i ≤ n) {ak : Option Addr} (ck : Nat) {ks : List Int} (hkn : ks.length ≤ 9223372036854775807) (hr : ∀ k ∈ ks, 0 ≤ k ∧ k < (i : Int)) (hkc : ks.length ≤ ck) (op : Int)  (hq : ∀ w, W w → Cq w w.heap.size bq al cl uv l ndA) (hk : ∀ w, W w → SlAt 1 intA (Lies w w.heap.size) ak ks) : FnQ Tryz.prog 176 #[.pointer (some ⟨bq, 0, none⟩), .int .i64 op, .slice ak ks.length ck] W (.bool (more l n op ks)) := FnC.quiet fun w hw => more_c i hi hA n hni ck hkn hr hkc op (hq w hw) (hk w hw)
theorem kids_c {w0 : World} {base : Nat} {bq : Nat} {al : Option Addr} {cl : Nat} {uv : Value} {l : List Nd} (i : Nat) (hi : i ≤ l.length) (hA : Ahead l i) (n : Nat) (hni : i ≤ n) {x : Nd} {cs : List Value} (hr : ∀ k ∈ x.kids, 0 ≤ k ∧ k < (i : Int))  (hq : Cq w0 base bq al cl uv l ndA) (hx : ndA (Lies w0 base) cs x) : FnC Tryz.prog 104 #[.pointer (some ⟨bq, 0, none⟩), .agg cs.toArray] (WA w0 base []) (fun _ : Unit => .bool (kidsB l n x)) (fun _ => WA w0 base []) := by
  obtain ⟨vk, rfl, hks, hin⟩ := hx
  obtain ⟨ak, ck, rfl, ⟨hkn, hkc⟩, hka⟩ := hks.sl
  refine FnC.of_body (fn := Tryz.f104) [(0, _), (1, _)] Tryz.func104 rfl Tryz.ntmps104 rfl ⟨rfl, rfl, trivial⟩ ?_
  refine CX.seq <| CX.region <| LX.box rfl rfl rfl rfl rfl ?_
  intro bx0
  refine LX.pure (Y.assign rfl) rfl rfl rfl <| LX.sub (l' := [(0, _), (3, _), (4, _)]) ⟨rfl, rfl, rfl, trivial⟩ <| LX.next <| PX.thenN <| CX.seq <| CX.region <| LX.pure (Y.fieldAddr0 Fu.fo32_4 rfl) rfl rfl rfl <| LX.pure (Y.ldB 0 Fu.one30 rfl rfl rfl) rfl rfl rfl <| LX.pure (Y.assign rfl) rfl rfl rfl <| LX.sub (l' := [(0, _), (3, _), (4, _), (5, _)]) ⟨rfl, rfl, rfl, rfl, trivial⟩ <| LX.next <| PX.thenN <| CX.seq <| CX.seq <| CX.region <| LX.pure (Y.fieldAddr0 Ft.fo32_0 rfl) rfl rfl rfl <| LX.pure (Y.ldB 0 Ft.one3 rfl rfl rfl) rfl rfl rfl <| LX.sub (l' := [(0, _), (3, _), (4, _), (5, _), (9, _)]) ⟨rfl, rfl, rfl, rfl, rfl, trivial⟩ <| LX.next <| PX.thenN <| CX.block <| CX.sub (l' := [(0, _), (3, _), (4, _), (5, _), (9, _)]) ⟨rfl, rfl, rfl, rfl, rfl, trivial⟩ ?_
  apply CX.seqSw 10
  ·
    refine CX.seq <| CX.region <| LX.pure (Y.eqI rfl rfl) rfl rfl rfl <| LX.pure (Y.assign rfl) rfl rfl rfl <| LX.next <| PX.thenN ?_
    apply CX.swOr
    · rfl
    · exact ⟨rfl, rfl, rfl, rfl, rfl, rfl, trivial⟩
    intro hb1
    try simp at hb1
    refine CX.seq <| CX.region <| LX.pure (Y.eqI rfl rfl) rfl rfl rfl <| LX.pure (Y.assign rfl) rfl rfl rfl <| LX.next <| PX.thenN ?_
    apply CX.swOr
    · rfl
    · exact ⟨rfl, rfl, rfl, rfl, rfl, rfl, trivial⟩
    intro hb2
    try simp at hb2
    refine CX.seq <| CX.region <| LX.pure (Y.eqI rfl rfl) rfl rfl rfl <| LX.pure (Y.assign rfl) rfl rfl rfl <| LX.next <| PX.thenN ?_
    apply CX.swOr
    · rfl
    · exact ⟨rfl, rfl, rfl, rfl, rfl, rfl, trivial⟩
    intro hb3
    try simp at hb3
    refine CX.seq <| CX.region <| LX.pure (Y.eqI rfl rfl) rfl rfl rfl <| LX.pure (Y.assign rfl) rfl rfl rfl <| LX.next <| PX.thenN ?_
    apply CX.swOr
    · rfl
    · exact ⟨rfl, rfl, rfl, rfl, rfl, rfl, trivial⟩
    intro hb4
    try simp at hb4
    refine CX.seq <| CX.region <| LX.pure (Y.eqI rfl rfl) rfl rfl rfl <| LX.pure (Y.assign rfl) rfl rfl rfl <| LX.next <| PX.thenN ?_
    apply CX.swOr
    · rfl
    · exact ⟨rfl, rfl, rfl, rfl, rfl, rfl, trivial⟩
    intro hb5
    try simp at hb5
    refine CX.seq <| CX.region <| LX.pure (Y.eqI rfl rfl) rfl rfl rfl <| LX.pure (Y.assign rfl) rfl rfl rfl <| LX.next <| PX.thenN ?_
    apply CX.swOr
    · rfl
    · exact ⟨rfl, rfl, rfl, rfl, rfl, rfl, trivial⟩
    intro hb6
    try simp at hb6
    refine CX.seq <| CX.region <| LX.pure (Y.eqI rfl rfl) rfl rfl rfl <| LX.pure (Y.assign rfl) rfl rfl rfl <| LX.next <| PX.thenN ?_
    apply CX.swOr
    · rfl
    · exact ⟨rfl, rfl, rfl, rfl, rfl, rfl, trivial⟩
    intro hb7
    try simp at hb7
    refine CX.seq <| CX.region <| LX.pure (Y.eqI rfl rfl) rfl rfl rfl <| LX.pure (Y.assign rfl) rfl rfl rfl <| LX.next <| PX.thenN ?_
    apply CX.swOr
    · rfl
    · exact ⟨rfl, rfl, rfl, rfl, rfl, rfl, trivial⟩
    intro hb8
    try simp at hb8
    refine CX.seq <| CX.region <| LX.pure (Y.eqI rfl rfl) rfl rfl rfl <| LX.pure (Y.assign rfl) rfl rfl rfl <| LX.next <| PX.thenN ?_
    apply CX.swOr
    · rfl
    · exact ⟨rfl, rfl, rfl, rfl, rfl, rfl, trivial⟩
    intro hb9
    try simp at hb9
    refine CX.region <| LX.pure (Y.eqI rfl rfl) rfl rfl rfl <| LX.pure (Y.assign rfl) rfl rfl rfl <| LX.next ?_
    exact PX.sw ⟨rfl, rfl, rfl, rfl, rfl, rfl, trivial⟩
  refine CX.cond rfl (fun hb10 => ?_) (fun hb10 => ?_)
  · try simp at hb10
    refine CX.seq <| CX.region <| LX.pure (Y.move rfl) rfl rfl rfl <| LX.pure (Y.lenSl rfl Ft.un30 rfl) rfl rfl rfl <| LX.pure (Y.eqN rfl rfl) rfl rfl rfl <| LX.pure (Y.assign rfl) rfl rfl rfl <| LX.sub (l' := [(0, _), (3, _), (4, _), (5, _)]) ⟨rfl, rfl, rfl, rfl, trivial⟩ <| LX.next <| PX.thenN <| CX.ret <| PX.blockR <| PX.thenR <| PX.ret1 (by simp) Tryz.results104 rfl ?_
    exact fun w hw => ⟨(), congrArg (fun z => Ending.returned (Value.bool z)) (by
      unfold kidsB
      repeat (rw [if_pos (by omega)])
      try rfl), hw.drop (List.sublist_cons_self _ _)⟩
  try simp at hb10
  refine CX.sub (l' := [(0, _), (3, _), (4, _), (5, _), (9, _)]) ⟨rfl, rfl, rfl, rfl, rfl, trivial⟩ ?_
  apply CX.seqSw 24
  ·
    refine CX.seq <| CX.region <| LX.pure (Y.eqI rfl rfl) rfl rfl rfl <| LX.pure (Y.assign rfl) rfl rfl rfl <| LX.next <| PX.thenN ?_
    apply CX.swOr
    · rfl
    · exact ⟨rfl, rfl, rfl, rfl, rfl, rfl, trivial⟩
    intro hb11
    try simp at hb11
    refine CX.region <| LX.pure (Y.eqI rfl rfl) rfl rfl rfl <| LX.pure (Y.assign rfl) rfl rfl rfl <| LX.next ?_
    exact PX.sw ⟨rfl, rfl, rfl, rfl, rfl, rfl, trivial⟩
  refine CX.cond rfl (fun hb12 => ?_) (fun hb12 => ?_)
  · try simp at hb12
    refine CX.seq <| CX.region <| LX.pure (Y.move rfl) rfl rfl rfl <| LX.pure (Y.move rfl) rfl rfl rfl <| LX.callQ (exprs_q i hi ck hkn hr _ _ (fun w hw => hq.push hw) (fun w hw => hka.push hw)) Fw.en165 rfl rfl rfl rfl rfl <| LX.pure (Y.assign rfl) rfl rfl rfl <| LX.sub (l' := [(0, _), (3, _), (4, _), (5, _)]) ⟨rfl, rfl, rfl, rfl, trivial⟩ <| LX.next <| PX.thenN <| CX.ret <| PX.blockR <| PX.thenR <| PX.ret1 (by simp) Tryz.results104 rfl ?_
    exact fun w hw => ⟨(), congrArg (fun z => Ending.returned (Value.bool z)) (by
      unfold kidsB
      repeat (first | rw [if_pos (by omega)] | rw [if_neg (by omega)])
      try rfl), hw.drop (List.sublist_cons_self _ _)⟩
  try simp at hb12
  refine CX.seq <| CX.region <| LX.pure (Y.eqI rfl rfl) rfl rfl rfl <| LX.pure (Y.assign rfl) rfl rfl rfl <| LX.sub (l' := [(0, _), (3, _), (4, _), (5, _), (9, _), (30, _)]) ⟨rfl, rfl, rfl, rfl, rfl, rfl, trivial⟩ <| LX.next <| PX.thenN ?_
  refine CX.cond rfl (fun hb13 => ?_) (fun hb13 => ?_)
  · try simp at hb13
    refine CX.seq <| CX.region <| LX.pure (Y.move rfl) rfl rfl rfl <| LX.pure (Y.lenSl rfl Ft.un30 rfl) rfl rfl rfl <| LX.pure (Y.remN rfl rfl (by (simp only []; omega))) rfl rfl rfl <| LX.pure (Y.eqN rfl rfl) rfl rfl rfl <| LX.pure (Y.move rfl) rfl rfl rfl <| LX.sub (l' := [(0, _), (3, _), (4, _), (5, _), (36, _)]) ⟨rfl, rfl, rfl, rfl, rfl, trivial⟩ ?_
    apply LX.joinAnd 4 40 36 rfl
    · intro hb14
      have hb14p := hb14
      try simp at hb14p
      refine LX.gT rfl rfl rfl hb14 (Y.move rfl) rfl rfl <| LX.gT rfl rfl rfl hb14 (Y.move rfl) rfl rfl <| LX.callQT rfl rfl rfl hb14 (exprs_q i hi ck hkn hr _ _ (fun w hw => hq.push hw) (fun w hw => hka.push hw)) Fw.en165 rfl rfl rfl rfl <| LX.pure (Y.pickT rfl hb14 rfl) rfl rfl rfl ?_
      exact LX.left ⟨rfl, rfl, rfl, rfl, rfl, rfl, trivial⟩
    · intro hb14
      have hb14p := hb14
      try simp at hb14p
      refine LX.gF rfl rfl rfl hb14 rfl rfl <| LX.gF rfl rfl rfl hb14 rfl rfl <| LX.gF rfl rfl rfl hb14 rfl rfl <| LX.pure (Y.pickF rfl hb14 rfl) rfl rfl rfl ?_
      exact LX.left ⟨rfl, rfl, rfl, rfl, rfl, rfl, trivial⟩
    refine LX.pure (Y.assign rfl) rfl rfl rfl <| LX.sub (l' := [(0, _), (3, _), (4, _), (5, _)]) ⟨rfl, rfl, rfl, rfl, trivial⟩ <| LX.next <| PX.thenN <| CX.ret <| PX.blockR <| PX.thenR <| PX.ret1 (by simp) Tryz.results104 rfl ?_
    exact fun w hw => ⟨(), congrArg (fun z => Ending.returned (Value.bool z)) (by
      unfold kidsB
      repeat (first | rw [if_pos (by omega)] | rw [if_neg (by omega)])
      try rfl), hw.drop (List.sublist_cons_self _ _)⟩
  try simp at hb13
  refine CX.sub (l' := [(0, _), (3, _), (4, _), (5, _), (9, _)]) ⟨rfl, rfl, rfl, rfl, rfl, trivial⟩ ?_
  apply CX.seqSw 41
  ·
    refine CX.seq <| CX.region <| LX.pure (Y.eqI rfl rfl) rfl rfl rfl <| LX.pure (Y.assign rfl) rfl rfl rfl <| LX.next <| PX.thenN ?_
    apply CX.swOr
    · rfl
    · exact ⟨rfl, rfl, rfl, rfl, rfl, rfl, trivial⟩
    intro hb15
    try simp at hb15
    refine CX.seq <| CX.region <| LX.pure (Y.eqI rfl rfl) rfl rfl rfl <| LX.pure (Y.assign rfl) rfl rfl rfl <| LX.next <| PX.thenN ?_
    apply CX.swOr
    · rfl
    · exact ⟨rfl, rfl, rfl, rfl, rfl, rfl, trivial⟩
    intro hb16
    try simp at hb16
    refine CX.seq <| CX.region <| LX.pure (Y.eqI rfl rfl) rfl rfl rfl <| LX.pure (Y.assign rfl) rfl rfl rfl <| LX.next <| PX.thenN ?_
    apply CX.swOr
    · rfl
    · exact ⟨rfl, rfl, rfl, rfl, rfl, rfl, trivial⟩
    intro hb17
    try simp at hb17
    refine CX.seq <| CX.region <| LX.pure (Y.eqI rfl rfl) rfl rfl rfl <| LX.pure (Y.assign rfl) rfl rfl rfl <| LX.next <| PX.thenN ?_
    apply CX.swOr
    · rfl
    · exact ⟨rfl, rfl, rfl, rfl, rfl, rfl, trivial⟩
    intro hb18
    try simp at hb18
    refine CX.region <| LX.pure (Y.eqI rfl rfl) rfl rfl rfl <| LX.pure (Y.assign rfl) rfl rfl rfl <| LX.next ?_
    exact PX.sw ⟨rfl, rfl, rfl, rfl, rfl, rfl, trivial⟩
  refine CX.cond rfl (fun hb19 => ?_) (fun hb19 => ?_)
  · try simp at hb19
    refine CX.seq <| CX.region <| LX.pure (Y.move rfl) rfl rfl rfl <| LX.pure (Y.move rfl) rfl rfl rfl <| LX.callQ (exprs_q i hi ck hkn hr _ _ (fun w hw => hq.push hw) (fun w hw => hka.push hw)) Fw.en165 rfl rfl rfl rfl rfl <| LX.pure (Y.assign rfl) rfl rfl rfl <| LX.sub (l' := [(0, _), (3, _), (4, _), (5, _)]) ⟨rfl, rfl, rfl, rfl, trivial⟩ <| LX.next <| PX.thenN <| CX.ret <| PX.blockR <| PX.thenR <| PX.ret1 (by simp) Tryz.results104 rfl ?_
    exact fun w hw => ⟨(), congrArg (fun z => Ending.returned (Value.bool z)) (by
      unfold kidsB
      repeat (first | rw [if_pos (by omega)] | rw [if_neg (by omega)])
      try rfl), hw.drop (List.sublist_cons_self _ _)⟩
  try simp at hb19
  refine CX.seq <| CX.region <| LX.pure (Y.eqI rfl rfl) rfl rfl rfl <| LX.pure (Y.assign rfl) rfl rfl rfl <| LX.sub (l' := [(0, _), (3, _), (4, _), (5, _), (9, _), (50, _)]) ⟨rfl, rfl, rfl, rfl, rfl, rfl, trivial⟩ <| LX.next <| PX.thenN ?_
  refine CX.cond rfl (fun hb20 => ?_) (fun hb20 => ?_)
  · try simp at hb20
    refine CX.seq <| CX.region <| LX.pure (Y.move rfl) rfl rfl rfl <| LX.pure (Y.move rfl) rfl rfl rfl <| LX.callQ (exprs_q i hi ck hkn hr _ _ (fun w hw => hq.push hw) (fun w hw => hka.push hw)) Fw.en165 rfl rfl rfl rfl rfl <| LX.pure (Y.assign rfl) rfl rfl rfl <| LX.sub (l' := [(0, _), (3, _), (4, _), (5, _)]) ⟨rfl, rfl, rfl, rfl, trivial⟩ <| LX.next <| PX.thenN <| CX.ret <| PX.blockR <| PX.thenR <| PX.ret1 (by simp) Tryz.results104 rfl ?_
    exact fun w hw => ⟨(), congrArg (fun z => Ending.returned (Value.bool z)) (by
      unfold kidsB
      repeat (first | rw [if_pos (by omega)] | rw [if_neg (by omega)])
      try rfl), hw.drop (List.sublist_cons_self _ _)⟩
  try simp at hb20
  refine CX.sub (l' := [(0, _), (3, _), (4, _), (5, _), (9, _)]) ⟨rfl, rfl, rfl, rfl, rfl, trivial⟩ ?_
  apply CX.seqSw 55
  ·
    refine CX.seq <| CX.region <| LX.pure (Y.eqI rfl rfl) rfl rfl rfl <| LX.pure (Y.assign rfl) rfl rfl rfl <| LX.next <| PX.thenN ?_
    apply CX.swOr
    · rfl
    · exact ⟨rfl, rfl, rfl, rfl, rfl, rfl, trivial⟩
    intro hb21
    try simp at hb21
    refine CX.region <| LX.pure (Y.eqI rfl rfl) rfl rfl rfl <| LX.pure (Y.assign rfl) rfl rfl rfl <| LX.next ?_
    exact PX.sw ⟨rfl, rfl, rfl, rfl, rfl, rfl, trivial⟩
  refine CX.cond rfl (fun hb22 => ?_) (fun hb22 => ?_)
  · try simp at hb22
    refine CX.seq <| CX.region <| LX.pure (Y.move rfl) rfl rfl rfl <| LX.pure (Y.move rfl) rfl rfl rfl <| LX.callQ (exprs_q i hi ck hkn hr _ _ (fun w hw => hq.push hw) (fun w hw => hka.push hw)) Fw.en165 rfl rfl rfl rfl rfl <| LX.pure (Y.assign rfl) rfl rfl rfl <| LX.sub (l' := [(0, _), (3, _), (4, _), (5, _)]) ⟨rfl, rfl, rfl, rfl, trivial⟩ <| LX.next <| PX.thenN <| CX.ret <| PX.blockR <| PX.thenR <| PX.ret1 (by simp) Tryz.results104 rfl ?_
    exact fun w hw => ⟨(), congrArg (fun z => Ending.returned (Value.bool z)) (by
      unfold kidsB
      repeat (first | rw [if_pos (by omega)] | rw [if_neg (by omega)])
      try rfl), hw.drop (List.sublist_cons_self _ _)⟩
  try simp at hb22
  refine CX.seq <| CX.region <| LX.pure (Y.eqI rfl rfl) rfl rfl rfl <| LX.pure (Y.assign rfl) rfl rfl rfl <| LX.sub (l' := [(0, _), (3, _), (4, _), (5, _), (9, _), (61, _)]) ⟨rfl, rfl, rfl, rfl, rfl, rfl, trivial⟩ <| LX.next <| PX.thenN ?_
  refine CX.cond rfl (fun hb23 => ?_) (fun hb23 => ?_)
  · try simp at hb23
    refine CX.seq <| CX.region <| LX.pure (Y.move rfl) rfl rfl rfl <| LX.pure (Y.lenSl rfl Ft.un30 rfl) rfl rfl rfl <| LX.pure (Y.gtN rfl rfl) rfl rfl rfl <| LX.pure (Y.move rfl) rfl rfl rfl <| LX.sub (l' := [(0, _), (3, _), (4, _), (5, _), (66, _)]) ⟨rfl, rfl, rfl, rfl, rfl, trivial⟩ ?_
    apply LX.joinAnd 4 70 66 rfl
    · intro hb24
      have hb24p := hb24
      try simp at hb24p
      refine LX.gT rfl rfl rfl hb24 (Y.move rfl) rfl rfl <| LX.gT rfl rfl rfl hb24 (Y.move rfl) rfl rfl <| LX.callQT rfl rfl rfl hb24 (call_q i hi ck hkn hr (fun w hw => hq.push hw) (fun w hw => hka.push hw)) Fw.en166 rfl rfl rfl rfl <| LX.pure (Y.pickT rfl hb24 rfl) rfl rfl rfl ?_
      exact LX.left ⟨rfl, rfl, rfl, rfl, rfl, rfl, trivial⟩
    · intro hb24
      have hb24p := hb24
      try simp at hb24p
      refine LX.gF rfl rfl rfl hb24 rfl rfl <| LX.gF rfl rfl rfl hb24 rfl rfl <| LX.gF rfl rfl rfl hb24 rfl rfl <| LX.pure (Y.pickF rfl hb24 rfl) rfl rfl rfl ?_
      exact LX.left ⟨rfl, rfl, rfl, rfl, rfl, rfl, trivial⟩
    refine LX.pure (Y.assign rfl) rfl rfl rfl <| LX.sub (l' := [(0, _), (3, _), (4, _), (5, _)]) ⟨rfl, rfl, rfl, rfl, trivial⟩ <| LX.next <| PX.thenN <| CX.ret <| PX.blockR <| PX.thenR <| PX.ret1 (by simp) Tryz.results104 rfl ?_
    exact fun w hw => ⟨(), congrArg (fun z => Ending.returned (Value.bool z)) (by
      unfold kidsB
      repeat (first | rw [if_pos (by omega)] | rw [if_neg (by omega)])
      try rfl), hw.drop (List.sublist_cons_self _ _)⟩
  try simp at hb23
  refine CX.seq <| CX.region <| LX.pure (Y.eqI rfl rfl) rfl rfl rfl <| LX.pure (Y.assign rfl) rfl rfl rfl <| LX.sub (l' := [(0, _), (3, _), (4, _), (5, _), (9, _), (71, _)]) ⟨rfl, rfl, rfl, rfl, rfl, rfl, trivial⟩ <| LX.next <| PX.thenN ?_
  refine CX.cond rfl (fun hb25 => ?_) (fun hb25 => ?_)
  · try simp at hb25
    refine CX.seq <| CX.region <| LX.pure (Y.move rfl) rfl rfl rfl <| LX.pure (Y.lenSl rfl Ft.un30 rfl) rfl rfl rfl <| LX.pure (Y.eqN rfl rfl) rfl rfl rfl <| LX.pure (Y.move rfl) rfl rfl rfl <| LX.sub (l' := [(0, _), (3, _), (4, _), (5, _), (76, _)]) ⟨rfl, rfl, rfl, rfl, rfl, trivial⟩ ?_
    apply LX.joinAnd 5 81 76 rfl
    · intro hb26
      have hb26p := hb26
      try simp at hb26p
      refine LX.gT rfl rfl rfl hb26 (Y.move rfl) rfl rfl <| LX.gT rfl rfl rfl hb26 (Y.move rfl) rfl rfl <| LX.gT rfl rfl rfl hb26 (Y.cutHiT (b := 1) (m := (x.kids.take (1)).length) Ft.un30 Ft.sz3 rfl rfl (by omega) (by rw [List.length_take]; omega)) rfl rfl <| LX.callQT rfl rfl rfl hb26 (exprs_q i hi ck (by rw [List.length_take]; omega) (fun q hq2 => hr q (List.mem_of_mem_take hq2)) _ _ (fun w hw => hq.push hw) (fun w hw => (hka.take (1)).push hw)) Fw.en165 rfl rfl rfl rfl <| LX.pure (Y.pickT rfl hb26 rfl) rfl rfl rfl ?_
      exact LX.left ⟨rfl, rfl, rfl, rfl, rfl, rfl, trivial⟩
    · intro hb26
      have hb26p := hb26
      try simp at hb26p
      refine LX.gF rfl rfl rfl hb26 rfl rfl <| LX.gF rfl rfl rfl hb26 rfl rfl <| LX.gF rfl rfl rfl hb26 rfl rfl <| LX.gF rfl rfl rfl hb26 rfl rfl <| LX.pure (Y.pickF rfl hb26 rfl) rfl rfl rfl ?_
      exact LX.left ⟨rfl, rfl, rfl, rfl, rfl, rfl, trivial⟩
    refine LX.pure (Y.move rfl) rfl rfl rfl <| LX.sub (l' := [(0, _), (3, _), (4, _), (5, _), (82, _)]) ⟨rfl, rfl, rfl, rfl, rfl, trivial⟩ ?_
    apply LX.joinAnd 5 87 82 rfl
    · intro hb27
      have hb27p := hb27
      try simp at hb27p
      refine LX.gT rfl rfl rfl hb27 (Y.move rfl) rfl rfl <| LX.gT rfl rfl rfl hb27 (Y.move rfl) rfl rfl <| LX.gT rfl rfl rfl hb27 (Y.cutLoT (b := 1) (m := (x.kids.drop 1).length) Ft.un30 Ft.sz3 rfl rfl (by omega) (by rw [List.length_drop])) rfl rfl <| LX.callQT rfl rfl rfl hb27 (all_q i hi (ck - 1) (by rw [List.length_drop]; omega) (fun q hq2 => hr q (List.mem_of_mem_drop hq2)) _ #[] (fun x => exprB x.op || decide (x.op = 15)) (fun w hw => hq.push hw) (fun w hw => (hka.dropV hkc 1).push hw) (fun w hw => ⟨Fw.en168, fun its k x cs hx hi hn => kids1_q (fun w hw => Kept.mono (fun _ _ h => h.push hw) hn)⟩)) Ft.en167 rfl rfl rfl rfl <| LX.pure (Y.pickT rfl hb27 rfl) rfl rfl rfl ?_
      exact LX.left ⟨rfl, rfl, rfl, rfl, rfl, rfl, trivial⟩
    · intro hb27
      have hb27p := hb27
      try simp at hb27p
      refine LX.gF rfl rfl rfl hb27 rfl rfl <| LX.gF rfl rfl rfl hb27 rfl rfl <| LX.gF rfl rfl rfl hb27 rfl rfl <| LX.gF rfl rfl rfl hb27 rfl rfl <| LX.pure (Y.pickF rfl hb27 rfl) rfl rfl rfl ?_
      exact LX.left ⟨rfl, rfl, rfl, rfl, rfl, rfl, trivial⟩
    refine LX.pure (Y.assign rfl) rfl rfl rfl <| LX.sub (l' := [(0, _), (3, _), (4, _), (5, _)]) ⟨rfl, rfl, rfl, rfl, trivial⟩ <| LX.next <| PX.thenN <| CX.ret <| PX.blockR <| PX.thenR <| PX.ret1 (by simp) Tryz.results104 rfl ?_
    exact fun w hw => ⟨(), congrArg (fun z => Ending.returned (Value.bool z)) (by
      unfold kidsB
      repeat (first | rw [if_pos (by omega)] | rw [if_neg (by omega)])
      try rfl), hw.drop (List.sublist_cons_self _ _)⟩
  try simp at hb25
  refine CX.seq <| CX.region <| LX.pure (Y.eqI rfl rfl) rfl rfl rfl <| LX.pure (Y.assign rfl) rfl rfl rfl <| LX.sub (l' := [(0, _), (3, _), (4, _), (5, _), (9, _), (88, _)]) ⟨rfl, rfl, rfl, rfl, rfl, rfl, trivial⟩ <| LX.next <| PX.thenN ?_
  refine CX.cond rfl (fun hb28 => ?_) (fun hb28 => ?_)
  · try simp at hb28
    refine CX.seq <| CX.region <| LX.pure (Y.move rfl) rfl rfl rfl <| LX.pure (Y.lenSl rfl Ft.un30 rfl) rfl rfl rfl <| LX.pure (Y.eqN rfl rfl) rfl rfl rfl <| LX.pure (Y.move rfl) rfl rfl rfl <| LX.sub (l' := [(0, _), (3, _), (4, _), (5, _), (93, _)]) ⟨rfl, rfl, rfl, rfl, rfl, trivial⟩ ?_
    apply LX.joinOr 4 97 93 rfl
    · intro hb29
      have hb29p := hb29
      try simp at hb29p
      refine LX.gF rfl rfl rfl hb29 rfl rfl <| LX.gF rfl rfl rfl hb29 rfl rfl <| LX.gF rfl rfl rfl hb29 rfl rfl <| LX.pure (Y.pickT rfl hb29 rfl) rfl rfl rfl ?_
      exact LX.left ⟨rfl, rfl, rfl, rfl, rfl, rfl, trivial⟩
    · intro hb29
      have hb29p := hb29
      try simp at hb29p
      refine LX.gT rfl rfl rfl hb29 (Y.move rfl) rfl rfl <| LX.gT rfl rfl rfl hb29 (Y.lenSl rfl Ft.un30 rfl) rfl rfl <| LX.gT rfl rfl rfl hb29 (Y.eqN rfl rfl) rfl rfl <| LX.pure (Y.pickF rfl hb29 rfl) rfl rfl rfl ?_
      exact LX.left ⟨rfl, rfl, rfl, rfl, rfl, rfl, trivial⟩
    refine LX.pure (Y.move rfl) rfl rfl rfl <| LX.sub (l' := [(0, _), (3, _), (4, _), (5, _), (98, _)]) ⟨rfl, rfl, rfl, rfl, rfl, trivial⟩ ?_
    apply LX.joinAnd 6 104 98 rfl
    · intro hb30
      have hb30p := hb30
      try simp at hb30p
      refine LX.gT rfl rfl rfl hb30 (Y.move rfl) rfl rfl <| LX.gT rfl rfl rfl hb30 (Y.move rfl) rfl rfl ?_
      obtain ⟨a0, hav0, hL0, _⟩ := hka.int_at (j := 1) (by omega)
      have hr0 := hr _ (getD_mem (j := 1) (by omega))
      refine LX.gT rfl rfl rfl hb30 (Y.idxZ Ft.un30 Ft.sz3 rfl rfl hav0 (j := 1) rfl (by omega)) rfl rfl <| LX.gT rfl rfl rfl hb30 (Y.ldO1 (v := .int .i64 (x.kids.getD 1 0)) Ft.one3 rfl hL0) rfl rfl <| LX.callQT rfl rfl rfl hb30 (target_q i hA hi n _ hr0.1 hr0.2 (by omega) (fun w hw => hq.push hw)) Fu.en170 rfl rfl rfl rfl <| LX.pure (Y.pickT rfl hb30 rfl) rfl rfl rfl ?_
      exact LX.left ⟨rfl, rfl, rfl, rfl, rfl, rfl, trivial⟩
    · intro hb30
      have hb30p := hb30
      try simp at hb30p
      refine LX.gF rfl rfl rfl hb30 rfl rfl <| LX.gF rfl rfl rfl hb30 rfl rfl <| LX.gF rfl rfl rfl hb30 rfl rfl <| LX.gF rfl rfl rfl hb30 rfl rfl <| LX.gF rfl rfl rfl hb30 rfl rfl <| LX.pure (Y.pickF rfl hb30 rfl) rfl rfl rfl ?_
      exact LX.left ⟨rfl, rfl, rfl, rfl, rfl, rfl, trivial⟩
    refine LX.pure (Y.move rfl) rfl rfl rfl <| LX.sub (l' := [(0, _), (3, _), (4, _), (5, _), (105, _)]) ⟨rfl, rfl, rfl, rfl, rfl, trivial⟩ ?_
    apply LX.joinAnd 4 109 105 rfl
    · intro hb31
      have hb31p := hb31
      try simp at hb31p
      refine LX.gT rfl rfl rfl hb31 (Y.move rfl) rfl rfl <| LX.gT rfl rfl rfl hb31 (Y.move rfl) rfl rfl <| LX.callQT rfl rfl rfl hb31 (exprs_q i hi ck hkn hr _ _ (fun w hw => hq.push hw) (fun w hw => hka.push hw)) Fw.en165 rfl rfl rfl rfl <| LX.pure (Y.pickT rfl hb31 rfl) rfl rfl rfl ?_
      exact LX.left ⟨rfl, rfl, rfl, rfl, rfl, rfl, trivial⟩
    · intro hb31
      have hb31p := hb31
      try simp at hb31p
      refine LX.gF rfl rfl rfl hb31 rfl rfl <| LX.gF rfl rfl rfl hb31 rfl rfl <| LX.gF rfl rfl rfl hb31 rfl rfl <| LX.pure (Y.pickF rfl hb31 rfl) rfl rfl rfl ?_
      exact LX.left ⟨rfl, rfl, rfl, rfl, rfl, rfl, trivial⟩
    refine LX.pure (Y.assign rfl) rfl rfl rfl <| LX.sub (l' := [(0, _), (3, _), (4, _), (5, _)]) ⟨rfl, rfl, rfl, rfl, trivial⟩ <| LX.next <| PX.thenN <| CX.ret <| PX.blockR <| PX.thenR <| PX.ret1 (by simp) Tryz.results104 rfl ?_
    exact fun w hw => ⟨(), congrArg (fun z => Ending.returned (Value.bool z)) (by
      unfold kidsB
      repeat (first | rw [if_pos (by omega)] | rw [if_neg (by omega)])
      try rfl), hw.drop (List.sublist_cons_self _ _)⟩
  try simp at hb28
  refine CX.seq <| CX.region <| LX.pure (Y.eqI rfl rfl) rfl rfl rfl <| LX.pure (Y.assign rfl) rfl rfl rfl <| LX.sub (l' := [(0, _), (3, _), (4, _), (5, _), (9, _), (110, _)]) ⟨rfl, rfl, rfl, rfl, rfl, rfl, trivial⟩ <| LX.next <| PX.thenN ?_
  refine CX.cond rfl (fun hb32 => ?_) (fun hb32 => ?_)
  · try simp at hb32
    refine CX.seq <| CX.region <| LX.pure (Y.move rfl) rfl rfl rfl <| LX.pure (Y.lenSl rfl Ft.un30 rfl) rfl rfl rfl <| LX.pure (Y.gtN rfl rfl) rfl rfl rfl <| LX.pure (Y.move rfl) rfl rfl rfl <| LX.sub (l' := [(0, _), (3, _), (4, _), (5, _), (115, _)]) ⟨rfl, rfl, rfl, rfl, rfl, trivial⟩ ?_
    apply LX.joinAnd 6 121 115 rfl
    · intro hb33
      have hb33p := hb33
      try simp at hb33p
      refine LX.gT rfl rfl rfl hb33 (Y.move rfl) rfl rfl <| LX.gT rfl rfl rfl hb33 (Y.move rfl) rfl rfl <| LX.gT rfl rfl rfl hb33 (Y.move rfl) rfl rfl <| LX.gT rfl rfl rfl hb33 (Y.mkFunc rfl rfl) rfl rfl <| LX.callQT rfl rfl rfl hb33 (all_q i hi ck hkn hr _ #[.pointer (some ⟨bq, 0, none⟩)] (loadedB l) (fun w hw => hq.push hw) (fun w hw => hka.push hw) (fun w9 hw9 => ⟨Fw.en171, fun its k y cs hx2 hi2 hn => loaded_q i hi (fun q hq2 => by have := hA _ _ hi2 hx2 q hq2; omega) (fun w hw => ((hq.push hw9).push hw)) (fun w hw => Kept.mono (fun _ _ h => h.push hw) hn)⟩)) Ft.en167 rfl rfl rfl rfl <| LX.pure (Y.pickT rfl hb33 rfl) rfl rfl rfl ?_
      exact LX.left ⟨rfl, rfl, rfl, rfl, rfl, rfl, trivial⟩
    · intro hb33
      have hb33p := hb33
      try simp at hb33p
      refine LX.gF rfl rfl rfl hb33 rfl rfl <| LX.gF rfl rfl rfl hb33 rfl rfl <| LX.gF rfl rfl rfl hb33 rfl rfl <| LX.gF rfl rfl rfl hb33 rfl rfl <| LX.gF rfl rfl rfl hb33 rfl rfl <| LX.pure (Y.pickF rfl hb33 rfl) rfl rfl rfl ?_
      exact LX.left ⟨rfl, rfl, rfl, rfl, rfl, rfl, trivial⟩
    refine LX.pure (Y.assign rfl) rfl rfl rfl <| LX.sub (l' := [(0, _), (3, _), (4, _), (5, _)]) ⟨rfl, rfl, rfl, rfl, trivial⟩ <| LX.next <| PX.thenN <| CX.ret <| PX.blockR <| PX.thenR <| PX.ret1 (by simp) Tryz.results104 rfl ?_
    exact fun w hw => ⟨(), congrArg (fun z => Ending.returned (Value.bool z)) (by
      unfold kidsB
      repeat (first | rw [if_pos (by omega)] | rw [if_neg (by omega)])
      try rfl), hw.drop (List.sublist_cons_self _ _)⟩
  try simp at hb32
  refine CX.seq <| CX.region <| LX.pure (Y.eqI rfl rfl) rfl rfl rfl <| LX.pure (Y.assign rfl) rfl rfl rfl <| LX.sub (l' := [(0, _), (3, _), (4, _), (5, _), (9, _), (122, _)]) ⟨rfl, rfl, rfl, rfl, rfl, rfl, trivial⟩ <| LX.next <| PX.thenN ?_
  refine CX.cond rfl (fun hb34 => ?_) (fun hb34 => ?_)
  · try simp at hb34
    refine CX.seq <| CX.region <| LX.pure (Y.move rfl) rfl rfl rfl <| LX.pure (Y.lenSl rfl Ft.un30 rfl) rfl rfl rfl <| LX.pure (Y.gtN rfl rfl) rfl rfl rfl <| LX.pure (Y.move rfl) rfl rfl rfl <| LX.sub (l' := [(0, _), (3, _), (4, _), (5, _), (127, _)]) ⟨rfl, rfl, rfl, rfl, rfl, trivial⟩ ?_
    apply LX.joinAnd 8 135 127 rfl
    · intro hb35
      have hb35p := hb35
      try simp at hb35p
      refine LX.gT rfl rfl rfl hb35 (Y.move rfl) rfl rfl <| LX.gT rfl rfl rfl hb35 (Y.move rfl) rfl rfl <| LX.gT rfl rfl rfl hb35 (Y.move rfl) rfl rfl <| LX.gT rfl rfl rfl hb35 (Y.lenSl rfl Ft.un30 rfl) rfl rfl <| LX.gT rfl rfl rfl hb35 (Y.subN rfl rfl (by (simp only []; omega)) (by omega)) rfl rfl <| LX.gT rfl rfl rfl hb35 (Y.cutHiT (b := x.kids.length - 1) (m := (x.kids.take (x.kids.length - 1)).length) Ft.un30 Ft.sz3 rfl rfl (by omega) (by rw [List.length_take]; omega)) rfl rfl <| LX.callQT rfl rfl rfl hb35 (all_q i hi ck (by rw [List.length_take]; omega) (fun q hq2 => hr q (List.mem_of_mem_take hq2)) _ #[] (fun x => decide (x.op = 46)) (fun w hw => hq.push hw) (fun w hw => (hka.take (x.kids.length - 1)).push hw) (fun w hw => ⟨Fw.en172, fun its k x cs hx hi hn => kids2_q (fun w hw => Kept.mono (fun _ _ h => h.push hw) hn)⟩)) Ft.en167 rfl rfl rfl rfl <| LX.pure (Y.pickT rfl hb35 rfl) rfl rfl rfl ?_
      exact LX.left ⟨rfl, rfl, rfl, rfl, rfl, rfl, trivial⟩
    · intro hb35
      have hb35p := hb35
      try simp at hb35p
      refine LX.gF rfl rfl rfl hb35 rfl rfl <| LX.gF rfl rfl rfl hb35 rfl rfl <| LX.gF rfl rfl rfl hb35 rfl rfl <| LX.gF rfl rfl rfl hb35 rfl rfl <| LX.gF rfl rfl rfl hb35 rfl rfl <| LX.gF rfl rfl rfl hb35 rfl rfl <| LX.gF rfl rfl rfl hb35 rfl rfl <| LX.pure (Y.pickF rfl hb35 rfl) rfl rfl rfl ?_
      exact LX.left ⟨rfl, rfl, rfl, rfl, rfl, rfl, trivial⟩
    refine LX.pure (Y.move rfl) rfl rfl rfl <| LX.sub (l' := [(0, _), (3, _), (4, _), (5, _), (136, _)]) ⟨rfl, rfl, rfl, rfl, rfl, trivial⟩ ?_
    apply LX.joinAnd 9 145 136 rfl
    · intro hb36
      have hb36p := hb36
      try simp at hb36p
      refine LX.gT rfl rfl rfl hb36 (Y.move rfl) rfl rfl <| LX.gT rfl rfl rfl hb36 (Y.move rfl) rfl rfl <| LX.gT rfl rfl rfl hb36 (Y.move rfl) rfl rfl <| LX.gT rfl rfl rfl hb36 (Y.lenSl rfl Ft.un30 rfl) rfl rfl <| LX.gT rfl rfl rfl hb36 (Y.subN rfl rfl (by (simp only []; omega)) (by omega)) rfl rfl ?_
      obtain ⟨a0, hav0, hL0, _⟩ := hka.int_at (j := x.kids.length - 1) (by omega)
      have hr0 := hr _ (getD_mem (j := x.kids.length - 1) (by omega))
      refine LX.gT rfl rfl rfl hb36 (Y.idxZ Ft.un30 Ft.sz3 rfl rfl hav0 (j := x.kids.length - 1) rfl (by omega)) rfl rfl <| LX.gT rfl rfl rfl hb36 (Y.ldO1 (v := .int .i64 (x.kids.getD (x.kids.length - 1) 0)) Ft.one3 rfl hL0) rfl rfl <| LX.callQT rfl rfl rfl hb36 (op_q _ _ ⟨hr0.1, by omega⟩ (fun w hw => hq.push hw)) Fu.en173 rfl rfl rfl rfl <| LX.pure (Y.pickT rfl hb36 rfl) rfl rfl rfl ?_
      exact LX.left ⟨rfl, rfl, rfl, rfl, rfl, rfl, trivial⟩
    · intro hb36
      have hb36p := hb36
      try simp at hb36p
      refine LX.gF rfl rfl rfl hb36 rfl rfl <| LX.gF rfl rfl rfl hb36 rfl rfl <| LX.gF rfl rfl rfl hb36 rfl rfl <| LX.gF rfl rfl rfl hb36 rfl rfl <| LX.gF rfl rfl rfl hb36 rfl rfl <| LX.gF rfl rfl rfl hb36 rfl rfl <| LX.gF rfl rfl rfl hb36 rfl rfl <| LX.gF rfl rfl rfl hb36 rfl rfl <| LX.pure (Y.pickF rfl hb36 rfl) rfl rfl rfl ?_
      exact LX.left ⟨rfl, rfl, rfl, rfl, rfl, rfl, trivial⟩
    refine LX.pure (Y.assign rfl) rfl rfl rfl <| LX.sub (l' := [(0, _), (3, _), (4, _), (5, _)]) ⟨rfl, rfl, rfl, rfl, trivial⟩ <| LX.next <| PX.thenN <| CX.ret <| PX.blockR <| PX.thenR <| PX.ret1 (by simp) Tryz.results104 rfl ?_
    exact fun w hw => ⟨(), congrArg (fun z => Ending.returned (Value.bool z)) (by
      unfold kidsB
      repeat (first | rw [if_pos (by omega)] | rw [if_neg (by omega)])
      try rfl), hw.drop (List.sublist_cons_self _ _)⟩
  try simp at hb34
  refine CX.seq <| CX.region <| LX.pure (Y.eqI rfl rfl) rfl rfl rfl <| LX.pure (Y.assign rfl) rfl rfl rfl <| LX.sub (l' := [(0, _), (3, _), (4, _), (5, _), (146, _)]) ⟨rfl, rfl, rfl, rfl, rfl, trivial⟩ <| LX.next <| PX.thenN ?_
  refine CX.cond rfl (fun hb37 => ?_) (fun hb37 => ?_)
  · try simp at hb37
    refine CX.seq <| CX.region <| LX.pure (Y.move rfl) rfl rfl rfl <| LX.pure (Y.lenSl rfl Ft.un30 rfl) rfl rfl rfl <| LX.pure (Y.gtN rfl rfl) rfl rfl rfl <| LX.pure (Y.move rfl) rfl rfl rfl <| LX.sub (l' := [(0, _), (3, _), (4, _), (5, _), (151, _)]) ⟨rfl, rfl, rfl, rfl, rfl, trivial⟩ ?_
    apply LX.joinAnd 4 155 151 rfl
    · intro hb38
      have hb38p := hb38
      try simp at hb38p
      refine LX.gT rfl rfl rfl hb38 (Y.move rfl) rfl rfl <| LX.gT rfl rfl rfl hb38 (Y.move rfl) rfl rfl <| LX.callQT rfl rfl rfl hb38 (all_q i hi ck hkn hr _ #[] (fun x => stmtB x.op) (fun w hw => hq.push hw) (fun w hw => hka.push hw) (fun w hw => ⟨Fw.en174, fun its k x cs hx hi hn => kids3_q (fun w hw => Kept.mono (fun _ _ h => h.push hw) hn)⟩)) Ft.en167 rfl rfl rfl rfl <| LX.pure (Y.pickT rfl hb38 rfl) rfl rfl rfl ?_
      exact LX.left ⟨rfl, rfl, rfl, rfl, rfl, rfl, trivial⟩
    · intro hb38
      have hb38p := hb38
      try simp at hb38p
      refine LX.gF rfl rfl rfl hb38 rfl rfl <| LX.gF rfl rfl rfl hb38 rfl rfl <| LX.gF rfl rfl rfl hb38 rfl rfl <| LX.pure (Y.pickF rfl hb38 rfl) rfl rfl rfl ?_
      exact LX.left ⟨rfl, rfl, rfl, rfl, rfl, rfl, trivial⟩
    refine LX.pure (Y.assign rfl) rfl rfl rfl <| LX.sub (l' := [(0, _), (3, _), (4, _), (5, _)]) ⟨rfl, rfl, rfl, rfl, trivial⟩ <| LX.next <| PX.thenN <| CX.ret <| PX.blockR <| PX.thenR <| PX.ret1 (by simp) Tryz.results104 rfl ?_
    exact fun w hw => ⟨(), congrArg (fun z => Ending.returned (Value.bool z)) (by
      unfold kidsB
      repeat (first | rw [if_pos (by omega)] | rw [if_neg (by omega)])
      try rfl), hw.drop (List.sublist_cons_self _ _)⟩
  try simp at hb37
  refine CX.skip <| PX.blockN <| PX.thenN <| CX.seq <| CX.region <| LX.pure (Y.move rfl) rfl rfl rfl <| LX.pure (Y.fieldAddr0 Ft.fo32_0 rfl) rfl rfl rfl <| LX.pure (Y.ldB 0 Ft.one3 rfl rfl rfl) rfl rfl rfl <| LX.pure (Y.move rfl) rfl rfl rfl <| LX.callQ (more_q i hi hA n hni ck hkn hr hkc _ (fun w hw => hq.push hw) (fun w hw => hka.push hw)) Fw.en176 rfl rfl rfl rfl rfl <| LX.pure (Y.assign rfl) rfl rfl rfl <| LX.sub (l' := [(4, _)]) ⟨rfl, trivial⟩ <| LX.next <| PX.thenN <| CX.ret <| PX.ret1 (by simp) Tryz.results104 rfl ?_
  exact fun w hw => ⟨(), congrArg (fun z => Ending.returned (Value.bool z)) (by
    unfold kidsB
    repeat (rw [if_neg (by omega)])
    try rfl), hw.drop (List.sublist_cons_self _ _)⟩
theorem kids_q {W : World → Prop} [Stab W] {bq : Nat} {al : Option Addr} {cl : Nat} {uv : Value} {l : List Nd} (i : Nat) (hi : i ≤ l.length) (hA : Ahead l i) (n : Nat) (hni : i ≤ n) {x : Nd} {cs : List Value} (hr : ∀ k ∈ x.kids, 0 ≤ k ∧ k < (i : Int))  (hq : ∀ w, W w → Cq w w.heap.size bq al cl uv l ndA) (hx : ∀ w, W w → ndA (Lies w w.heap.size) cs x) : FnQ Tryz.prog 104 #[.pointer (some ⟨bq, 0, none⟩), .agg cs.toArray] W (.bool (kidsB l n x)) := FnC.quiet fun w hw => kids_c i hi hA n hni hr (hq w hw) (hx w hw)
end Go.Proofs.YtfbenelagdcdgaaGreatDoor
