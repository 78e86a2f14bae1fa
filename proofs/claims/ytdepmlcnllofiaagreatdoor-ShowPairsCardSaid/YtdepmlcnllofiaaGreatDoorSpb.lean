/-
  Proved here: plain functions that do what the program's functions do, each with its proof.
-/
import Derived.Test.YtdepmlcnllofiaaGreatDoorSpa
namespace Go.Proofs.YtdepmlcnllofiaaGreatDoor.Sp
open Go.EY Go.EX Go.SX Go.RowKit
noncomputable def g242 (ih : FuncId → List HT → List AV → HT → Nat → R) (ro : List HT) (a0 : AV) (T : HT) (nx : Nat) : R :=
 callK (g177 ro a0 (.lit (.string ⟨⟨[40]⟩⟩)) T nx) fun x7_1 T1 n1 =>
 callK (g176 ro a0 x7_1 T1 n1) fun x10_2 T2 n2 =>
 callK (g131 ro a0 (.lit (.string ⟨⟨[41]⟩⟩)) T2 n2) fun x12_3 T3 n3 =>
 condK 2420010 x12_3
 (
  .bad 2420011
 )
 (
  callK (ih 77 ro [a0] T3 n3) fun x25_4 T4 n4 =>
  exK 2420015 x25_4 0 fun x26_5 =>
  exK 2420016 x25_4 1 fun x27_6 =>
  callK (g177 ro a0 (.lit (.string ⟨⟨[41]⟩⟩)) T4 n4) fun x29_7 T5 n5 =>
  fldK 2420022 T5 ro a0 3 fun x33_8 =>
  subK Tryz.prog 3 (.tmp 33) (.const (.int .i64 (.ofNat 1))) 2420023 x33_8 (.lit (.int .i64 (.ofNat 1))) fun x34_9 =>
  faK 2420024 a0 3 fun x36_10 =>
  stK 2420025 T5 x36_10 x34_9 fun T6 =>
  condK 2420027 x27_6
  (
   .bad 2420028
  )
  (
   .ok (.val x26_5) T6 n5
  )
 )
theorem g242_ok (ih : FuncId → List HT → List AV → HT → Nat → R) (hI : ∀ f ro args T nx, GOk Tryz.prog envE f args ro T nx (ih f ro args T nx)) (ro : List HT) (a0 : AV) (T : HT) (nx : Nat) : GOk Tryz.prog envE 242 [a0] ro T nx (g242 ih ro a0 T nx) := by
 refine GOk.of_body Tryz.func242 rfl Tryz.ntmps242 (by kernel_rfl) rfl fun r T' n' h1 w0 base ρ0 its hS hP => ?_
 have X : CtxW envE ρ0 ro r T' n' := trivial
 unfold g242 at h1
 refine sr ?_
 refine as_ ?_
 refine dn ?_
 refine sr ?_
 refine mv ?_
 refine LV.call hS h1 (g177_ok _ _ _ _ _ ) hP rfl rfl rfl rfl fun x7_1 T1 n1 h2 ρ its hS => ?_
 refine as_ ?_
 refine dn ?_
 refine sr ?_
 refine mv ?_
 refine mv ?_
 refine LV.call hS h2 (g176_ok _ _ _ _ _ ) hP rfl rfl rfl rfl fun x10_2 T2 n2 h3 ρ its hS => ?_
 refine dn ?_
 refine CV.seq ?_
 refine sr ?_
 refine mv ?_
 refine LV.call hS h3 (g131_ok _ _ _ _ _ ) hP rfl rfl rfl rfl fun x12_3 T3 n3 h4 ρ its hS => ?_
 refine dn ?_
 refine CV.cond h4 rfl (fun e h5 => ?_) (fun e h5 => ?_)
 ·
  clear h1 h2 h3 h4
  subst e
  cases h5
 ·
  clear h1 h2 h3 h4
  subst e
  refine CV.skip ?_
  refine PV.thenN ?_
  refine sr ?_
  refine mv ?_
  refine LV.call hS h5 (hI _ _ _ _ _) hP rfl rfl rfl rfl fun x25_4 T4 n4 h6 ρ its hS => ?_
  refine mv ?_
  refine vy (V.ex h6 rfl) fun x26_5 h7 => ?_
  refine vy (V.ex h7 rfl) fun x27_6 h8 => ?_
  refine as_ ?_
  refine as_ ?_
  refine dn ?_
  refine sr ?_
  refine mv ?_
  refine LV.call hS h8 (g177_ok _ _ _ _ _ ) hP rfl rfl rfl rfl fun x29_7 T5 n5 h9 ρ its hS => ?_
  refine dn ?_
  refine sr ?_
  refine mv ?_
  refine fl hS h9 Spf.fo98_3 Spf.one3 fun x33_8 h10 => ?_
  refine vy (V.sub h10 rfl rfl) fun x34_9 h11 => ?_
  refine fa2 h11 Spf.fo98_3 fun x36_10 h12 => ?_
  refine LV.st hS h12 rfl rfl rfl Spf.siz3 rfl rfl fun T6 its h13 hS => ?_
  refine dn ?_
  refine CV.seq ?_
  refine sr ?_
  refine mv ?_
  refine dn ?_
  refine CV.cond h13 rfl (fun e h14 => ?_) (fun e h14 => ?_)
  ·
   clear h5 h6 h7 h8 h9 h10 h11 h12 h13
   subst e
   cases h14
  ·
   clear h5 h6 h7 h8 h9 h10 h11 h12 h13
   subst e
   refine CV.skip ?_
   refine PV.thenN ?_
   refine sr ?_
   refine mv ?_
   refine as_ ?_
   refine dn ?_
   refine CV.ret ?_
   cases h14
   exact PV.ret (by simp) Tryz.results242 hS (RS.tmp rfl RS.nil) rfl
noncomputable def g245 (ih : FuncId → List HT → List AV → HT → Nat → R) (ro : List HT) (a0 : AV) (T : HT) (nx : Nat) : R :=
 bsK 2450005 T nx 3 9 1 [(0, (.lit (.string ⟨⟨[42]⟩⟩))), (1, (.lit (.string ⟨⟨[47, 47]⟩⟩))), (2, (.lit (.string ⟨⟨[37]⟩⟩)))] fun x6_1 T1 n1 =>
 callK (ih 217 ro [a0, (.fn (.func 247) [a0] []), x6_1] T1 n1) fun x7_2 T2 n2 =>
 .ok (.val x7_2) T2 n2
theorem g245_ok (ih : FuncId → List HT → List AV → HT → Nat → R) (hI : ∀ f ro args T nx, GOk Tryz.prog envE f args ro T nx (ih f ro args T nx)) (ro : List HT) (a0 : AV) (T : HT) (nx : Nat) : GOk Tryz.prog envE 245 [a0] ro T nx (g245 ih ro a0 T nx) := by
 refine GOk.of_body Tryz.func245 rfl Tryz.ntmps245 (by kernel_rfl) rfl fun r T' n' h1 w0 base ρ0 its hS hP => ?_
 have X : CtxW envE ρ0 ro r T' n' := trivial
 unfold g245 at h1
 refine sr ?_
 refine as_ ?_
 refine dn ?_
 refine sr ?_
 refine mv ?_
 refine mv ?_
 refine pu ?_
 refine LV.bslice hS h1 rfl rfl Spf.el46 rfl rfl rfl rfl fun x6_1 T1 n1 h2 ρ its hS hdr => ?_
 refine LV.call hS h2 (hI _ _ _ _ _) hP rfl rfl rfl rfl fun x7_2 T2 n2 h3 ρ its hS => ?_
 refine as_ ?_
 refine dn ?_
 refine CV.ret ?_
 cases h3
 exact PV.ret (by simp) Tryz.results245 hS (RS.tmp rfl RS.nil) rfl
noncomputable def g247 (ih : FuncId → List HT → List AV → HT → Nat → R) (ro : List HT) (a0 : AV) (T : HT) (nx : Nat) : R :=
 bsK 2470003 T nx 1 9 1 [(0, (.lit (.string ⟨⟨[45]⟩⟩)))] fun x6_1 T1 n1 =>
 callK (g99 ro a0 x6_1 T1 n1) fun x7_2 T2 n2 =>
 notK 2470005 x7_2 fun x8_3 =>
 condK 2470006 x8_3
 (
  callK (ih 235 ro [a0] T2 n2) fun x10_4 T3 n3 =>
  .ok (.val x10_4) T3 n3
 )
 (
  callK (g177 ro a0 (.lit (.string ⟨⟨[45]⟩⟩)) T2 n2) fun x12_5 T4 n4 =>
  callK (g176 ro a0 x12_5 T4 n4) fun x15_6 T5 n5 =>
  callK (ih 247 ro [a0] T5 n5) fun x17_7 T6 n6 =>
  fldK 2470020 T6 ro a0 3 fun x21_8 =>
  subK Tryz.prog 3 (.tmp 21) (.const (.int .i64 (.ofNat 1))) 2470021 x21_8 (.lit (.int .i64 (.ofNat 1))) fun x22_9 =>
  faK 2470022 a0 3 fun x24_10 =>
  stK 2470023 T6 x24_10 x22_9 fun T7 =>
  bsK 2470027 T7 n6 1 3 1 [(0, x17_7)] fun x28_11 T8 n8 =>
  callK (g65 ro a0 (.lit (.int .i64 (.ofNat 16))) x12_5 (.lit (.string ⟨⟨[]⟩⟩)) x28_11 T8 n8) fun x29_12 T9 n9 =>
  .ok (.val x29_12) T9 n9
 )
theorem g247_ok (ih : FuncId → List HT → List AV → HT → Nat → R) (hI : ∀ f ro args T nx, GOk Tryz.prog envE f args ro T nx (ih f ro args T nx)) (ro : List HT) (a0 : AV) (T : HT) (nx : Nat) : GOk Tryz.prog envE 247 [a0] ro T nx (g247 ih ro a0 T nx) := by
 refine GOk.of_body Tryz.func247 rfl Tryz.ntmps247 (by kernel_rfl) rfl fun r T' n' h1 w0 base ρ0 its hS hP => ?_
 have X : CtxW envE ρ0 ro r T' n' := trivial
 unfold g247 at h1
 refine sr ?_
 refine as_ ?_
 refine dn ?_
 refine CV.seq ?_
 refine sr ?_
 refine mv ?_
 refine LV.bslice hS h1 rfl rfl Spf.el46 rfl rfl rfl rfl fun x6_1 T1 n1 h2 ρ its hS hdr => ?_
 refine LV.call hS h2 (g99_ok _ _ _ _ _ ) hP rfl rfl rfl rfl fun x7_2 T2 n2 h3 ρ its hS => ?_
 refine vy (V.not h3 rfl) fun x8_3 h4 => ?_
 refine dn ?_
 refine CV.cond h4 rfl (fun e h5 => ?_) (fun e h5 => ?_)
 ·
  clear h1 h2 h3 h4
  subst e
  refine sr ?_
  refine mv ?_
  refine LV.call hS h5 (hI _ _ _ _ _) hP rfl rfl rfl rfl fun x10_4 T3 n3 h6 ρ its hS => ?_
  refine as_ ?_
  refine dn ?_
  refine CV.ret ?_
  refine PV.thenR ?_
  cases h6
  exact PV.ret (by simp) Tryz.results247 hS (RS.tmp rfl RS.nil) rfl
 ·
  clear h1 h2 h3 h4
  subst e
  refine CV.skip ?_
  refine PV.thenN ?_
  refine sr ?_
  refine mv ?_
  refine LV.call hS h5 (g177_ok _ _ _ _ _ ) hP rfl rfl rfl rfl fun x12_5 T4 n4 h7 ρ its hS => ?_
  refine as_ ?_
  refine dn ?_
  refine sr ?_
  refine mv ?_
  refine mv ?_
  refine LV.call hS h7 (g176_ok _ _ _ _ _ ) hP rfl rfl rfl rfl fun x15_6 T5 n5 h8 ρ its hS => ?_
  refine dn ?_
  refine sr ?_
  refine mv ?_
  refine LV.call hS h8 (hI _ _ _ _ _) hP rfl rfl rfl rfl fun x17_7 T6 n6 h9 ρ its hS => ?_
  refine as_ ?_
  refine dn ?_
  refine sr ?_
  refine mv ?_
  refine fl hS h9 Spf.fo98_3 Spf.one3 fun x21_8 h10 => ?_
  refine vy (V.sub h10 rfl rfl) fun x22_9 h11 => ?_
  refine fa2 h11 Spf.fo98_3 fun x24_10 h12 => ?_
  refine LV.st hS h12 rfl rfl rfl Spf.siz3 rfl rfl fun T7 its h13 hS => ?_
  refine dn ?_
  refine sr ?_
  refine mv ?_
  refine mv ?_
  refine mv ?_
  refine LV.bslice hS h13 rfl rfl Spf.el30 rfl rfl rfl rfl fun x28_11 T8 n8 h14 ρ its hS hdr => ?_
  refine LV.call hS h14 (g65_ok _ _ _ _ _ _ _ _ ) hP rfl rfl rfl rfl fun x29_12 T9 n9 h15 ρ its hS => ?_
  refine as_ ?_
  refine dn ?_
  refine CV.ret ?_
  cases h15
  exact PV.ret (by simp) Tryz.results247 hS (RS.tmp rfl RS.nil) rfl
noncomputable def ap1 (ih : FuncId → List HT → List AV → HT → Nat → R) (f : FuncId) (ro : List HT) (args : List AV) (T : HT) (nx : Nat) : R :=
  Bool.rec (motive := fun _ => R) (Bool.rec (motive := fun _ => R) (Bool.rec (motive := fun _ => R) (Bool.rec (motive := fun _ => R) (Bool.rec (motive := fun _ => R) (Bool.rec (motive := fun _ => R) (.bad 2) (List.rec (motive := fun _ => R) (.bad 1) (fun a0 l0 _ => List.rec (motive := fun _ => R) (g247 ih ro a0 T nx) (fun _ _ _ => .bad 1) l0) args) (Nat.beq f 247)) (Bool.rec (motive := fun _ => R) (.bad 2) (List.rec (motive := fun _ => R) (.bad 1) (fun a0 l0 _ => List.rec (motive := fun _ => R) (g245 ih ro a0 T nx) (fun _ _ _ => .bad 1) l0) args) (Nat.beq f 245)) (Nat.ble f 245)) (Bool.rec (motive := fun _ => R) (.bad 2) (List.rec (motive := fun _ => R) (.bad 1) (fun a0 l0 _ => List.rec (motive := fun _ => R) (g242 ih ro a0 T nx) (fun _ _ _ => .bad 1) l0) args) (Nat.beq f 242)) (Nat.ble f 242)) (Bool.rec (motive := fun _ => R) (Bool.rec (motive := fun _ => R) (.bad 2) (List.rec (motive := fun _ => R) (.bad 1) (fun a0 l0 _ => List.rec (motive := fun _ => R) (g241 ih ro a0 T nx) (fun _ _ _ => .bad 1) l0) args) (Nat.beq f 241)) (Bool.rec (motive := fun _ => R) (.bad 2) (List.rec (motive := fun _ => R) (.bad 1) (fun a0 l0 _ => List.rec (motive := fun _ => R) (g238 ih ro a0 T nx) (fun _ _ _ => .bad 1) l0) args) (Nat.beq f 238)) (Nat.ble f 238)) (Nat.ble f 241)) (Bool.rec (motive := fun _ => R) (Bool.rec (motive := fun _ => R) (Bool.rec (motive := fun _ => R) (.bad 2) (List.rec (motive := fun _ => R) (.bad 1) (fun a0 l0 _ => List.rec (motive := fun _ => R) (g237 ih ro a0 T nx) (fun _ _ _ => .bad 1) l0) args) (Nat.beq f 237)) (Bool.rec (motive := fun _ => R) (.bad 2) (List.rec (motive := fun _ => R) (.bad 1) (fun a0 l0 _ => List.rec (motive := fun _ => R) (g235 ih ro a0 T nx) (fun _ _ _ => .bad 1) l0) args) (Nat.beq f 235)) (Nat.ble f 235)) (Bool.rec (motive := fun _ => R) (Bool.rec (motive := fun _ => R) (.bad 2) (List.rec (motive := fun _ => R) (.bad 1) (fun a0 l0 _ => List.rec (motive := fun _ => R) (g232 ih ro a0 T nx) (fun _ _ _ => .bad 1) l0) args) (Nat.beq f 232)) (Bool.rec (motive := fun _ => R) (.bad 2) (List.rec (motive := fun _ => R) (.bad 1) (fun a0 l0 _ => List.rec (motive := fun _ => R) (g218 ih ro a0 T nx) (fun _ _ _ => .bad 1) l0) args) (Nat.beq f 218)) (Nat.ble f 218)) (Nat.ble f 232)) (Nat.ble f 237)) (Bool.rec (motive := fun _ => R) (Bool.rec (motive := fun _ => R) (Bool.rec (motive := fun _ => R) (Bool.rec (motive := fun _ => R) (.bad 2) (List.rec (motive := fun _ => R) (.bad 1) (fun a0 l0 _ => List.rec (motive := fun _ => R) (.bad 1) (fun a1 l1 _ => List.rec (motive := fun _ => R) (.bad 1) (fun a2 l2 _ => List.rec (motive := fun _ => R) (g217 ih ro a0 a1 a2 T nx) (fun _ _ _ => .bad 1) l2) l1) l0) args) (Nat.beq f 217)) (Bool.rec (motive := fun _ => R) (.bad 2) (List.rec (motive := fun _ => R) (.bad 1) (fun a0 l0 _ => List.rec (motive := fun _ => R) (g189 ih ro a0 T nx) (fun _ _ _ => .bad 1) l0) args) (Nat.beq f 189)) (Nat.ble f 189)) (Bool.rec (motive := fun _ => R) (Bool.rec (motive := fun _ => R) (.bad 2) (List.rec (motive := fun _ => R) (.bad 1) (fun a0 l0 _ => List.rec (motive := fun _ => R) (g183 ro a0 T nx) (fun _ _ _ => .bad 1) l0) args) (Nat.beq f 183)) (Bool.rec (motive := fun _ => R) (.bad 2) (List.rec (motive := fun _ => R) (.bad 1) (fun a0 l0 _ => List.rec (motive := fun _ => R) (g130 ih ro a0 T nx) (fun _ _ _ => .bad 1) l0) args) (Nat.beq f 130)) (Nat.ble f 130)) (Nat.ble f 183)) (Bool.rec (motive := fun _ => R) (Bool.rec (motive := fun _ => R) (Bool.rec (motive := fun _ => R) (.bad 2) (List.rec (motive := fun _ => R) (.bad 1) (fun a0 l0 _ => List.rec (motive := fun _ => R) (g116 ro a0 T nx) (fun _ _ _ => .bad 1) l0) args) (Nat.beq f 116)) (Bool.rec (motive := fun _ => R) (.bad 2) (List.rec (motive := fun _ => R) (.bad 1) (fun a0 l0 _ => List.rec (motive := fun _ => R) (g77 ih ro a0 T nx) (fun _ _ _ => .bad 1) l0) args) (Nat.beq f 77)) (Nat.ble f 77)) (Bool.rec (motive := fun _ => R) (Bool.rec (motive := fun _ => R) (.bad 2) (List.rec (motive := fun _ => R) (.bad 1) (fun a0 l0 _ => List.rec (motive := fun _ => R) (g49 ih ro a0 T nx) (fun _ _ _ => .bad 1) l0) args) (Nat.beq f 49)) (Bool.rec (motive := fun _ => R) (.bad 2) (List.rec (motive := fun _ => R) (.bad 1) (fun a0 l0 _ => List.rec (motive := fun _ => R) (g48 ih ro a0 T nx) (fun _ _ _ => .bad 1) l0) args) (Nat.beq f 48)) (Nat.ble f 48)) (Nat.ble f 49)) (Nat.ble f 116)) (Nat.ble f 217)
noncomputable def scc1 (fuel : Nat) : FuncId → List HT → List AV → HT → Nat → R :=
  Nat.rec (motive := fun _ => FuncId → List HT → List AV → HT → Nat → R) (fun _ _ _ _ _ => .bad 3) (fun _ ih => ap1 ih) fuel
theorem ap1_ok (ih : FuncId → List HT → List AV → HT → Nat → R) (hI : ∀ f ro args T nx, GOk Tryz.prog envE f args ro T nx (ih f ro args T nx)) (f : FuncId) (ro : List HT) (args : List AV) (T : HT) (nx : Nat) : GOk Tryz.prog envE f args ro T nx (ap1 ih f ro args T nx) := by
  unfold ap1
  refine recb_go (fun hb => ?_) (fun _ => ?_)
  · refine recb_go (fun hb => ?_) (fun _ => ?_)
    · refine recb_go (fun hb => ?_) (fun _ => ?_)
      · refine recb_go (fun hb => ?_) (fun _ => ?_)
        · refine recb_go (fun hb => ?_) (fun _ => ?_)
          · obtain rfl := beqT hb
            rcases args with _ | ⟨a0, l0⟩
            · exact GOk.bad
            rcases l0 with _ | ⟨_, _⟩
            · exact g48_ok _ hI _ _ _ _ 
            · exact GOk.bad
          · exact GOk.bad
        · refine recb_go (fun hb => ?_) (fun _ => ?_)
          · obtain rfl := beqT hb
            rcases args with _ | ⟨a0, l0⟩
            · exact GOk.bad
            rcases l0 with _ | ⟨_, _⟩
            · exact g49_ok _ hI _ _ _ _ 
            · exact GOk.bad
          · exact GOk.bad
      · refine recb_go (fun hb => ?_) (fun _ => ?_)
        · refine recb_go (fun hb => ?_) (fun _ => ?_)
          · obtain rfl := beqT hb
            rcases args with _ | ⟨a0, l0⟩
            · exact GOk.bad
            rcases l0 with _ | ⟨_, _⟩
            · exact g77_ok _ hI _ _ _ _ 
            · exact GOk.bad
          · exact GOk.bad
        · refine recb_go (fun hb => ?_) (fun _ => ?_)
          · obtain rfl := beqT hb
            rcases args with _ | ⟨a0, l0⟩
            · exact GOk.bad
            rcases l0 with _ | ⟨_, _⟩
            · exact g116_ok _ _ _ _ 
            · exact GOk.bad
          · exact GOk.bad
    · refine recb_go (fun hb => ?_) (fun _ => ?_)
      · refine recb_go (fun hb => ?_) (fun _ => ?_)
        · refine recb_go (fun hb => ?_) (fun _ => ?_)
          · obtain rfl := beqT hb
            rcases args with _ | ⟨a0, l0⟩
            · exact GOk.bad
            rcases l0 with _ | ⟨_, _⟩
            · exact g130_ok _ hI _ _ _ _ 
            · exact GOk.bad
          · exact GOk.bad
        · refine recb_go (fun hb => ?_) (fun _ => ?_)
          · obtain rfl := beqT hb
            rcases args with _ | ⟨a0, l0⟩
            · exact GOk.bad
            rcases l0 with _ | ⟨_, _⟩
            · exact g183_ok _ _ _ _ 
            · exact GOk.bad
          · exact GOk.bad
      · refine recb_go (fun hb => ?_) (fun _ => ?_)
        · refine recb_go (fun hb => ?_) (fun _ => ?_)
          · obtain rfl := beqT hb
            rcases args with _ | ⟨a0, l0⟩
            · exact GOk.bad
            rcases l0 with _ | ⟨_, _⟩
            · exact g189_ok _ hI _ _ _ _ 
            · exact GOk.bad
          · exact GOk.bad
        · refine recb_go (fun hb => ?_) (fun _ => ?_)
          · obtain rfl := beqT hb
            rcases args with _ | ⟨a0, l0⟩
            · exact GOk.bad
            rcases l0 with _ | ⟨a1, l1⟩
            · exact GOk.bad
            rcases l1 with _ | ⟨a2, l2⟩
            · exact GOk.bad
            rcases l2 with _ | ⟨_, _⟩
            · exact g217_ok _ hI _ _ _ _ _ _ 
            · exact GOk.bad
          · exact GOk.bad
  · refine recb_go (fun hb => ?_) (fun _ => ?_)
    · refine recb_go (fun hb => ?_) (fun _ => ?_)
      · refine recb_go (fun hb => ?_) (fun _ => ?_)
        · refine recb_go (fun hb => ?_) (fun _ => ?_)
          · obtain rfl := beqT hb
            rcases args with _ | ⟨a0, l0⟩
            · exact GOk.bad
            rcases l0 with _ | ⟨_, _⟩
            · exact g218_ok _ hI _ _ _ _ 
            · exact GOk.bad
          · exact GOk.bad
        · refine recb_go (fun hb => ?_) (fun _ => ?_)
          · obtain rfl := beqT hb
            rcases args with _ | ⟨a0, l0⟩
            · exact GOk.bad
            rcases l0 with _ | ⟨_, _⟩
            · exact g232_ok _ hI _ _ _ _ 
            · exact GOk.bad
          · exact GOk.bad
      · refine recb_go (fun hb => ?_) (fun _ => ?_)
        · refine recb_go (fun hb => ?_) (fun _ => ?_)
          · obtain rfl := beqT hb
            rcases args with _ | ⟨a0, l0⟩
            · exact GOk.bad
            rcases l0 with _ | ⟨_, _⟩
            · exact g235_ok _ hI _ _ _ _ 
            · exact GOk.bad
          · exact GOk.bad
        · refine recb_go (fun hb => ?_) (fun _ => ?_)
          · obtain rfl := beqT hb
            rcases args with _ | ⟨a0, l0⟩
            · exact GOk.bad
            rcases l0 with _ | ⟨_, _⟩
            · exact g237_ok _ hI _ _ _ _ 
            · exact GOk.bad
          · exact GOk.bad
    · refine recb_go (fun hb => ?_) (fun _ => ?_)
      · refine recb_go (fun hb => ?_) (fun _ => ?_)
        · refine recb_go (fun hb => ?_) (fun _ => ?_)
          · obtain rfl := beqT hb
            rcases args with _ | ⟨a0, l0⟩
            · exact GOk.bad
            rcases l0 with _ | ⟨_, _⟩
            · exact g238_ok _ hI _ _ _ _ 
            · exact GOk.bad
          · exact GOk.bad
        · refine recb_go (fun hb => ?_) (fun _ => ?_)
          · obtain rfl := beqT hb
            rcases args with _ | ⟨a0, l0⟩
            · exact GOk.bad
            rcases l0 with _ | ⟨_, _⟩
            · exact g241_ok _ hI _ _ _ _ 
            · exact GOk.bad
          · exact GOk.bad
      · refine recb_go (fun hb => ?_) (fun _ => ?_)
        · refine recb_go (fun hb => ?_) (fun _ => ?_)
          · obtain rfl := beqT hb
            rcases args with _ | ⟨a0, l0⟩
            · exact GOk.bad
            rcases l0 with _ | ⟨_, _⟩
            · exact g242_ok _ hI _ _ _ _ 
            · exact GOk.bad
          · exact GOk.bad
        · refine recb_go (fun hb => ?_) (fun _ => ?_)
          · refine recb_go (fun hb => ?_) (fun _ => ?_)
            · obtain rfl := beqT hb
              rcases args with _ | ⟨a0, l0⟩
              · exact GOk.bad
              rcases l0 with _ | ⟨_, _⟩
              · exact g245_ok _ hI _ _ _ _ 
              · exact GOk.bad
            · exact GOk.bad
          · refine recb_go (fun hb => ?_) (fun _ => ?_)
            · obtain rfl := beqT hb
              rcases args with _ | ⟨a0, l0⟩
              · exact GOk.bad
              rcases l0 with _ | ⟨_, _⟩
              · exact g247_ok _ hI _ _ _ _ 
              · exact GOk.bad
            · exact GOk.bad
theorem scc1_ok : ∀ (fuel : Nat) (f : FuncId) (ro : List HT) (args : List AV) (T : HT) (nx : Nat), GOk Tryz.prog envE f args ro T nx (scc1 fuel f ro args T nx)
  | 0, _, _, _, _, _ => GOk.bad
  | fuel + 1, f, ro, args, T, nx => ap1_ok (scc1 fuel) (scc1_ok fuel) f ro args T nx
noncomputable def g109_b1 (ro : List HT) (lp1 : AV → AV → AV → AV → AV → AV → HT → Nat → R) (y0 y2 y6 y9 y10 y11 : AV) (T1 : HT) (n1 : Nat) : R :=
 ltK Tryz.prog 3 (.tmp 11) (.tmp 10) 1090006 y11 y10 fun x12_2 =>
 condK 1090007 x12_2
 (
  iaK 1090008 y9 y11 1 fun x13_3 =>
  ldK 1090009 T1 ro x13_3 fun x14_4 =>
  fldK 1090013 T1 ro y0 0 fun x19_5 =>
  iaK 1090015 x19_5 x14_4 5 fun x21_6 =>
  ldAK 1090016 T1 ro x21_6 5 fun x22_7 =>
  dynK 1090017 y2 fun f p q => callK (scc1 4000 f ro (p ++ ([x22_7] ++ q)) T1 n1) fun x23_8 T2 n2 =>
  notK 1090018 x23_8 fun x24_9 =>
  condK 1090019 x24_9
  (
   .bad 1090020
  )
  (
   addK Tryz.prog 3 (.tmp 11) (.const (.int .i64 (.ofNat 1))) 1090021 y11 (.lit (.int .i64 (.ofNat 1))) fun x25_10 =>
   lp1 y0 y2 y6 y9 y10 x25_10 T2 n2
  )
 )
 (
  .ok (.val (.lit (.bool true))) T1 n1
 )
noncomputable def g109 (ro : List HT) (a0 a1 a2 : AV) (T : HT) (nx : Nat) : R :=
 lenSK 1090003 a1 fun x10_1 =>
 lpf6 1090005 (g109_b1 ro) 100000 a0 a2 (.lit (.bool false)) a1 x10_1 (.lit (.int .i64 (.ofNat 0))) T nx
theorem g109_ok (ro : List HT) (a0 a1 a2 : AV) (T : HT) (nx : Nat) : GOk Tryz.prog envE 109 [a0, a1, a2] ro T nx (g109 ro a0 a1 a2 T nx) := by
 refine GOk.of_body Tryz.func109 rfl Tryz.ntmps109 (by kernel_rfl) rfl fun r T' n' h1 w0 base ρ0 its hS hP => ?_
 have X : CtxW envE ρ0 ro r T' n' := trivial
 unfold g109 at h1
 refine sr ?_
 refine as_ ?_
 refine dn ?_
 refine CV.seq ?_
 refine sr ?_
 refine mv ?_
 refine vy (V.lenS h1 rfl Spf.ls30) fun x10_1 h2 => ?_
 refine mv ?_
 refine dn ?_
 refine CV.block ?_
 refine cl6 X 0 2 6 9 10 11 [] hS h2 ⟨rfl, rfl, rfl, rfl, rfl, rfl, trivial⟩ ?_
 intro f1 y0 y2 y6 y9 y10 y11 T1 n1 ρ its hS h3
 unfold g109_b1 at h3
 clear h1 h2
 refine sr ?_
 refine vy (V.lt h3 rfl rfl) fun x12_2 h4 => ?_
 refine dn ?_
 refine CV.seq ?_
 refine CV.cond h4 rfl (fun e h5 => ?_) (fun e h5 => ?_)
 ·
  clear h3 h4
  subst e
  refine CV.skip ?_
  refine PV.thenN ?_
  refine CV.seq ?_
  refine CV.block ?_
  refine sr ?_
  refine vy (V.ia h5 rfl rfl Spf.el30) fun x13_3 h6 => ?_
  refine vy (V.ld hS h6 rfl Spf.one3) fun x14_4 h7 => ?_
  refine as_ ?_
  refine dn ?_
  refine sr ?_
  refine mv ?_
  refine mv ?_
  refine fl hS h7 Spf.fo69_0 Spf.one23 fun x19_5 h8 => ?_
  refine mv ?_
  refine vy (V.ia h8 rfl rfl Spf.el23) fun x21_6 h9 => ?_
  refine vy (V.ldA hS h9 rfl Spf.agg32) fun x22_7 h10 => ?_
  refine LV.callD (G := fun f gs => scc1 4000 f ro gs T1 n1) (qs := [x22_7]) hS h10 (fun f gs => scc1_ok _ _ _ _ _ _) hP rfl rfl rfl rfl rfl rfl rfl fun x23_8 T2 n2 h11 ρ its hS => ?_
  refine vy (V.not h11 rfl) fun x24_9 h12 => ?_
  refine dn ?_
  refine CV.cond h12 rfl (fun e h13 => ?_) (fun e h13 => ?_)
  ·
   clear h5 h6 h7 h8 h9 h10 h11 h12
   subst e
   cases h13
  ·
   clear h5 h6 h7 h8 h9 h10 h11 h12
   subst e
   refine CV.skip ?_
   refine PV.blockN ?_
   refine PV.thenN ?_
   refine CV.region ?_
   refine vy (V.add h13 rfl rfl) fun x25_10 h14 => ?_
   refine mv ?_
   refine LV.done ?_
   exact pb6 hS h14 ⟨rfl, rfl, rfl, rfl, rfl, rfl, trivial⟩
 ·
  clear h3 h4
  subst e
  refine CV.exit ?_
  refine PV.thenE ?_
  refine PV.thenE ?_
  refine PV.blockE ?_
  refine PV.thenN ?_
  refine sr ?_
  refine as_ ?_
  refine dn ?_
  refine CV.ret ?_
  cases h5
  exact PV.ret (by simp) Tryz.results109 hS (RS.tmp rfl RS.nil) rfl
noncomputable def g107_k2 (ro : List HT) (y23 : AV) (T2 : HT) (n2 : Nat) : R :=
 .ok (.val y23) T2 n2
noncomputable def g107_k1 (ro : List HT) (y0 y1 y18 : AV) (T1 : HT) (n1 : Nat) : R :=
 condK 1070009 y18
 (
  callK (g109 ro y0 y1 (.lit (.func (.func 183) #[] #[])) T1 n1) fun x22_3 T3 n3 =>
  g107_k2 ro x22_3 T3 n3
 )
 (
  g107_k2 ro (.lit (.bool false)) T1 n1
 )
noncomputable def g107 (ro : List HT) (a0 a1 a2 a3 : AV) (T : HT) (nx : Nat) : R :=
 lenSK 1070003 a1 fun x10_1 =>
 geK Tryz.prog 3 (.tmp 10) (.tmp 11) 1070005 x10_1 a2 fun x12_2 =>
 condK 1070015 x12_2
 (
  lenSK 1070017 a1 fun x15_4 =>
  leK Tryz.prog 3 (.tmp 15) (.tmp 16) 1070019 x15_4 a3 fun x17_5 =>
  g107_k1 ro a0 a1 x17_5 T nx
 )
 (
  g107_k1 ro a0 a1 (.lit (.bool false)) T nx
 )
theorem g107_ok (ro : List HT) (a0 a1 a2 a3 : AV) (T : HT) (nx : Nat) : GOk Tryz.prog envE 107 [a0, a1, a2, a3] ro T nx (g107 ro a0 a1 a2 a3 T nx) := by
 refine GOk.of_body Tryz.func107 rfl Tryz.ntmps107 (by kernel_rfl) rfl fun r T' n' h1 w0 base ρ0 its hS hP => ?_
 have X : CtxW envE ρ0 ro r T' n' := trivial
 unfold g107 at h1
 refine sr ?_
 refine as_ ?_
 refine dn ?_
 refine sr ?_
 refine mv ?_
 refine vy (V.lenS h1 rfl Spf.ls30) fun x10_1 h2 => ?_
 refine mv ?_
 refine vy (V.ge h2 rfl rfl) fun x12_2 h3 => ?_
 refine mv ?_
 refine ls3 X 0 1 18 [(8, (.lit (.bool false)))] (g107_k1 ro) 5 ?_ ?_
 ·
  rcases condK_inv h3 with ⟨e, h8⟩ | ⟨e, h8⟩
  ·
   clear h1 h2 h3
   subst e
   refine mv ?_
   refine vy (V.lenS h8 rfl Spf.ls30) fun x15_4 h9 => ?_
   refine mv ?_
   refine vy (V.le h9 rfl rfl) fun x17_5 h10 => ?_
   refine pu ?_
   exact la3 hS h10 ⟨rfl, rfl, rfl, rfl, trivial⟩
  ·
   clear h1 h2 h3
   subst e
   refine sk ?_
   refine sk ?_
   refine sk ?_
   refine sk ?_
   refine pu ?_
   exact la3 hS h8 ⟨rfl, rfl, rfl, rfl, trivial⟩
 ·
  intro y0 y1 y18 T1 n1 ρ its hS h4
  unfold g107_k1 at h4
  clear h1 h2 h3
  refine mv ?_
  refine ls1 X 23 [(8, (.lit (.bool false)))] (g107_k2 ro) 4 ?_ ?_
  ·
   rcases condK_inv h4 with ⟨e, h6⟩ | ⟨e, h6⟩
   ·
    clear h4
    subst e
    refine mv ?_
    refine mv ?_
    refine LV.call hS h6 (g109_ok _ _ _ _ _ _ ) hP rfl rfl rfl rfl fun x22_3 T3 n3 h7 ρ its hS => ?_
    refine pu ?_
    exact la1 hS h7 ⟨rfl, rfl, trivial⟩
   ·
    clear h4
    subst e
    refine sk ?_
    refine sk ?_
    refine sk ?_
    refine pu ?_
    exact la1 hS h6 ⟨rfl, rfl, trivial⟩
  ·
   intro y23 T2 n2 ρ its hS h5
   unfold g107_k2 at h5
   clear h4
   refine as_ ?_
   refine dn ?_
   refine CV.ret ?_
   cases h5
   exact PV.ret (by simp) Tryz.results107 hS (RS.tmp rfl RS.nil) rfl
noncomputable def g118_k4 (ro : List HT) (y122 : AV) (T4 : HT) (n4 : Nat) : R :=
 .ok (.val y122) T4 n4
noncomputable def g118_k3 (ro : List HT) (y0 y2 y116 : AV) (T3 : HT) (n3 : Nat) : R :=
 condK 1180028 y116
 (
  callK (g107 ro y0 y2 (.lit (.int .i64 (.ofNat 2))) (.lit (.int .i64 (.ofNat 2))) T3 n3) fun x121_6 T5 n5 =>
  g118_k4 ro x121_6 T5 n5
 )
 (
  g118_k4 ro (.lit (.bool false)) T3 n3
 )
noncomputable def g118_k5 (ro : List HT) (y0 y2 y115 : AV) (T6 : HT) (n6 : Nat) : R :=
 g118_k3 ro y0 y2 y115 T6 n6
noncomputable def g118_k2 (ro : List HT) (y0 y1 y2 y108 : AV) (T2 : HT) (n2 : Nat) : R :=
 condK 1180034 y108
 (
  g118_k3 ro y0 y2 (.lit (.bool true)) T2 n2
 )
 (
  geK Tryz.prog 3 (.tmp 110) (.const (.int .i64 (.ofNat 21))) 1180037 y1 (.lit (.int .i64 (.ofNat 21))) fun x111_7 =>
  condK 1180040 x111_7
  (
   leK Tryz.prog 3 (.tmp 113) (.const (.int .i64 (.ofNat 33))) 1180042 y1 (.lit (.int .i64 (.ofNat 33))) fun x114_8 =>
   g118_k5 ro y0 y2 x114_8 T2 n2
  )
  (
   g118_k5 ro y0 y2 (.lit (.bool false)) T2 n2
  )
 )
noncomputable def g118_k1 (ro : List HT) (y0 y1 y2 y104 : AV) (T1 : HT) (n1 : Nat) : R :=
 condK 1180045 y104
 (
  g118_k2 ro y0 y1 y2 (.lit (.bool true)) T1 n1
 )
 (
  eqK Tryz.prog 3 (.tmp 106) (.const (.int .i64 (.ofNat 19))) 1180048 y1 (.lit (.int .i64 (.ofNat 19))) fun x107_9 =>
  g118_k2 ro y0 y1 y2 x107_9 T1 n1
 )
noncomputable def g118 (ro : List HT) (a0 a1 a2 : AV) (T : HT) (nx : Nat) : R :=
 eqK Tryz.prog 3 (.tmp 8) (.const (.int .i64 (.ofNat 36))) 1180003 a1 (.lit (.int .i64 (.ofNat 36))) fun x10_1 =>
 condK 1180005 x10_1
 (
  .bad 1180006
 )
 (
  eqK Tryz.prog 3 (.tmp 8) (.const (.int .i64 (.ofNat 37))) 1180007 a1 (.lit (.int .i64 (.ofNat 37))) fun x28_2 =>
  condK 1180009 x28_2
  (
   .bad 1180010
  )
  (
   eqK Tryz.prog 3 (.tmp 8) (.const (.int .i64 (.ofNat 43))) 1180011 a1 (.lit (.int .i64 (.ofNat 43))) fun x53_3 =>
   condK 1180013 x53_3
   (
    .bad 1180014
   )
   (
    eqK Tryz.prog 3 (.tmp 8) (.const (.int .i64 (.ofNat 44))) 1180015 a1 (.lit (.int .i64 (.ofNat 44))) fun x75_4 =>
    condK 1180017 x75_4
    (
     .bad 1180018
    )
    (
     eqK Tryz.prog 3 (.tmp 99) (.const (.int .i64 (.ofNat 13))) 1180020 a1 (.lit (.int .i64 (.ofNat 13))) fun x100_5 =>
     condK 1180050 x100_5
     (
      g118_k1 ro a0 a1 a2 (.lit (.bool true)) T nx
     )
     (
      eqK Tryz.prog 3 (.tmp 102) (.const (.int .i64 (.ofNat 18))) 1180053 a1 (.lit (.int .i64 (.ofNat 18))) fun x103_10 =>
      g118_k1 ro a0 a1 a2 x103_10 T nx
     )
    )
   )
  )
 )
theorem g118_ok (ro : List HT) (a0 a1 a2 : AV) (T : HT) (nx : Nat) : GOk Tryz.prog envE 118 [a0, a1, a2] ro T nx (g118 ro a0 a1 a2 T nx) := by
 refine GOk.of_body Tryz.func118 rfl Tryz.ntmps118 (by kernel_rfl) rfl fun r T' n' h1 w0 base ρ0 its hS hP => ?_
 have X : CtxW envE ρ0 ro r T' n' := trivial
 unfold g118 at h1
 refine sr ?_
 refine as_ ?_
 refine dn ?_
 refine CV.seq ?_
 refine sr ?_
 refine mv ?_
 refine dn ?_
 refine CV.block ?_
 refine sr ?_
 refine vy (V.eq h1 rfl rfl) fun x10_1 h2 => ?_
 refine as_ ?_
 refine dn ?_
 refine CV.cond h2 rfl (fun e h3 => ?_) (fun e h3 => ?_)
 ·
  clear h1 h2
  subst e
  cases h3
 ·
  clear h1 h2
  subst e
  refine sr ?_
  refine vy (V.eq h3 rfl rfl) fun x28_2 h4 => ?_
  refine as_ ?_
  refine dn ?_
  refine CV.cond h4 rfl (fun e h5 => ?_) (fun e h5 => ?_)
  ·
   clear h3 h4
   subst e
   cases h5
  ·
   clear h3 h4
   subst e
   refine sr ?_
   refine vy (V.eq h5 rfl rfl) fun x53_3 h6 => ?_
   refine as_ ?_
   refine dn ?_
   refine CV.cond h6 rfl (fun e h7 => ?_) (fun e h7 => ?_)
   ·
    clear h5 h6
    subst e
    cases h7
   ·
    clear h5 h6
    subst e
    refine sr ?_
    refine vy (V.eq h7 rfl rfl) fun x75_4 h8 => ?_
    refine as_ ?_
    refine dn ?_
    refine CV.cond h8 rfl (fun e h9 => ?_) (fun e h9 => ?_)
    ·
     clear h7 h8
     subst e
     cases h9
    ·
     clear h7 h8
     subst e
     refine CV.skip ?_
     refine PV.blockN ?_
     refine PV.thenN ?_
     refine sr ?_
     refine mv ?_
     refine vy (V.eq h9 rfl rfl) fun x100_5 h10 => ?_
     refine mv ?_
     refine ls4 X 0 1 2 104 [(6, (.lit (.bool false)))] (g118_k1 ro) 3 ?_ ?_
     ·
      rcases condK_inv h10 with ⟨e, h24⟩ | ⟨e, h24⟩
      ·
       clear h9 h10
       subst e
       refine sk ?_
       refine sk ?_
       refine pu ?_
       exact la4 hS h24 ⟨rfl, rfl, rfl, rfl, rfl, trivial⟩
      ·
       clear h9 h10
       subst e
       refine mv ?_
       refine vy (V.eq h24 rfl rfl) fun x103_10 h25 => ?_
       refine pu ?_
       exact la4 hS h25 ⟨rfl, rfl, rfl, rfl, rfl, trivial⟩
     ·
      intro y0 y1 y2 y104 T1 n1 ρ its hS h11
      unfold g118_k1 at h11
      clear h9 h10
      refine mv ?_
      refine ls4 X 0 1 2 108 [(6, (.lit (.bool false)))] (g118_k2 ro) 3 ?_ ?_
      ·
       rcases condK_inv h11 with ⟨e, h22⟩ | ⟨e, h22⟩
       ·
        clear h11
        subst e
        refine sk ?_
        refine sk ?_
        refine pu ?_
        exact la4 hS h22 ⟨rfl, rfl, rfl, rfl, rfl, trivial⟩
       ·
        clear h11
        subst e
        refine mv ?_
        refine vy (V.eq h22 rfl rfl) fun x107_9 h23 => ?_
        refine pu ?_
        exact la4 hS h23 ⟨rfl, rfl, rfl, rfl, rfl, trivial⟩
      ·
       intro y0 y1 y2 y108 T2 n2 ρ its hS h12
       unfold g118_k2 at h12
       clear h11
       refine mv ?_
       refine ls3 X 0 2 116 [(6, (.lit (.bool false)))] (g118_k3 ro) 7 ?_ ?_
       ·
        rcases condK_inv h12 with ⟨e, h17⟩ | ⟨e, h17⟩
        ·
         clear h12
         subst e
         refine sk ?_
         refine sk ?_
         refine sk ?_
         refine sk ?_
         refine sk ?_
         refine sk ?_
         refine pu ?_
         exact la3 hS h17 ⟨rfl, rfl, rfl, rfl, trivial⟩
        ·
         clear h12
         subst e
         refine mv ?_
         refine vy (V.ge h17 rfl rfl) fun x111_7 h18 => ?_
         refine mv ?_
         refine ls3 X 0 2 115 [(6, (.lit (.bool false))), (109, (.lit (.bool false)))] (g118_k5 ro) 3 ?_ ?_
         ·
          rcases condK_inv h18 with ⟨e, h20⟩ | ⟨e, h20⟩
          ·
           clear h17 h18
           subst e
           refine mv ?_
           refine vy (V.le h20 rfl rfl) fun x114_8 h21 => ?_
           refine pu ?_
           exact la3 hS h21 ⟨rfl, rfl, rfl, rfl, rfl, trivial⟩
          ·
           clear h17 h18
           subst e
           refine sk ?_
           refine sk ?_
           refine pu ?_
           exact la3 hS h20 ⟨rfl, rfl, rfl, rfl, rfl, trivial⟩
         ·
          intro y0 y2 y115 T6 n6 ρ its hS h19
          unfold g118_k5 at h19
          clear h17 h18
          refine pu ?_
          exact la3 hS h19 ⟨rfl, rfl, rfl, rfl, trivial⟩
       ·
        intro y0 y2 y116 T3 n3 ρ its hS h13
        unfold g118_k3 at h13
        clear h12
        refine as_ ?_
        refine dn ?_
        refine sr ?_
        refine mv ?_
        refine mv ?_
        refine ls1 X 122 [(6, (.lit (.bool false)))] (g118_k4 ro) 4 ?_ ?_
        ·
         rcases condK_inv h13 with ⟨e, h15⟩ | ⟨e, h15⟩
         ·
          clear h13
          subst e
          refine mv ?_
          refine mv ?_
          refine LV.call hS h15 (g107_ok _ _ _ _ _ _ _ ) hP rfl rfl rfl rfl fun x121_6 T5 n5 h16 ρ its hS => ?_
          refine pu ?_
          exact la1 hS h16 ⟨rfl, rfl, trivial⟩
         ·
          clear h13
          subst e
          refine sk ?_
          refine sk ?_
          refine sk ?_
          refine pu ?_
          exact la1 hS h15 ⟨rfl, rfl, trivial⟩
        ·
         intro y122 T4 n4 ρ its hS h14
         unfold g118_k4 at h14
         clear h13
         refine as_ ?_
         refine dn ?_
         refine CV.ret ?_
         cases h14
         exact PV.ret (by simp) Tryz.results118 hS (RS.tmp rfl RS.nil) rfl
noncomputable def g67_k5 (ro : List HT) (y0 y3 y4 y5 y155 : AV) (T7 : HT) (n7 : Nat) : R :=
 .ok (.val y155) T7 n7
noncomputable def g67_k4 (ro : List HT) (y0 y3 y4 y5 y9 y55 : AV) (T6 : HT) (n6 : Nat) : R :=
 condK 670028 y55
 (
  .bad 670029
 )
 (
  eqK Tryz.prog 3 (.tmp 9) (.const (.int .i64 (.ofNat 10))) 670030 y9 (.lit (.int .i64 (.ofNat 10))) fun x62_11 =>
  condK 670032 x62_11
  (
   .bad 670033
  )
  (
   eqK Tryz.prog 3 (.tmp 9) (.const (.int .i64 (.ofNat 14))) 670034 y9 (.lit (.int .i64 (.ofNat 14))) fun x72_12 =>
   condK 670036 x72_12
   (
    .bad 670037
   )
   (
    eqK Tryz.prog 3 (.tmp 9) (.const (.int .i64 (.ofNat 34))) 670038 y9 (.lit (.int .i64 (.ofNat 34))) fun x89_13 =>
    condK 670040 x89_13
    (
     .bad 670041
    )
    (
     eqK Tryz.prog 3 (.tmp 9) (.const (.int .i64 (.ofNat 42))) 670042 y9 (.lit (.int .i64 (.ofNat 42))) fun x111_14 =>
     condK 670044 x111_14
     (
      .bad 670045
     )
     (
      eqK Tryz.prog 3 (.tmp 9) (.const (.int .i64 (.ofNat 45))) 670046 y9 (.lit (.int .i64 (.ofNat 45))) fun x123_15 =>
      condK 670048 x123_15
      (
       .bad 670049
      )
      (
       eqK Tryz.prog 3 (.tmp 9) (.const (.int .i64 (.ofNat 47))) 670050 y9 (.lit (.int .i64 (.ofNat 47))) fun x147_16 =>
       condK 670052 x147_16
       (
        lenSK 670054 y5 fun x149_17 =>
        gtK Tryz.prog 3 (.tmp 149) (.const (.int .i64 (.ofNat 0))) 670055 x149_17 (.lit (.int .i64 (.ofNat 0))) fun x150_18 =>
        condK 670058 x150_18
        (
         callK (g109 ro y0 y5 (.lit (.func (.func 116) #[] #[])) T6 n6) fun x154_19 T8 n8 =>
         g67_k5 ro y0 y3 y4 y5 x154_19 T8 n8
        )
        (
         g67_k5 ro y0 y3 y4 y5 (.lit (.bool false)) T6 n6
        )
       )
       (
        faK 670065 y3 0 fun x157_20 =>
        ldK 670066 T6 ro x157_20 fun x158_21 =>
        callK (g118 ro y0 x158_21 y5 T6 n6) fun x160_22 T9 n9 =>
        .ok (.val x160_22) T9 n9
       )
      )
     )
    )
   )
  )
 )
noncomputable def g67_k3 (ro : List HT) (y0 y3 y4 y5 y9 y41 : AV) (T4 : HT) (n4 : Nat) : R :=
 condK 670019 y41
 (
  callK (g107 ro y0 y5 (.lit (.int .i64 (.ofNat 1))) (.lit (.int .i64 (.ofNat 1))) T4 n4) fun x49_9 T5 n5 =>
  .ok (.val x49_9) T5 n5
 )
 (
  eqK Tryz.prog 3 (.tmp 9) (.const (.int .i64 (.ofNat 20))) 670024 y9 (.lit (.int .i64 (.ofNat 20))) fun x51_10 =>
  condK 670026 x51_10
  (
   .bad 670027
  )
  (
   eqK Tryz.prog 3 (.tmp 9) (.const (.int .i64 (.ofNat 41))) 670070 y9 (.lit (.int .i64 (.ofNat 41))) fun x56_23 =>
   condK 670072 x56_23
   (
    g67_k4 ro y0 y3 y4 y5 y9 (.lit (.bool true)) T4 n4
   )
   (
    eqK Tryz.prog 3 (.tmp 9) (.const (.int .i64 (.ofNat 46))) 670073 y9 (.lit (.int .i64 (.ofNat 46))) fun x57_24 =>
    g67_k4 ro y0 y3 y4 y5 y9 x57_24 T4 n4
   )
  )
 )
noncomputable def g67_k2 (ro : List HT) (y0 y3 y4 y5 y9 y24 : AV) (T3 : HT) (n3 : Nat) : R :=
 condK 670013 y24
 (
  .bad 670014
 )
 (
  eqK Tryz.prog 3 (.tmp 9) (.const (.int .i64 (.ofNat 9))) 670015 y9 (.lit (.int .i64 (.ofNat 9))) fun x31_8 =>
  condK 670017 x31_8
  (
   .bad 670018
  )
  (
   eqK Tryz.prog 3 (.tmp 9) (.const (.int .i64 (.ofNat 11))) 670075 y9 (.lit (.int .i64 (.ofNat 11))) fun x42_25 =>
   condK 670077 x42_25
   (
    g67_k3 ro y0 y3 y4 y5 y9 (.lit (.bool true)) T3 n3
   )
   (
    eqK Tryz.prog 3 (.tmp 9) (.const (.int .i64 (.ofNat 12))) 670078 y9 (.lit (.int .i64 (.ofNat 12))) fun x43_26 =>
    condK 670080 x43_26
    (
     g67_k3 ro y0 y3 y4 y5 y9 (.lit (.bool true)) T3 n3
    )
    (
     eqK Tryz.prog 3 (.tmp 9) (.const (.int .i64 (.ofNat 16))) 670081 y9 (.lit (.int .i64 (.ofNat 16))) fun x44_27 =>
     condK 670083 x44_27
     (
      g67_k3 ro y0 y3 y4 y5 y9 (.lit (.bool true)) T3 n3
     )
     (
      eqK Tryz.prog 3 (.tmp 9) (.const (.int .i64 (.ofNat 17))) 670084 y9 (.lit (.int .i64 (.ofNat 17))) fun x45_28 =>
      condK 670086 x45_28
      (
       g67_k3 ro y0 y3 y4 y5 y9 (.lit (.bool true)) T3 n3
      )
      (
       eqK Tryz.prog 3 (.tmp 9) (.const (.int .i64 (.ofNat 35))) 670087 y9 (.lit (.int .i64 (.ofNat 35))) fun x46_29 =>
       g67_k3 ro y0 y3 y4 y5 y9 x46_29 T3 n3
      )
     )
    )
   )
  )
 )
noncomputable def g67_k1 (ro : List HT) (y0 y3 y4 y5 y9 y10 : AV) (T2 : HT) (n2 : Nat) : R :=
 condK 670008 y10
 (
  lenSK 670010 y5 fun x22_6 =>
  eqK Tryz.prog 3 (.tmp 22) (.const (.int .i64 (.ofNat 0))) 670011 x22_6 (.lit (.int .i64 (.ofNat 0))) fun x23_7 =>
  .ok (.val x23_7) T2 n2
 )
 (
  eqK Tryz.prog 3 (.tmp 9) (.const (.int .i64 (.ofNat 7))) 670089 y9 (.lit (.int .i64 (.ofNat 7))) fun x25_30 =>
  condK 670091 x25_30
  (
   g67_k2 ro y0 y3 y4 y5 y9 (.lit (.bool true)) T2 n2
  )
  (
   eqK Tryz.prog 3 (.tmp 9) (.const (.int .i64 (.ofNat 8))) 670092 y9 (.lit (.int .i64 (.ofNat 8))) fun x26_31 =>
   g67_k2 ro y0 y3 y4 y5 y9 x26_31 T2 n2
  )
 )
noncomputable def g67 (ro : List HT) (a0 a1 : AV) (T : HT) (nx : Nat) : R :=
 boxK 670001 T nx a1 32 fun x3_1 T1 n1 =>
 faK 670003 x3_1 4 fun x6_2 =>
 ldK 670004 T1 ro x6_2 fun x7_3 =>
 faK 670006 x3_1 0 fun x8_4 =>
 ldK 670007 T1 ro x8_4 fun x9_5 =>
 eqK Tryz.prog 3 (.tmp 9) (.const (.int .i64 (.ofNat 1))) 670094 x9_5 (.lit (.int .i64 (.ofNat 1))) fun x11_32 =>
 condK 670096 x11_32
 (
  g67_k1 ro a0 x3_1 (.lit (.bool false)) x7_3 x9_5 (.lit (.bool true)) T1 n1
 )
 (
  eqK Tryz.prog 3 (.tmp 9) (.const (.int .i64 (.ofNat 2))) 670097 x9_5 (.lit (.int .i64 (.ofNat 2))) fun x12_33 =>
  condK 670099 x12_33
  (
   g67_k1 ro a0 x3_1 (.lit (.bool false)) x7_3 x9_5 (.lit (.bool true)) T1 n1
  )
  (
   eqK Tryz.prog 3 (.tmp 9) (.const (.int .i64 (.ofNat 3))) 670100 x9_5 (.lit (.int .i64 (.ofNat 3))) fun x13_34 =>
   condK 670102 x13_34
   (
    g67_k1 ro a0 x3_1 (.lit (.bool false)) x7_3 x9_5 (.lit (.bool true)) T1 n1
   )
   (
    eqK Tryz.prog 3 (.tmp 9) (.const (.int .i64 (.ofNat 4))) 670103 x9_5 (.lit (.int .i64 (.ofNat 4))) fun x14_35 =>
    condK 670105 x14_35
    (
     g67_k1 ro a0 x3_1 (.lit (.bool false)) x7_3 x9_5 (.lit (.bool true)) T1 n1
    )
    (
     eqK Tryz.prog 3 (.tmp 9) (.const (.int .i64 (.ofNat 5))) 670106 x9_5 (.lit (.int .i64 (.ofNat 5))) fun x15_36 =>
     condK 670108 x15_36
     (
      g67_k1 ro a0 x3_1 (.lit (.bool false)) x7_3 x9_5 (.lit (.bool true)) T1 n1
     )
     (
      eqK Tryz.prog 3 (.tmp 9) (.const (.int .i64 (.ofNat 6))) 670109 x9_5 (.lit (.int .i64 (.ofNat 6))) fun x16_37 =>
      condK 670111 x16_37
      (
       g67_k1 ro a0 x3_1 (.lit (.bool false)) x7_3 x9_5 (.lit (.bool true)) T1 n1
      )
      (
       eqK Tryz.prog 3 (.tmp 9) (.const (.int .i64 (.ofNat 15))) 670112 x9_5 (.lit (.int .i64 (.ofNat 15))) fun x17_38 =>
       condK 670114 x17_38
       (
        g67_k1 ro a0 x3_1 (.lit (.bool false)) x7_3 x9_5 (.lit (.bool true)) T1 n1
       )
       (
        eqK Tryz.prog 3 (.tmp 9) (.const (.int .i64 (.ofNat 38))) 670115 x9_5 (.lit (.int .i64 (.ofNat 38))) fun x18_39 =>
        condK 670117 x18_39
        (
         g67_k1 ro a0 x3_1 (.lit (.bool false)) x7_3 x9_5 (.lit (.bool true)) T1 n1
        )
        (
         eqK Tryz.prog 3 (.tmp 9) (.const (.int .i64 (.ofNat 39))) 670118 x9_5 (.lit (.int .i64 (.ofNat 39))) fun x19_40 =>
         condK 670120 x19_40
         (
          g67_k1 ro a0 x3_1 (.lit (.bool false)) x7_3 x9_5 (.lit (.bool true)) T1 n1
         )
         (
          eqK Tryz.prog 3 (.tmp 9) (.const (.int .i64 (.ofNat 40))) 670121 x9_5 (.lit (.int .i64 (.ofNat 40))) fun x20_41 =>
          g67_k1 ro a0 x3_1 (.lit (.bool false)) x7_3 x9_5 x20_41 T1 n1
         )
        )
       )
      )
     )
    )
   )
  )
 )
theorem g67_ok (ro : List HT) (a0 a1 : AV) (T : HT) (nx : Nat) : GOk Tryz.prog envE 67 [a0, a1] ro T nx (g67 ro a0 a1 T nx) := by
 refine GOk.of_body Tryz.func67 rfl Tryz.ntmps67 (by kernel_rfl) rfl fun r T' n' h1 w0 base ρ0 its hS hP => ?_
 have X : CtxW envE ρ0 ro r T' n' := trivial
 unfold g67 at h1
 refine sr ?_
 refine LV.box hS h1 rfl rfl rfl rfl rfl fun x3_1 T1 n1 h2 ρ its hS hdr => ?_
 refine as_ ?_
 refine dn ?_
 refine sr ?_
 refine vy (V.fa h2 rfl Spf.fo32_4) fun x6_2 h3 => ?_
 refine vy (V.ld hS h3 rfl Spf.one30) fun x7_3 h4 => ?_
 refine as_ ?_
 refine dn ?_
 refine CV.seq ?_
 refine sr ?_
 refine vy (V.fa h4 rfl Spf.fo32_0) fun x8_4 h5 => ?_
 refine vy (V.ld hS h5 rfl Spf.one3) fun x9_5 h6 => ?_
 refine dn ?_
 refine CV.block ?_
 refine cs6 X 0 3 4 5 9 10 [] (g67_k1 ro) ?_ ?_
 ·
  refine sr ?_
  refine vy (V.eq h6 rfl rfl) fun x11_32 h57 => ?_
  refine as_ ?_
  refine dn ?_
  refine CV.cond h57 rfl (fun e h58 => ?_) (fun e h58 => ?_)
  ·
   clear h1 h2 h3 h4 h5 h6 h57
   subst e
   refine CV.skip ?_
   exact pa6 hS h58 ⟨rfl, rfl, rfl, rfl, rfl, rfl, trivial⟩
  ·
   clear h1 h2 h3 h4 h5 h6 h57
   subst e
   refine sr ?_
   refine vy (V.eq h58 rfl rfl) fun x12_33 h59 => ?_
   refine as_ ?_
   refine dn ?_
   refine CV.cond h59 rfl (fun e h60 => ?_) (fun e h60 => ?_)
   ·
    clear h58 h59
    subst e
    refine CV.skip ?_
    exact pa6 hS h60 ⟨rfl, rfl, rfl, rfl, rfl, rfl, trivial⟩
   ·
    clear h58 h59
    subst e
    refine sr ?_
    refine vy (V.eq h60 rfl rfl) fun x13_34 h61 => ?_
    refine as_ ?_
    refine dn ?_
    refine CV.cond h61 rfl (fun e h62 => ?_) (fun e h62 => ?_)
    ·
     clear h60 h61
     subst e
     refine CV.skip ?_
     exact pa6 hS h62 ⟨rfl, rfl, rfl, rfl, rfl, rfl, trivial⟩
    ·
     clear h60 h61
     subst e
     refine sr ?_
     refine vy (V.eq h62 rfl rfl) fun x14_35 h63 => ?_
     refine as_ ?_
     refine dn ?_
     refine CV.cond h63 rfl (fun e h64 => ?_) (fun e h64 => ?_)
     ·
      clear h62 h63
      subst e
      refine CV.skip ?_
      exact pa6 hS h64 ⟨rfl, rfl, rfl, rfl, rfl, rfl, trivial⟩
     ·
      clear h62 h63
      subst e
      refine sr ?_
      refine vy (V.eq h64 rfl rfl) fun x15_36 h65 => ?_
      refine as_ ?_
      refine dn ?_
      refine CV.cond h65 rfl (fun e h66 => ?_) (fun e h66 => ?_)
      ·
       clear h64 h65
       subst e
       refine CV.skip ?_
       exact pa6 hS h66 ⟨rfl, rfl, rfl, rfl, rfl, rfl, trivial⟩
      ·
       clear h64 h65
       subst e
       refine sr ?_
       refine vy (V.eq h66 rfl rfl) fun x16_37 h67 => ?_
       refine as_ ?_
       refine dn ?_
       refine CV.cond h67 rfl (fun e h68 => ?_) (fun e h68 => ?_)
       ·
        clear h66 h67
        subst e
        refine CV.skip ?_
        exact pa6 hS h68 ⟨rfl, rfl, rfl, rfl, rfl, rfl, trivial⟩
       ·
        clear h66 h67
        subst e
        refine sr ?_
        refine vy (V.eq h68 rfl rfl) fun x17_38 h69 => ?_
        refine as_ ?_
        refine dn ?_
        refine CV.cond h69 rfl (fun e h70 => ?_) (fun e h70 => ?_)
        ·
         clear h68 h69
         subst e
         refine CV.skip ?_
         exact pa6 hS h70 ⟨rfl, rfl, rfl, rfl, rfl, rfl, trivial⟩
        ·
         clear h68 h69
         subst e
         refine sr ?_
         refine vy (V.eq h70 rfl rfl) fun x18_39 h71 => ?_
         refine as_ ?_
         refine dn ?_
         refine CV.cond h71 rfl (fun e h72 => ?_) (fun e h72 => ?_)
         ·
          clear h70 h71
          subst e
          refine CV.skip ?_
          exact pa6 hS h72 ⟨rfl, rfl, rfl, rfl, rfl, rfl, trivial⟩
         ·
          clear h70 h71
          subst e
          refine sr ?_
          refine vy (V.eq h72 rfl rfl) fun x19_40 h73 => ?_
          refine as_ ?_
          refine dn ?_
          refine CV.cond h73 rfl (fun e h74 => ?_) (fun e h74 => ?_)
          ·
           clear h72 h73
           subst e
           refine CV.skip ?_
           exact pa6 hS h74 ⟨rfl, rfl, rfl, rfl, rfl, rfl, trivial⟩
          ·
           clear h72 h73
           subst e
           refine CV.region ?_
           refine vy (V.eq h74 rfl rfl) fun x20_41 h75 => ?_
           refine as_ ?_
           refine LV.done ?_
           exact pa6 hS h75 ⟨rfl, rfl, rfl, rfl, rfl, rfl, trivial⟩
 ·
  intro y0 y3 y4 y5 y9 y10 T2 n2 ρ its hS h7
  unfold g67_k1 at h7
  clear h1 h2 h3 h4 h5 h6
  refine CV.cond h7 rfl (fun e h8 => ?_) (fun e h8 => ?_)
  ·
   clear h7
   subst e
   refine sr ?_
   refine mv ?_
   refine vy (V.lenS h8 rfl Spf.ls30) fun x22_6 h9 => ?_
   refine vy (V.eq h9 rfl rfl) fun x23_7 h10 => ?_
   refine as_ ?_
   refine dn ?_
   refine CV.ret ?_
   refine PV.blockR ?_
   refine PV.thenR ?_
   cases h10
   exact PV.ret (by simp) Tryz.results67 hS (RS.tmp rfl RS.nil) rfl
  ·
   clear h7
   subst e
   refine cs6 X 0 3 4 5 9 24 [] (g67_k2 ro) ?_ ?_
   ·
    refine sr ?_
    refine vy (V.eq h8 rfl rfl) fun x25_30 h54 => ?_
    refine as_ ?_
    refine dn ?_
    refine CV.cond h54 rfl (fun e h55 => ?_) (fun e h55 => ?_)
    ·
     clear h8 h54
     subst e
     refine CV.skip ?_
     exact pa6 hS h55 ⟨rfl, rfl, rfl, rfl, rfl, rfl, trivial⟩
    ·
     clear h8 h54
     subst e
     refine CV.region ?_
     refine vy (V.eq h55 rfl rfl) fun x26_31 h56 => ?_
     refine as_ ?_
     refine LV.done ?_
     exact pa6 hS h56 ⟨rfl, rfl, rfl, rfl, rfl, rfl, trivial⟩
   ·
    intro y0 y3 y4 y5 y9 y24 T3 n3 ρ its hS h11
    unfold g67_k2 at h11
    clear h8
    refine CV.cond h11 rfl (fun e h12 => ?_) (fun e h12 => ?_)
    ·
     clear h11
     subst e
     cases h12
    ·
     clear h11
     subst e
     refine sr ?_
     refine vy (V.eq h12 rfl rfl) fun x31_8 h13 => ?_
     refine as_ ?_
     refine dn ?_
     refine CV.cond h13 rfl (fun e h14 => ?_) (fun e h14 => ?_)
     ·
      clear h12 h13
      subst e
      cases h14
     ·
      clear h12 h13
      subst e
      refine cs6 X 0 3 4 5 9 41 [] (g67_k3 ro) ?_ ?_
      ·
       refine sr ?_
       refine vy (V.eq h14 rfl rfl) fun x42_25 h45 => ?_
       refine as_ ?_
       refine dn ?_
       refine CV.cond h45 rfl (fun e h46 => ?_) (fun e h46 => ?_)
       ·
        clear h14 h45
        subst e
        refine CV.skip ?_
        exact pa6 hS h46 ⟨rfl, rfl, rfl, rfl, rfl, rfl, trivial⟩
       ·
        clear h14 h45
        subst e
        refine sr ?_
        refine vy (V.eq h46 rfl rfl) fun x43_26 h47 => ?_
        refine as_ ?_
        refine dn ?_
        refine CV.cond h47 rfl (fun e h48 => ?_) (fun e h48 => ?_)
        ·
         clear h46 h47
         subst e
         refine CV.skip ?_
         exact pa6 hS h48 ⟨rfl, rfl, rfl, rfl, rfl, rfl, trivial⟩
        ·
         clear h46 h47
         subst e
         refine sr ?_
         refine vy (V.eq h48 rfl rfl) fun x44_27 h49 => ?_
         refine as_ ?_
         refine dn ?_
         refine CV.cond h49 rfl (fun e h50 => ?_) (fun e h50 => ?_)
         ·
          clear h48 h49
          subst e
          refine CV.skip ?_
          exact pa6 hS h50 ⟨rfl, rfl, rfl, rfl, rfl, rfl, trivial⟩
         ·
          clear h48 h49
          subst e
          refine sr ?_
          refine vy (V.eq h50 rfl rfl) fun x45_28 h51 => ?_
          refine as_ ?_
          refine dn ?_
          refine CV.cond h51 rfl (fun e h52 => ?_) (fun e h52 => ?_)
          ·
           clear h50 h51
           subst e
           refine CV.skip ?_
           exact pa6 hS h52 ⟨rfl, rfl, rfl, rfl, rfl, rfl, trivial⟩
          ·
           clear h50 h51
           subst e
           refine CV.region ?_
           refine vy (V.eq h52 rfl rfl) fun x46_29 h53 => ?_
           refine as_ ?_
           refine LV.done ?_
           exact pa6 hS h53 ⟨rfl, rfl, rfl, rfl, rfl, rfl, trivial⟩
      ·
       intro y0 y3 y4 y5 y9 y41 T4 n4 ρ its hS h15
       unfold g67_k3 at h15
       clear h14
       refine CV.cond h15 rfl (fun e h16 => ?_) (fun e h16 => ?_)
       ·
        clear h15
        subst e
        refine sr ?_
        refine mv ?_
        refine mv ?_
        refine LV.call hS h16 (g107_ok _ _ _ _ _ _ _ ) hP rfl rfl rfl rfl fun x49_9 T5 n5 h17 ρ its hS => ?_
        refine as_ ?_
        refine dn ?_
        refine CV.ret ?_
        refine PV.blockR ?_
        refine PV.thenR ?_
        cases h17
        exact PV.ret (by simp) Tryz.results67 hS (RS.tmp rfl RS.nil) rfl
       ·
        clear h15
        subst e
        refine sr ?_
        refine vy (V.eq h16 rfl rfl) fun x51_10 h18 => ?_
        refine as_ ?_
        refine dn ?_
        refine CV.cond h18 rfl (fun e h19 => ?_) (fun e h19 => ?_)
        ·
         clear h16 h18
         subst e
         cases h19
        ·
         clear h16 h18
         subst e
         refine cs6 X 0 3 4 5 9 55 [] (g67_k4 ro) ?_ ?_
         ·
          refine sr ?_
          refine vy (V.eq h19 rfl rfl) fun x56_23 h42 => ?_
          refine as_ ?_
          refine dn ?_
          refine CV.cond h42 rfl (fun e h43 => ?_) (fun e h43 => ?_)
          ·
           clear h19 h42
           subst e
           refine CV.skip ?_
           exact pa6 hS h43 ⟨rfl, rfl, rfl, rfl, rfl, rfl, trivial⟩
          ·
           clear h19 h42
           subst e
           refine CV.region ?_
           refine vy (V.eq h43 rfl rfl) fun x57_24 h44 => ?_
           refine as_ ?_
           refine LV.done ?_
           exact pa6 hS h44 ⟨rfl, rfl, rfl, rfl, rfl, rfl, trivial⟩
         ·
          intro y0 y3 y4 y5 y9 y55 T6 n6 ρ its hS h20
          unfold g67_k4 at h20
          clear h19
          refine CV.cond h20 rfl (fun e h21 => ?_) (fun e h21 => ?_)
          ·
           clear h20
           subst e
           cases h21
          ·
           clear h20
           subst e
           refine sr ?_
           refine vy (V.eq h21 rfl rfl) fun x62_11 h22 => ?_
           refine as_ ?_
           refine dn ?_
           refine CV.cond h22 rfl (fun e h23 => ?_) (fun e h23 => ?_)
           ·
            clear h21 h22
            subst e
            cases h23
           ·
            clear h21 h22
            subst e
            refine sr ?_
            refine vy (V.eq h23 rfl rfl) fun x72_12 h24 => ?_
            refine as_ ?_
            refine dn ?_
            refine CV.cond h24 rfl (fun e h25 => ?_) (fun e h25 => ?_)
            ·
             clear h23 h24
             subst e
             cases h25
            ·
             clear h23 h24
             subst e
             refine sr ?_
             refine vy (V.eq h25 rfl rfl) fun x89_13 h26 => ?_
             refine as_ ?_
             refine dn ?_
             refine CV.cond h26 rfl (fun e h27 => ?_) (fun e h27 => ?_)
             ·
              clear h25 h26
              subst e
              cases h27
             ·
              clear h25 h26
              subst e
              refine sr ?_
              refine vy (V.eq h27 rfl rfl) fun x111_14 h28 => ?_
              refine as_ ?_
              refine dn ?_
              refine CV.cond h28 rfl (fun e h29 => ?_) (fun e h29 => ?_)
              ·
               clear h27 h28
               subst e
               cases h29
              ·
               clear h27 h28
               subst e
               refine sr ?_
               refine vy (V.eq h29 rfl rfl) fun x123_15 h30 => ?_
               refine as_ ?_
               refine dn ?_
               refine CV.cond h30 rfl (fun e h31 => ?_) (fun e h31 => ?_)
               ·
                clear h29 h30
                subst e
                cases h31
               ·
                clear h29 h30
                subst e
                refine sr ?_
                refine vy (V.eq h31 rfl rfl) fun x147_16 h32 => ?_
                refine as_ ?_
                refine dn ?_
                refine CV.cond h32 rfl (fun e h33 => ?_) (fun e h33 => ?_)
                ·
                 clear h31 h32
                 subst e
                 refine sr ?_
                 refine mv ?_
                 refine vy (V.lenS h33 rfl Spf.ls30) fun x149_17 h34 => ?_
                 refine vy (V.gt h34 rfl rfl) fun x150_18 h35 => ?_
                 refine mv ?_
                 refine ls5 X 0 3 4 5 155 [] (g67_k5 ro) 4 ?_ ?_
                 ·
                  rcases condK_inv h35 with ⟨e, h37⟩ | ⟨e, h37⟩
                  ·
                   clear h33 h34 h35
                   subst e
                   refine mv ?_
                   refine mv ?_
                   refine LV.call hS h37 (g109_ok _ _ _ _ _ _ ) hP rfl rfl rfl rfl fun x154_19 T8 n8 h38 ρ its hS => ?_
                   refine pu ?_
                   exact la5 hS h38 ⟨rfl, rfl, rfl, rfl, rfl, trivial⟩
                  ·
                   clear h33 h34 h35
                   subst e
                   refine sk ?_
                   refine sk ?_
                   refine sk ?_
                   refine pu ?_
                   exact la5 hS h37 ⟨rfl, rfl, rfl, rfl, rfl, trivial⟩
                 ·
                  intro y0 y3 y4 y5 y155 T7 n7 ρ its hS h36
                  unfold g67_k5 at h36
                  clear h33 h34 h35
                  refine as_ ?_
                  refine dn ?_
                  refine CV.ret ?_
                  refine PV.blockR ?_
                  refine PV.thenR ?_
                  cases h36
                  exact PV.ret (by simp) Tryz.results67 hS (RS.tmp rfl RS.nil) rfl
                ·
                 clear h31 h32
                 subst e
                 refine CV.skip ?_
                 refine PV.blockN ?_
                 refine PV.thenN ?_
                 refine sr ?_
                 refine mv ?_
                 refine vy (V.fa h33 rfl Spf.fo32_0) fun x157_20 h39 => ?_
                 refine vy (V.ld hS h39 rfl Spf.one3) fun x158_21 h40 => ?_
                 refine mv ?_
                 refine LV.call hS h40 (g118_ok _ _ _ _ _ _ ) hP rfl rfl rfl rfl fun x160_22 T9 n9 h41 ρ its hS => ?_
                 refine as_ ?_
                 refine dn ?_
                 refine CV.ret ?_
                 cases h41
                 exact PV.ret (by simp) Tryz.results67 hS (RS.tmp rfl RS.nil) rfl
noncomputable def g37_k2 (ro : List HT) (y0 y3 y4 y20 : AV) (T4 : HT) (n4 : Nat) : R :=
 .ok (.val y20) T4 n4
noncomputable def g37_k4 (ro : List HT) (y4 y44 : AV) (T7 : HT) (n7 : Nat) : R :=
 .ok (.val y44) T7 n7
noncomputable def g37_k3 (ro : List HT) (y0 y3 y4 y31 : AV) (T6 : HT) (n6 : Nat) : R :=
 condK 370021 y31
 (
  .bad 370022
 )
 (
  faK 370023 y3 3 fun x37_10 =>
  ldK 370024 T6 ro x37_10 fun x38_11 =>
  eqSK Tryz.prog 9 (.tmp 38) (.const (.string ⟨⟨[]⟩⟩)) 370025 x38_11 (.lit (.string ⟨⟨[]⟩⟩)) fun x39_12 =>
  condK 370028 x39_12
  (
   ldAK 370030 T6 ro y3 5 fun x42_13 =>
   callK (g67 ro y0 x42_13 T6 n6) fun x43_14 T8 n8 =>
   g37_k4 ro y4 x43_14 T8 n8
  )
  (
   g37_k4 ro y4 (.lit (.bool false)) T6 n6
  )
 )
noncomputable def g37_k1 (ro : List HT) (y0 y3 y4 y6 y7 : AV) (T2 : HT) (n2 : Nat) : R :=
 condK 370005 y7
 (
  faK 370006 y3 3 fun x13_4 =>
  ldK 370007 T2 ro x13_4 fun x14_5 =>
  callK (g66 ro x14_5 T2 n2) fun x15_6 T3 n3 =>
  condK 370011 x15_6
  (
   ldAK 370013 T3 ro y3 5 fun x18_7 =>
   callK (g67 ro y0 x18_7 T3 n3) fun x19_8 T5 n5 =>
   g37_k2 ro y0 y3 y4 x19_8 T5 n5
  )
  (
   g37_k2 ro y0 y3 y4 (.lit (.bool false)) T3 n3
  )
 )
 (
  eqK Tryz.prog 3 (.tmp 6) (.const (.int .i64 (.ofNat 4))) 370017 y6 (.lit (.int .i64 (.ofNat 4))) fun x22_9 =>
  condK 370019 x22_9
  (
   .bad 370020
  )
  (
   eqK Tryz.prog 3 (.tmp 6) (.const (.int .i64 (.ofNat 5))) 370034 y6 (.lit (.int .i64 (.ofNat 5))) fun x32_15 =>
   condK 370036 x32_15
   (
    g37_k3 ro y0 y3 y4 (.lit (.bool true)) T2 n2
   )
   (
    eqK Tryz.prog 3 (.tmp 6) (.const (.int .i64 (.ofNat 42))) 370037 y6 (.lit (.int .i64 (.ofNat 42))) fun x33_16 =>
    g37_k3 ro y0 y3 y4 x33_16 T2 n2
   )
  )
 )
noncomputable def g37 (ro : List HT) (a0 a1 : AV) (T : HT) (nx : Nat) : R :=
 boxK 370001 T nx a1 32 fun x3_1 T1 n1 =>
 faK 370003 x3_1 0 fun x5_2 =>
 ldK 370004 T1 ro x5_2 fun x6_3 =>
 eqK Tryz.prog 3 (.tmp 6) (.const (.int .i64 (.ofNat 6))) 370039 x6_3 (.lit (.int .i64 (.ofNat 6))) fun x8_17 =>
 condK 370041 x8_17
 (
  g37_k1 ro a0 x3_1 (.lit (.bool false)) x6_3 (.lit (.bool true)) T1 n1
 )
 (
  eqK Tryz.prog 3 (.tmp 6) (.const (.int .i64 (.ofNat 11))) 370042 x6_3 (.lit (.int .i64 (.ofNat 11))) fun x9_18 =>
  condK 370044 x9_18
  (
   g37_k1 ro a0 x3_1 (.lit (.bool false)) x6_3 (.lit (.bool true)) T1 n1
  )
  (
   eqK Tryz.prog 3 (.tmp 6) (.const (.int .i64 (.ofNat 12))) 370045 x6_3 (.lit (.int .i64 (.ofNat 12))) fun x10_19 =>
   condK 370047 x10_19
   (
    g37_k1 ro a0 x3_1 (.lit (.bool false)) x6_3 (.lit (.bool true)) T1 n1
   )
   (
    eqK Tryz.prog 3 (.tmp 6) (.const (.int .i64 (.ofNat 45))) 370048 x6_3 (.lit (.int .i64 (.ofNat 45))) fun x11_20 =>
    condK 370050 x11_20
    (
     g37_k1 ro a0 x3_1 (.lit (.bool false)) x6_3 (.lit (.bool true)) T1 n1
    )
    (
     eqK Tryz.prog 3 (.tmp 6) (.const (.int .i64 (.ofNat 46))) 370051 x6_3 (.lit (.int .i64 (.ofNat 46))) fun x12_21 =>
     g37_k1 ro a0 x3_1 (.lit (.bool false)) x6_3 x12_21 T1 n1
    )
   )
  )
 )
theorem g37_ok (ro : List HT) (a0 a1 : AV) (T : HT) (nx : Nat) : GOk Tryz.prog envE 37 [a0, a1] ro T nx (g37 ro a0 a1 T nx) := by
 refine GOk.of_body Tryz.func37 rfl Tryz.ntmps37 (by kernel_rfl) rfl fun r T' n' h1 w0 base ρ0 its hS hP => ?_
 have X : CtxW envE ρ0 ro r T' n' := trivial
 unfold g37 at h1
 refine sr ?_
 refine LV.box hS h1 rfl rfl rfl rfl rfl fun x3_1 T1 n1 h2 ρ its hS hdr => ?_
 refine as_ ?_
 refine dn ?_
 refine CV.seq ?_
 refine sr ?_
 refine vy (V.fa h2 rfl Spf.fo32_0) fun x5_2 h3 => ?_
 refine vy (V.ld hS h3 rfl Spf.one3) fun x6_3 h4 => ?_
 refine dn ?_
 refine CV.block ?_
 refine cs5 X 0 3 4 6 7 [] (g37_k1 ro) ?_ ?_
 ·
  refine sr ?_
  refine vy (V.eq h4 rfl rfl) fun x8_17 h28 => ?_
  refine as_ ?_
  refine dn ?_
  refine CV.cond h28 rfl (fun e h29 => ?_) (fun e h29 => ?_)
  ·
   clear h1 h2 h3 h4 h28
   subst e
   refine CV.skip ?_
   exact pa5 hS h29 ⟨rfl, rfl, rfl, rfl, rfl, trivial⟩
  ·
   clear h1 h2 h3 h4 h28
   subst e
   refine sr ?_
   refine vy (V.eq h29 rfl rfl) fun x9_18 h30 => ?_
   refine as_ ?_
   refine dn ?_
   refine CV.cond h30 rfl (fun e h31 => ?_) (fun e h31 => ?_)
   ·
    clear h29 h30
    subst e
    refine CV.skip ?_
    exact pa5 hS h31 ⟨rfl, rfl, rfl, rfl, rfl, trivial⟩
   ·
    clear h29 h30
    subst e
    refine sr ?_
    refine vy (V.eq h31 rfl rfl) fun x10_19 h32 => ?_
    refine as_ ?_
    refine dn ?_
    refine CV.cond h32 rfl (fun e h33 => ?_) (fun e h33 => ?_)
    ·
     clear h31 h32
     subst e
     refine CV.skip ?_
     exact pa5 hS h33 ⟨rfl, rfl, rfl, rfl, rfl, trivial⟩
    ·
     clear h31 h32
     subst e
     refine sr ?_
     refine vy (V.eq h33 rfl rfl) fun x11_20 h34 => ?_
     refine as_ ?_
     refine dn ?_
     refine CV.cond h34 rfl (fun e h35 => ?_) (fun e h35 => ?_)
     ·
      clear h33 h34
      subst e
      refine CV.skip ?_
      exact pa5 hS h35 ⟨rfl, rfl, rfl, rfl, rfl, trivial⟩
     ·
      clear h33 h34
      subst e
      refine CV.region ?_
      refine vy (V.eq h35 rfl rfl) fun x12_21 h36 => ?_
      refine as_ ?_
      refine LV.done ?_
      exact pa5 hS h36 ⟨rfl, rfl, rfl, rfl, rfl, trivial⟩
 ·
  intro y0 y3 y4 y6 y7 T2 n2 ρ its hS h5
  unfold g37_k1 at h5
  clear h1 h2 h3 h4
  refine CV.cond h5 rfl (fun e h6 => ?_) (fun e h6 => ?_)
  ·
   clear h5
   subst e
   refine sr ?_
   refine vy (V.fa h6 rfl Spf.fo32_3) fun x13_4 h7 => ?_
   refine vy (V.ld hS h7 rfl Spf.one9) fun x14_5 h8 => ?_
   refine LV.call hS h8 (g66_ok _ _ _ _ ) hP rfl rfl rfl rfl fun x15_6 T3 n3 h9 ρ its hS => ?_
   refine mv ?_
   refine ls4 X 0 3 4 20 [] (g37_k2 ro) 4 ?_ ?_
   ·
    rcases condK_inv h9 with ⟨e, h11⟩ | ⟨e, h11⟩
    ·
     clear h6 h7 h8 h9
     subst e
     refine mv ?_
     refine vy (V.ldA hS h11 rfl Spf.agg32) fun x18_7 h12 => ?_
     refine LV.call hS h12 (g67_ok _ _ _ _ _ ) hP rfl rfl rfl rfl fun x19_8 T5 n5 h13 ρ its hS => ?_
     refine pu ?_
     exact la4 hS h13 ⟨rfl, rfl, rfl, rfl, trivial⟩
    ·
     clear h6 h7 h8 h9
     subst e
     refine sk ?_
     refine sk ?_
     refine sk ?_
     refine pu ?_
     exact la4 hS h11 ⟨rfl, rfl, rfl, rfl, trivial⟩
   ·
    intro y0 y3 y4 y20 T4 n4 ρ its hS h10
    unfold g37_k2 at h10
    clear h6 h7 h8 h9
    refine as_ ?_
    refine dn ?_
    refine CV.ret ?_
    refine PV.blockR ?_
    refine PV.thenR ?_
    cases h10
    exact PV.ret (by simp) Tryz.results37 hS (RS.tmp rfl RS.nil) rfl
  ·
   clear h5
   subst e
   refine sr ?_
   refine vy (V.eq h6 rfl rfl) fun x22_9 h14 => ?_
   refine as_ ?_
   refine dn ?_
   refine CV.cond h14 rfl (fun e h15 => ?_) (fun e h15 => ?_)
   ·
    clear h6 h14
    subst e
    cases h15
   ·
    clear h6 h14
    subst e
    refine cs4 X 0 3 4 31 [] (g37_k3 ro) ?_ ?_
    ·
     refine sr ?_
     refine vy (V.eq h15 rfl rfl) fun x32_15 h25 => ?_
     refine as_ ?_
     refine dn ?_
     refine CV.cond h25 rfl (fun e h26 => ?_) (fun e h26 => ?_)
     ·
      clear h15 h25
      subst e
      refine CV.skip ?_
      exact pa4 hS h26 ⟨rfl, rfl, rfl, rfl, trivial⟩
     ·
      clear h15 h25
      subst e
      refine CV.region ?_
      refine vy (V.eq h26 rfl rfl) fun x33_16 h27 => ?_
      refine as_ ?_
      refine LV.done ?_
      exact pa4 hS h27 ⟨rfl, rfl, rfl, rfl, trivial⟩
    ·
     intro y0 y3 y4 y31 T6 n6 ρ its hS h16
     unfold g37_k3 at h16
     clear h15
     refine CV.cond h16 rfl (fun e h17 => ?_) (fun e h17 => ?_)
     ·
      clear h16
      subst e
      cases h17
     ·
      clear h16
      subst e
      refine CV.skip ?_
      refine PV.blockN ?_
      refine PV.thenN ?_
      refine sr ?_
      refine vy (V.fa h17 rfl Spf.fo32_3) fun x37_10 h18 => ?_
      refine vy (V.ld hS h18 rfl Spf.one9) fun x38_11 h19 => ?_
      refine vy (V.eqS h19 rfl rfl) fun x39_12 h20 => ?_
      refine mv ?_
      refine ls2 X 4 44 [] (g37_k4 ro) 4 ?_ ?_
      ·
       rcases condK_inv h20 with ⟨e, h22⟩ | ⟨e, h22⟩
       ·
        clear h17 h18 h19 h20
        subst e
        refine mv ?_
        refine vy (V.ldA hS h22 rfl Spf.agg32) fun x42_13 h23 => ?_
        refine LV.call hS h23 (g67_ok _ _ _ _ _ ) hP rfl rfl rfl rfl fun x43_14 T8 n8 h24 ρ its hS => ?_
        refine pu ?_
        exact la2 hS h24 ⟨rfl, rfl, trivial⟩
       ·
        clear h17 h18 h19 h20
        subst e
        refine sk ?_
        refine sk ?_
        refine sk ?_
        refine pu ?_
        exact la2 hS h22 ⟨rfl, rfl, trivial⟩
      ·
       intro y4 y44 T7 n7 ρ its hS h21
       unfold g37_k4 at h21
       clear h17 h18 h19 h20
       refine as_ ?_
       refine dn ?_
       refine CV.ret ?_
       cases h21
       exact PV.ret (by simp) Tryz.results37 hS (RS.tmp rfl RS.nil) rfl
noncomputable def g69_b1 (ro : List HT) (lp1 : AV → AV → AV → AV → AV → HT → Nat → R) (y0 y1 y4 y7 y8 : AV) (T1 : HT) (n1 : Nat) : R :=
 ltK Tryz.prog 3 (.tmp 8) (.tmp 7) 690006 y8 y7 fun x9_2 =>
 condK 690007 x9_2
 (
  iaK 690013 y0 y8 1 fun x14_3 =>
  ldK 690014 T1 ro x14_3 fun x15_4 =>
  bin0 Tryz.prog .eql 4 (.tmp 11) (.tmp 15) 690015 y1 x15_4 fun x16_5 =>
  condK 690016 x16_5
  (
   .ok (.val y8) T1 n1
  )
  (
   addK Tryz.prog 3 (.tmp 8) (.const (.int .i64 (.ofNat 1))) 690019 y8 (.lit (.int .i64 (.ofNat 1))) fun x18_6 =>
   lp1 y0 y1 y4 y7 x18_6 T1 n1
  )
 )
 (
  .ok (.val (.lit (.int .i64 (.negSucc 0)))) T1 n1
 )
noncomputable def g69 (ro : List HT) (a0 a1 : AV) (T : HT) (nx : Nat) : R :=
 lenSK 690003 a0 fun x7_1 =>
 lpf5 690005 (g69_b1 ro) 100000 a0 a1 (.lit (.int .i64 (.ofNat 0))) x7_1 (.lit (.int .i64 (.ofNat 0))) T nx
theorem g69_ok (ro : List HT) (a0 a1 : AV) (T : HT) (nx : Nat) : GOk Tryz.prog envE 69 [a0, a1] ro T nx (g69 ro a0 a1 T nx) := by
 refine GOk.of_body Tryz.func69 rfl Tryz.ntmps69 (by kernel_rfl) rfl fun r T' n' h1 w0 base ρ0 its hS hP => ?_
 have X : CtxW envE ρ0 ro r T' n' := trivial
 unfold g69 at h1
 refine sr ?_
 refine as_ ?_
 refine dn ?_
 refine CV.seq ?_
 refine sr ?_
 refine mv ?_
 refine vy (V.lenS h1 rfl Spf.ls67) fun x7_1 h2 => ?_
 refine mv ?_
 refine dn ?_
 refine CV.block ?_
 refine cl5 X 0 1 4 7 8 [] hS h2 ⟨rfl, rfl, rfl, rfl, rfl, trivial⟩ ?_
 intro f1 y0 y1 y4 y7 y8 T1 n1 ρ its hS h3
 unfold g69_b1 at h3
 clear h1 h2
 refine sr ?_
 refine vy (V.lt h3 rfl rfl) fun x9_2 h4 => ?_
 refine dn ?_
 refine CV.seq ?_
 refine CV.cond h4 rfl (fun e h5 => ?_) (fun e h5 => ?_)
 ·
  clear h3 h4
  subst e
  refine CV.skip ?_
  refine PV.thenN ?_
  refine CV.seq ?_
  refine CV.block ?_
  refine sr ?_
  refine mv ?_
  refine as_ ?_
  refine dn ?_
  refine sr ?_
  refine mv ?_
  refine mv ?_
  refine mv ?_
  refine vy (V.ia h5 rfl rfl Spf.el67) fun x14_3 h6 => ?_
  refine vy (V.ld hS h6 rfl Spf.one4) fun x15_4 h7 => ?_
  refine vy (V.bin0 h7 rfl rfl) fun x16_5 h8 => ?_
  refine dn ?_
  refine CV.cond h8 rfl (fun e h9 => ?_) (fun e h9 => ?_)
  ·
   clear h5 h6 h7 h8
   subst e
   refine sr ?_
   refine mv ?_
   refine as_ ?_
   refine dn ?_
   refine CV.ret ?_
   refine PV.blockR ?_
   refine PV.thenR ?_
   refine PV.thenR ?_
   refine PV.blockR ?_
   refine PV.thenR ?_
   cases h9
   exact PV.ret (by simp) Tryz.results69 hS (RS.tmp rfl RS.nil) rfl
  ·
   clear h5 h6 h7 h8
   subst e
   refine CV.skip ?_
   refine PV.blockN ?_
   refine PV.thenN ?_
   refine CV.region ?_
   refine vy (V.add h9 rfl rfl) fun x18_6 h10 => ?_
   refine mv ?_
   refine LV.done ?_
   exact pb5 hS h10 ⟨rfl, rfl, rfl, rfl, rfl, trivial⟩
 ·
  clear h3 h4
  subst e
  refine CV.exit ?_
  refine PV.thenE ?_
  refine PV.thenE ?_
  refine PV.blockE ?_
  refine PV.thenN ?_
  refine sr ?_
  refine as_ ?_
  refine dn ?_
  refine CV.ret ?_
  cases h5
  exact PV.ret (by simp) Tryz.results69 hS (RS.tmp rfl RS.nil) rfl
noncomputable def g38 (ro : List HT) (a0 a1 : AV) (T : HT) (nx : Nat) : R :=
 callK (g69 ro a0 a1 T nx) fun x7_1 T1 n1 =>
 geK Tryz.prog 3 (.tmp 7) (.const (.int .i64 (.ofNat 0))) 380005 x7_1 (.lit (.int .i64 (.ofNat 0))) fun x8_2 =>
 .ok (.val x8_2) T1 n1
theorem g38_ok (ro : List HT) (a0 a1 : AV) (T : HT) (nx : Nat) : GOk Tryz.prog envE 38 [a0, a1] ro T nx (g38 ro a0 a1 T nx) := by
 refine GOk.of_body Tryz.func38 rfl Tryz.ntmps38 (by kernel_rfl) rfl fun r T' n' h1 w0 base ρ0 its hS hP => ?_
 have X : CtxW envE ρ0 ro r T' n' := trivial
 unfold g38 at h1
 refine sr ?_
 refine as_ ?_
 refine dn ?_
 refine sr ?_
 refine mv ?_
 refine mv ?_
 refine LV.call hS h1 (g69_ok _ _ _ _ _ ) hP rfl rfl rfl rfl fun x7_1 T1 n1 h2 ρ its hS => ?_
 refine vy (V.ge h2 rfl rfl) fun x8_2 h3 => ?_
 refine as_ ?_
 refine dn ?_
 refine CV.ret ?_
 cases h3
 exact PV.ret (by simp) Tryz.results38 hS (RS.tmp rfl RS.nil) rfl
noncomputable def g39_k1 (ih : FuncId → List HT → List AV → HT → Nat → R) (ro : List HT) (y10 : AV) (T3 : HT) (n3 : Nat) : R :=
 .ok (.val (.lit (.bool true))) T3 n3
noncomputable def g39_k6 (ih : FuncId → List HT → List AV → HT → Nat → R) (ro : List HT) (lp4 : AV → AV → AV → AV → AV → AV → AV → AV → AV → AV → HT → Nat → R) (y0 y1 y2 y3 y4 y10 y11 y39 y40 y41 y56 y57 y58 y59 y65 : AV) (T8 : HT) (n8 : Nat) : R :=
 callK (ih 39 ro [y56, y57, y58, y59, y65] T8 n8) fun x66_15 T9 n9 =>
 notK 390043 x66_15 fun x67_16 =>
 condK 390044 x67_16
 (
  .bad 390045
 )
 (
  addK Tryz.prog 3 (.tmp 41) (.const (.int .i64 (.ofNat 1))) 390046 y41 (.lit (.int .i64 (.ofNat 1))) fun x68_17 =>
  lp4 y0 y1 y2 y3 y4 y10 y11 y39 y40 x68_17 T9 n9
 )
noncomputable def g39_k5 (ih : FuncId → List HT → List AV → HT → Nat → R) (ro : List HT) (lp4 : AV → AV → AV → AV → AV → AV → AV → AV → AV → AV → HT → Nat → R) (y0 y1 y2 y3 y4 y10 y11 y13 y39 y40 y41 y55 : AV) (T7 : HT) (n7 : Nat) : R :=
 condK 390048 y4
 (
  g39_k6 ih ro lp4 y0 y1 y2 y3 (.lit (.bool true)) y10 y11 y39 y40 y41 y0 y13 y55 y3 (.lit (.bool true)) T7 n7
 )
 (
  faK 390050 y11 0 fun x62_18 =>
  ldK 390051 T7 ro x62_18 fun x63_19 =>
  eqK Tryz.prog 3 (.tmp 63) (.const (.int .i64 (.ofNat 44))) 390052 x63_19 (.lit (.int .i64 (.ofNat 44))) fun x64_20 =>
  g39_k6 ih ro lp4 y0 y1 y2 y3 (.lit (.bool false)) y10 y11 y39 y40 y41 y0 y13 y55 y3 x64_20 T7 n7
 )
noncomputable def g39_b4 (ih : FuncId → List HT → List AV → HT → Nat → R) (ro : List HT) (lp4 : AV → AV → AV → AV → AV → AV → AV → AV → AV → AV → HT → Nat → R) (y0 y1 y2 y3 y4 y10 y11 y39 y40 y41 : AV) (T6 : HT) (n6 : Nat) : R :=
 ltK Tryz.prog 3 (.tmp 41) (.tmp 40) 390028 y41 y40 fun x42_12 =>
 condK 390029 x42_12
 (
  iaK 390030 y39 y41 1 fun x43_13 =>
  ldK 390031 T6 ro x43_13 fun x44_14 =>
  condK 390054 y2
  (
   ncK 390057 y0 fun x49_21 =>
   faK 390058 x49_21 0 fun x50_22 =>
   ldK 390059 T6 ro x50_22 fun x51_23 =>
   lenSK 390060 x51_23 fun x52_24 =>
   subK Tryz.prog 3 (.tmp 52) (.const (.int .i64 (.ofNat 1))) 390061 x52_24 (.lit (.int .i64 (.ofNat 1))) fun x53_25 =>
   eqK Tryz.prog 3 (.tmp 47) (.tmp 53) 390062 y1 x53_25 fun x54_26 =>
   g39_k5 ih ro lp4 y0 y1 (.lit (.bool true)) y3 y4 y10 y11 x44_14 y39 y40 y41 x54_26 T6 n6
  )
  (
   g39_k5 ih ro lp4 y0 y1 (.lit (.bool false)) y3 y4 y10 y11 x44_14 y39 y40 y41 (.lit (.bool false)) T6 n6
  )
 )
 (
  g39_k1 ih ro y10 T6 n6
 )
noncomputable def g39_k3 (ih : FuncId → List HT → List AV → HT → Nat → R) (ro : List HT) (y0 y1 y2 y3 y4 y10 y11 y23 y34 : AV) (T5 : HT) (n5 : Nat) : R :=
 condK 390022 y34
 (
  faK 390023 y11 4 fun x38_9 =>
  ldK 390024 T5 ro x38_9 fun x39_10 =>
  lenSK 390025 x39_10 fun x40_11 =>
  lpf10 390027 (g39_b4 ih ro) 100000 y0 y1 y2 y3 y4 y10 y11 x39_10 x40_11 (.lit (.int .i64 (.ofNat 0))) T5 n5
 )
 (
  eqK Tryz.prog 3 (.tmp 23) (.const (.int .i64 (.ofNat 45))) 390065 y23 (.lit (.int .i64 (.ofNat 45))) fun x70_27 =>
  condK 390067 x70_27
  (
   .bad 390068
  )
  (
   g39_k1 ih ro y10 T5 n5
  )
 )
noncomputable def g39_k2 (ih : FuncId → List HT → List AV → HT → Nat → R) (ro : List HT) (y0 y1 y2 y3 y4 y10 y11 y23 y24 : AV) (T4 : HT) (n4 : Nat) : R :=
 condK 390012 y24
 (
  .bad 390013
 )
 (
  eqK Tryz.prog 3 (.tmp 23) (.const (.int .i64 (.ofNat 41))) 390014 y23 (.lit (.int .i64 (.ofNat 41))) fun x29_7 =>
  condK 390016 x29_7
  (
   .bad 390017
  )
  (
   eqK Tryz.prog 3 (.tmp 23) (.const (.int .i64 (.ofNat 42))) 390018 y23 (.lit (.int .i64 (.ofNat 42))) fun x32_8 =>
   condK 390020 x32_8
   (
    .bad 390021
   )
   (
    eqK Tryz.prog 3 (.tmp 23) (.const (.int .i64 (.ofNat 47))) 390069 y23 (.lit (.int .i64 (.ofNat 47))) fun x35_28 =>
    condK 390071 x35_28
    (
     g39_k3 ih ro y0 y1 y2 y3 y4 y10 y11 y23 (.lit (.bool true)) T4 n4
    )
    (
     eqK Tryz.prog 3 (.tmp 23) (.const (.int .i64 (.ofNat 43))) 390072 y23 (.lit (.int .i64 (.ofNat 43))) fun x36_29 =>
     condK 390074 x36_29
     (
      g39_k3 ih ro y0 y1 y2 y3 y4 y10 y11 y23 (.lit (.bool true)) T4 n4
     )
     (
      eqK Tryz.prog 3 (.tmp 23) (.const (.int .i64 (.ofNat 44))) 390075 y23 (.lit (.int .i64 (.ofNat 44))) fun x37_30 =>
      g39_k3 ih ro y0 y1 y2 y3 y4 y10 y11 y23 x37_30 T4 n4
     )
    )
   )
  )
 )
noncomputable def g39 (ih : FuncId → List HT → List AV → HT → Nat → R) (ro : List HT) (a0 a1 a2 a3 a4 : AV) (T : HT) (nx : Nat) : R :=
 fldK 390003 T ro a0 0 fun x18_1 =>
 iaK 390005 x18_1 a1 5 fun x20_2 =>
 ldAK 390006 T ro x20_2 5 fun x21_3 =>
 newK T nx (.obj [.lit (.int .i64 0), .lit (.int .i64 0), .lit (.int .i64 0), .lit (.string ⟨#[]⟩), .lit (.slice none 0 0)] 32) fun x11_4 T1 n1 =>
 stAK 390008 T1 x11_4 x21_3 5 fun T2 =>
 faK 390010 x11_4 0 fun x22_5 =>
 ldK 390011 T2 ro x22_5 fun x23_6 =>
 eqK Tryz.prog 3 (.tmp 23) (.const (.int .i64 (.ofNat 39))) 390077 x23_6 (.lit (.int .i64 (.ofNat 39))) fun x25_31 =>
 condK 390079 x25_31
 (
  g39_k2 ih ro a0 a1 a2 a3 a4 (.lit (.bool false)) x11_4 x23_6 (.lit (.bool true)) T2 n1
 )
 (
  eqK Tryz.prog 3 (.tmp 23) (.const (.int .i64 (.ofNat 40))) 390080 x23_6 (.lit (.int .i64 (.ofNat 40))) fun x26_32 =>
  g39_k2 ih ro a0 a1 a2 a3 a4 (.lit (.bool false)) x11_4 x23_6 x26_32 T2 n1
 )
theorem g39_ok (ih : FuncId → List HT → List AV → HT → Nat → R) (hI : ∀ f ro args T nx, GOk Tryz.prog envE f args ro T nx (ih f ro args T nx)) (ro : List HT) (a0 a1 a2 a3 a4 : AV) (T : HT) (nx : Nat) : GOk Tryz.prog envE 39 [a0, a1, a2, a3, a4] ro T nx (g39 ih ro a0 a1 a2 a3 a4 T nx) := by
 refine GOk.of_body Tryz.func39 rfl Tryz.ntmps39 (by kernel_rfl) rfl fun r T' n' h1 w0 base ρ0 its hS hP => ?_
 have X : CtxW envE ρ0 ro r T' n' := trivial
 unfold g39 at h1
 refine sr ?_
 refine as_ ?_
 refine dn ?_
 refine sr ?_
 refine mv ?_
 refine fl hS h1 Spf.fo69_0 Spf.one23 fun x18_1 h2 => ?_
 refine mv ?_
 refine vy (V.ia h2 rfl rfl Spf.el23) fun x20_2 h3 => ?_
 refine vy (V.ldA hS h3 rfl Spf.agg32) fun x21_3 h4 => ?_
 refine LV.alloc hS h4 rfl Spf.zr32 rfl rfl rfl fun x11_4 T1 n1 h5 ρ its hS hdr => ?_
 refine LV.stA hS h5 rfl rfl rfl Spf.agg32 rfl rfl rfl fun T2 its h6 hS => ?_
 refine dn ?_
 refine cs1 X 10 [] (g39_k1 ih ro) ?_ ?_
 ·
  refine sr ?_
  refine vy (V.fa h6 rfl Spf.fo32_0) fun x22_5 h8 => ?_
  refine vy (V.ld hS h8 rfl Spf.one3) fun x23_6 h9 => ?_
  refine dn ?_
  refine CV.block ?_
  refine cs9 X 0 1 2 3 4 10 11 23 24 [] (g39_k2 ih ro) ?_ ?_
  ·
   refine sr ?_
   refine vy (V.eq h9 rfl rfl) fun x25_31 h50 => ?_
   refine as_ ?_
   refine dn ?_
   refine CV.cond h50 rfl (fun e h51 => ?_) (fun e h51 => ?_)
   ·
    clear h1 h2 h3 h4 h5 h6 h8 h9 h50
    subst e
    refine CV.skip ?_
    exact pa9 hS h51 ⟨rfl, rfl, rfl, rfl, rfl, rfl, rfl, rfl, rfl, trivial⟩
   ·
    clear h1 h2 h3 h4 h5 h6 h8 h9 h50
    subst e
    refine CV.region ?_
    refine vy (V.eq h51 rfl rfl) fun x26_32 h52 => ?_
    refine as_ ?_
    refine LV.done ?_
    exact pa9 hS h52 ⟨rfl, rfl, rfl, rfl, rfl, rfl, rfl, rfl, rfl, trivial⟩
  ·
   intro y0 y1 y2 y3 y4 y10 y11 y23 y24 T4 n4 ρ its hS h10
   unfold g39_k2 at h10
   clear h1 h2 h3 h4 h5 h6 h8 h9
   refine CV.cond h10 rfl (fun e h11 => ?_) (fun e h11 => ?_)
   ·
    clear h10
    subst e
    cases h11
   ·
    clear h10
    subst e
    refine sr ?_
    refine vy (V.eq h11 rfl rfl) fun x29_7 h12 => ?_
    refine as_ ?_
    refine dn ?_
    refine CV.cond h12 rfl (fun e h13 => ?_) (fun e h13 => ?_)
    ·
     clear h11 h12
     subst e
     cases h13
    ·
     clear h11 h12
     subst e
     refine sr ?_
     refine vy (V.eq h13 rfl rfl) fun x32_8 h14 => ?_
     refine as_ ?_
     refine dn ?_
     refine CV.cond h14 rfl (fun e h15 => ?_) (fun e h15 => ?_)
     ·
      clear h13 h14
      subst e
      cases h15
     ·
      clear h13 h14
      subst e
      refine cs9 X 0 1 2 3 4 10 11 23 34 [] (g39_k3 ih ro) ?_ ?_
      ·
       refine sr ?_
       refine vy (V.eq h15 rfl rfl) fun x35_28 h45 => ?_
       refine as_ ?_
       refine dn ?_
       refine CV.cond h45 rfl (fun e h46 => ?_) (fun e h46 => ?_)
       ·
        clear h15 h45
        subst e
        refine CV.skip ?_
        exact pa9 hS h46 ⟨rfl, rfl, rfl, rfl, rfl, rfl, rfl, rfl, rfl, trivial⟩
       ·
        clear h15 h45
        subst e
        refine sr ?_
        refine vy (V.eq h46 rfl rfl) fun x36_29 h47 => ?_
        refine as_ ?_
        refine dn ?_
        refine CV.cond h47 rfl (fun e h48 => ?_) (fun e h48 => ?_)
        ·
         clear h46 h47
         subst e
         refine CV.skip ?_
         exact pa9 hS h48 ⟨rfl, rfl, rfl, rfl, rfl, rfl, rfl, rfl, rfl, trivial⟩
        ·
         clear h46 h47
         subst e
         refine CV.region ?_
         refine vy (V.eq h48 rfl rfl) fun x37_30 h49 => ?_
         refine as_ ?_
         refine LV.done ?_
         exact pa9 hS h49 ⟨rfl, rfl, rfl, rfl, rfl, rfl, rfl, rfl, rfl, trivial⟩
      ·
       intro y0 y1 y2 y3 y4 y10 y11 y23 y34 T5 n5 ρ its hS h16
       unfold g39_k3 at h16
       clear h15
       refine CV.cond h16 rfl (fun e h17 => ?_) (fun e h17 => ?_)
       ·
        clear h16
        subst e
        refine sr ?_
        refine vy (V.fa h17 rfl Spf.fo32_4) fun x38_9 h18 => ?_
        refine vy (V.ld hS h18 rfl Spf.one30) fun x39_10 h19 => ?_
        refine vy (V.lenS h19 rfl Spf.ls30) fun x40_11 h20 => ?_
        refine mv ?_
        refine dn ?_
        refine CV.block ?_
        refine cl10 X 0 1 2 3 4 10 11 39 40 41 [] hS h20 ⟨rfl, rfl, rfl, rfl, rfl, rfl, rfl, rfl, rfl, rfl, trivial⟩ ?_
        intro f4 y0 y1 y2 y3 y4 y10 y11 y39 y40 y41 T6 n6 ρ its hS h21
        unfold g39_b4 at h21
        clear h17 h18 h19 h20
        refine sr ?_
        refine vy (V.lt h21 rfl rfl) fun x42_12 h22 => ?_
        refine dn ?_
        refine CV.seq ?_
        refine CV.cond h22 rfl (fun e h23 => ?_) (fun e h23 => ?_)
        ·
         clear h21 h22
         subst e
         refine CV.skip ?_
         refine PV.thenN ?_
         refine CV.seq ?_
         refine CV.block ?_
         refine sr ?_
         refine vy (V.ia h23 rfl rfl Spf.el30) fun x43_13 h24 => ?_
         refine vy (V.ld hS h24 rfl Spf.one3) fun x44_14 h25 => ?_
         refine as_ ?_
         refine dn ?_
         refine sr ?_
         refine mv ?_
         refine mv ?_
         refine ls12 X 0 1 2 3 4 10 11 13 39 40 41 55 [] (g39_k5 ih ro (lpf10 390027 (g39_b4 ih ro) f4)) 9 ?_ ?_
         ·
          rcases condK_inv h25 with ⟨e, h36⟩ | ⟨e, h36⟩
          ·
           clear h23 h24 h25
           subst e
           refine mv ?_
           refine mv ?_
           refine vy (V.nc h36 rfl) fun x49_21 h37 => ?_
           refine vy (V.fa h37 rfl Spf.fo69_0) fun x50_22 h38 => ?_
           refine vy (V.ld hS h38 rfl Spf.one23) fun x51_23 h39 => ?_
           refine vy (V.lenS h39 rfl Spf.ls23) fun x52_24 h40 => ?_
           refine vy (V.sub h40 rfl rfl) fun x53_25 h41 => ?_
           refine vy (V.eq h41 rfl rfl) fun x54_26 h42 => ?_
           refine pu ?_
           exact la12 hS h42 ⟨rfl, rfl, rfl, rfl, rfl, rfl, rfl, rfl, rfl, rfl, rfl, rfl, trivial⟩
          ·
           clear h23 h24 h25
           subst e
           refine sk ?_
           refine sk ?_
           refine sk ?_
           refine sk ?_
           refine sk ?_
           refine sk ?_
           refine sk ?_
           refine sk ?_
           refine pu ?_
           exact la12 hS h36 ⟨rfl, rfl, rfl, rfl, rfl, rfl, rfl, rfl, rfl, rfl, rfl, rfl, trivial⟩
         ·
          intro y0 y1 y2 y3 y4 y10 y11 y13 y39 y40 y41 y55 T7 n7 ρ its hS h26
          unfold g39_k5 at h26
          clear h23 h24 h25
          refine as_ ?_
          refine dn ?_
          refine sr ?_
          refine mv ?_
          refine mv ?_
          refine mv ?_
          refine mv ?_
          refine mv ?_
          refine mv ?_
          refine ls15 X 0 1 2 3 4 10 11 39 40 41 56 57 58 59 65 [] (g39_k6 ih ro (lpf10 390027 (g39_b4 ih ro) f4)) 4 ?_ ?_
          ·
           rcases condK_inv h26 with ⟨e, h32⟩ | ⟨e, h32⟩
           ·
            clear h26
            subst e
            refine sk ?_
            refine sk ?_
            refine sk ?_
            refine pu ?_
            exact la15 hS h32 ⟨rfl, rfl, rfl, rfl, rfl, rfl, rfl, rfl, rfl, rfl, rfl, rfl, rfl, rfl, rfl, trivial⟩
           ·
            clear h26
            subst e
            refine vy (V.fa h32 rfl Spf.fo32_0) fun x62_18 h33 => ?_
            refine vy (V.ld hS h33 rfl Spf.one3) fun x63_19 h34 => ?_
            refine vy (V.eq h34 rfl rfl) fun x64_20 h35 => ?_
            refine pu ?_
            exact la15 hS h35 ⟨rfl, rfl, rfl, rfl, rfl, rfl, rfl, rfl, rfl, rfl, rfl, rfl, rfl, rfl, rfl, trivial⟩
          ·
           intro y0 y1 y2 y3 y4 y10 y11 y39 y40 y41 y56 y57 y58 y59 y65 T8 n8 ρ its hS h27
           unfold g39_k6 at h27
           clear h26
           refine LV.call hS h27 (hI _ _ _ _ _) hP rfl rfl rfl rfl fun x66_15 T9 n9 h28 ρ its hS => ?_
           refine vy (V.not h28 rfl) fun x67_16 h29 => ?_
           refine dn ?_
           refine CV.cond h29 rfl (fun e h30 => ?_) (fun e h30 => ?_)
           ·
            clear h27 h28 h29
            subst e
            cases h30
           ·
            clear h27 h28 h29
            subst e
            refine CV.skip ?_
            refine PV.blockN ?_
            refine PV.thenN ?_
            refine CV.region ?_
            refine vy (V.add h30 rfl rfl) fun x68_17 h31 => ?_
            refine mv ?_
            refine LV.done ?_
            exact pb10 hS h31 ⟨rfl, rfl, rfl, rfl, rfl, rfl, rfl, rfl, rfl, rfl, trivial⟩
        ·
         clear h21 h22
         subst e
         refine CV.exit ?_
         refine PV.thenE ?_
         refine PV.thenE ?_
         refine PV.blockE ?_
         refine PV.blockN ?_
         exact pa1 hS h23 ⟨rfl, trivial⟩
       ·
        clear h16
        subst e
        refine sr ?_
        refine vy (V.eq h17 rfl rfl) fun x70_27 h43 => ?_
        refine as_ ?_
        refine dn ?_
        refine CV.cond h43 rfl (fun e h44 => ?_) (fun e h44 => ?_)
        ·
         clear h17 h43
         subst e
         cases h44
        ·
         clear h17 h43
         subst e
         refine CV.skip ?_
         refine PV.blockN ?_
         exact pa1 hS h44 ⟨rfl, trivial⟩
 ·
  intro y10 T3 n3 ρ its hS h7
  unfold g39_k1 at h7
  clear h1 h2 h3 h4 h5 h6
  refine sr ?_
  refine as_ ?_
  refine dn ?_
  refine CV.ret ?_
  cases h7
  exact PV.ret (by simp) Tryz.results39 hS (RS.tmp rfl RS.nil) rfl
noncomputable def ap2 (ih : FuncId → List HT → List AV → HT → Nat → R) (f : FuncId) (ro : List HT) (args : List AV) (T : HT) (nx : Nat) : R :=
  Bool.rec (motive := fun _ => R) (.bad 2) (List.rec (motive := fun _ => R) (.bad 1) (fun a0 l0 _ => List.rec (motive := fun _ => R) (.bad 1) (fun a1 l1 _ => List.rec (motive := fun _ => R) (.bad 1) (fun a2 l2 _ => List.rec (motive := fun _ => R) (.bad 1) (fun a3 l3 _ => List.rec (motive := fun _ => R) (.bad 1) (fun a4 l4 _ => List.rec (motive := fun _ => R) (g39 ih ro a0 a1 a2 a3 a4 T nx) (fun _ _ _ => .bad 1) l4) l3) l2) l1) l0) args) (Nat.beq f 39)
noncomputable def scc2 (fuel : Nat) : FuncId → List HT → List AV → HT → Nat → R :=
  Nat.rec (motive := fun _ => FuncId → List HT → List AV → HT → Nat → R) (fun _ _ _ _ _ => .bad 3) (fun _ ih => ap2 ih) fuel
theorem ap2_ok (ih : FuncId → List HT → List AV → HT → Nat → R) (hI : ∀ f ro args T nx, GOk Tryz.prog envE f args ro T nx (ih f ro args T nx)) (f : FuncId) (ro : List HT) (args : List AV) (T : HT) (nx : Nat) : GOk Tryz.prog envE f args ro T nx (ap2 ih f ro args T nx) := by
  unfold ap2
  refine recb_go (fun hb => ?_) (fun _ => ?_)
  · obtain rfl := beqT hb
    rcases args with _ | ⟨a0, l0⟩
    · exact GOk.bad
    rcases l0 with _ | ⟨a1, l1⟩
    · exact GOk.bad
    rcases l1 with _ | ⟨a2, l2⟩
    · exact GOk.bad
    rcases l2 with _ | ⟨a3, l3⟩
    · exact GOk.bad
    rcases l3 with _ | ⟨a4, l4⟩
    · exact GOk.bad
    rcases l4 with _ | ⟨_, _⟩
    · exact g39_ok _ hI _ _ _ _ _ _ _ _ 
    · exact GOk.bad
  · exact GOk.bad
theorem scc2_ok : ∀ (fuel : Nat) (f : FuncId) (ro : List HT) (args : List AV) (T : HT) (nx : Nat), GOk Tryz.prog envE f args ro T nx (scc2 fuel f ro args T nx)
  | 0, _, _, _, _, _ => GOk.bad
  | fuel + 1, f, ro, args, T, nx => ap2_ok (scc2 fuel) (scc2_ok fuel) f ro args T nx
noncomputable def g12_k2 (ro : List HT) (lp1 : AV → AV → AV → AV → AV → AV → HT → Nat → R) (y0 y2 y3 y17 y18 y19 y43 : AV) (T6 : HT) (n6 : Nat) : R :=
 condK 120026 y43
 (
  .bad 120027
 )
 (
  addK Tryz.prog 3 (.tmp 19) (.const (.int .i64 (.ofNat 1))) 120028 y19 (.lit (.int .i64 (.ofNat 1))) fun x49_12 =>
  lp1 y0 y2 y3 y17 y18 x49_12 T6 n6
 )
noncomputable def g12_k5 (ro : List HT) (y2 y77 : AV) (T11 : HT) (n11 : Nat) : R :=
 condK 120066 y77
 (
  .bad 120067
 )
 (
  .ok (.val (.lit (.nilIface))) T11 n11
 )
noncomputable def g12_k4 (ro : List HT) (y2 y3 y6 y71 : AV) (T10 : HT) (n10 : Nat) : R :=
 condK 120069 y71
 (
  g12_k5 ro y2 (.lit (.bool true)) T10 n10
 )
 (
  callK (scc2 4000 39 ro [y3, y6, (.lit (.bool true)), (.lit (.bool false)), (.lit (.bool false))] T10 n10) fun x75_29 T12 n12 =>
  notK 120074 x75_29 fun x76_30 =>
  g12_k5 ro y2 x76_30 T12 n12
 )
noncomputable def g12_k3 (ro : List HT) (y2 y3 y6 y62 : AV) (T9 : HT) (n9 : Nat) : R :=
 condK 120076 y62
 (
  g12_k4 ro y2 y3 y6 (.lit (.bool true)) T9 n9
 )
 (
  ncK 120079 y3 fun x65_31 =>
  faK 120080 x65_31 1 fun x66_32 =>
  ldK 120081 T9 ro x66_32 fun x67_33 =>
  cutHiK 120083 T9 ro x67_33 y6 fun x69_34 =>
  callK (g38 ro x69_34 (.lit (.bool false)) T9 n9) fun x70_35 T13 n13 =>
  g12_k4 ro y2 y3 y6 x70_35 T13 n13
 )
noncomputable def g12_b1 (ro : List HT) (lp1 : AV → AV → AV → AV → AV → AV → HT → Nat → R) (y0 y2 y3 y17 y18 y19 : AV) (T3 : HT) (n3 : Nat) : R :=
 ltK Tryz.prog 3 (.tmp 19) (.tmp 18) 120018 y19 y18 fun x20_8 =>
 condK 120019 x20_8
 (
  iaK 120021 y17 y19 5 fun x22_9 =>
  ldAK 120022 T3 ro x22_9 5 fun x23_10 =>
  newK T3 n3 (.obj [.lit (.int .i64 0), .lit (.int .i64 0), .lit (.int .i64 0), .lit (.string ⟨#[]⟩), .lit (.slice none 0 0)] 32) fun x5_11 T4 n4 =>
  stAK 120025 T4 x5_11 x23_10 5 fun T5 =>
  faK 120030 x5_11 4 fun x24_13 =>
  ldK 120031 T5 ro x24_13 fun x25_14 =>
  ncK 120034 y3 fun x28_15 =>
  faK 120035 x28_15 1 fun x29_16 =>
  ldK 120036 T5 ro x29_16 fun x30_17 =>
  callK (g36 ro x25_14 y19 x30_17 T5 n4) fun x31_18 T7 n7 =>
  notK 120038 x31_18 fun x32_19 =>
  condK 120040 x32_19
  (
   condK 120043 (.lit (.bool true))
   (
    g12_k2 ro lp1 y0 y2 y3 y17 y18 y19 (.lit (.bool true)) T7 n7
   )
   (
    .bad 0
   )
  )
  (
   faK 120045 x5_11 1 fun x34_20 =>
   ldK 120046 T7 ro x34_20 fun x35_21 =>
   neK Tryz.prog 3 (.tmp 35) (.const (.int .i64 (.ofNat 0))) 120047 x35_21 (.lit (.int .i64 (.ofNat 0))) fun x36_22 =>
   condK 120050 x36_22
   (
    g12_k2 ro lp1 y0 y2 y3 y17 y18 y19 (.lit (.bool true)) T7 n7
   )
   (
    ldAK 120053 T7 ro x5_11 5 fun x40_23 =>
    callK (g37 ro y3 x40_23 T7 n7) fun x41_24 T8 n8 =>
    notK 120055 x41_24 fun x42_25 =>
    g12_k2 ro lp1 y0 y2 y3 y17 y18 y19 x42_25 T8 n8
   )
  )
 )
 (
  lenSK 120058 y0 fun x51_26 =>
  subK Tryz.prog 3 (.tmp 51) (.const (.int .i64 (.ofNat 1))) 120059 x51_26 (.lit (.int .i64 (.ofNat 1))) fun x52_27 =>
  ltK Tryz.prog 3 (.tmp 53) (.const (.int .i64 (.ofNat 0))) 120062 x52_27 (.lit (.int .i64 (.ofNat 0))) fun x54_28 =>
  condK 120086 x54_28
  (
   g12_k3 ro y2 y3 x52_27 (.lit (.bool true)) T3 n3
  )
  (
   iaK 120090 y0 x52_27 5 fun x58_36 =>
   faK 120091 x58_36 0 fun x59_37 =>
   ldK 120092 T3 ro x59_37 fun x60_38 =>
   neK Tryz.prog 3 (.tmp 60) (.const (.int .i64 (.ofNat 47))) 120093 x60_38 (.lit (.int .i64 (.ofNat 47))) fun x61_39 =>
   g12_k3 ro y2 y3 x52_27 x61_39 T3 n3
  )
 )
noncomputable def g12 (ro : List HT) (a0 : AV) (T : HT) (nx : Nat) : R :=
 lenSK 120003 a0 fun x8_1 =>
 gtK Tryz.prog 3 (.tmp 8) (.const (.int .i64 (.ofNat 1048576))) 120004 x8_1 (.lit (.int .i64 (.ofNat 1048576))) fun x9_2 =>
 condK 120005 x9_2
 (
  .bad 120006
 )
 (
  lenSK 120009 a0 fun x13_3 =>
  mkK 120010 T nx 4 1 (.lit (.bool false)) x13_3 fun x14_4 T1 n1 =>
  optK 120011 (bld69 [(0, a0), (1, x14_4)]) fun x15_5 =>
  boxK 120012 T1 n1 x15_5 69 fun x16_6 T2 n2 =>
  lenSK 120015 a0 fun x18_7 =>
  lpf6 120017 (g12_b1 ro) 100000 a0 (.lit (.nilIface)) x16_6 a0 x18_7 (.lit (.int .i64 (.ofNat 0))) T2 n2
 )
theorem g12_ok (ro : List HT) (a0 : AV) (T : HT) (nx : Nat) : GOk Tryz.prog envE 12 [a0] ro T nx (g12 ro a0 T nx) := by
 refine GOk.of_body Tryz.func12 rfl Tryz.ntmps12 (by kernel_rfl) rfl fun r T' n' h1 w0 base ρ0 its hS hP => ?_
 have X : CtxW envE ρ0 ro r T' n' := trivial
 unfold g12 at h1
 refine sr ?_
 refine as_ ?_
 refine dn ?_
 refine CV.seq ?_
 refine sr ?_
 refine mv ?_
 refine vy (V.lenS h1 rfl Spf.ls23) fun x8_1 h2 => ?_
 refine vy (V.gt h2 rfl rfl) fun x9_2 h3 => ?_
 refine dn ?_
 refine CV.cond h3 rfl (fun e h4 => ?_) (fun e h4 => ?_)
 ·
  clear h1 h2 h3
  subst e
  cases h4
 ·
  clear h1 h2 h3
  subst e
  refine CV.skip ?_
  refine PV.thenN ?_
  refine sr ?_
  refine mv ?_
  refine mv ?_
  refine vy (V.lenS h4 rfl Spf.ls23) fun x13_3 h5 => ?_
  refine LV.mk hS h5 rfl rfl rfl Spf.el67 rfl rfl rfl rfl fun x14_4 T1 n1 h6 ρ its hS hdr => ?_
  refine vy (V.bld h6 rfl) fun x15_5 h7 => ?_
  refine LV.box hS h7 rfl rfl rfl rfl rfl fun x16_6 T2 n2 h8 ρ its hS hdr => ?_
  refine as_ ?_
  refine dn ?_
  refine CV.seq ?_
  refine sr ?_
  refine mv ?_
  refine vy (V.lenS h8 rfl Spf.ls23) fun x18_7 h9 => ?_
  refine mv ?_
  refine dn ?_
  refine CV.block ?_
  refine cl6 X 0 2 3 17 18 19 [] hS h9 ⟨rfl, rfl, rfl, rfl, rfl, rfl, trivial⟩ ?_
  intro f1 y0 y2 y3 y17 y18 y19 T3 n3 ρ its hS h10
  unfold g12_b1 at h10
  clear h4 h5 h6 h7 h8 h9
  refine sr ?_
  refine vy (V.lt h10 rfl rfl) fun x20_8 h11 => ?_
  refine dn ?_
  refine CV.seq ?_
  refine CV.cond h11 rfl (fun e h12 => ?_) (fun e h12 => ?_)
  ·
   clear h10 h11
   subst e
   refine CV.skip ?_
   refine PV.thenN ?_
   refine CV.seq ?_
   refine CV.block ?_
   refine sr ?_
   refine mv ?_
   refine vy (V.ia h12 rfl rfl Spf.el23) fun x22_9 h13 => ?_
   refine vy (V.ldA hS h13 rfl Spf.agg32) fun x23_10 h14 => ?_
   refine LV.alloc hS h14 rfl Spf.zr32 rfl rfl rfl fun x5_11 T4 n4 h15 ρ its hS hdr => ?_
   refine as_ ?_
   refine LV.stA hS h15 rfl rfl rfl Spf.agg32 rfl rfl rfl fun T5 its h16 hS => ?_
   refine dn ?_
   refine cs7 X 0 2 3 17 18 19 43 [] (g12_k2 ro (lpf6 120017 (g12_b1 ro) f1)) ?_ ?_
   ·
    refine CV.regionM [(0, .anywhere), (1, .held), (2, .anywhere), (3, .anywhere), (4, .anywhere), (5, .anywhere), (6, .held), (7, .alone), (8, .alone), (9, .alone), (10, .alone), (11, .alone), (12, .alone), (13, .alone), (14, .alone), (15, .anywhere), (16, .alone), (17, .alone), (18, .alone), (19, .alone)] rfl (fun c a a' w hd hq => PanicOk.root (P := Tryz.prog) (fn := Tryz.f12) (w0 := w0) (base := base) (E := envE) (ro := ro) (r := r) (T' := T') (n' := n') (ρ0 := ρ0) c a a' w hd hq) (by kernel_rfl) ?_
    refine MV.lift0 (i := 0) rfl (V.fa h16 rfl Spf.fo32_4) rfl rfl rfl fun x24_13 h20 => ?_
    refine MV.lift1 (i := 1) rfl (fun _ z => z) (V.ld hS h20 rfl Spf.one30) rfl rfl rfl [] (by kernel_rfl) fun x25_14 h21 => ?_
    refine MV.step0 (i := 2) rfl (VAL.move rfl) rfl rfl rfl ?_
    refine MV.step0 (i := 3) rfl (VAL.move rfl) rfl rfl rfl ?_
    refine MV.lift0 (i := 4) rfl (V.nc h21 rfl) rfl rfl rfl fun x28_15 h22 => ?_
    refine MV.lift0 (i := 5) rfl (V.fa h22 rfl Spf.fo69_1) rfl rfl rfl fun x29_16 h23 => ?_
    refine MV.lift1 (i := 6) rfl (fun _ z => z) (V.ld hS h23 rfl Spf.one67) rfl rfl rfl [1] (by kernel_rfl) fun x30_17 h24 => ?_
    refine MV.force (i := 7) rfl ?_
    refine LV.call hS h24 (g36_ok _ _ _ _ _ _ ) hP rfl rfl rfl rfl fun x31_18 T7 n7 h25 ρ its hS => ?_
    refine LV.nextM [] (by kernel_rfl) (fun z => absurd rfl z) ?_
    refine MV.force (i := 8) rfl ?_
    refine vy (V.not h25 rfl) fun x32_19 h26 => ?_
    refine LV.nextM [] (by kernel_rfl) (fun z => absurd rfl z) ?_
    refine MV.force (i := 9) rfl ?_
    refine mv ?_
    refine LV.nextM [] (by kernel_rfl) (fun z => absurd rfl z) ?_
    rcases condK_inv h26 with ⟨e, h27⟩ | ⟨e, h27⟩
    ·
     clear h12 h13 h14 h15 h16 h20 h21 h22 h23 h24 h25 h26
     subst e
     refine MV.force (i := 10) rfl ?_
     refine sk ?_
     refine LV.nextM [] (by kernel_rfl) (fun z => absurd rfl z) ?_
     refine MV.force (i := 11) rfl ?_
     refine sk ?_
     refine LV.nextM [] (by kernel_rfl) (fun z => absurd rfl z) ?_
     refine MV.force (i := 12) rfl ?_
     refine sk ?_
     refine LV.nextM [] (by kernel_rfl) (fun z => absurd rfl z) ?_
     refine MV.force (i := 13) rfl ?_
     refine pu ?_
     refine LV.nextM [] (by kernel_rfl) (fun z => absurd rfl z) ?_
     refine MV.force (i := 14) rfl ?_
     refine mv ?_
     refine LV.nextM [] (by kernel_rfl) (fun z => absurd rfl z) ?_
     rcases condK_inv h27 with ⟨e, h28⟩ | ⟨e, h28⟩
     ·
      clear h27
      refine MV.skip0 (i := 15) rfl rfl rfl rfl ?_
      refine MV.force (i := 16) rfl ?_
      refine sk ?_
      refine LV.nextM [] (by kernel_rfl) (fun z => absurd rfl z) ?_
      refine MV.force (i := 17) rfl ?_
      refine sk ?_
      refine LV.nextM [] (by kernel_rfl) (fun z => absurd rfl z) ?_
      refine MV.force (i := 18) rfl ?_
      refine sk ?_
      refine LV.nextM [] (by kernel_rfl) (fun z => absurd rfl z) ?_
      refine MV.force (i := 19) rfl ?_
      refine pu ?_
      refine LV.nextM [] (by kernel_rfl) (fun z => absurd rfl z) ?_
      refine MV.done ?_
      exact pa7 hS h28 ⟨rfl, rfl, rfl, rfl, rfl, rfl, rfl, trivial⟩
     ·
      clear h27
      cases e
    ·
     clear h12 h13 h14 h15 h16 h20 h21 h22 h23 h24 h25 h26
     subst e
     refine MV.force (i := 10) rfl ?_
     refine vy (V.fa h27 rfl Spf.fo32_1) fun x34_20 h29 => ?_
     refine LV.nextM [] (by kernel_rfl) (fun z => absurd rfl z) ?_
     refine MV.force (i := 11) rfl ?_
     refine vy (V.ld hS h29 rfl Spf.one3) fun x35_21 h30 => ?_
     refine LV.nextM [] (by kernel_rfl) (fun z => absurd rfl z) ?_
     refine MV.force (i := 12) rfl ?_
     refine vy (V.ne h30 rfl rfl) fun x36_22 h31 => ?_
     refine LV.nextM [] (by kernel_rfl) (fun z => absurd rfl z) ?_
     refine MV.force (i := 13) rfl ?_
     refine pu ?_
     refine LV.nextM [] (by kernel_rfl) (fun z => absurd rfl z) ?_
     refine MV.force (i := 14) rfl ?_
     refine mv ?_
     refine LV.nextM [] (by kernel_rfl) (fun z => absurd rfl z) ?_
     rcases condK_inv h31 with ⟨e, h32⟩ | ⟨e, h32⟩
     ·
      clear h27 h29 h30 h31
      subst e
      refine MV.skip0 (i := 15) rfl rfl rfl rfl ?_
      refine MV.force (i := 16) rfl ?_
      refine sk ?_
      refine LV.nextM [] (by kernel_rfl) (fun z => absurd rfl z) ?_
      refine MV.force (i := 17) rfl ?_
      refine sk ?_
      refine LV.nextM [] (by kernel_rfl) (fun z => absurd rfl z) ?_
      refine MV.force (i := 18) rfl ?_
      refine sk ?_
      refine LV.nextM [] (by kernel_rfl) (fun z => absurd rfl z) ?_
      refine MV.force (i := 19) rfl ?_
      refine pu ?_
      refine LV.nextM [] (by kernel_rfl) (fun z => absurd rfl z) ?_
      refine MV.done ?_
      exact pa7 hS h32 ⟨rfl, rfl, rfl, rfl, rfl, rfl, rfl, trivial⟩
     ·
      clear h27 h29 h30 h31
      subst e
      refine MV.step0 (i := 15) rfl (VAL.move rfl) rfl rfl rfl ?_
      refine MV.force (i := 16) rfl ?_
      refine vy (V.ldA hS h32 rfl Spf.agg32) fun x40_23 h33 => ?_
      refine LV.nextM [] (by kernel_rfl) (fun z => absurd rfl z) ?_
      refine MV.force (i := 17) rfl ?_
      refine LV.call hS h33 (g37_ok _ _ _ _ _ ) hP rfl rfl rfl rfl fun x41_24 T8 n8 h34 ρ its hS => ?_
      refine LV.nextM [] (by kernel_rfl) (fun z => absurd rfl z) ?_
      refine MV.force (i := 18) rfl ?_
      refine vy (V.not h34 rfl) fun x42_25 h35 => ?_
      refine LV.nextM [] (by kernel_rfl) (fun z => absurd rfl z) ?_
      refine MV.force (i := 19) rfl ?_
      refine pu ?_
      refine LV.nextM [] (by kernel_rfl) (fun z => absurd rfl z) ?_
      refine MV.done ?_
      exact pa7 hS h35 ⟨rfl, rfl, rfl, rfl, rfl, rfl, rfl, trivial⟩
   ·
    intro y0 y2 y3 y17 y18 y19 y43 T6 n6 ρ its hS h17
    unfold g12_k2 at h17
    clear h12 h13 h14 h15 h16
    refine CV.cond h17 rfl (fun e h18 => ?_) (fun e h18 => ?_)
    ·
     clear h17
     subst e
     cases h18
    ·
     clear h17
     subst e
     refine CV.skip ?_
     refine PV.blockN ?_
     refine PV.thenN ?_
     refine CV.region ?_
     refine vy (V.add h18 rfl rfl) fun x49_12 h19 => ?_
     refine mv ?_
     refine LV.done ?_
     exact pb6 hS h19 ⟨rfl, rfl, rfl, rfl, rfl, rfl, trivial⟩
  ·
   clear h10 h11
   subst e
   refine CV.exit ?_
   refine PV.thenE ?_
   refine PV.thenE ?_
   refine PV.blockE ?_
   refine PV.thenN ?_
   refine sr ?_
   refine mv ?_
   refine vy (V.lenS h12 rfl Spf.ls23) fun x51_26 h36 => ?_
   refine vy (V.sub h36 rfl rfl) fun x52_27 h37 => ?_
   refine as_ ?_
   refine dn ?_
   refine CV.seq ?_
   refine sr ?_
   refine mv ?_
   refine vy (V.lt h37 rfl rfl) fun x54_28 h38 => ?_
   refine mv ?_
   refine ls4 X 2 3 6 62 [] (g12_k3 ro) 7 ?_ ?_
   ·
    rcases condK_inv h38 with ⟨e, h52⟩ | ⟨e, h52⟩
    ·
     clear h12 h36 h37 h38
     subst e
     refine sk ?_
     refine sk ?_
     refine sk ?_
     refine sk ?_
     refine sk ?_
     refine sk ?_
     refine pu ?_
     exact la4 hS h52 ⟨rfl, rfl, rfl, rfl, trivial⟩
    ·
     clear h12 h36 h37 h38
     subst e
     refine mv ?_
     refine mv ?_
     refine vy (V.ia h52 rfl rfl Spf.el23) fun x58_36 h53 => ?_
     refine vy (V.fa h53 rfl Spf.fo32_0) fun x59_37 h54 => ?_
     refine vy (V.ld hS h54 rfl Spf.one3) fun x60_38 h55 => ?_
     refine vy (V.ne h55 rfl rfl) fun x61_39 h56 => ?_
     refine pu ?_
     exact la4 hS h56 ⟨rfl, rfl, rfl, rfl, trivial⟩
   ·
    intro y2 y3 y6 y62 T9 n9 ρ its hS h39
    unfold g12_k3 at h39
    clear h12 h36 h37 h38
    refine mv ?_
    refine ls4 X 2 3 6 71 [] (g12_k4 ro) 8 ?_ ?_
    ·
     rcases condK_inv h39 with ⟨e, h46⟩ | ⟨e, h46⟩
     ·
      clear h39
      subst e
      refine sk ?_
      refine sk ?_
      refine sk ?_
      refine sk ?_
      refine sk ?_
      refine sk ?_
      refine sk ?_
      refine pu ?_
      exact la4 hS h46 ⟨rfl, rfl, rfl, rfl, trivial⟩
     ·
      clear h39
      subst e
      refine mv ?_
      refine vy (V.nc h46 rfl) fun x65_31 h47 => ?_
      refine vy (V.fa h47 rfl Spf.fo69_1) fun x66_32 h48 => ?_
      refine vy (V.ld hS h48 rfl Spf.one67) fun x67_33 h49 => ?_
      refine mv ?_
      refine vy (V.cutHi hS h49 rfl rfl Spf.el67) fun x69_34 h50 => ?_
      refine LV.call hS h50 (g38_ok _ _ _ _ _ ) hP rfl rfl rfl rfl fun x70_35 T13 n13 h51 ρ its hS => ?_
      refine pu ?_
      exact la4 hS h51 ⟨rfl, rfl, rfl, rfl, trivial⟩
    ·
     intro y2 y3 y6 y71 T10 n10 ρ its hS h40
     unfold g12_k4 at h40
     clear h39
     refine mv ?_
     refine ls2 X 2 77 [] (g12_k5 ro) 5 ?_ ?_
     ·
      rcases condK_inv h40 with ⟨e, h43⟩ | ⟨e, h43⟩
      ·
       clear h40
       subst e
       refine sk ?_
       refine sk ?_
       refine sk ?_
       refine sk ?_
       refine pu ?_
       exact la2 hS h43 ⟨rfl, rfl, trivial⟩
      ·
       clear h40
       subst e
       refine mv ?_
       refine mv ?_
       refine LV.call hS h43 (scc2_ok _ _ _ _ _ _) hP rfl rfl rfl rfl fun x75_29 T12 n12 h44 ρ its hS => ?_
       refine vy (V.not h44 rfl) fun x76_30 h45 => ?_
       refine pu ?_
       exact la2 hS h45 ⟨rfl, rfl, trivial⟩
     ·
      intro y2 y77 T11 n11 ρ its hS h41
      unfold g12_k5 at h41
      clear h40
      refine dn ?_
      refine CV.cond h41 rfl (fun e h42 => ?_) (fun e h42 => ?_)
      ·
       clear h41
       subst e
       cases h42
      ·
       clear h41
       subst e
       refine CV.skip ?_
       refine PV.thenN ?_
       refine sr ?_
       refine as_ ?_
       refine dn ?_
       refine CV.ret ?_
       cases h42
       exact PV.ret (by simp) Tryz.results12 hS (RS.tmp rfl RS.nil) rfl

end Go.Proofs.YtdepmlcnllofiaaGreatDoor.Sp
