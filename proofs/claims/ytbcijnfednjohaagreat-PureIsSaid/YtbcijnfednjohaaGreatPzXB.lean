import Derived.Test.YtbcijnfednjohaaGreatPzXA
namespace Go.Proofs.Dbl
open Go Go.TX Go.Proofs
set_option maxRecDepth 100000
set_option linter.unusedVariables false
set_option maxHeartbeats 0
def op_in_h0 : Hints := Hints.nil 0
theorem op_in_h0_ok : op_in_h0.OK Tryz.prog (bodyOf Tryz.f39) := Hints.nil_ok
abbrev op_in_R : Type := (Bool)
noncomputable def op_in_t {γ : Type} (a0 : Int) (k : op_in_R → Option γ) : Option γ := cond (decide (a0 ≥ (0 : Int))) (k (decide (a0 < (111 : Int)))) (k (false))
noncomputable def op_in (a0 : Int) : Option op_in_R := op_in_t a0 some
theorem op_in_t_eq {γ : Type} (a0 : Int) (k : op_in_R → Option γ) : op_in_t a0 k = outOf (op_in a0) k := by
  delta op_in op_in_t; exact (Tr.nd Tr.lf Tr.lf)
noncomputable def op_in_sp : TX.Spec := specD [.val (.int .i64)] [] fun _ a m k => match a, m with | ⟨a0, _⟩, _ => outOf (op_in a0) fun v => k (.lit (.bool v)) []
theorem op_in_ev {α : Type} (a0 : Int) (k : Kont α) : evFun Tryz.prog E7 (op_in_h0) false Tryz.f39 (bodyOf Tryz.f39) 60 (mkS [.val (.int .i64)] (a0, ())) (mkH [] ()) k = outOf (op_in a0) fun v => k (.lit (.bool v)) [] :=
  (show _ = op_in_t a0 (fun v => k (.lit (.bool v)) []) from by kernel_rfl).trans (op_in_t_eq a0 _)
theorem op_in_good : TX.Good Tryz.prog 39 op_in_sp := good_form E7_ok mixed Tryz.func39 (body_of rfl) (by kernel_rfl) false fun α a m k r h => by
  obtain ⟨a0, _⟩ := a; obtain _ := m
  exact ⟨op_in_h0, 60, op_in_h0_ok, rfl, (op_in_ev a0 k).trans h⟩
def op_digit_h0 : Hints := Hints.nil 0
theorem op_digit_h0_ok : op_digit_h0.OK Tryz.prog (bodyOf Tryz.f40) := Hints.nil_ok
abbrev op_digit_R : Type := (Int)
noncomputable def op_digit_t {γ : Type} (a0 : Int) (k : op_digit_R → Option γ) : Option γ := cond (a0 == (63 : Int)) (k ((-1 : Int))) (k (IntKind.wrap IntKind.i64 (IntKind.wrap IntKind.u8 (a0 - (48 : Int)))))
noncomputable def op_digit (a0 : Int) : Option op_digit_R := op_digit_t a0 some
theorem op_digit_t_eq {γ : Type} (a0 : Int) (k : op_digit_R → Option γ) : op_digit_t a0 k = outOf (op_digit a0) k := by
  delta op_digit op_digit_t; exact (Tr.nd Tr.lf Tr.lf)
noncomputable def op_digit_sp : TX.Spec := specD [.val (.int .u8)] [] fun _ a m k => match a, m with | ⟨a0, _⟩, _ => outOf (op_digit a0) fun v => k (.lit (.int .i64 v)) []
theorem op_digit_ev {α : Type} (a0 : Int) (k : Kont α) : evFun Tryz.prog E7 (op_digit_h0) false Tryz.f40 (bodyOf Tryz.f40) 60 (mkS [.val (.int .u8)] (a0, ())) (mkH [] ()) k = outOf (op_digit a0) fun v => k (.lit (.int .i64 v)) [] :=
  (show _ = op_digit_t a0 (fun v => k (.lit (.int .i64 v)) []) from by kernel_rfl).trans (op_digit_t_eq a0 _)
theorem op_digit_good : TX.Good Tryz.prog 40 op_digit_sp := good_form E7_ok mixed Tryz.func40 (body_of rfl) (by kernel_rfl) false fun α a m k r h => by
  obtain ⟨a0, _⟩ := a; obtain _ := m
  exact ⟨op_digit_h0, 60, op_digit_h0_ok, rfl, (op_digit_ev a0 k).trans h⟩
noncomputable def O1 : Env := E7.add 39 true op_in_sp |>.add 40 true op_digit_sp
theorem O1_ok : O1.OK Tryz.prog := ((E7_ok).add_ok op_in_good).add_ok op_digit_good
def op_of_h0 : Hints := Hints.nil 0
theorem op_of_h0_ok : op_of_h0.OK Tryz.prog (bodyOf Tryz.f20) := Hints.nil_ok
abbrev op_of_R : Type := (Int × Int × Int × Bool)
noncomputable def op_of_t {γ : Type} (a0 : Int) (k : op_of_R → Option γ) : Option γ := outOf (op_in a0) fun (x1 : Bool) => cond (!x1) (k ((0 : Int), (-1 : Int), (-1 : Int), false)) (cond (decide ((0 : Int) ≤ a0 ∧ a0 < (111 : Int))) (outOf (op_digit (↑(UInt8.toNat (List.getD (Array.toList (ByteArray.data (bytesOf [48, 48, 49, 48, 48, 50, 50, 48, 49, 48, 48, 48, 49, 48, 48, 49, 49, 49, 49, 49, 50, 50, 51, 50, 50, 50, 50, 52, 52, 49, 49, 49, 48, 50, 50, 50, 50, 50, 50, 51, 51, 49, 49, 49, 49, 49, 49, 50, 50, 50, 50, 50, 49, 50, 50, 50, 50, 50, 50, 50, 49, 49, 51, 50, 50, 51, 51, 51, 49, 52, 50, 49, 49, 49, 49, 49, 50, 49, 50, 50, 51, 51, 51, 49, 50, 49, 49, 48, 48, 48, 50, 50, 49, 49, 50, 48, 48, 48, 48, 48, 48, 49, 48, 51, 48, 48, 48, 49, 49, 49, 48]))) (Int.toNat a0) (UInt8.ofNat (nat_lit 0)))) : Int)) fun (x2 : Int) => cond (decide ((0 : Int) ≤ a0 ∧ a0 < (111 : Int))) (outOf (op_digit (↑(UInt8.toNat (List.getD (Array.toList (ByteArray.data (bytesOf [49, 48, 48, 63, 48, 48, 48, 48, 48, 48, 49, 49, 48, 49, 49, 63, 63, 63, 50, 48, 50, 51, 51, 49, 51, 52, 48, 52, 54, 63, 49, 48, 49, 49, 49, 49, 49, 49, 50, 49, 50, 49, 49, 49, 49, 49, 49, 49, 49, 49, 49, 49, 49, 49, 49, 49, 49, 49, 49, 49, 49, 49, 49, 50, 50, 50, 50, 50, 50, 50, 50, 49, 49, 49, 49, 49, 48, 49, 48, 48, 48, 48, 49, 48, 48, 48, 48, 48, 48, 48, 50, 50, 48, 48, 50, 49, 48, 48, 49, 49, 48, 48, 48, 48, 48, 48, 49, 48, 48, 48, 48]))) (Int.toNat a0) (UInt8.ofNat (nat_lit 0)))) : Int)) fun (x3 : Int) => cond (decide ((0 : Int) ≤ a0 ∧ a0 < (111 : Int))) (outOf (op_digit (↑(UInt8.toNat (List.getD (Array.toList (ByteArray.data (bytesOf [48, 48, 48, 48, 48, 48, 48, 48, 48, 48, 48, 48, 48, 48, 48, 48, 48, 48, 49, 49, 49, 49, 49, 49, 49, 49, 49, 49, 49, 49, 49, 49, 49, 49, 49, 49, 49, 49, 49, 49, 49, 49, 49, 49, 49, 49, 49, 49, 49, 49, 49, 49, 49, 49, 49, 49, 49, 49, 49, 49, 49, 49, 49, 49, 49, 49, 49, 49, 49, 49, 49, 49, 49, 49, 49, 50, 50, 50, 50, 50, 50, 50, 50, 51, 51, 51, 51, 51, 51, 52, 52, 52, 52, 52, 52, 53, 53, 53, 54, 54, 54, 54, 54, 54, 55, 55, 55, 55, 55, 55, 55]))) (Int.toNat a0) (UInt8.ofNat (nat_lit 0)))) : Int)) fun (x4 : Int) => k (x2, x3, x4, true)) (none)) (none)) (none))
noncomputable def op_of (a0 : Int) : Option op_of_R := op_of_t a0 some
theorem op_of_t_eq {γ : Type} (a0 : Int) (k : op_of_R → Option γ) : op_of_t a0 k = outOf (op_of a0) k := by
  delta op_of op_of_t; exact (Tr.bd fun x1 => (Tr.nd Tr.lf (Tr.nd (Tr.bd fun x2 => (Tr.nd (Tr.bd fun x3 => (Tr.nd (Tr.bd fun x4 => Tr.lf) Tr.no)) Tr.no)) Tr.no)))
noncomputable def op_of_sp : TX.Spec := specD [.val (.int .i64)] [] fun _ a m k => match a, m with | ⟨a0, _⟩, _ => outOf (op_of a0) fun v => k (.tup [.agg [.lit (.int .i64 v.1), .lit (.int .i64 v.2.1), .lit (.int .i64 v.2.2.1)], .lit (.bool v.2.2.2)]) []
theorem op_of_ev {α : Type} (a0 : Int) (k : Kont α) : evFun Tryz.prog O1 (op_of_h0) false Tryz.f20 (bodyOf Tryz.f20) 60 (mkS [.val (.int .i64)] (a0, ())) (mkH [] ()) k = outOf (op_of a0) fun v => k (.tup [.agg [.lit (.int .i64 v.1), .lit (.int .i64 v.2.1), .lit (.int .i64 v.2.2.1)], .lit (.bool v.2.2.2)]) [] :=
  (show _ = op_of_t a0 (fun v => k (.tup [.agg [.lit (.int .i64 v.1), .lit (.int .i64 v.2.1), .lit (.int .i64 v.2.2.1)], .lit (.bool v.2.2.2)]) []) from by kernel_rfl).trans (op_of_t_eq a0 _)
theorem op_of_good : TX.Good Tryz.prog 20 op_of_sp := good_form O1_ok mixed Tryz.func20 (body_of rfl) (by kernel_rfl) false fun α a m k r h => by
  obtain ⟨a0, _⟩ := a; obtain _ := m
  exact ⟨op_of_h0, 60, op_of_h0_ok, rfl, (op_of_ev a0 k).trans h⟩
noncomputable def O2 : Env := O1.add 20 true op_of_sp
theorem O2_ok : O2.OK Tryz.prog := (O1_ok).add_ok op_of_good
def op_Needs_h0 : Hints := Hints.nil 0
theorem op_Needs_h0_ok : op_Needs_h0.OK Tryz.prog (bodyOf Tryz.f11) := Hints.nil_ok
abbrev op_Needs_R : Type := (Int)
noncomputable def op_Needs_t {γ : Type} (a0 : Int) (k : op_Needs_R → Option γ) : Option γ := outOf (op_of a0) fun (x1 : (Int × (Int × (Int × Bool)))) => k (Prod.fst x1)
noncomputable def op_Needs (a0 : Int) : Option op_Needs_R := op_Needs_t a0 some
theorem op_Needs_t_eq {γ : Type} (a0 : Int) (k : op_Needs_R → Option γ) : op_Needs_t a0 k = outOf (op_Needs a0) k := by
  delta op_Needs op_Needs_t; exact (Tr.bd fun x1 => Tr.lf)
noncomputable def op_Needs_sp : TX.Spec := specD [.val (.int .i64)] [] fun _ a m k => match a, m with | ⟨a0, _⟩, _ => outOf (op_Needs a0) fun v => k (.lit (.int .i64 v)) []
theorem op_Needs_ev {α : Type} (a0 : Int) (k : Kont α) : evFun Tryz.prog O2 (op_Needs_h0) false Tryz.f11 (bodyOf Tryz.f11) 60 (mkS [.val (.int .i64)] (a0, ())) (mkH [] ()) k = outOf (op_Needs a0) fun v => k (.lit (.int .i64 v)) [] :=
  (show _ = op_Needs_t a0 (fun v => k (.lit (.int .i64 v)) []) from by kernel_rfl).trans (op_Needs_t_eq a0 _)
theorem op_Needs_good : TX.Good Tryz.prog 11 op_Needs_sp := good_form O2_ok mixed Tryz.func11 (body_of rfl) (by kernel_rfl) false fun α a m k r h => by
  obtain ⟨a0, _⟩ := a; obtain _ := m
  exact ⟨op_Needs_h0, 60, op_Needs_h0_ok, rfl, (op_Needs_ev a0 k).trans h⟩
def op_Group_h0 : Hints := Hints.nil 0
theorem op_Group_h0_ok : op_Group_h0.OK Tryz.prog (bodyOf Tryz.f10) := Hints.nil_ok
abbrev op_Group_R : Type := (Int)
noncomputable def op_Group_t {γ : Type} (a0 : Int) (k : op_Group_R → Option γ) : Option γ := outOf (op_of a0) fun (x1 : (Int × (Int × (Int × Bool)))) => k (Prod.fst (Prod.snd (Prod.snd x1)))
noncomputable def op_Group (a0 : Int) : Option op_Group_R := op_Group_t a0 some
theorem op_Group_t_eq {γ : Type} (a0 : Int) (k : op_Group_R → Option γ) : op_Group_t a0 k = outOf (op_Group a0) k := by
  delta op_Group op_Group_t; exact (Tr.bd fun x1 => Tr.lf)
noncomputable def op_Group_sp : TX.Spec := specD [.val (.int .i64)] [] fun _ a m k => match a, m with | ⟨a0, _⟩, _ => outOf (op_Group a0) fun v => k (.lit (.int .i64 v)) []
theorem op_Group_ev {α : Type} (a0 : Int) (k : Kont α) : evFun Tryz.prog O2 (op_Group_h0) false Tryz.f10 (bodyOf Tryz.f10) 60 (mkS [.val (.int .i64)] (a0, ())) (mkH [] ()) k = outOf (op_Group a0) fun v => k (.lit (.int .i64 v)) [] :=
  (show _ = op_Group_t a0 (fun v => k (.lit (.int .i64 v)) []) from by kernel_rfl).trans (op_Group_t_eq a0 _)
theorem op_Group_good : TX.Good Tryz.prog 10 op_Group_sp := good_form O2_ok mixed Tryz.func10 (body_of rfl) (by kernel_rfl) false fun α a m k r h => by
  obtain ⟨a0, _⟩ := a; obtain _ := m
  exact ⟨op_Group_h0, 60, op_Group_h0_ok, rfl, (op_Group_ev a0 k).trans h⟩
noncomputable def O3 : Env := O2.add 11 true op_Needs_sp |>.add 10 true op_Group_sp |>.add 131 false (inl Tryz.prog E7 true Tryz.f131 60)
theorem O3_ok : O3.OK Tryz.prog := (((O2_ok.add_ok op_Needs_good).add_ok op_Group_good)).add_ok (inl_good E7_ok mixed Tryz.func131 (body_of rfl) (by kernel_rfl) true 60)
def slices_Concat_h0 : Hints := Hints.nil 0
theorem slices_Concat_h0_ok : slices_Concat_h0.OK Tryz.prog (bodyOf Tryz.f97) := Hints.nil_ok
def slices_Concat_L1_A : List SD := [.val (.sl (.sl (.int .i64))), .any, .any, .val (.int .i64), .any, .any, .any, .any, .any, .val (.sl (.sl (.int .i64))), .val (.int .i64), .val (.int .i64), .any, .any, .any, .any, .any, .any, .any, .any, .any, .any, .any, .any, .any, .any, .any, .any, .any, .any, .any, .any, .any, .any, .any, .any]
def slices_Concat_L1_H : List HD := []
abbrev slices_Concat_L1_D : Type := (List ((List Int))) × Int × (List ((List Int))) × Int × Int
def slices_Concat_L1_to (a : DenS slices_Concat_L1_A) (m : DenH slices_Concat_L1_H) : slices_Concat_L1_D := (a.1, a.2.2.2.1, a.2.2.2.2.2.2.2.2.2.1, a.2.2.2.2.2.2.2.2.2.2.1, a.2.2.2.2.2.2.2.2.2.2.2.1)
def slices_Concat_L1_ofA (d : slices_Concat_L1_D) : DenS slices_Concat_L1_A := match d with | (s0, s3, s9, s10, s11) => (s0, (), (), s3, (), (), (), (), (), s9, s10, s11, (), (), (), (), (), (), (), (), (), (), (), (), (), (), (), (), (), (), (), (), (), (), (), (), ())
def slices_Concat_L1_ofH (d : slices_Concat_L1_D) : DenH slices_Concat_L1_H := match d with | (s0, s3, s9, s10, s11) => ()
def slices_Concat_L1_N : Norm := (⟨[0, 3, 9, 10, 11], [], []⟩ : Go.TX.Norm)
def slices_Concat_L1_X : Exit → Norm := fun e => match e with | .exit 0 => ⟨[0, 3], [], []⟩ | _ => ⟨[], [], []⟩
abbrev slices_Concat_L1_R : Type := ((List (List Int)) × Int)
def slices_Concat_L1_fin (v : slices_Concat_L1_R) : Exit × St := ((.exit 0), ⟨[.sl (.sl (.int .i64)) v.1 false, .any, .any, .lit (.int .i64 v.2), .any, .any, .any, .any, .any, .any, .any, .any, .any, .any, .any, .any, .any, .any, .any, .any, .any, .any, .any, .any, .any, .any, .any, .any, .any, .any, .any, .any, .any, .any, .any, .any], []⟩)
noncomputable def slices_Concat_L1_t {γ : Type} (s0 : (List ((List Int)))) (s3 : Int) (s9 : (List ((List Int)))) (s10 : Int) (s11 : Int) (next : slices_Concat_L1_D → Option γ) (out : slices_Concat_L1_R → Option γ) : Option γ := cond (decide (s11 < s10)) (cond (decide ((0 : Int) ≤ s11 ∧ s11 < (↑(List.length s9) : Int))) (cond (decide (IntKind.wrap IntKind.i64 (s3 + (↑(List.length (List.getD s9 (Int.toNat s11) [])) : Int)) < (0 : Int))) (none) (next (s0, IntKind.wrap IntKind.i64 (s3 + (↑(List.length (List.getD s9 (Int.toNat s11) [])) : Int)), s9, s10, IntKind.wrap IntKind.i64 (s11 + (1 : Int))))) (none)) (out (s0, s3))
noncomputable def slices_Concat_L1_pass (d : slices_Concat_L1_D) : Option (slices_Concat_L1_D ⊕ slices_Concat_L1_R) := slices_Concat_L1_t d.1 d.2.1 d.2.2.1 d.2.2.2.1 d.2.2.2.2 (fun d => some (.inl d)) (fun x => some (.inr x))
theorem slices_Concat_L1_t_eq {γ : Type} (s0 : (List ((List Int)))) (s3 : Int) (s9 : (List ((List Int)))) (s10 : Int) (s11 : Int) (next : slices_Concat_L1_D → Option γ) (out : slices_Concat_L1_R → Option γ) : slices_Concat_L1_t s0 s3 s9 s10 s11 next out = PassOf (slices_Concat_L1_t s0 s3 s9 s10 s11 (fun d => some (.inl d)) (fun x => some (.inr x))) next out := by
  delta slices_Concat_L1_t; exact (Ps.nd (Ps.nd (Ps.nd Ps.no Ps.nx) Ps.no) Ps.ou)
theorem slices_Concat_L1_ev (α : Type) (d : slices_Concat_L1_D) (next : slices_Concat_L1_D → Option α) (k : Exit → St → Option α) : ev Tryz.prog O3 slices_Concat_h0 60 [0, 0, 1, 0, 1, 1] ((codeAt (bodyOf Tryz.f97) [0, 0, 1, 0, 1, 1]).getD .skip) ⟨mkS slices_Concat_L1_A (slices_Concat_L1_ofA d), mkH slices_Concat_L1_H (slices_Concat_L1_ofH d)⟩ (passK 0 slices_Concat_L1_N slices_Concat_L1_A slices_Concat_L1_H slices_Concat_L1_X (fun a m => next (slices_Concat_L1_to a m)) k) = PassOf (slices_Concat_L1_pass d) next fun x => k (slices_Concat_L1_fin x).1 (slices_Concat_L1_fin x).2 := by
  obtain ⟨s0, s3, s9, s10, s11⟩ := d
  exact (show _ = slices_Concat_L1_t s0 s3 s9 s10 s11 next (fun x => k (slices_Concat_L1_fin x).1 (slices_Concat_L1_fin x).2) from by kernel_rfl).trans (slices_Concat_L1_t_eq s0 s3 s9 s10 s11 _ _)
noncomputable def slices_Concat_L1 (d : slices_Concat_L1_D) : Option slices_Concat_L1_R := runs slices_Concat_L1_pass d
noncomputable def slices_Concat_L1_sp : CSpec := fun _ st k => reNorm 0 slices_Concat_L1_N slices_Concat_L1_A slices_Concat_L1_H st fun a m => outOf (slices_Concat_L1 (slices_Concat_L1_to a m)) fun v => k (.exit 0) ⟨[.sl (.sl (.int .i64)) v.1 false, .any, .any, .lit (.int .i64 v.2), .any, .any, .any, .any, .any, .any, .any, .any, .any, .any, .any, .any, .any, .any, .any, .any, .any, .any, .any, .any, .any, .any, .any, .any, .any, .any, .any, .any, .any, .any, .any, .any], []⟩
theorem slices_Concat_L1_ok : SumOK Tryz.prog 0 (.loop ((codeAt (bodyOf Tryz.f97) [0, 0, 1, 0, 1, 1]).getD .skip)) slices_Concat_L1_sp := (SumOK.loop O3_ok mixed slices_Concat_h0_ok (show codeAt (bodyOf Tryz.f97) [0, 1, 0, 1, 1] = some (.loop ((codeAt (bodyOf Tryz.f97) [0, 0, 1, 0, 1, 1]).getD .skip)) from by kernel_rfl) (N := slices_Concat_L1_N) (Nx := slices_Concat_L1_X) (A := slices_Concat_L1_A) (Hs := slices_Concat_L1_H) (toD := slices_Concat_L1_to) (ofA := slices_Concat_L1_ofA) (ofH := slices_Concat_L1_ofH) (fun _ _ => rfl) (fun _ _ => rfl) (pass := slices_Concat_L1_pass) (fin := slices_Concat_L1_fin) 60 slices_Concat_L1_ev (steps slices_Concat_L1_pass)).mono fun α st k r h => by
  refine Eq.trans (congrArg (reNorm 0 slices_Concat_L1_N slices_Concat_L1_A slices_Concat_L1_H st) ?_) h
  funext a m
  exact outOf_congr fun x => rfl
noncomputable def slices_Concat_L1_h : Hints := slices_Concat_h0.add [0, 1, 0, 1, 1] slices_Concat_L1_sp
theorem slices_Concat_L1_h_ok : slices_Concat_L1_h.OK Tryz.prog (bodyOf Tryz.f97) := slices_Concat_h0_ok.add (show codeAt (bodyOf Tryz.f97) [0, 1, 0, 1, 1] = some (.loop ((codeAt (bodyOf Tryz.f97) [0, 0, 1, 0, 1, 1]).getD .skip)) from by kernel_rfl) slices_Concat_L1_ok
def slices_Concat_L2_A : List SD := [.any, .any, .any, .any, .any, .any, .rowz 0, .any, .any, .any, .any, .any, .any, .any, .any, .any, .any, .any, .any, .any, .any, .any, .any, .any, .any, .val (.sl (.sl (.int .i64))), .val (.int .i64), .val (.int .i64), .any, .any, .any, .any, .any, .any, .any, .any]
def slices_Concat_L2_H : List HD := [.row (.int .i64)]
abbrev slices_Concat_L2_D : Type := Nat × (List ((List Int))) × Int × Int × (List Int)
def slices_Concat_L2_to (a : DenS slices_Concat_L2_A) (m : DenH slices_Concat_L2_H) : slices_Concat_L2_D := (a.2.2.2.2.2.2.1, a.2.2.2.2.2.2.2.2.2.2.2.2.2.2.2.2.2.2.2.2.2.2.2.2.2.1, a.2.2.2.2.2.2.2.2.2.2.2.2.2.2.2.2.2.2.2.2.2.2.2.2.2.2.1, a.2.2.2.2.2.2.2.2.2.2.2.2.2.2.2.2.2.2.2.2.2.2.2.2.2.2.2.1, m.1)
def slices_Concat_L2_ofA (d : slices_Concat_L2_D) : DenS slices_Concat_L2_A := match d with | (s6_n, s25, s26, s27, m0) => ((), (), (), (), (), (), s6_n, (), (), (), (), (), (), (), (), (), (), (), (), (), (), (), (), (), (), s25, s26, s27, (), (), (), (), (), (), (), (), ())
def slices_Concat_L2_ofH (d : slices_Concat_L2_D) : DenH slices_Concat_L2_H := match d with | (s6_n, s25, s26, s27, m0) => (m0, ())
def slices_Concat_L2_N : Norm := (⟨[6, 25, 26, 27], [6], []⟩ : Go.TX.Norm)
def slices_Concat_L2_X : Exit → Norm := fun e => match e with | .exit 2 => ⟨[6], [], []⟩ | _ => ⟨[], [], []⟩
abbrev slices_Concat_L2_R : Type := (Nat × (List Int))
def slices_Concat_L2_fin (v : slices_Concat_L2_R) : Exit × St := ((.exit 2), ⟨[.any, .any, .any, .any, .any, .any, .msl 0 0 v.1, .any, .any, .any, .any, .any, .any, .any, .any, .any, .any, .any, .any, .any, .any, .any, .any, .any, .any, .any, .any, .any, .any, .any, .any, .any, .any, .any, .any, .any], [.row (.int .i64) v.2]⟩)
noncomputable def slices_Concat_L2_t {γ : Type} (s6_n : Nat) (s25 : (List ((List Int)))) (s26 : Int) (s27 : Int) (m0 : (List Int)) (next : slices_Concat_L2_D → Option γ) (out : slices_Concat_L2_R → Option γ) : Option γ := cond (decide (s27 < s26)) (cond (decide ((0 : Int) ≤ s27 ∧ s27 < (↑(List.length s25) : Int))) (cond (decide (s6_n + List.length (List.getD s25 (Int.toNat s27) []) ≤ (2147483648 : Nat))) (next (s6_n + List.length (List.getD s25 (Int.toNat s27) []), s25, s26, IntKind.wrap IntKind.i64 (s27 + (1 : Int)), List.take s6_n (List.drop (0 : Nat) m0) ++ List.getD s25 (Int.toNat s27) [])) (none)) (none)) (out (s6_n, m0))
noncomputable def slices_Concat_L2_pass (d : slices_Concat_L2_D) : Option (slices_Concat_L2_D ⊕ slices_Concat_L2_R) := slices_Concat_L2_t d.1 d.2.1 d.2.2.1 d.2.2.2.1 d.2.2.2.2 (fun d => some (.inl d)) (fun x => some (.inr x))
theorem slices_Concat_L2_t_eq {γ : Type} (s6_n : Nat) (s25 : (List ((List Int)))) (s26 : Int) (s27 : Int) (m0 : (List Int)) (next : slices_Concat_L2_D → Option γ) (out : slices_Concat_L2_R → Option γ) : slices_Concat_L2_t s6_n s25 s26 s27 m0 next out = PassOf (slices_Concat_L2_t s6_n s25 s26 s27 m0 (fun d => some (.inl d)) (fun x => some (.inr x))) next out := by
  delta slices_Concat_L2_t; exact (Ps.nd (Ps.nd (Ps.nd Ps.nx Ps.no) Ps.no) Ps.ou)
theorem slices_Concat_L2_ev (α : Type) (d : slices_Concat_L2_D) (next : slices_Concat_L2_D → Option α) (k : Exit → St → Option α) : ev Tryz.prog O3 slices_Concat_L1_h 60 [0, 0, 1, 0, 1, 1, 1, 1] ((codeAt (bodyOf Tryz.f97) [0, 0, 1, 0, 1, 1, 1, 1]).getD .skip) ⟨mkS slices_Concat_L2_A (slices_Concat_L2_ofA d), mkH slices_Concat_L2_H (slices_Concat_L2_ofH d)⟩ (passK 0 slices_Concat_L2_N slices_Concat_L2_A slices_Concat_L2_H slices_Concat_L2_X (fun a m => next (slices_Concat_L2_to a m)) k) = PassOf (slices_Concat_L2_pass d) next fun x => k (slices_Concat_L2_fin x).1 (slices_Concat_L2_fin x).2 := by
  obtain ⟨s6_n, s25, s26, s27, m0⟩ := d
  exact (show _ = slices_Concat_L2_t s6_n s25 s26 s27 m0 next (fun x => k (slices_Concat_L2_fin x).1 (slices_Concat_L2_fin x).2) from by kernel_rfl).trans (slices_Concat_L2_t_eq s6_n s25 s26 s27 m0 _ _)
noncomputable def slices_Concat_L2 (d : slices_Concat_L2_D) : Option slices_Concat_L2_R := runs slices_Concat_L2_pass d
noncomputable def slices_Concat_L2_sp : CSpec := fun _ st k => reNorm 0 slices_Concat_L2_N slices_Concat_L2_A slices_Concat_L2_H st fun a m => outOf (slices_Concat_L2 (slices_Concat_L2_to a m)) fun v => k (.exit 2) ⟨[.any, .any, .any, .any, .any, .any, .msl 0 0 v.1, .any, .any, .any, .any, .any, .any, .any, .any, .any, .any, .any, .any, .any, .any, .any, .any, .any, .any, .any, .any, .any, .any, .any, .any, .any, .any, .any, .any, .any], [.row (.int .i64) v.2]⟩
theorem slices_Concat_L2_ok : SumOK Tryz.prog 0 (.loop ((codeAt (bodyOf Tryz.f97) [0, 0, 1, 0, 1, 1, 1, 1]).getD .skip)) slices_Concat_L2_sp := (SumOK.loop O3_ok mixed slices_Concat_L1_h_ok (show codeAt (bodyOf Tryz.f97) [0, 1, 0, 1, 1, 1, 1] = some (.loop ((codeAt (bodyOf Tryz.f97) [0, 0, 1, 0, 1, 1, 1, 1]).getD .skip)) from by kernel_rfl) (N := slices_Concat_L2_N) (Nx := slices_Concat_L2_X) (A := slices_Concat_L2_A) (Hs := slices_Concat_L2_H) (toD := slices_Concat_L2_to) (ofA := slices_Concat_L2_ofA) (ofH := slices_Concat_L2_ofH) (fun _ _ => rfl) (fun _ _ => rfl) (pass := slices_Concat_L2_pass) (fin := slices_Concat_L2_fin) 60 slices_Concat_L2_ev (steps slices_Concat_L2_pass)).mono fun α st k r h => by
  refine Eq.trans (congrArg (reNorm 0 slices_Concat_L2_N slices_Concat_L2_A slices_Concat_L2_H st) ?_) h
  funext a m
  exact outOf_congr fun x => rfl
noncomputable def slices_Concat_L2_h : Hints := slices_Concat_L1_h.add [0, 1, 0, 1, 1, 1, 1] slices_Concat_L2_sp
theorem slices_Concat_L2_h_ok : slices_Concat_L2_h.OK Tryz.prog (bodyOf Tryz.f97) := slices_Concat_L1_h_ok.add (show codeAt (bodyOf Tryz.f97) [0, 1, 0, 1, 1, 1, 1] = some (.loop ((codeAt (bodyOf Tryz.f97) [0, 0, 1, 0, 1, 1, 1, 1]).getD .skip)) from by kernel_rfl) slices_Concat_L2_ok
abbrev slices_Concat_R : Type := ((List Int))
noncomputable def slices_Concat_t {γ : Type} (a0 : (List ((List Int)))) (k : slices_Concat_R → Option γ) : Option γ := outOf (slices_Concat_L1 (a0, (0 : Int), a0, (↑(List.length a0) : Int), (0 : Int))) fun (x3 : ((List (List Int)) × Int)) => cond (decide (Prod.snd x3 < (0 : Int))) (none) (cond (decide (IntKind.wrap IntKind.i64 (Prod.snd x3 - (0 : Int)) > (0 : Int))) (cond (decide ((1 : Int) ≤ IntKind.wrap IntKind.i64 (Prod.snd x3 - (0 : Int)) ∧ IntKind.wrap IntKind.i64 (Prod.snd x3 - (0 : Int)) ≤ (2147483648 : Int))) (outOf (slices_Concat_L2 ((0 : Nat), Prod.fst x3, (↑(List.length (Prod.fst x3)) : Int), (0 : Int), List.replicate (Int.toNat (IntKind.wrap IntKind.i64 (Prod.snd x3 - (0 : Int)))) (0 : Int))) fun (x4 : (Nat × (List Int))) => k (List.take (Prod.fst x4) (List.drop (0 : Nat) (Prod.snd x4)))) (none)) (outOf (slices_Concat_L2 ((0 : Nat), Prod.fst x3, (↑(List.length (Prod.fst x3)) : Int), (0 : Int), [])) fun (x5 : (Nat × (List Int))) => k (List.take (Prod.fst x5) (List.drop (0 : Nat) (Prod.snd x5)))))
noncomputable def slices_Concat (a0 : (List ((List Int)))) : Option slices_Concat_R := slices_Concat_t a0 some
theorem slices_Concat_t_eq {γ : Type} (a0 : (List ((List Int)))) (k : slices_Concat_R → Option γ) : slices_Concat_t a0 k = outOf (slices_Concat a0) k := by
  delta slices_Concat slices_Concat_t; exact (Tr.bd fun x3 => (Tr.nd Tr.no (Tr.nd (Tr.nd (Tr.bd fun x4 => Tr.lf) Tr.no) (Tr.bd fun x5 => Tr.lf))))
noncomputable def slices_Concat_sp : TX.Spec := specD [.val (.sl (.sl (.int .i64)))] [] fun _ a m k => match a, m with | ⟨a0, _⟩, _ => outOf (slices_Concat a0) fun v => k (.sl (.int .i64) v false) []
theorem slices_Concat_ev {α : Type} (a0 : (List ((List Int)))) (k : Kont α) : evFun Tryz.prog O3 (slices_Concat_L2_h) false Tryz.f97 (bodyOf Tryz.f97) 60 (mkS [.val (.sl (.sl (.int .i64)))] (a0, ())) (mkH [] ()) k = outOf (slices_Concat a0) fun v => k (.sl (.int .i64) v false) [] :=
  (show _ = slices_Concat_t a0 (fun v => k (.sl (.int .i64) v false) []) from by kernel_rfl).trans (slices_Concat_t_eq a0 _)
theorem slices_Concat_good : TX.Good Tryz.prog 97 slices_Concat_sp := good_form O3_ok mixed Tryz.func97 (body_of rfl) (by kernel_rfl) false fun α a m k r h => by
  obtain ⟨a0, _⟩ := a; obtain _ := m
  exact ⟨slices_Concat_L2_h, 60, slices_Concat_L2_h_ok, rfl, (slices_Concat_ev a0 k).trans h⟩
noncomputable def O4 : Env := O3.add 97 true slices_Concat_sp
theorem O4_ok : O4.OK Tryz.prog := (O3_ok).add_ok slices_Concat_good
def stk_Push_h0 : Hints := Hints.nil 0
theorem stk_Push_h0_ok : stk_Push_h0.OK Tryz.prog (bodyOf Tryz.f27) := Hints.nil_ok
abbrev stk_Push_R : Type := ((List Int) × Int)
noncomputable def stk_Push_t {γ : Type} (a0 : (List Int)) (a1 : Int) (a2 : (List Int)) (k : stk_Push_R → Option γ) : Option γ := cond (decide (IntKind.wrap IntKind.i64 ((↑(List.length a0) : Int) + (↑(List.length a2) : Int)) > a1)) (k (a0, (-3 : Int))) (outOf (slices_Concat [a0, a2]) fun (x1 : (List Int)) => k (x1, (0 : Int)))
noncomputable def stk_Push (a0 : (List Int)) (a1 : Int) (a2 : (List Int)) : Option stk_Push_R := stk_Push_t a0 a1 a2 some
theorem stk_Push_t_eq {γ : Type} (a0 : (List Int)) (a1 : Int) (a2 : (List Int)) (k : stk_Push_R → Option γ) : stk_Push_t a0 a1 a2 k = outOf (stk_Push a0 a1 a2) k := by
  delta stk_Push stk_Push_t; exact (Tr.nd Tr.lf (Tr.bd fun x1 => Tr.lf))
noncomputable def stk_Push_sp : TX.Spec := specD [.val (.sl (.int .i64)), .val (.int .i64), .val (.sl (.int .i64))] [] fun _ a m k => match a, m with | ⟨a0, a1, a2, _⟩, _ => outOf (stk_Push a0 a1 a2) fun v => k (.tup [.sl (.int .i64) v.1 false, .lit (.int .i64 v.2)]) []
theorem stk_Push_ev {α : Type} (a0 : (List Int)) (a1 : Int) (a2 : (List Int)) (k : Kont α) : evFun Tryz.prog O4 (stk_Push_h0) false Tryz.f27 (bodyOf Tryz.f27) 60 (mkS [.val (.sl (.int .i64)), .val (.int .i64), .val (.sl (.int .i64))] (a0, a1, a2, ())) (mkH [] ()) k = outOf (stk_Push a0 a1 a2) fun v => k (.tup [.sl (.int .i64) v.1 false, .lit (.int .i64 v.2)]) [] :=
  (show _ = stk_Push_t a0 a1 a2 (fun v => k (.tup [.sl (.int .i64) v.1 false, .lit (.int .i64 v.2)]) []) from by kernel_rfl).trans (stk_Push_t_eq a0 a1 a2 _)
theorem stk_Push_good : TX.Good Tryz.prog 27 stk_Push_sp := good_form O4_ok mixed Tryz.func27 (body_of rfl) (by kernel_rfl) false fun α a m k r h => by
  obtain ⟨a0, a1, a2, _⟩ := a; obtain _ := m
  exact ⟨stk_Push_h0, 60, stk_Push_h0_ok, rfl, (stk_Push_ev a0 a1 a2 k).trans h⟩
def stk_Pop_h0 : Hints := Hints.nil 0
theorem stk_Pop_h0_ok : stk_Pop_h0.OK Tryz.prog (bodyOf Tryz.f26) := Hints.nil_ok
def stk_Pop_M1_A : List SD := [.val (.sl (.int .i64)), .val (.int .i64), .any, .any, .any, .any, .any, .val (.int .i64), .any, .any, .any, .any, .any, .any, .any, .any, .any, .any, .any, .any, .any, .any, .any, .any, .any, .any, .any, .any, .any, .any]
def stk_Pop_M1_H : List HD := []
abbrev stk_Pop_M1_D : Type := (List Int) × Int × Int
def stk_Pop_M1_to (a : DenS stk_Pop_M1_A) (m : DenH stk_Pop_M1_H) : stk_Pop_M1_D := (a.1, a.2.1, a.2.2.2.2.2.2.2.1)
def stk_Pop_M1_ofA (d : stk_Pop_M1_D) : DenS stk_Pop_M1_A := match d with | (s0, s1, s7) => (s0, s1, (), (), (), (), (), s7, (), (), (), (), (), (), (), (), (), (), (), (), (), (), (), (), (), (), (), (), (), (), ())
def stk_Pop_M1_ofH (d : stk_Pop_M1_D) : DenH stk_Pop_M1_H := match d with | (s0, s1, s7) => ()
def stk_Pop_M1_N : Norm := (⟨[0, 1, 7], [], []⟩ : Go.TX.Norm)
def stk_Pop_M1_X : Exit → Norm := fun e => match e with | .normal => ⟨[0, 7], [], []⟩ | .ret => ⟨[4, 5, 6], [], []⟩ | _ => ⟨[], [], []⟩
abbrev stk_Pop_M1_R : Type := (((List Int) × Int) ⊕ (Unit))
def stk_Pop_M1_fin (d : stk_Pop_M1_D) (v : stk_Pop_M1_R) : Exit × St := sumOf v (fun v => (.ret, ⟨[.any, .any, .any, .any, .sl (.int .i64) d.1 false, .sl (.int .i64) v.1 true, .lit (.int .i64 v.2), .any, .any, .any, .any, .any, .any, .any, .any, .any, .any, .any, .any, .any, .any, .any, .any, .any, .any, .any, .any, .any, .any, .any], []⟩)) (fun v => (.normal, ⟨[.sl (.int .i64) d.1 false, .any, .any, .any, .any, .any, .any, .lit (.int .i64 d.2.2), .any, .any, .any, .any, .any, .any, .any, .any, .any, .any, .any, .any, .any, .any, .any, .any, .any, .any, .any, .any, .any, .any], []⟩))
noncomputable def stk_Pop_M1_t {γ : Type} (s1 : Int) (s7 : Int) (k : stk_Pop_M1_R → Option γ) : Option γ := cond (decide (s1 < (0 : Int))) (k (.inl ([], (-4 : Int)))) (cond (decide (s7 < (0 : Int))) (k (.inl ([], (-4 : Int)))) (k (.inr ())))
noncomputable def stk_Pop_M1 (s1 : Int) (s7 : Int) : Option stk_Pop_M1_R := stk_Pop_M1_t s1 s7 some
theorem stk_Pop_M1_t_eq {γ : Type} (s1 : Int) (s7 : Int) (k : stk_Pop_M1_R → Option γ) : stk_Pop_M1_t s1 s7 k = outOf (stk_Pop_M1 s1 s7) k := by
  delta stk_Pop_M1 stk_Pop_M1_t; exact (Tr.nd Tr.lf (Tr.nd Tr.lf Tr.lf))
theorem stk_Pop_M1_ev (α : Type) (d : stk_Pop_M1_D) (k : Exit → St → Option α) : ev Tryz.prog O4 stk_Pop_h0 60 [0, 1, 1] ((codeAt (bodyOf Tryz.f26) [0, 1, 1]).getD .skip) ⟨mkS stk_Pop_M1_A (stk_Pop_M1_ofA d), mkH stk_Pop_M1_H (stk_Pop_M1_ofH d)⟩ (exitN 0 stk_Pop_M1_X k) = outOf (stk_Pop_M1 d.2.1 d.2.2) fun x => k (stk_Pop_M1_fin d x).1 (stk_Pop_M1_fin d x).2 := by
  obtain ⟨s0, s1, s7⟩ := d
  exact (show _ = stk_Pop_M1_t s1 s7 (fun x => k (stk_Pop_M1_fin (s0, s1, s7) x).1 (stk_Pop_M1_fin (s0, s1, s7) x).2) from by kernel_rfl).trans (stk_Pop_M1_t_eq s1 s7 _)
noncomputable def stk_Pop_M1_sp : CSpec := fun _ st k => reNorm 0 stk_Pop_M1_N stk_Pop_M1_A stk_Pop_M1_H st fun a m => outOf (stk_Pop_M1 (stk_Pop_M1_to a m).2.1 (stk_Pop_M1_to a m).2.2) fun v => sumOf v (fun v => k .ret ⟨[.any, .any, .any, .any, .sl (.int .i64) (stk_Pop_M1_to a m).1 false, .sl (.int .i64) v.1 true, .lit (.int .i64 v.2), .any, .any, .any, .any, .any, .any, .any, .any, .any, .any, .any, .any, .any, .any, .any, .any, .any, .any, .any, .any, .any, .any, .any], []⟩) (fun v => k .normal ⟨[.sl (.int .i64) (stk_Pop_M1_to a m).1 false, .any, .any, .any, .any, .any, .any, .lit (.int .i64 (stk_Pop_M1_to a m).2.2), .any, .any, .any, .any, .any, .any, .any, .any, .any, .any, .any, .any, .any, .any, .any, .any, .any, .any, .any, .any, .any, .any], []⟩)
theorem stk_Pop_M1_ok : SumOK Tryz.prog 0 ((codeAt (bodyOf Tryz.f26) [0, 1, 1]).getD .skip) stk_Pop_M1_sp := (SumOK.once O4_ok mixed stk_Pop_h0_ok (show codeAt (bodyOf Tryz.f26) [0, 1, 1] = some ((codeAt (bodyOf Tryz.f26) [0, 1, 1]).getD .skip) from by kernel_rfl) (N := stk_Pop_M1_N) (Nx := stk_Pop_M1_X) (A := stk_Pop_M1_A) (Hs := stk_Pop_M1_H) (toD := stk_Pop_M1_to) (ofA := stk_Pop_M1_ofA) (ofH := stk_Pop_M1_ofH) (fun _ _ => rfl) (fun _ _ => rfl) (M := fun d => stk_Pop_M1 d.2.1 d.2.2) (fin := stk_Pop_M1_fin) 60 stk_Pop_M1_ev).mono fun α st k r h => by
  refine Eq.trans (congrArg (reNorm 0 stk_Pop_M1_N stk_Pop_M1_A stk_Pop_M1_H st) ?_) h
  funext a m
  exact outOf_congr fun x => by rcases x with x | x <;> rfl
noncomputable def stk_Pop_M1_h : Hints := stk_Pop_h0.add [0, 1, 1] stk_Pop_M1_sp
theorem stk_Pop_M1_h_ok : stk_Pop_M1_h.OK Tryz.prog (bodyOf Tryz.f26) := stk_Pop_h0_ok.add (show codeAt (bodyOf Tryz.f26) [0, 1, 1] = some ((codeAt (bodyOf Tryz.f26) [0, 1, 1]).getD .skip) from by kernel_rfl) stk_Pop_M1_ok
abbrev stk_Pop_R : Type := ((List Int) × (List Int) × Int)
noncomputable def stk_Pop_t {γ : Type} (a0 : (List Int)) (a1 : Int) (k : stk_Pop_R → Option γ) : Option γ := outOf (stk_Pop_M1 a1 (IntKind.wrap IntKind.i64 ((↑(List.length a0) : Int) - a1))) fun (x4 : List Int × Int ⊕ Unit) => sumOf x4 (fun x5 => k (a0, Prod.fst x5, Prod.snd x5)) (fun x6 => cond (decide ((0 : Int) ≤ (0 : Int) ∧ (0 : Int) ≤ IntKind.wrap IntKind.i64 ((↑(List.length a0) : Int) - a1) ∧ IntKind.wrap IntKind.i64 ((↑(List.length a0) : Int) - a1) ≤ IntKind.wrap IntKind.i64 ((↑(List.length a0) : Int) - a1) ∧ IntKind.wrap IntKind.i64 ((↑(List.length a0) : Int) - a1) ≤ (↑(List.length a0) : Int))) (cond (decide ((0 : Int) ≤ IntKind.wrap IntKind.i64 ((↑(List.length a0) : Int) - a1) ∧ IntKind.wrap IntKind.i64 ((↑(List.length a0) : Int) - a1) ≤ (↑(List.length a0) : Int) ∧ (↑(List.length a0) : Int) ≤ (↑(List.length a0) : Int) ∧ (↑(List.length a0) : Int) ≤ (↑(List.length a0) : Int))) (k (List.take (Int.toNat (IntKind.wrap IntKind.i64 ((↑(List.length a0) : Int) - a1)) - (0 : Nat)) (List.drop (0 : Nat) a0), List.take (Int.toNat (↑(List.length a0) : Int) - Int.toNat (IntKind.wrap IntKind.i64 ((↑(List.length a0) : Int) - a1))) (List.drop (Int.toNat (IntKind.wrap IntKind.i64 ((↑(List.length a0) : Int) - a1))) a0), (0 : Int))) (none)) (none))
noncomputable def stk_Pop (a0 : (List Int)) (a1 : Int) : Option stk_Pop_R := stk_Pop_t a0 a1 some
theorem stk_Pop_t_eq {γ : Type} (a0 : (List Int)) (a1 : Int) (k : stk_Pop_R → Option γ) : stk_Pop_t a0 a1 k = outOf (stk_Pop a0 a1) k := by
  delta stk_Pop stk_Pop_t; exact (Tr.bd fun x4 => (Tr.cs (fun x5 => Tr.lf) (fun x6 => (Tr.nd (Tr.nd Tr.lf Tr.no) Tr.no))))
noncomputable def stk_Pop_sp : TX.Spec := specD [.val (.sl (.int .i64)), .val (.int .i64)] [] fun _ a m k => match a, m with | ⟨a0, a1, _⟩, _ => outOf (stk_Pop a0 a1) fun v => k (.tup [.sl (.int .i64) v.1 false, .sl (.int .i64) v.2.1 false, .lit (.int .i64 v.2.2)]) []
theorem stk_Pop_ev {α : Type} (a0 : (List Int)) (a1 : Int) (k : Kont α) : evFun Tryz.prog O4 (stk_Pop_M1_h) false Tryz.f26 (bodyOf Tryz.f26) 60 (mkS [.val (.sl (.int .i64)), .val (.int .i64)] (a0, a1, ())) (mkH [] ()) (fun v H => k (weakF v) H) = outOf (stk_Pop a0 a1) fun v => k (.tup [.sl (.int .i64) v.1 false, .sl (.int .i64) v.2.1 false, .lit (.int .i64 v.2.2)]) [] :=
  (show _ = stk_Pop_t a0 a1 (fun v => k (.tup [.sl (.int .i64) v.1 false, .sl (.int .i64) v.2.1 false, .lit (.int .i64 v.2.2)]) []) from by kernel_rfl).trans (stk_Pop_t_eq a0 a1 _)
theorem stk_Pop_good : TX.Good Tryz.prog 26 stk_Pop_sp := good_form_weak O4_ok mixed Tryz.func26 (body_of rfl) (by kernel_rfl) false stk_Pop_M1_h 60 stk_Pop_M1_h_ok rfl fun α a m k r h => by
  obtain ⟨a0, a1, _⟩ := a; obtain _ := m
  exact (stk_Pop_ev a0 a1 k).trans h
def stk_Pick_h0 : Hints := Hints.nil 0
theorem stk_Pick_h0_ok : stk_Pick_h0.OK Tryz.prog (bodyOf Tryz.f114) := Hints.nil_ok
abbrev stk_Pick_R : Type := (Int × Int)
noncomputable def stk_Pick_t {γ : Type} (a0 : (List Int)) (a1 : Int) (k : stk_Pick_R → Option γ) : Option γ := cond (decide (a1 < (0 : Int))) (k ((0 : Int), (-4 : Int))) (cond (decide (a1 ≥ (↑(List.length a0) : Int))) (k ((0 : Int), (-4 : Int))) (cond (decide ((0 : Int) ≤ IntKind.wrap IntKind.i64 (IntKind.wrap IntKind.i64 ((↑(List.length a0) : Int) - (1 : Int)) - a1) ∧ IntKind.wrap IntKind.i64 (IntKind.wrap IntKind.i64 ((↑(List.length a0) : Int) - (1 : Int)) - a1) < (↑(List.length a0) : Int))) (k (List.getD a0 (Int.toNat (IntKind.wrap IntKind.i64 (IntKind.wrap IntKind.i64 ((↑(List.length a0) : Int) - (1 : Int)) - a1))) (0 : Int), (0 : Int))) (none)))
noncomputable def stk_Pick (a0 : (List Int)) (a1 : Int) : Option stk_Pick_R := stk_Pick_t a0 a1 some
theorem stk_Pick_t_eq {γ : Type} (a0 : (List Int)) (a1 : Int) (k : stk_Pick_R → Option γ) : stk_Pick_t a0 a1 k = outOf (stk_Pick a0 a1) k := by
  delta stk_Pick stk_Pick_t; exact (Tr.nd Tr.lf (Tr.nd Tr.lf (Tr.nd Tr.lf Tr.no)))
noncomputable def stk_Pick_sp : TX.Spec := specD [.val (.sl (.int .i64)), .val (.int .i64)] [] fun _ a m k => match a, m with | ⟨a0, a1, _⟩, _ => outOf (stk_Pick a0 a1) fun v => k (.tup [.lit (.int .i64 v.1), .lit (.int .i64 v.2)]) []
theorem stk_Pick_ev {α : Type} (a0 : (List Int)) (a1 : Int) (k : Kont α) : evFun Tryz.prog O4 (stk_Pick_h0) false Tryz.f114 (bodyOf Tryz.f114) 60 (mkS [.val (.sl (.int .i64)), .val (.int .i64)] (a0, a1, ())) (mkH [] ()) k = outOf (stk_Pick a0 a1) fun v => k (.tup [.lit (.int .i64 v.1), .lit (.int .i64 v.2)]) [] :=
  (show _ = stk_Pick_t a0 a1 (fun v => k (.tup [.lit (.int .i64 v.1), .lit (.int .i64 v.2)]) []) from by kernel_rfl).trans (stk_Pick_t_eq a0 a1 _)
theorem stk_Pick_good : TX.Good Tryz.prog 114 stk_Pick_sp := good_form O4_ok mixed Tryz.func114 (body_of rfl) (by kernel_rfl) false fun α a m k r h => by
  obtain ⟨a0, a1, _⟩ := a; obtain _ := m
  exact ⟨stk_Pick_h0, 60, stk_Pick_h0_ok, rfl, (stk_Pick_ev a0 a1 k).trans h⟩
noncomputable def O5 : Env := O4.add 27 true stk_Push_sp |>.add 26 true stk_Pop_sp |>.add 114 true stk_Pick_sp
theorem O5_ok : O5.OK Tryz.prog := (((O4_ok).add_ok stk_Push_good).add_ok stk_Pop_good).add_ok stk_Pick_good
def stk_Roll_h0 : Hints := Hints.nil 0
theorem stk_Roll_h0_ok : stk_Roll_h0.OK Tryz.prog (bodyOf Tryz.f115) := Hints.nil_ok
abbrev stk_Roll_R : Type := ((List Int) × Int)
noncomputable def stk_Roll_t {γ : Type} (a0 : (List Int)) (a1 : Int) (k : stk_Roll_R → Option γ) : Option γ := outOf (stk_Pick a0 a1) fun (x1 : (Int × Int)) => cond (Prod.snd x1 != (0 : Int)) (k (a0, Prod.snd x1)) (cond (decide ((0 : Int) ≤ (0 : Int) ∧ (0 : Int) ≤ IntKind.wrap IntKind.i64 (IntKind.wrap IntKind.i64 ((↑(List.length a0) : Int) - (1 : Int)) - a1) ∧ IntKind.wrap IntKind.i64 (IntKind.wrap IntKind.i64 ((↑(List.length a0) : Int) - (1 : Int)) - a1) ≤ (↑(List.length a0) : Int))) (cond (decide ((0 : Int) ≤ IntKind.wrap IntKind.i64 (IntKind.wrap IntKind.i64 (IntKind.wrap IntKind.i64 ((↑(List.length a0) : Int) - (1 : Int)) - a1) + (1 : Int)) ∧ IntKind.wrap IntKind.i64 (IntKind.wrap IntKind.i64 (IntKind.wrap IntKind.i64 ((↑(List.length a0) : Int) - (1 : Int)) - a1) + (1 : Int)) ≤ (↑(List.length a0) : Int) ∧ (↑(List.length a0) : Int) ≤ (↑(List.length a0) : Int))) (outOf (slices_Concat [List.take (Int.toNat (IntKind.wrap IntKind.i64 (IntKind.wrap IntKind.i64 ((↑(List.length a0) : Int) - (1 : Int)) - a1)) - (0 : Nat)) (List.drop (0 : Nat) a0), List.take (Int.toNat (↑(List.length a0) : Int) - Int.toNat (IntKind.wrap IntKind.i64 (IntKind.wrap IntKind.i64 (IntKind.wrap IntKind.i64 ((↑(List.length a0) : Int) - (1 : Int)) - a1) + (1 : Int)))) (List.drop (Int.toNat (IntKind.wrap IntKind.i64 (IntKind.wrap IntKind.i64 (IntKind.wrap IntKind.i64 ((↑(List.length a0) : Int) - (1 : Int)) - a1) + (1 : Int)))) a0), [Prod.fst x1]]) fun (x2 : (List Int)) => k (x2, (0 : Int))) (none)) (none))
noncomputable def stk_Roll (a0 : (List Int)) (a1 : Int) : Option stk_Roll_R := stk_Roll_t a0 a1 some
theorem stk_Roll_t_eq {γ : Type} (a0 : (List Int)) (a1 : Int) (k : stk_Roll_R → Option γ) : stk_Roll_t a0 a1 k = outOf (stk_Roll a0 a1) k := by
  delta stk_Roll stk_Roll_t; exact (Tr.bd fun x1 => (Tr.nd Tr.lf (Tr.nd (Tr.nd (Tr.bd fun x2 => Tr.lf) Tr.no) Tr.no)))
noncomputable def stk_Roll_sp : TX.Spec := specD [.val (.sl (.int .i64)), .val (.int .i64)] [] fun _ a m k => match a, m with | ⟨a0, a1, _⟩, _ => outOf (stk_Roll a0 a1) fun v => k (.tup [.sl (.int .i64) v.1 false, .lit (.int .i64 v.2)]) []
theorem stk_Roll_ev {α : Type} (a0 : (List Int)) (a1 : Int) (k : Kont α) : evFun Tryz.prog O5 (stk_Roll_h0) false Tryz.f115 (bodyOf Tryz.f115) 60 (mkS [.val (.sl (.int .i64)), .val (.int .i64)] (a0, a1, ())) (mkH [] ()) k = outOf (stk_Roll a0 a1) fun v => k (.tup [.sl (.int .i64) v.1 false, .lit (.int .i64 v.2)]) [] :=
  (show _ = stk_Roll_t a0 a1 (fun v => k (.tup [.sl (.int .i64) v.1 false, .lit (.int .i64 v.2)]) []) from by kernel_rfl).trans (stk_Roll_t_eq a0 a1 _)
theorem stk_Roll_good : TX.Good Tryz.prog 115 stk_Roll_sp := good_form O5_ok mixed Tryz.func115 (body_of rfl) (by kernel_rfl) false fun α a m k r h => by
  obtain ⟨a0, a1, _⟩ := a; obtain _ := m
  exact ⟨stk_Roll_h0, 60, stk_Roll_h0_ok, rfl, (stk_Roll_ev a0 a1 k).trans h⟩
def stk_Permute_h0 : Hints := Hints.nil 0
theorem stk_Permute_h0_ok : stk_Permute_h0.OK Tryz.prog (bodyOf Tryz.f25) := Hints.nil_ok
def stk_Permute_L1_A : List SD := [.val (.sl (.int .i64)), .any, .any, .val (.int .i64), .any, .any, .any, .any, .any, .any, .val (.sl (.int .i64)), .val (.sl (.int .i64)), .any, .rowz 0, .any, .any, .any, .any, .any, .any, .any, .any, .any, .any, .any, .any, .any, .any, .val (.sl (.int .i64)), .val (.int .i64), .val (.int .i64), .any, .any, .any, .any, .any, .any, .any, .any, .any, .any, .any, .any, .any, .any, .any, .any, .any, .any, .any, .any, .any, .any, .any, .any, .any, .any, .any, .any, .any, .any, .any, .any]
def stk_Permute_L1_H : List HD := [.row (.int .i64)]
abbrev stk_Permute_L1_D : Type := (List Int) × Int × (List Int) × (List Int) × Nat × (List Int) × Int × Int × (List Int)
def stk_Permute_L1_to (a : DenS stk_Permute_L1_A) (m : DenH stk_Permute_L1_H) : stk_Permute_L1_D := (a.1, a.2.2.2.1, a.2.2.2.2.2.2.2.2.2.2.1, a.2.2.2.2.2.2.2.2.2.2.2.1, a.2.2.2.2.2.2.2.2.2.2.2.2.2.1, a.2.2.2.2.2.2.2.2.2.2.2.2.2.2.2.2.2.2.2.2.2.2.2.2.2.2.2.2.1, a.2.2.2.2.2.2.2.2.2.2.2.2.2.2.2.2.2.2.2.2.2.2.2.2.2.2.2.2.2.1, a.2.2.2.2.2.2.2.2.2.2.2.2.2.2.2.2.2.2.2.2.2.2.2.2.2.2.2.2.2.2.1, m.1)
def stk_Permute_L1_ofA (d : stk_Permute_L1_D) : DenS stk_Permute_L1_A := match d with | (s0, s3, s10, s11, s13_n, s28, s29, s30, m0) => (s0, (), (), s3, (), (), (), (), (), (), s10, s11, (), s13_n, (), (), (), (), (), (), (), (), (), (), (), (), (), (), s28, s29, s30, (), (), (), (), (), (), (), (), (), (), (), (), (), (), (), (), (), (), (), (), (), (), (), (), (), (), (), (), (), (), (), (), ())
def stk_Permute_L1_ofH (d : stk_Permute_L1_D) : DenH stk_Permute_L1_H := match d with | (s0, s3, s10, s11, s13_n, s28, s29, s30, m0) => (m0, ())
def stk_Permute_L1_N : Norm := (⟨[0, 3, 10, 11, 13, 28, 29, 30], [13], []⟩ : Go.TX.Norm)
def stk_Permute_L1_X : Exit → Norm := fun e => match e with | .exit 0 => ⟨[0, 3, 10, 13], [], []⟩ | .ret => ⟨[8, 9], [], []⟩ | _ => ⟨[], [], []⟩
abbrev stk_Permute_L1_R : Type := (((List Int) × Int) ⊕ ((List Int) × Int × (List Int) × Nat × (List Int)))
def stk_Permute_L1_fin (v : stk_Permute_L1_R) : Exit × St := sumOf v (fun v => (.ret, ⟨[.any, .any, .any, .any, .any, .any, .any, .any, .sl (.int .i64) v.1 false, .lit (.int .i64 v.2), .any, .any, .any, .any, .any, .any, .any, .any, .any, .any, .any, .any, .any, .any, .any, .any, .any, .any, .any, .any, .any, .any, .any, .any, .any, .any, .any, .any, .any, .any, .any, .any, .any, .any, .any, .any, .any, .any, .any, .any, .any, .any, .any, .any, .any, .any, .any, .any, .any, .any, .any, .any, .any], []⟩)) (fun v => ((.exit 0), ⟨[.sl (.int .i64) v.1 false, .any, .any, .lit (.int .i64 v.2.1), .any, .any, .any, .any, .any, .any, .sl (.int .i64) v.2.2.1 false, .any, .any, .msl 0 0 v.2.2.2.1, .any, .any, .any, .any, .any, .any, .any, .any, .any, .any, .any, .any, .any, .any, .any, .any, .any, .any, .any, .any, .any, .any, .any, .any, .any, .any, .any, .any, .any, .any, .any, .any, .any, .any, .any, .any, .any, .any, .any, .any, .any, .any, .any, .any, .any, .any, .any, .any, .any], [.row (.int .i64) v.2.2.2.2]⟩))
noncomputable def stk_Permute_L1_t {γ : Type} (s0 : (List Int)) (s3 : Int) (s10 : (List Int)) (s11 : (List Int)) (s13_n : Nat) (s28 : (List Int)) (s29 : Int) (s30 : Int) (m0 : (List Int)) (next : stk_Permute_L1_D → Option γ) (out : stk_Permute_L1_R → Option γ) : Option γ := cond (decide (s30 < s29)) (cond (decide ((0 : Int) ≤ s30 ∧ s30 < (↑(List.length s28) : Int))) (cond (decide (List.getD s28 (Int.toNat s30) (0 : Int) < (0 : Int))) (out (.inl (s0, (-4 : Int)))) (cond (decide (List.getD s28 (Int.toNat s30) (0 : Int) ≥ (↑(List.length s11) : Int))) (out (.inl (s0, (-4 : Int)))) (cond (decide ((0 : Int) ≤ List.getD s28 (Int.toNat s30) (0 : Int) ∧ List.getD s28 (Int.toNat s30) (0 : Int) < (↑(List.length s11) : Int))) (cond (decide (s13_n + List.length [List.getD s11 (Int.toNat (List.getD s28 (Int.toNat s30) (0 : Int))) (0 : Int)] ≤ (2147483648 : Nat))) (next (s0, s3, s10, s11, s13_n + List.length [List.getD s11 (Int.toNat (List.getD s28 (Int.toNat s30) (0 : Int))) (0 : Int)], s28, s29, IntKind.wrap IntKind.i64 (s30 + (1 : Int)), List.take s13_n (List.drop (0 : Nat) m0) ++ [List.getD s11 (Int.toNat (List.getD s28 (Int.toNat s30) (0 : Int))) (0 : Int)])) (none)) (none)))) (none)) (out (.inr (s0, s3, s10, s13_n, m0)))
noncomputable def stk_Permute_L1_pass (d : stk_Permute_L1_D) : Option (stk_Permute_L1_D ⊕ stk_Permute_L1_R) := stk_Permute_L1_t d.1 d.2.1 d.2.2.1 d.2.2.2.1 d.2.2.2.2.1 d.2.2.2.2.2.1 d.2.2.2.2.2.2.1 d.2.2.2.2.2.2.2.1 d.2.2.2.2.2.2.2.2 (fun d => some (.inl d)) (fun x => some (.inr x))
theorem stk_Permute_L1_t_eq {γ : Type} (s0 : (List Int)) (s3 : Int) (s10 : (List Int)) (s11 : (List Int)) (s13_n : Nat) (s28 : (List Int)) (s29 : Int) (s30 : Int) (m0 : (List Int)) (next : stk_Permute_L1_D → Option γ) (out : stk_Permute_L1_R → Option γ) : stk_Permute_L1_t s0 s3 s10 s11 s13_n s28 s29 s30 m0 next out = PassOf (stk_Permute_L1_t s0 s3 s10 s11 s13_n s28 s29 s30 m0 (fun d => some (.inl d)) (fun x => some (.inr x))) next out := by
  delta stk_Permute_L1_t; exact (Ps.nd (Ps.nd (Ps.nd Ps.ou (Ps.nd Ps.ou (Ps.nd (Ps.nd Ps.nx Ps.no) Ps.no))) Ps.no) Ps.ou)
theorem stk_Permute_L1_ev (α : Type) (d : stk_Permute_L1_D) (next : stk_Permute_L1_D → Option α) (k : Exit → St → Option α) : ev Tryz.prog O5 stk_Permute_h0 60 [0, 0, 1, 0, 1, 1, 1, 1] ((codeAt (bodyOf Tryz.f25) [0, 0, 1, 0, 1, 1, 1, 1]).getD .skip) ⟨mkS stk_Permute_L1_A (stk_Permute_L1_ofA d), mkH stk_Permute_L1_H (stk_Permute_L1_ofH d)⟩ (passK 0 stk_Permute_L1_N stk_Permute_L1_A stk_Permute_L1_H stk_Permute_L1_X (fun a m => next (stk_Permute_L1_to a m)) k) = PassOf (stk_Permute_L1_pass d) next fun x => k (stk_Permute_L1_fin x).1 (stk_Permute_L1_fin x).2 := by
  obtain ⟨s0, s3, s10, s11, s13_n, s28, s29, s30, m0⟩ := d
  exact (show _ = stk_Permute_L1_t s0 s3 s10 s11 s13_n s28 s29 s30 m0 next (fun x => k (stk_Permute_L1_fin x).1 (stk_Permute_L1_fin x).2) from by kernel_rfl).trans (stk_Permute_L1_t_eq s0 s3 s10 s11 s13_n s28 s29 s30 m0 _ _)
noncomputable def stk_Permute_L1 (d : stk_Permute_L1_D) : Option stk_Permute_L1_R := runs stk_Permute_L1_pass d
noncomputable def stk_Permute_L1_sp : CSpec := fun _ st k => reNorm 0 stk_Permute_L1_N stk_Permute_L1_A stk_Permute_L1_H st fun a m => outOf (stk_Permute_L1 (stk_Permute_L1_to a m)) fun v => sumOf v (fun v => k .ret ⟨[.any, .any, .any, .any, .any, .any, .any, .any, .sl (.int .i64) v.1 false, .lit (.int .i64 v.2), .any, .any, .any, .any, .any, .any, .any, .any, .any, .any, .any, .any, .any, .any, .any, .any, .any, .any, .any, .any, .any, .any, .any, .any, .any, .any, .any, .any, .any, .any, .any, .any, .any, .any, .any, .any, .any, .any, .any, .any, .any, .any, .any, .any, .any, .any, .any, .any, .any, .any, .any, .any, .any], []⟩) (fun v => k (.exit 0) ⟨[.sl (.int .i64) v.1 false, .any, .any, .lit (.int .i64 v.2.1), .any, .any, .any, .any, .any, .any, .sl (.int .i64) v.2.2.1 false, .any, .any, .msl 0 0 v.2.2.2.1, .any, .any, .any, .any, .any, .any, .any, .any, .any, .any, .any, .any, .any, .any, .any, .any, .any, .any, .any, .any, .any, .any, .any, .any, .any, .any, .any, .any, .any, .any, .any, .any, .any, .any, .any, .any, .any, .any, .any, .any, .any, .any, .any, .any, .any, .any, .any, .any, .any], [.row (.int .i64) v.2.2.2.2]⟩)
theorem stk_Permute_L1_ok : SumOK Tryz.prog 0 (.loop ((codeAt (bodyOf Tryz.f25) [0, 0, 1, 0, 1, 1, 1, 1]).getD .skip)) stk_Permute_L1_sp := (SumOK.loop O5_ok mixed stk_Permute_h0_ok (show codeAt (bodyOf Tryz.f25) [0, 1, 0, 1, 1, 1, 1] = some (.loop ((codeAt (bodyOf Tryz.f25) [0, 0, 1, 0, 1, 1, 1, 1]).getD .skip)) from by kernel_rfl) (N := stk_Permute_L1_N) (Nx := stk_Permute_L1_X) (A := stk_Permute_L1_A) (Hs := stk_Permute_L1_H) (toD := stk_Permute_L1_to) (ofA := stk_Permute_L1_ofA) (ofH := stk_Permute_L1_ofH) (fun _ _ => rfl) (fun _ _ => rfl) (pass := stk_Permute_L1_pass) (fin := stk_Permute_L1_fin) 60 stk_Permute_L1_ev (steps stk_Permute_L1_pass)).mono fun α st k r h => by
  refine Eq.trans (congrArg (reNorm 0 stk_Permute_L1_N stk_Permute_L1_A stk_Permute_L1_H st) ?_) h
  funext a m
  exact outOf_congr fun x => by rcases x with x | x <;> rfl
noncomputable def stk_Permute_L1_h : Hints := stk_Permute_h0.add [0, 1, 0, 1, 1, 1, 1] stk_Permute_L1_sp
theorem stk_Permute_L1_h_ok : stk_Permute_L1_h.OK Tryz.prog (bodyOf Tryz.f25) := stk_Permute_h0_ok.add (show codeAt (bodyOf Tryz.f25) [0, 1, 0, 1, 1, 1, 1] = some (.loop ((codeAt (bodyOf Tryz.f25) [0, 0, 1, 0, 1, 1, 1, 1]).getD .skip)) from by kernel_rfl) stk_Permute_L1_ok
abbrev stk_Permute_R : Type := ((List Int) × Int)
noncomputable def stk_Permute_t {γ : Type} (a0 : (List Int)) (a1 : Int) (a2 : (List Int)) (a3 : Int) (k : stk_Permute_R → Option γ) : Option γ := outOf (stk_Pop a0 a1) fun (x3 : ((List Int) × ((List Int) × Int))) => cond (Prod.snd (Prod.snd x3) != (0 : Int)) (k (a0, Prod.snd (Prod.snd x3))) (outOf (stk_Permute_L1 (a0, a3, Prod.fst x3, Prod.fst (Prod.snd x3), (0 : Nat), a2, (↑(List.length a2) : Int), (0 : Int), [])) fun (x4 : List Int × Int ⊕ List Int × Int × List Int × Nat × List Int) => sumOf x4 (fun x5 => k (Prod.fst x5, Prod.snd x5)) (fun x6 => outOf (stk_Push (Prod.fst (Prod.snd (Prod.snd x6))) (Prod.fst (Prod.snd x6)) (List.take (Prod.fst (Prod.snd (Prod.snd (Prod.snd x6)))) (List.drop (0 : Nat) (Prod.snd (Prod.snd (Prod.snd (Prod.snd x6))))))) fun (x7 : ((List Int) × Int)) => cond (Prod.snd x7 != (0 : Int)) (k (Prod.fst x6, Prod.snd x7)) (k (Prod.fst x7, (0 : Int)))))
noncomputable def stk_Permute (a0 : (List Int)) (a1 : Int) (a2 : (List Int)) (a3 : Int) : Option stk_Permute_R := stk_Permute_t a0 a1 a2 a3 some
theorem stk_Permute_t_eq {γ : Type} (a0 : (List Int)) (a1 : Int) (a2 : (List Int)) (a3 : Int) (k : stk_Permute_R → Option γ) : stk_Permute_t a0 a1 a2 a3 k = outOf (stk_Permute a0 a1 a2 a3) k := by
  delta stk_Permute stk_Permute_t; exact (Tr.bd fun x3 => (Tr.nd Tr.lf (Tr.bd fun x4 => (Tr.cs (fun x5 => Tr.lf) (fun x6 => (Tr.bd fun x7 => (Tr.nd Tr.lf Tr.lf)))))))
noncomputable def stk_Permute_sp : TX.Spec := specD [.val (.sl (.int .i64)), .val (.int .i64), .val (.sl (.int .i64)), .val (.int .i64)] [] fun _ a m k => match a, m with | ⟨a0, a1, a2, a3, _⟩, _ => outOf (stk_Permute a0 a1 a2 a3) fun v => k (.tup [.sl (.int .i64) v.1 false, .lit (.int .i64 v.2)]) []
theorem stk_Permute_ev {α : Type} (a0 : (List Int)) (a1 : Int) (a2 : (List Int)) (a3 : Int) (k : Kont α) : evFun Tryz.prog O5 (stk_Permute_L1_h) false Tryz.f25 (bodyOf Tryz.f25) 60 (mkS [.val (.sl (.int .i64)), .val (.int .i64), .val (.sl (.int .i64)), .val (.int .i64)] (a0, a1, a2, a3, ())) (mkH [] ()) k = outOf (stk_Permute a0 a1 a2 a3) fun v => k (.tup [.sl (.int .i64) v.1 false, .lit (.int .i64 v.2)]) [] :=
  (show _ = stk_Permute_t a0 a1 a2 a3 (fun v => k (.tup [.sl (.int .i64) v.1 false, .lit (.int .i64 v.2)]) []) from by kernel_rfl).trans (stk_Permute_t_eq a0 a1 a2 a3 _)
theorem stk_Permute_good : TX.Good Tryz.prog 25 stk_Permute_sp := good_form O5_ok mixed Tryz.func25 (body_of rfl) (by kernel_rfl) false fun α a m k r h => by
  obtain ⟨a0, a1, a2, a3, _⟩ := a; obtain _ := m
  exact ⟨stk_Permute_L1_h, 60, stk_Permute_L1_h_ok, rfl, (stk_Permute_ev a0 a1 a2 a3 k).trans h⟩
end Go.Proofs.Dbl
