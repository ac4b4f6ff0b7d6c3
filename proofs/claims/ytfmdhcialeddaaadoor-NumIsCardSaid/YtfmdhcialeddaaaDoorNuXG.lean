import Derived.Test.YtfmdhcialeddaaaDoorNuXF
namespace Go.Proofs.Dbl
open Go Go.TX Go.Proofs
set_option maxRecDepth 100000
set_option linter.unusedVariables false
set_option maxHeartbeats 0
/-! f134 tenterhook/tenterhookref01.Bit -/
def ref_Bit_h0 : Hints := Hints.nil 0
theorem ref_Bit_h0_ok : ref_Bit_h0.OK Tryd.prog (bodyOf Tryd.f134) := Hints.nil_ok
abbrev ref_Bit_R : Type := (Int)
noncomputable def ref_Bit_t {γ : Type} (a0 : Int) (a1 : Int) (k : ref_Bit_R → Option γ) : Option γ := cond (decide (a1 < (0 : Int))) (k ((0 : Int))) (cond (decide (a1 > (63 : Int))) (k ((0 : Int))) (cond (decide (IntKind.wrap IntKind.u64 a1 < (0 : Int))) (none) (k (IntKind.wrap IntKind.i64 (ibits BinOp.and IntKind.u64 (Int.fdiv (IntKind.wrap IntKind.u64 a0) ((2 : Int) ^ min (Int.toNat (IntKind.wrap IntKind.u64 a1)) (64 : Nat))) (1 : Int))))))
noncomputable def ref_Bit (a0 : Int) (a1 : Int) : Option ref_Bit_R := ref_Bit_t a0 a1 some
theorem ref_Bit_t_eq {γ : Type} (a0 : Int) (a1 : Int) (k : ref_Bit_R → Option γ) : ref_Bit_t a0 a1 k = outOf (ref_Bit a0 a1) k := by
  delta ref_Bit ref_Bit_t; exact (Tr.nd Tr.lf (Tr.nd Tr.lf (Tr.nd Tr.no Tr.lf)))
noncomputable def ref_Bit_sp : TX.Spec := specD [.val (.int .i64), .val (.int .i64)] [] fun _ a m k => match a, m with | ⟨a0, a1, _⟩, _ => outOf (ref_Bit a0 a1) fun v => k (.lit (.int .i64 v)) []
theorem ref_Bit_ev {α : Type} (a0 : Int) (a1 : Int) (k : Kont α) : evFun Tryd.prog NrFE1 (ref_Bit_h0) false Tryd.f134 (bodyOf Tryd.f134) 60 (mkS [.val (.int .i64), .val (.int .i64)] (a0, a1, ())) (mkH [] ()) k = outOf (ref_Bit a0 a1) fun v => k (.lit (.int .i64 v)) [] :=
  (show _ = ref_Bit_t a0 a1 (fun v => k (.lit (.int .i64 v)) []) from by kernel_rfl).trans (ref_Bit_t_eq a0 a1 _)
theorem ref_Bit_good : TX.Good Tryd.prog 134 ref_Bit_sp := good_form NrFE1_ok mixed Tryd.func134 (body_of rfl) (by kernel_rfl) false fun α a m k r h => by
  obtain ⟨a0, a1, _⟩ := a; obtain _ := m
  exact ⟨ref_Bit_h0, 60, ref_Bit_h0_ok, rfl, (ref_Bit_ev a0 a1 k).trans h⟩
/-! f135 tenterhook/tenterhookref01.Make -/
def ref_Make_h0 : Hints := Hints.nil 0
theorem ref_Make_h0_ok : ref_Make_h0.OK Tryd.prog (bodyOf Tryd.f135) := Hints.nil_ok
def ref_Make_L1_A : List SD := [.val (.sl (.int .i64)), .any, .any, .val (.int .u64), .val (.int .i64), .any, .any, .any, .any, .any, .any, .any, .any, .any, .any, .any, .any, .any, .any, .any, .any, .any, .any, .any]
def ref_Make_L1_H : List HD := []
abbrev ref_Make_L1_D : Type := (List Int) × Int × Int
def ref_Make_L1_to (a : DenS ref_Make_L1_A) (m : DenH ref_Make_L1_H) : ref_Make_L1_D := (a.1, a.2.2.2.1, a.2.2.2.2.1)
def ref_Make_L1_ofA (d : ref_Make_L1_D) : DenS ref_Make_L1_A := match d with | (s0, s3, s4) => (s0, (), (), s3, s4, (), (), (), (), (), (), (), (), (), (), (), (), (), (), (), (), (), (), (), ())
def ref_Make_L1_ofH (d : ref_Make_L1_D) : DenH ref_Make_L1_H := match d with | (s0, s3, s4) => ()
def ref_Make_L1_N : Norm := (⟨[0, 3, 4], [], []⟩ : Go.TX.Norm)
def ref_Make_L1_X : Exit → Norm := fun e => match e with | .exit 0 => ⟨[3], [], []⟩ | _ => ⟨[], [], []⟩
abbrev ref_Make_L1_R : Type := (Int)
def ref_Make_L1_fin (v : ref_Make_L1_R) : Exit × St := ((.exit 0), ⟨[.any, .any, .any, .lit (.int .u64 v), .any, .any, .any, .any, .any, .any, .any, .any, .any, .any, .any, .any, .any, .any, .any, .any, .any, .any, .any, .any], []⟩)
noncomputable def ref_Make_L1_t {γ : Type} (s0 : (List Int)) (s3 : Int) (s4 : Int) (next : ref_Make_L1_D → Option γ) (out : ref_Make_L1_R → Option γ) : Option γ := cond (decide (s4 ≥ (0 : Int))) (cond (decide ((0 : Int) ≤ s4 ∧ s4 < (↑(List.length s0) : Int))) (next (s0, IntKind.wrap IntKind.u64 (IntKind.wrap IntKind.u64 (s3 * (2 : Int)) + IntKind.wrap IntKind.u64 (ibits BinOp.and IntKind.i64 (List.getD s0 (Int.toNat s4) (0 : Int)) (1 : Int))), IntKind.wrap IntKind.i64 (s4 - (1 : Int)))) (none)) (out (s3))
noncomputable def ref_Make_L1_pass (d : ref_Make_L1_D) : Option (ref_Make_L1_D ⊕ ref_Make_L1_R) := ref_Make_L1_t d.1 d.2.1 d.2.2 (fun d => some (.inl d)) (fun x => some (.inr x))
theorem ref_Make_L1_t_eq {γ : Type} (s0 : (List Int)) (s3 : Int) (s4 : Int) (next : ref_Make_L1_D → Option γ) (out : ref_Make_L1_R → Option γ) : ref_Make_L1_t s0 s3 s4 next out = PassOf (ref_Make_L1_t s0 s3 s4 (fun d => some (.inl d)) (fun x => some (.inr x))) next out := by
  delta ref_Make_L1_t; exact (Ps.nd (Ps.nd Ps.nx Ps.no) Ps.ou)
theorem ref_Make_L1_ev (α : Type) (d : ref_Make_L1_D) (next : ref_Make_L1_D → Option α) (k : Exit → St → Option α) : ev Tryd.prog NrFE1 ref_Make_h0 60 [0, 0, 1, 0, 1, 1] ((codeAt (bodyOf Tryd.f135) [0, 0, 1, 0, 1, 1]).getD .skip) ⟨mkS ref_Make_L1_A (ref_Make_L1_ofA d), mkH ref_Make_L1_H (ref_Make_L1_ofH d)⟩ (passK 0 ref_Make_L1_N ref_Make_L1_A ref_Make_L1_H ref_Make_L1_X (fun a m => next (ref_Make_L1_to a m)) k) = PassOf (ref_Make_L1_pass d) next fun x => k (ref_Make_L1_fin x).1 (ref_Make_L1_fin x).2 := by
  obtain ⟨s0, s3, s4⟩ := d
  exact (show _ = ref_Make_L1_t s0 s3 s4 next (fun x => k (ref_Make_L1_fin x).1 (ref_Make_L1_fin x).2) from by kernel_rfl).trans (ref_Make_L1_t_eq s0 s3 s4 _ _)
noncomputable def ref_Make_L1 (d : ref_Make_L1_D) : Option ref_Make_L1_R := runs ref_Make_L1_pass d
noncomputable def ref_Make_L1_sp : CSpec := fun _ st k => reNorm 0 ref_Make_L1_N ref_Make_L1_A ref_Make_L1_H st fun a m => outOf (ref_Make_L1 (ref_Make_L1_to a m)) fun v => k (.exit 0) ⟨[.any, .any, .any, .lit (.int .u64 v), .any, .any, .any, .any, .any, .any, .any, .any, .any, .any, .any, .any, .any, .any, .any, .any, .any, .any, .any, .any], []⟩
theorem ref_Make_L1_ok : SumOK Tryd.prog 0 (.loop ((codeAt (bodyOf Tryd.f135) [0, 0, 1, 0, 1, 1]).getD .skip)) ref_Make_L1_sp := (SumOK.loop NrFE1_ok mixed ref_Make_h0_ok (show codeAt (bodyOf Tryd.f135) [0, 1, 0, 1, 1] = some (.loop ((codeAt (bodyOf Tryd.f135) [0, 0, 1, 0, 1, 1]).getD .skip)) from by kernel_rfl) (N := ref_Make_L1_N) (Nx := ref_Make_L1_X) (A := ref_Make_L1_A) (Hs := ref_Make_L1_H) (toD := ref_Make_L1_to) (ofA := ref_Make_L1_ofA) (ofH := ref_Make_L1_ofH) (fun _ _ => rfl) (fun _ _ => rfl) (pass := ref_Make_L1_pass) (fin := ref_Make_L1_fin) 60 ref_Make_L1_ev (steps ref_Make_L1_pass)).mono fun α st k r h => by
  refine Eq.trans (congrArg (reNorm 0 ref_Make_L1_N ref_Make_L1_A ref_Make_L1_H st) ?_) h
  funext a m
  exact outOf_congr fun x => rfl
noncomputable def ref_Make_L1_h : Hints := ref_Make_h0.add [0, 1, 0, 1, 1] ref_Make_L1_sp
theorem ref_Make_L1_h_ok : ref_Make_L1_h.OK Tryd.prog (bodyOf Tryd.f135) := ref_Make_h0_ok.add (show codeAt (bodyOf Tryd.f135) [0, 1, 0, 1, 1] = some (.loop ((codeAt (bodyOf Tryd.f135) [0, 0, 1, 0, 1, 1]).getD .skip)) from by kernel_rfl) ref_Make_L1_ok
abbrev ref_Make_R : Type := (Int)
noncomputable def ref_Make_t {γ : Type} (a0 : (List Int)) (k : ref_Make_R → Option γ) : Option γ := outOf (ref_Make_L1 (a0, (0 : Int), IntKind.wrap IntKind.i64 ((if (64 : Int) < (↑(List.length a0) : Int) then (64 : Int) else (↑(List.length a0) : Int)) - (1 : Int)))) fun (x1 : Int) => k (IntKind.wrap IntKind.i64 x1)
noncomputable def ref_Make (a0 : (List Int)) : Option ref_Make_R := ref_Make_t a0 some
theorem ref_Make_t_eq {γ : Type} (a0 : (List Int)) (k : ref_Make_R → Option γ) : ref_Make_t a0 k = outOf (ref_Make a0) k := by
  delta ref_Make ref_Make_t; exact (Tr.bd fun x1 => Tr.lf)
noncomputable def ref_Make_sp : TX.Spec := specD [.val (.sl (.int .i64))] [] fun _ a m k => match a, m with | ⟨a0, _⟩, _ => outOf (ref_Make a0) fun v => k (.lit (.int .i64 v)) []
theorem ref_Make_ev {α : Type} (a0 : (List Int)) (k : Kont α) : evFun Tryd.prog NrFE1 (ref_Make_L1_h) false Tryd.f135 (bodyOf Tryd.f135) 60 (mkS [.val (.sl (.int .i64))] (a0, ())) (mkH [] ()) k = outOf (ref_Make a0) fun v => k (.lit (.int .i64 v)) [] :=
  (show _ = ref_Make_t a0 (fun v => k (.lit (.int .i64 v)) []) from by kernel_rfl).trans (ref_Make_t_eq a0 _)
theorem ref_Make_good : TX.Good Tryd.prog 135 ref_Make_sp := good_form NrFE1_ok mixed Tryd.func135 (body_of rfl) (by kernel_rfl) false fun α a m k r h => by
  obtain ⟨a0, _⟩ := a; obtain _ := m
  exact ⟨ref_Make_L1_h, 60, ref_Make_L1_h_ok, rfl, (ref_Make_ev a0 k).trans h⟩
/-! f59 tenterhook/tenterhookref02.Of -/
def ref_Of_h0 : Hints := Hints.nil 0
theorem ref_Of_h0_ok : ref_Of_h0.OK Tryd.prog (bodyOf Tryd.f59) := Hints.nil_ok
abbrev ref_Of_R : Type := (Int × Int)
noncomputable def ref_Of_t {γ : Type} (a0 : Int) (k : ref_Of_R → Option γ) : Option γ := cond (decide (a0 < (0 : Int))) (k (a0, (-1 : Int))) (k (a0, (0 : Int)))
noncomputable def ref_Of (a0 : Int) : Option ref_Of_R := ref_Of_t a0 some
theorem ref_Of_t_eq {γ : Type} (a0 : Int) (k : ref_Of_R → Option γ) : ref_Of_t a0 k = outOf (ref_Of a0) k := by
  delta ref_Of ref_Of_t; exact (Tr.nd Tr.lf Tr.lf)
noncomputable def ref_Of_sp : TX.Spec := specD [.val (.int .i64)] [] fun _ a m k => match a, m with | ⟨a0, _⟩, _ => outOf (ref_Of a0) fun v => k (.agg [.lit (.int .i64 v.1), .lit (.int .i64 v.2)]) []
theorem ref_Of_ev {α : Type} (a0 : Int) (k : Kont α) : evFun Tryd.prog NrFE1 (ref_Of_h0) false Tryd.f59 (bodyOf Tryd.f59) 60 (mkS [.val (.int .i64)] (a0, ())) (mkH [] ()) k = outOf (ref_Of a0) fun v => k (.agg [.lit (.int .i64 v.1), .lit (.int .i64 v.2)]) [] :=
  (show _ = ref_Of_t a0 (fun v => k (.agg [.lit (.int .i64 v.1), .lit (.int .i64 v.2)]) []) from by kernel_rfl).trans (ref_Of_t_eq a0 _)
theorem ref_Of_good : TX.Good Tryd.prog 59 ref_Of_sp := good_form NrFE1_ok mixed Tryd.func59 (body_of rfl) (by kernel_rfl) false fun α a m k r h => by
  obtain ⟨a0, _⟩ := a; obtain _ := m
  exact ⟨ref_Of_h0, 60, ref_Of_h0_ok, rfl, (ref_Of_ev a0 k).trans h⟩
/-! f19 tenterhook/tenterhookref05.Digit -/
def r5_Digit_h0 : Hints := Hints.nil 0
theorem r5_Digit_h0_ok : r5_Digit_h0.OK Tryd.prog (bodyOf Tryd.f19) := Hints.nil_ok
def r5_Digit_M1_A : List SD := [.val (.int .i64), .val (.int .i64), .any, .any, .any, .any, .any, .any, .any, .any, .any, .any, .any, .any, .any, .any, .any, .any, .any, .any, .any, .any, .any, .any, .any, .any, .any, .any, .any, .any, .any, .any]
def r5_Digit_M1_H : List HD := []
abbrev r5_Digit_M1_D : Type := Int × Int
def r5_Digit_M1_to (a : DenS r5_Digit_M1_A) (m : DenH r5_Digit_M1_H) : r5_Digit_M1_D := (a.1, a.2.1)
def r5_Digit_M1_ofA (d : r5_Digit_M1_D) : DenS r5_Digit_M1_A := match d with | (s0, s1) => (s0, s1, (), (), (), (), (), (), (), (), (), (), (), (), (), (), (), (), (), (), (), (), (), (), (), (), (), (), (), (), (), (), ())
def r5_Digit_M1_ofH (d : r5_Digit_M1_D) : DenH r5_Digit_M1_H := match d with | (s0, s1) => ()
def r5_Digit_M1_N : Norm := (⟨[0, 1], [], []⟩ : Go.TX.Norm)
def r5_Digit_M1_X : Exit → Norm := fun e => match e with | .normal => ⟨[0, 1], [], []⟩ | .ret => ⟨[4, 5], [], []⟩ | _ => ⟨[], [], []⟩
abbrev r5_Digit_M1_R : Type := ((Int × Bool) ⊕ (Unit))
def r5_Digit_M1_fin (d : r5_Digit_M1_D) (v : r5_Digit_M1_R) : Exit × St := sumOf v (fun v => (.ret, ⟨[.any, .any, .any, .any, .lit (.int .i64 v.1), .lit (.bool v.2), .any, .any, .any, .any, .any, .any, .any, .any, .any, .any, .any, .any, .any, .any, .any, .any, .any, .any, .any, .any, .any, .any, .any, .any, .any, .any], []⟩)) (fun v => (.normal, ⟨[.lit (.int .i64 d.1), .lit (.int .i64 d.2), .any, .any, .any, .any, .any, .any, .any, .any, .any, .any, .any, .any, .any, .any, .any, .any, .any, .any, .any, .any, .any, .any, .any, .any, .any, .any, .any, .any, .any, .any], []⟩))
noncomputable def r5_Digit_M1_t {γ : Type} (s1 : Int) (k : r5_Digit_M1_R → Option γ) : Option γ := cond (decide (s1 < (2 : Int))) (k (.inl ((0 : Int), false))) (cond (decide (s1 > (36 : Int))) (k (.inl ((0 : Int), false))) (k (.inr ())))
noncomputable def r5_Digit_M1 (s1 : Int) : Option r5_Digit_M1_R := r5_Digit_M1_t s1 some
theorem r5_Digit_M1_t_eq {γ : Type} (s1 : Int) (k : r5_Digit_M1_R → Option γ) : r5_Digit_M1_t s1 k = outOf (r5_Digit_M1 s1) k := by
  delta r5_Digit_M1 r5_Digit_M1_t; exact (Tr.nd Tr.lf (Tr.nd Tr.lf Tr.lf))
theorem r5_Digit_M1_ev (α : Type) (d : r5_Digit_M1_D) (k : Exit → St → Option α) : ev Tryd.prog NrFE1 r5_Digit_h0 60 [0, 1] ((codeAt (bodyOf Tryd.f19) [0, 1]).getD .skip) ⟨mkS r5_Digit_M1_A (r5_Digit_M1_ofA d), mkH r5_Digit_M1_H (r5_Digit_M1_ofH d)⟩ (exitN 0 r5_Digit_M1_X k) = outOf (r5_Digit_M1 d.2) fun x => k (r5_Digit_M1_fin d x).1 (r5_Digit_M1_fin d x).2 := by
  obtain ⟨s0, s1⟩ := d
  exact (show _ = r5_Digit_M1_t s1 (fun x => k (r5_Digit_M1_fin (s0, s1) x).1 (r5_Digit_M1_fin (s0, s1) x).2) from by kernel_rfl).trans (r5_Digit_M1_t_eq s1 _)
noncomputable def r5_Digit_M1_sp : CSpec := fun _ st k => reNorm 0 r5_Digit_M1_N r5_Digit_M1_A r5_Digit_M1_H st fun a m => outOf (r5_Digit_M1 (r5_Digit_M1_to a m).2) fun v => sumOf v (fun v => k .ret ⟨[.any, .any, .any, .any, .lit (.int .i64 v.1), .lit (.bool v.2), .any, .any, .any, .any, .any, .any, .any, .any, .any, .any, .any, .any, .any, .any, .any, .any, .any, .any, .any, .any, .any, .any, .any, .any, .any, .any], []⟩) (fun v => k .normal ⟨[.lit (.int .i64 (r5_Digit_M1_to a m).1), .lit (.int .i64 (r5_Digit_M1_to a m).2), .any, .any, .any, .any, .any, .any, .any, .any, .any, .any, .any, .any, .any, .any, .any, .any, .any, .any, .any, .any, .any, .any, .any, .any, .any, .any, .any, .any, .any, .any], []⟩)
theorem r5_Digit_M1_ok : SumOK Tryd.prog 0 ((codeAt (bodyOf Tryd.f19) [0, 1]).getD .skip) r5_Digit_M1_sp := (SumOK.once NrFE1_ok mixed r5_Digit_h0_ok (show codeAt (bodyOf Tryd.f19) [0, 1] = some ((codeAt (bodyOf Tryd.f19) [0, 1]).getD .skip) from by kernel_rfl) (N := r5_Digit_M1_N) (Nx := r5_Digit_M1_X) (A := r5_Digit_M1_A) (Hs := r5_Digit_M1_H) (toD := r5_Digit_M1_to) (ofA := r5_Digit_M1_ofA) (ofH := r5_Digit_M1_ofH) (fun _ _ => rfl) (fun _ _ => rfl) (M := fun d => r5_Digit_M1 d.2) (fin := r5_Digit_M1_fin) 60 r5_Digit_M1_ev).mono fun α st k r h => by
  refine Eq.trans (congrArg (reNorm 0 r5_Digit_M1_N r5_Digit_M1_A r5_Digit_M1_H st) ?_) h
  funext a m
  exact outOf_congr fun x => by rcases x with x | x <;> rfl
noncomputable def r5_Digit_M1_h : Hints := r5_Digit_h0.add [0, 1] r5_Digit_M1_sp
theorem r5_Digit_M1_h_ok : r5_Digit_M1_h.OK Tryd.prog (bodyOf Tryd.f19) := r5_Digit_h0_ok.add (show codeAt (bodyOf Tryd.f19) [0, 1] = some ((codeAt (bodyOf Tryd.f19) [0, 1]).getD .skip) from by kernel_rfl) r5_Digit_M1_ok
def r5_Digit_M2_A : List SD := [.val (.int .i64), .val (.int .i64), .any, .any, .any, .any, .any, .any, .any, .any, .any, .any, .any, .any, .any, .any, .any, .any, .any, .any, .any, .any, .any, .any, .any, .any, .any, .any, .any, .any, .any, .any]
def r5_Digit_M2_H : List HD := []
abbrev r5_Digit_M2_D : Type := Int × Int
def r5_Digit_M2_to (a : DenS r5_Digit_M2_A) (m : DenH r5_Digit_M2_H) : r5_Digit_M2_D := (a.1, a.2.1)
def r5_Digit_M2_ofA (d : r5_Digit_M2_D) : DenS r5_Digit_M2_A := match d with | (s0, s1) => (s0, s1, (), (), (), (), (), (), (), (), (), (), (), (), (), (), (), (), (), (), (), (), (), (), (), (), (), (), (), (), (), (), ())
def r5_Digit_M2_ofH (d : r5_Digit_M2_D) : DenH r5_Digit_M2_H := match d with | (s0, s1) => ()
def r5_Digit_M2_N : Norm := (⟨[0, 1], [], []⟩ : Go.TX.Norm)
def r5_Digit_M2_X : Exit → Norm := fun e => match e with | .normal => ⟨[0, 1], [], []⟩ | _ => ⟨[], [], []⟩
abbrev r5_Digit_M2_R : Type := (Int)
def r5_Digit_M2_fin (d : r5_Digit_M2_D) (v : r5_Digit_M2_R) : Exit × St := (.normal, ⟨[.lit (.int .i64 v), .lit (.int .i64 d.2), .any, .any, .any, .any, .any, .any, .any, .any, .any, .any, .any, .any, .any, .any, .any, .any, .any, .any, .any, .any, .any, .any, .any, .any, .any, .any, .any, .any, .any, .any], []⟩)
noncomputable def r5_Digit_M2_t {γ : Type} (s0 : Int) (k : r5_Digit_M2_R → Option γ) : Option γ := cond (decide (s0 ≥ (97 : Int))) (cond (decide (s0 ≤ (122 : Int))) (k (IntKind.wrap IntKind.i64 (s0 - (32 : Int)))) (k (s0))) (k (s0))
noncomputable def r5_Digit_M2 (s0 : Int) : Option r5_Digit_M2_R := r5_Digit_M2_t s0 some
theorem r5_Digit_M2_t_eq {γ : Type} (s0 : Int) (k : r5_Digit_M2_R → Option γ) : r5_Digit_M2_t s0 k = outOf (r5_Digit_M2 s0) k := by
  delta r5_Digit_M2 r5_Digit_M2_t; exact (Tr.nd (Tr.nd Tr.lf Tr.lf) Tr.lf)
theorem r5_Digit_M2_ev (α : Type) (d : r5_Digit_M2_D) (k : Exit → St → Option α) : ev Tryd.prog NrFE1 r5_Digit_M1_h 60 [0, 1, 1] ((codeAt (bodyOf Tryd.f19) [0, 1, 1]).getD .skip) ⟨mkS r5_Digit_M2_A (r5_Digit_M2_ofA d), mkH r5_Digit_M2_H (r5_Digit_M2_ofH d)⟩ (exitN 0 r5_Digit_M2_X k) = outOf (r5_Digit_M2 d.1) fun x => k (r5_Digit_M2_fin d x).1 (r5_Digit_M2_fin d x).2 := by
  obtain ⟨s0, s1⟩ := d
  exact (show _ = r5_Digit_M2_t s0 (fun x => k (r5_Digit_M2_fin (s0, s1) x).1 (r5_Digit_M2_fin (s0, s1) x).2) from by kernel_rfl).trans (r5_Digit_M2_t_eq s0 _)
noncomputable def r5_Digit_M2_sp : CSpec := fun _ st k => reNorm 0 r5_Digit_M2_N r5_Digit_M2_A r5_Digit_M2_H st fun a m => outOf (r5_Digit_M2 (r5_Digit_M2_to a m).1) fun v => k .normal ⟨[.lit (.int .i64 v), .lit (.int .i64 (r5_Digit_M2_to a m).2), .any, .any, .any, .any, .any, .any, .any, .any, .any, .any, .any, .any, .any, .any, .any, .any, .any, .any, .any, .any, .any, .any, .any, .any, .any, .any, .any, .any, .any, .any], []⟩
theorem r5_Digit_M2_ok : SumOK Tryd.prog 0 ((codeAt (bodyOf Tryd.f19) [0, 1, 1]).getD .skip) r5_Digit_M2_sp := (SumOK.once NrFE1_ok mixed r5_Digit_M1_h_ok (show codeAt (bodyOf Tryd.f19) [0, 1, 1] = some ((codeAt (bodyOf Tryd.f19) [0, 1, 1]).getD .skip) from by kernel_rfl) (N := r5_Digit_M2_N) (Nx := r5_Digit_M2_X) (A := r5_Digit_M2_A) (Hs := r5_Digit_M2_H) (toD := r5_Digit_M2_to) (ofA := r5_Digit_M2_ofA) (ofH := r5_Digit_M2_ofH) (fun _ _ => rfl) (fun _ _ => rfl) (M := fun d => r5_Digit_M2 d.1) (fin := r5_Digit_M2_fin) 60 r5_Digit_M2_ev).mono fun α st k r h => by
  refine Eq.trans (congrArg (reNorm 0 r5_Digit_M2_N r5_Digit_M2_A r5_Digit_M2_H st) ?_) h
  funext a m
  exact outOf_congr fun x => rfl
noncomputable def r5_Digit_M2_h : Hints := r5_Digit_M1_h.add [0, 1, 1] r5_Digit_M2_sp
theorem r5_Digit_M2_h_ok : r5_Digit_M2_h.OK Tryd.prog (bodyOf Tryd.f19) := r5_Digit_M1_h_ok.add (show codeAt (bodyOf Tryd.f19) [0, 1, 1] = some ((codeAt (bodyOf Tryd.f19) [0, 1, 1]).getD .skip) from by kernel_rfl) r5_Digit_M2_ok
def r5_Digit_L1_A : List SD := [.val (.int .i64), .val (.int .i64), .any, .any, .any, .any, .val (.int .i64), .any, .any, .any, .any, .any, .any, .any, .any, .any, .any, .any, .any, .any, .any, .any, .any, .any, .any, .any, .any, .any, .any, .any, .any, .any]
def r5_Digit_L1_H : List HD := []
abbrev r5_Digit_L1_D : Type := Int × Int × Int
def r5_Digit_L1_to (a : DenS r5_Digit_L1_A) (m : DenH r5_Digit_L1_H) : r5_Digit_L1_D := (a.1, a.2.1, a.2.2.2.2.2.2.1)
def r5_Digit_L1_ofA (d : r5_Digit_L1_D) : DenS r5_Digit_L1_A := match d with | (s0, s1, s6) => (s0, s1, (), (), (), (), s6, (), (), (), (), (), (), (), (), (), (), (), (), (), (), (), (), (), (), (), (), (), (), (), (), (), ())
def r5_Digit_L1_ofH (d : r5_Digit_L1_D) : DenH r5_Digit_L1_H := match d with | (s0, s1, s6) => ()
def r5_Digit_L1_N : Norm := (⟨[0, 1, 6], [], []⟩ : Go.TX.Norm)
def r5_Digit_L1_X : Exit → Norm := fun e => match e with | .exit 0 => ⟨[], [], []⟩ | .ret => ⟨[4, 5], [], []⟩ | _ => ⟨[], [], []⟩
abbrev r5_Digit_L1_R : Type := ((Int × Bool) ⊕ (Unit))
def r5_Digit_L1_fin (v : r5_Digit_L1_R) : Exit × St := sumOf v (fun v => (.ret, ⟨[.any, .any, .any, .any, .lit (.int .i64 v.1), .lit (.bool v.2), .any, .any, .any, .any, .any, .any, .any, .any, .any, .any, .any, .any, .any, .any, .any, .any, .any, .any, .any, .any, .any, .any, .any, .any, .any, .any], []⟩)) (fun v => ((.exit 0), ⟨[.any, .any, .any, .any, .any, .any, .any, .any, .any, .any, .any, .any, .any, .any, .any, .any, .any, .any, .any, .any, .any, .any, .any, .any, .any, .any, .any, .any, .any, .any, .any, .any], []⟩))
noncomputable def r5_Digit_L1_t {γ : Type} (s0 : Int) (s1 : Int) (s6 : Int) (next : r5_Digit_L1_D → Option γ) (out : r5_Digit_L1_R → Option γ) : Option γ := cond (decide (s6 < s1)) (cond (decide ((0 : Int) ≤ s6 ∧ s6 < (36 : Int))) (cond (IntKind.wrap IntKind.i64 (↑(UInt8.toNat (List.getD (Array.toList (ByteArray.data (bytesOf [48, 49, 50, 51, 52, 53, 54, 55, 56, 57, 65, 66, 67, 68, 69, 70, 71, 72, 73, 74, 75, 76, 77, 78, 79, 80, 81, 82, 83, 84, 85, 86, 87, 88, 89, 90]))) (Int.toNat s6) (UInt8.ofNat (nat_lit 0)))) : Int) == s0) (out (.inl (s6, true))) (next (s0, s1, IntKind.wrap IntKind.i64 (s6 + (1 : Int))))) (none)) (out (.inr ()))
noncomputable def r5_Digit_L1_pass (d : r5_Digit_L1_D) : Option (r5_Digit_L1_D ⊕ r5_Digit_L1_R) := r5_Digit_L1_t d.1 d.2.1 d.2.2 (fun d => some (.inl d)) (fun x => some (.inr x))
theorem r5_Digit_L1_t_eq {γ : Type} (s0 : Int) (s1 : Int) (s6 : Int) (next : r5_Digit_L1_D → Option γ) (out : r5_Digit_L1_R → Option γ) : r5_Digit_L1_t s0 s1 s6 next out = PassOf (r5_Digit_L1_t s0 s1 s6 (fun d => some (.inl d)) (fun x => some (.inr x))) next out := by
  delta r5_Digit_L1_t; exact (Ps.nd (Ps.nd (Ps.nd Ps.ou Ps.nx) Ps.no) Ps.ou)
theorem r5_Digit_L1_ev (α : Type) (d : r5_Digit_L1_D) (next : r5_Digit_L1_D → Option α) (k : Exit → St → Option α) : ev Tryd.prog NrFE1 r5_Digit_M2_h 60 [0, 0, 1, 0, 1, 1, 1] ((codeAt (bodyOf Tryd.f19) [0, 0, 1, 0, 1, 1, 1]).getD .skip) ⟨mkS r5_Digit_L1_A (r5_Digit_L1_ofA d), mkH r5_Digit_L1_H (r5_Digit_L1_ofH d)⟩ (passK 0 r5_Digit_L1_N r5_Digit_L1_A r5_Digit_L1_H r5_Digit_L1_X (fun a m => next (r5_Digit_L1_to a m)) k) = PassOf (r5_Digit_L1_pass d) next fun x => k (r5_Digit_L1_fin x).1 (r5_Digit_L1_fin x).2 := by
  obtain ⟨s0, s1, s6⟩ := d
  exact (show _ = r5_Digit_L1_t s0 s1 s6 next (fun x => k (r5_Digit_L1_fin x).1 (r5_Digit_L1_fin x).2) from by kernel_rfl).trans (r5_Digit_L1_t_eq s0 s1 s6 _ _)
noncomputable def r5_Digit_L1 (d : r5_Digit_L1_D) : Option r5_Digit_L1_R := runs r5_Digit_L1_pass d
noncomputable def r5_Digit_L1_sp : CSpec := fun _ st k => reNorm 0 r5_Digit_L1_N r5_Digit_L1_A r5_Digit_L1_H st fun a m => outOf (r5_Digit_L1 (r5_Digit_L1_to a m)) fun v => sumOf v (fun v => k .ret ⟨[.any, .any, .any, .any, .lit (.int .i64 v.1), .lit (.bool v.2), .any, .any, .any, .any, .any, .any, .any, .any, .any, .any, .any, .any, .any, .any, .any, .any, .any, .any, .any, .any, .any, .any, .any, .any, .any, .any], []⟩) (fun v => k (.exit 0) ⟨[.any, .any, .any, .any, .any, .any, .any, .any, .any, .any, .any, .any, .any, .any, .any, .any, .any, .any, .any, .any, .any, .any, .any, .any, .any, .any, .any, .any, .any, .any, .any, .any], []⟩)
theorem r5_Digit_L1_ok : SumOK Tryd.prog 0 (.loop ((codeAt (bodyOf Tryd.f19) [0, 0, 1, 0, 1, 1, 1]).getD .skip)) r5_Digit_L1_sp := (SumOK.loop NrFE1_ok mixed r5_Digit_M2_h_ok (show codeAt (bodyOf Tryd.f19) [0, 1, 0, 1, 1, 1] = some (.loop ((codeAt (bodyOf Tryd.f19) [0, 0, 1, 0, 1, 1, 1]).getD .skip)) from by kernel_rfl) (N := r5_Digit_L1_N) (Nx := r5_Digit_L1_X) (A := r5_Digit_L1_A) (Hs := r5_Digit_L1_H) (toD := r5_Digit_L1_to) (ofA := r5_Digit_L1_ofA) (ofH := r5_Digit_L1_ofH) (fun _ _ => rfl) (fun _ _ => rfl) (pass := r5_Digit_L1_pass) (fin := r5_Digit_L1_fin) 60 r5_Digit_L1_ev (steps r5_Digit_L1_pass)).mono fun α st k r h => by
  refine Eq.trans (congrArg (reNorm 0 r5_Digit_L1_N r5_Digit_L1_A r5_Digit_L1_H st) ?_) h
  funext a m
  exact outOf_congr fun x => by rcases x with x | x <;> rfl
noncomputable def r5_Digit_L1_h : Hints := r5_Digit_M2_h.add [0, 1, 0, 1, 1, 1] r5_Digit_L1_sp
theorem r5_Digit_L1_h_ok : r5_Digit_L1_h.OK Tryd.prog (bodyOf Tryd.f19) := r5_Digit_M2_h_ok.add (show codeAt (bodyOf Tryd.f19) [0, 1, 0, 1, 1, 1] = some (.loop ((codeAt (bodyOf Tryd.f19) [0, 0, 1, 0, 1, 1, 1]).getD .skip)) from by kernel_rfl) r5_Digit_L1_ok
abbrev r5_Digit_R : Type := (Int × Bool)
noncomputable def r5_Digit_t {γ : Type} (a0 : Int) (a1 : Int) (k : r5_Digit_R → Option γ) : Option γ := outOf (r5_Digit_M1 a1) fun (x15 : Int × Bool ⊕ Unit) => sumOf x15 (fun x16 => k (Prod.fst x16, Prod.snd x16)) (fun x17 => outOf (r5_Digit_M2 a0) fun (x18 : Int) => outOf (r5_Digit_L1 (x18, a1, (0 : Int))) fun (x19 : Int × Bool ⊕ Unit) => sumOf x19 (fun x20 => k (Prod.fst x20, Prod.snd x20)) (fun x21 => k ((0 : Int), false)))
noncomputable def r5_Digit (a0 : Int) (a1 : Int) : Option r5_Digit_R := r5_Digit_t a0 a1 some
theorem r5_Digit_t_eq {γ : Type} (a0 : Int) (a1 : Int) (k : r5_Digit_R → Option γ) : r5_Digit_t a0 a1 k = outOf (r5_Digit a0 a1) k := by
  delta r5_Digit r5_Digit_t; exact (Tr.bd fun x15 => (Tr.cs (fun x16 => Tr.lf) (fun x17 => (Tr.bd fun x18 => (Tr.bd fun x19 => (Tr.cs (fun x20 => Tr.lf) (fun x21 => Tr.lf)))))))
noncomputable def r5_Digit_sp : TX.Spec := specD [.val (.int .i64), .val (.int .i64)] [] fun _ a m k => match a, m with | ⟨a0, a1, _⟩, _ => outOf (r5_Digit a0 a1) fun v => k (.tup [.lit (.int .i64 v.1), .lit (.bool v.2)]) []
theorem r5_Digit_ev {α : Type} (a0 : Int) (a1 : Int) (k : Kont α) : evFun Tryd.prog NrFE1 (r5_Digit_L1_h) false Tryd.f19 (bodyOf Tryd.f19) 60 (mkS [.val (.int .i64), .val (.int .i64)] (a0, a1, ())) (mkH [] ()) k = outOf (r5_Digit a0 a1) fun v => k (.tup [.lit (.int .i64 v.1), .lit (.bool v.2)]) [] :=
  (show _ = r5_Digit_t a0 a1 (fun v => k (.tup [.lit (.int .i64 v.1), .lit (.bool v.2)]) []) from by kernel_rfl).trans (r5_Digit_t_eq a0 a1 _)
theorem r5_Digit_good : TX.Good Tryd.prog 19 r5_Digit_sp := good_form NrFE1_ok mixed Tryd.func19 (body_of rfl) (by kernel_rfl) false fun α a m k r h => by
  obtain ⟨a0, a1, _⟩ := a; obtain _ := m
  exact ⟨r5_Digit_L1_h, 60, r5_Digit_L1_h_ok, rfl, (r5_Digit_ev a0 a1 k).trans h⟩
/-! f21 tenterhook/tenterhookref05.Sign -/
def r5_Sign_h0 : Hints := Hints.nil 0
theorem r5_Sign_h0_ok : r5_Sign_h0.OK Tryd.prog (bodyOf Tryd.f21) := Hints.nil_ok
abbrev r5_Sign_R : Type := (ByteArray)
noncomputable def r5_Sign_t {γ : Type} (a0 : Int) (k : r5_Sign_R → Option γ) : Option γ := cond (decide (a0 < (0 : Int))) (k (bytesOf [])) (cond (decide (a0 > (35 : Int))) (k (bytesOf [])) (cond (decide ((0 : Int) ≤ a0 ∧ a0 ≤ IntKind.wrap IntKind.i64 (a0 + (1 : Int)) ∧ IntKind.wrap IntKind.i64 (a0 + (1 : Int)) ≤ (36 : Int))) (k (ByteArray.extract (bytesOf [48, 49, 50, 51, 52, 53, 54, 55, 56, 57, 65, 66, 67, 68, 69, 70, 71, 72, 73, 74, 75, 76, 77, 78, 79, 80, 81, 82, 83, 84, 85, 86, 87, 88, 89, 90]) (Int.toNat a0) (Int.toNat (IntKind.wrap IntKind.i64 (a0 + (1 : Int)))))) (none)))
noncomputable def r5_Sign (a0 : Int) : Option r5_Sign_R := r5_Sign_t a0 some
theorem r5_Sign_t_eq {γ : Type} (a0 : Int) (k : r5_Sign_R → Option γ) : r5_Sign_t a0 k = outOf (r5_Sign a0) k := by
  delta r5_Sign r5_Sign_t; exact (Tr.nd Tr.lf (Tr.nd Tr.lf (Tr.nd Tr.lf Tr.no)))
noncomputable def r5_Sign_sp : TX.Spec := specD [.val (.int .i64)] [] fun _ a m k => match a, m with | ⟨a0, _⟩, _ => outOf (r5_Sign a0) fun v => k (.lit (.string v)) []
theorem r5_Sign_ev {α : Type} (a0 : Int) (k : Kont α) : evFun Tryd.prog NrFE1 (r5_Sign_h0) false Tryd.f21 (bodyOf Tryd.f21) 60 (mkS [.val (.int .i64)] (a0, ())) (mkH [] ()) k = outOf (r5_Sign a0) fun v => k (.lit (.string v)) [] :=
  (show _ = r5_Sign_t a0 (fun v => k (.lit (.string v)) []) from by kernel_rfl).trans (r5_Sign_t_eq a0 _)
theorem r5_Sign_good : TX.Good Tryd.prog 21 r5_Sign_sp := good_form NrFE1_ok mixed Tryd.func21 (body_of rfl) (by kernel_rfl) false fun α a m k r h => by
  obtain ⟨a0, _⟩ := a; obtain _ := m
  exact ⟨r5_Sign_h0, 60, r5_Sign_h0_ok, rfl, (r5_Sign_ev a0 k).trans h⟩
/-! f22 tenterhook/tenterhookref04.Same -/
def r4_Same_h0 : Hints := Hints.nil 0
theorem r4_Same_h0_ok : r4_Same_h0.OK Tryd.prog (bodyOf Tryd.f22) := Hints.nil_ok
def r4_Same_L1_A : List SD := [.val (.sl (.int .i64)), .val (.sl (.int .i64)), .any, .any, .any, .val (.int .i64), .any, .any, .any, .any, .any, .any, .any, .any, .any, .any, .any, .any, .any, .any, .any, .any, .any, .any, .any, .any]
def r4_Same_L1_H : List HD := []
abbrev r4_Same_L1_D : Type := (List Int) × (List Int) × Int
def r4_Same_L1_to (a : DenS r4_Same_L1_A) (m : DenH r4_Same_L1_H) : r4_Same_L1_D := (a.1, a.2.1, a.2.2.2.2.2.1)
def r4_Same_L1_ofA (d : r4_Same_L1_D) : DenS r4_Same_L1_A := match d with | (s0, s1, s5) => (s0, s1, (), (), (), s5, (), (), (), (), (), (), (), (), (), (), (), (), (), (), (), (), (), (), (), (), ())
def r4_Same_L1_ofH (d : r4_Same_L1_D) : DenH r4_Same_L1_H := match d with | (s0, s1, s5) => ()
def r4_Same_L1_N : Norm := (⟨[0, 1, 5], [], []⟩ : Go.TX.Norm)
def r4_Same_L1_X : Exit → Norm := fun e => match e with | .exit 0 => ⟨[], [], []⟩ | .ret => ⟨[4], [], []⟩ | _ => ⟨[], [], []⟩
abbrev r4_Same_L1_R : Type := ((Bool) ⊕ (Unit))
def r4_Same_L1_fin (v : r4_Same_L1_R) : Exit × St := sumOf v (fun v => (.ret, ⟨[.any, .any, .any, .any, .lit (.bool v), .any, .any, .any, .any, .any, .any, .any, .any, .any, .any, .any, .any, .any, .any, .any, .any, .any, .any, .any, .any, .any], []⟩)) (fun v => ((.exit 0), ⟨[.any, .any, .any, .any, .any, .any, .any, .any, .any, .any, .any, .any, .any, .any, .any, .any, .any, .any, .any, .any, .any, .any, .any, .any, .any, .any], []⟩))
noncomputable def r4_Same_L1_t {γ : Type} (s0 : (List Int)) (s1 : (List Int)) (s5 : Int) (next : r4_Same_L1_D → Option γ) (out : r4_Same_L1_R → Option γ) : Option γ := cond (decide (s5 < (↑(List.length s0) : Int))) (cond (decide ((0 : Int) ≤ s5 ∧ s5 < (↑(List.length s0) : Int))) (cond (decide ((0 : Int) ≤ s5 ∧ s5 < (↑(List.length s1) : Int))) (cond (List.getD s0 (Int.toNat s5) (0 : Int) != List.getD s1 (Int.toNat s5) (0 : Int)) (out (.inl (false))) (next (s0, s1, IntKind.wrap IntKind.i64 (s5 + (1 : Int))))) (none)) (none)) (out (.inr ()))
noncomputable def r4_Same_L1_pass (d : r4_Same_L1_D) : Option (r4_Same_L1_D ⊕ r4_Same_L1_R) := r4_Same_L1_t d.1 d.2.1 d.2.2 (fun d => some (.inl d)) (fun x => some (.inr x))
theorem r4_Same_L1_t_eq {γ : Type} (s0 : (List Int)) (s1 : (List Int)) (s5 : Int) (next : r4_Same_L1_D → Option γ) (out : r4_Same_L1_R → Option γ) : r4_Same_L1_t s0 s1 s5 next out = PassOf (r4_Same_L1_t s0 s1 s5 (fun d => some (.inl d)) (fun x => some (.inr x))) next out := by
  delta r4_Same_L1_t; exact (Ps.nd (Ps.nd (Ps.nd (Ps.nd Ps.ou Ps.nx) Ps.no) Ps.no) Ps.ou)
theorem r4_Same_L1_ev (α : Type) (d : r4_Same_L1_D) (next : r4_Same_L1_D → Option α) (k : Exit → St → Option α) : ev Tryd.prog NrFE1 r4_Same_h0 60 [0, 0, 1, 0, 1, 1] ((codeAt (bodyOf Tryd.f22) [0, 0, 1, 0, 1, 1]).getD .skip) ⟨mkS r4_Same_L1_A (r4_Same_L1_ofA d), mkH r4_Same_L1_H (r4_Same_L1_ofH d)⟩ (passK 0 r4_Same_L1_N r4_Same_L1_A r4_Same_L1_H r4_Same_L1_X (fun a m => next (r4_Same_L1_to a m)) k) = PassOf (r4_Same_L1_pass d) next fun x => k (r4_Same_L1_fin x).1 (r4_Same_L1_fin x).2 := by
  obtain ⟨s0, s1, s5⟩ := d
  exact (show _ = r4_Same_L1_t s0 s1 s5 next (fun x => k (r4_Same_L1_fin x).1 (r4_Same_L1_fin x).2) from by kernel_rfl).trans (r4_Same_L1_t_eq s0 s1 s5 _ _)
noncomputable def r4_Same_L1 (d : r4_Same_L1_D) : Option r4_Same_L1_R := runs r4_Same_L1_pass d
noncomputable def r4_Same_L1_sp : CSpec := fun _ st k => reNorm 0 r4_Same_L1_N r4_Same_L1_A r4_Same_L1_H st fun a m => outOf (r4_Same_L1 (r4_Same_L1_to a m)) fun v => sumOf v (fun v => k .ret ⟨[.any, .any, .any, .any, .lit (.bool v), .any, .any, .any, .any, .any, .any, .any, .any, .any, .any, .any, .any, .any, .any, .any, .any, .any, .any, .any, .any, .any], []⟩) (fun v => k (.exit 0) ⟨[.any, .any, .any, .any, .any, .any, .any, .any, .any, .any, .any, .any, .any, .any, .any, .any, .any, .any, .any, .any, .any, .any, .any, .any, .any, .any], []⟩)
theorem r4_Same_L1_ok : SumOK Tryd.prog 0 (.loop ((codeAt (bodyOf Tryd.f22) [0, 0, 1, 0, 1, 1]).getD .skip)) r4_Same_L1_sp := (SumOK.loop NrFE1_ok mixed r4_Same_h0_ok (show codeAt (bodyOf Tryd.f22) [0, 1, 0, 1, 1] = some (.loop ((codeAt (bodyOf Tryd.f22) [0, 0, 1, 0, 1, 1]).getD .skip)) from by kernel_rfl) (N := r4_Same_L1_N) (Nx := r4_Same_L1_X) (A := r4_Same_L1_A) (Hs := r4_Same_L1_H) (toD := r4_Same_L1_to) (ofA := r4_Same_L1_ofA) (ofH := r4_Same_L1_ofH) (fun _ _ => rfl) (fun _ _ => rfl) (pass := r4_Same_L1_pass) (fin := r4_Same_L1_fin) 60 r4_Same_L1_ev (steps r4_Same_L1_pass)).mono fun α st k r h => by
  refine Eq.trans (congrArg (reNorm 0 r4_Same_L1_N r4_Same_L1_A r4_Same_L1_H st) ?_) h
  funext a m
  exact outOf_congr fun x => by rcases x with x | x <;> rfl
noncomputable def r4_Same_L1_h : Hints := r4_Same_h0.add [0, 1, 0, 1, 1] r4_Same_L1_sp
theorem r4_Same_L1_h_ok : r4_Same_L1_h.OK Tryd.prog (bodyOf Tryd.f22) := r4_Same_h0_ok.add (show codeAt (bodyOf Tryd.f22) [0, 1, 0, 1, 1] = some (.loop ((codeAt (bodyOf Tryd.f22) [0, 0, 1, 0, 1, 1]).getD .skip)) from by kernel_rfl) r4_Same_L1_ok
abbrev r4_Same_R : Type := (Bool)
noncomputable def r4_Same_t {γ : Type} (a0 : (List Int)) (a1 : (List Int)) (k : r4_Same_R → Option γ) : Option γ := cond ((↑(List.length a0) : Int) != (↑(List.length a1) : Int)) (k (false)) (outOf (r4_Same_L1 (a0, a1, (0 : Int))) fun (x1 : Bool ⊕ Unit) => sumOf x1 (fun x2 => k (x2)) (fun x3 => k (true)))
noncomputable def r4_Same (a0 : (List Int)) (a1 : (List Int)) : Option r4_Same_R := r4_Same_t a0 a1 some
theorem r4_Same_t_eq {γ : Type} (a0 : (List Int)) (a1 : (List Int)) (k : r4_Same_R → Option γ) : r4_Same_t a0 a1 k = outOf (r4_Same a0 a1) k := by
  delta r4_Same r4_Same_t; exact (Tr.nd Tr.lf (Tr.bd fun x1 => (Tr.cs (fun x2 => Tr.lf) (fun x3 => Tr.lf))))
noncomputable def r4_Same_sp : TX.Spec := specD [.val (.sl (.int .i64)), .val (.sl (.int .i64))] [] fun _ a m k => match a, m with | ⟨a0, a1, _⟩, _ => outOf (r4_Same a0 a1) fun v => k (.lit (.bool v)) []
theorem r4_Same_ev {α : Type} (a0 : (List Int)) (a1 : (List Int)) (k : Kont α) : evFun Tryd.prog NrFE1 (r4_Same_L1_h) false Tryd.f22 (bodyOf Tryd.f22) 60 (mkS [.val (.sl (.int .i64)), .val (.sl (.int .i64))] (a0, a1, ())) (mkH [] ()) k = outOf (r4_Same a0 a1) fun v => k (.lit (.bool v)) [] :=
  (show _ = r4_Same_t a0 a1 (fun v => k (.lit (.bool v)) []) from by kernel_rfl).trans (r4_Same_t_eq a0 a1 _)
theorem r4_Same_good : TX.Good Tryd.prog 22 r4_Same_sp := good_form NrFE1_ok mixed Tryd.func22 (body_of rfl) (by kernel_rfl) false fun α a m k r h => by
  obtain ⟨a0, a1, _⟩ := a; obtain _ := m
  exact ⟨r4_Same_L1_h, 60, r4_Same_L1_h_ok, rfl, (r4_Same_ev a0 a1 k).trans h⟩
noncomputable def NrGE1 : Env := NrFE1.add 134 true ref_Bit_sp |>.add 135 true ref_Make_sp |>.add 59 true ref_Of_sp |>.add 19 true r5_Digit_sp |>.add 21 true r5_Sign_sp |>.add 22 true r4_Same_sp
theorem NrGE1_ok : NrGE1.OK Tryd.prog := ((((((NrFE1_ok).add_ok ref_Bit_good).add_ok ref_Make_good).add_ok ref_Of_good).add_ok r5_Digit_good).add_ok r5_Sign_good).add_ok r4_Same_good
/-! f116 tenterhook/tenterhookref02.bits -/
def ref_bits_h0 : Hints := Hints.nil 0
theorem ref_bits_h0_ok : ref_bits_h0.OK Tryd.prog (bodyOf Tryd.f116) := Hints.nil_ok
def ref_bits_L1_A : List SD := [.any, .loc 0 0 0, .any, .rowz 1, .val (.int .i64), .any, .any, .any, .any, .any, .any, .any, .any, .any, .any, .any, .any, .any, .any, .any, .any, .any, .any, .any, .any, .any, .any, .any, .any]
def ref_bits_L1_H : List HD := [.box [.val (.int .i64), .val (.int .i64)], .row (.int .i64)]
abbrev ref_bits_L1_D : Type := Nat × Int × Int × Int × (List Int)
def ref_bits_L1_to (a : DenS ref_bits_L1_A) (m : DenH ref_bits_L1_H) : ref_bits_L1_D := (a.2.2.2.1, a.2.2.2.2.1, m.1.1, m.1.2.1, m.2.1)
def ref_bits_L1_ofA (d : ref_bits_L1_D) : DenS ref_bits_L1_A := match d with | (s3_n, s4, m0_0, m0_1, m1) => ((), (), (), s3_n, s4, (), (), (), (), (), (), (), (), (), (), (), (), (), (), (), (), (), (), (), (), (), (), (), (), ())
def ref_bits_L1_ofH (d : ref_bits_L1_D) : DenH ref_bits_L1_H := match d with | (s3_n, s4, m0_0, m0_1, m1) => ((m0_0, m0_1, ()), m1, ())
def ref_bits_L1_N : Norm := (⟨[1, 3, 4], [3], []⟩ : Go.TX.Norm)
def ref_bits_L1_X : Exit → Norm := fun e => match e with | .exit 0 => ⟨[1, 3], [], []⟩ | _ => ⟨[], [], []⟩
abbrev ref_bits_L1_R : Type := (Nat × Int × Int × (List Int))
def ref_bits_L1_fin (v : ref_bits_L1_R) : Exit × St := ((.exit 0), ⟨[.any, .ptr 0 0 0, .any, .msl 1 0 v.1, .any, .any, .any, .any, .any, .any, .any, .any, .any, .any, .any, .any, .any, .any, .any, .any, .any, .any, .any, .any, .any, .any, .any, .any, .any], [.box [.lit (.int .i64 v.2.1), .lit (.int .i64 v.2.2.1)], .row (.int .i64) v.2.2.2]⟩)
noncomputable def ref_bits_L1_t {γ : Type} (s3_n : Nat) (s4 : Int) (m0_0 : Int) (m0_1 : Int) (m1 : (List Int)) (next : ref_bits_L1_D → Option γ) (out : ref_bits_L1_R → Option γ) : Option γ := cond (decide (s4 < (64 : Int))) (outOf (ref_Bit m0_0 s4) fun (x1 : Int) => cond (decide (s3_n + List.length [x1] ≤ (2147483648 : Nat))) (next (s3_n + List.length [x1], IntKind.wrap IntKind.i64 (s4 + (1 : Int)), m0_0, m0_1, List.take s3_n (List.drop (0 : Nat) m1) ++ [x1])) (none)) (out (s3_n, m0_0, m0_1, m1))
noncomputable def ref_bits_L1_pass (d : ref_bits_L1_D) : Option (ref_bits_L1_D ⊕ ref_bits_L1_R) := ref_bits_L1_t d.1 d.2.1 d.2.2.1 d.2.2.2.1 d.2.2.2.2 (fun d => some (.inl d)) (fun x => some (.inr x))
theorem ref_bits_L1_t_eq {γ : Type} (s3_n : Nat) (s4 : Int) (m0_0 : Int) (m0_1 : Int) (m1 : (List Int)) (next : ref_bits_L1_D → Option γ) (out : ref_bits_L1_R → Option γ) : ref_bits_L1_t s3_n s4 m0_0 m0_1 m1 next out = PassOf (ref_bits_L1_t s3_n s4 m0_0 m0_1 m1 (fun d => some (.inl d)) (fun x => some (.inr x))) next out := by
  delta ref_bits_L1_t; exact (Ps.nd (Ps.bd fun x1 => (Ps.nd Ps.nx Ps.no)) Ps.ou)
theorem ref_bits_L1_ev (α : Type) (d : ref_bits_L1_D) (next : ref_bits_L1_D → Option α) (k : Exit → St → Option α) : ev Tryd.prog NrGE1 ref_bits_h0 60 [0, 0, 1, 0, 1, 1] ((codeAt (bodyOf Tryd.f116) [0, 0, 1, 0, 1, 1]).getD .skip) ⟨mkS ref_bits_L1_A (ref_bits_L1_ofA d), mkH ref_bits_L1_H (ref_bits_L1_ofH d)⟩ (passK 0 ref_bits_L1_N ref_bits_L1_A ref_bits_L1_H ref_bits_L1_X (fun a m => next (ref_bits_L1_to a m)) k) = PassOf (ref_bits_L1_pass d) next fun x => k (ref_bits_L1_fin x).1 (ref_bits_L1_fin x).2 := by
  obtain ⟨s3_n, s4, m0_0, m0_1, m1⟩ := d
  exact (show _ = ref_bits_L1_t s3_n s4 m0_0 m0_1 m1 next (fun x => k (ref_bits_L1_fin x).1 (ref_bits_L1_fin x).2) from by kernel_rfl).trans (ref_bits_L1_t_eq s3_n s4 m0_0 m0_1 m1 _ _)
noncomputable def ref_bits_L1 (d : ref_bits_L1_D) : Option ref_bits_L1_R := runs ref_bits_L1_pass d
noncomputable def ref_bits_L1_sp : CSpec := fun _ st k => reNorm 0 ref_bits_L1_N ref_bits_L1_A ref_bits_L1_H st fun a m => outOf (ref_bits_L1 (ref_bits_L1_to a m)) fun v => k (.exit 0) ⟨[.any, .ptr 0 0 0, .any, .msl 1 0 v.1, .any, .any, .any, .any, .any, .any, .any, .any, .any, .any, .any, .any, .any, .any, .any, .any, .any, .any, .any, .any, .any, .any, .any, .any, .any], [.box [.lit (.int .i64 v.2.1), .lit (.int .i64 v.2.2.1)], .row (.int .i64) v.2.2.2]⟩
theorem ref_bits_L1_ok : SumOK Tryd.prog 0 (.loop ((codeAt (bodyOf Tryd.f116) [0, 0, 1, 0, 1, 1]).getD .skip)) ref_bits_L1_sp := (SumOK.loop NrGE1_ok mixed ref_bits_h0_ok (show codeAt (bodyOf Tryd.f116) [0, 1, 0, 1, 1] = some (.loop ((codeAt (bodyOf Tryd.f116) [0, 0, 1, 0, 1, 1]).getD .skip)) from by kernel_rfl) (N := ref_bits_L1_N) (Nx := ref_bits_L1_X) (A := ref_bits_L1_A) (Hs := ref_bits_L1_H) (toD := ref_bits_L1_to) (ofA := ref_bits_L1_ofA) (ofH := ref_bits_L1_ofH) (fun _ _ => rfl) (fun _ _ => rfl) (pass := ref_bits_L1_pass) (fin := ref_bits_L1_fin) 60 ref_bits_L1_ev (steps ref_bits_L1_pass)).mono fun α st k r h => by
  refine Eq.trans (congrArg (reNorm 0 ref_bits_L1_N ref_bits_L1_A ref_bits_L1_H st) ?_) h
  funext a m
  exact outOf_congr fun x => rfl
noncomputable def ref_bits_L1_h : Hints := ref_bits_h0.add [0, 1, 0, 1, 1] ref_bits_L1_sp
theorem ref_bits_L1_h_ok : ref_bits_L1_h.OK Tryd.prog (bodyOf Tryd.f116) := ref_bits_h0_ok.add (show codeAt (bodyOf Tryd.f116) [0, 1, 0, 1, 1] = some (.loop ((codeAt (bodyOf Tryd.f116) [0, 0, 1, 0, 1, 1]).getD .skip)) from by kernel_rfl) ref_bits_L1_ok
def ref_bits_L2_A : List SD := [.any, .loc 0 0 0, .any, .rowz 1, .any, .val (.int .i64), .any, .any, .any, .any, .any, .any, .any, .any, .any, .any, .any, .any, .any, .any, .any, .any, .any, .any, .any, .any, .any, .any, .any]
def ref_bits_L2_H : List HD := [.box [.val (.int .i64), .val (.int .i64)], .row (.int .i64)]
abbrev ref_bits_L2_D : Type := Nat × Int × Int × Int × (List Int)
def ref_bits_L2_to (a : DenS ref_bits_L2_A) (m : DenH ref_bits_L2_H) : ref_bits_L2_D := (a.2.2.2.1, a.2.2.2.2.2.1, m.1.1, m.1.2.1, m.2.1)
def ref_bits_L2_ofA (d : ref_bits_L2_D) : DenS ref_bits_L2_A := match d with | (s3_n, s5, m0_0, m0_1, m1) => ((), (), (), s3_n, (), s5, (), (), (), (), (), (), (), (), (), (), (), (), (), (), (), (), (), (), (), (), (), (), (), ())
def ref_bits_L2_ofH (d : ref_bits_L2_D) : DenH ref_bits_L2_H := match d with | (s3_n, s5, m0_0, m0_1, m1) => ((m0_0, m0_1, ()), m1, ())
def ref_bits_L2_N : Norm := (⟨[1, 3, 5], [], []⟩ : Go.TX.Norm)
def ref_bits_L2_X : Exit → Norm := fun e => match e with | .exit 2 => ⟨[3], [], []⟩ | _ => ⟨[], [], []⟩
abbrev ref_bits_L2_R : Type := (Nat × (List Int))
def ref_bits_L2_fin (v : ref_bits_L2_R) : Exit × St := ((.exit 2), ⟨[.any, .any, .any, .msl 0 0 v.1, .any, .any, .any, .any, .any, .any, .any, .any, .any, .any, .any, .any, .any, .any, .any, .any, .any, .any, .any, .any, .any, .any, .any, .any, .any], [.row (.int .i64) v.2]⟩)
noncomputable def ref_bits_L2_t {γ : Type} (s3_n : Nat) (s5 : Int) (m0_0 : Int) (m0_1 : Int) (m1 : (List Int)) (next : ref_bits_L2_D → Option γ) (out : ref_bits_L2_R → Option γ) : Option γ := cond (decide (s5 < (64 : Int))) (outOf (ref_Bit m0_1 s5) fun (x4 : Int) => cond (decide (s3_n + List.length [x4] ≤ (2147483648 : Nat))) (next (s3_n + List.length [x4], IntKind.wrap IntKind.i64 (s5 + (1 : Int)), m0_0, m0_1, List.take s3_n (List.drop (0 : Nat) m1) ++ [x4])) (none)) (out (s3_n, m1))
noncomputable def ref_bits_L2_pass (d : ref_bits_L2_D) : Option (ref_bits_L2_D ⊕ ref_bits_L2_R) := ref_bits_L2_t d.1 d.2.1 d.2.2.1 d.2.2.2.1 d.2.2.2.2 (fun d => some (.inl d)) (fun x => some (.inr x))
theorem ref_bits_L2_t_eq {γ : Type} (s3_n : Nat) (s5 : Int) (m0_0 : Int) (m0_1 : Int) (m1 : (List Int)) (next : ref_bits_L2_D → Option γ) (out : ref_bits_L2_R → Option γ) : ref_bits_L2_t s3_n s5 m0_0 m0_1 m1 next out = PassOf (ref_bits_L2_t s3_n s5 m0_0 m0_1 m1 (fun d => some (.inl d)) (fun x => some (.inr x))) next out := by
  delta ref_bits_L2_t; exact (Ps.nd (Ps.bd fun x4 => (Ps.nd Ps.nx Ps.no)) Ps.ou)
theorem ref_bits_L2_ev (α : Type) (d : ref_bits_L2_D) (next : ref_bits_L2_D → Option α) (k : Exit → St → Option α) : ev Tryd.prog NrGE1 ref_bits_L1_h 60 [0, 0, 1, 0, 1, 1, 1] ((codeAt (bodyOf Tryd.f116) [0, 0, 1, 0, 1, 1, 1]).getD .skip) ⟨mkS ref_bits_L2_A (ref_bits_L2_ofA d), mkH ref_bits_L2_H (ref_bits_L2_ofH d)⟩ (passK 0 ref_bits_L2_N ref_bits_L2_A ref_bits_L2_H ref_bits_L2_X (fun a m => next (ref_bits_L2_to a m)) k) = PassOf (ref_bits_L2_pass d) next fun x => k (ref_bits_L2_fin x).1 (ref_bits_L2_fin x).2 := by
  obtain ⟨s3_n, s5, m0_0, m0_1, m1⟩ := d
  exact (show _ = ref_bits_L2_t s3_n s5 m0_0 m0_1 m1 next (fun x => k (ref_bits_L2_fin x).1 (ref_bits_L2_fin x).2) from by kernel_rfl).trans (ref_bits_L2_t_eq s3_n s5 m0_0 m0_1 m1 _ _)
noncomputable def ref_bits_L2 (d : ref_bits_L2_D) : Option ref_bits_L2_R := runs ref_bits_L2_pass d
noncomputable def ref_bits_L2_sp : CSpec := fun _ st k => reNorm 0 ref_bits_L2_N ref_bits_L2_A ref_bits_L2_H st fun a m => outOf (ref_bits_L2 (ref_bits_L2_to a m)) fun v => k (.exit 2) ⟨[.any, .any, .any, .msl 0 0 v.1, .any, .any, .any, .any, .any, .any, .any, .any, .any, .any, .any, .any, .any, .any, .any, .any, .any, .any, .any, .any, .any, .any, .any, .any, .any], [.row (.int .i64) v.2]⟩
theorem ref_bits_L2_ok : SumOK Tryd.prog 0 (.loop ((codeAt (bodyOf Tryd.f116) [0, 0, 1, 0, 1, 1, 1]).getD .skip)) ref_bits_L2_sp := (SumOK.loop NrGE1_ok mixed ref_bits_L1_h_ok (show codeAt (bodyOf Tryd.f116) [0, 1, 0, 1, 1, 1] = some (.loop ((codeAt (bodyOf Tryd.f116) [0, 0, 1, 0, 1, 1, 1]).getD .skip)) from by kernel_rfl) (N := ref_bits_L2_N) (Nx := ref_bits_L2_X) (A := ref_bits_L2_A) (Hs := ref_bits_L2_H) (toD := ref_bits_L2_to) (ofA := ref_bits_L2_ofA) (ofH := ref_bits_L2_ofH) (fun _ _ => rfl) (fun _ _ => rfl) (pass := ref_bits_L2_pass) (fin := ref_bits_L2_fin) 60 ref_bits_L2_ev (steps ref_bits_L2_pass)).mono fun α st k r h => by
  refine Eq.trans (congrArg (reNorm 0 ref_bits_L2_N ref_bits_L2_A ref_bits_L2_H st) ?_) h
  funext a m
  exact outOf_congr fun x => rfl
noncomputable def ref_bits_L2_h : Hints := ref_bits_L1_h.add [0, 1, 0, 1, 1, 1] ref_bits_L2_sp
theorem ref_bits_L2_h_ok : ref_bits_L2_h.OK Tryd.prog (bodyOf Tryd.f116) := ref_bits_L1_h_ok.add (show codeAt (bodyOf Tryd.f116) [0, 1, 0, 1, 1, 1] = some (.loop ((codeAt (bodyOf Tryd.f116) [0, 0, 1, 0, 1, 1, 1]).getD .skip)) from by kernel_rfl) ref_bits_L2_ok
abbrev ref_bits_R : Type := ((List Int))
noncomputable def ref_bits_t {γ : Type} (a0_0 : Int) (a0_1 : Int) (k : ref_bits_R → Option γ) : Option γ := outOf (ref_bits_L1 ((0 : Nat), (0 : Int), a0_0, a0_1, [])) fun (x5 : (Nat × (Int × (Int × (List Int))))) => outOf (ref_bits_L2 (Prod.fst x5, (0 : Int), Prod.fst (Prod.snd x5), Prod.fst (Prod.snd (Prod.snd x5)), Prod.snd (Prod.snd (Prod.snd x5)))) fun (x6 : (Nat × (List Int))) => k (List.take (Prod.fst x6) (List.drop (0 : Nat) (Prod.snd x6)))
noncomputable def ref_bits (a0_0 : Int) (a0_1 : Int) : Option ref_bits_R := ref_bits_t a0_0 a0_1 some
theorem ref_bits_t_eq {γ : Type} (a0_0 : Int) (a0_1 : Int) (k : ref_bits_R → Option γ) : ref_bits_t a0_0 a0_1 k = outOf (ref_bits a0_0 a0_1) k := by
  delta ref_bits ref_bits_t; exact (Tr.bd fun x5 => (Tr.bd fun x6 => Tr.lf))
noncomputable def ref_bits_sp : TX.Spec := specD [.agg (.pair (.int .i64) (.int .i64))] [] fun _ a m k => match a, m with | ⟨⟨a0_0, a0_1⟩, _⟩, _ => outOf (ref_bits a0_0 a0_1) fun v => k (.sl (.int .i64) v false) []
theorem ref_bits_ev {α : Type} (a0_0 : Int) (a0_1 : Int) (k : Kont α) : evFun Tryd.prog NrGE1 (ref_bits_L2_h) false Tryd.f116 (bodyOf Tryd.f116) 60 (mkS [.agg (.pair (.int .i64) (.int .i64))] ((a0_0, a0_1), ())) (mkH [] ()) k = outOf (ref_bits a0_0 a0_1) fun v => k (.sl (.int .i64) v false) [] :=
  (show _ = ref_bits_t a0_0 a0_1 (fun v => k (.sl (.int .i64) v false) []) from by kernel_rfl).trans (ref_bits_t_eq a0_0 a0_1 _)
theorem ref_bits_good : TX.Good Tryd.prog 116 ref_bits_sp := good_form NrGE1_ok mixed Tryd.func116 (body_of rfl) (by kernel_rfl) false fun α a m k r h => by
  obtain ⟨⟨a0_0, a0_1⟩, _⟩ := a; obtain _ := m
  exact ⟨ref_bits_L2_h, 60, ref_bits_L2_h_ok, rfl, (ref_bits_ev a0_0 a0_1 k).trans h⟩
/-! f117 tenterhook/tenterhookref02.make2 -/
def ref_make2_h0 : Hints := Hints.nil 0
theorem ref_make2_h0_ok : ref_make2_h0.OK Tryd.prog (bodyOf Tryd.f117) := Hints.nil_ok
abbrev ref_make2_R : Type := (Int × Int)
noncomputable def ref_make2_t {γ : Type} (a0 : (List Int)) (k : ref_make2_R → Option γ) : Option γ := cond (decide ((0 : Int) ≤ (0 : Int) ∧ (0 : Int) ≤ (64 : Int) ∧ (64 : Int) ≤ (↑(List.length a0) : Int))) (outOf (ref_Make (List.take (64 : Nat) (List.drop (0 : Nat) a0))) fun (x1 : Int) => cond (decide ((0 : Int) ≤ (64 : Int) ∧ (64 : Int) ≤ (128 : Int) ∧ (128 : Int) ≤ (↑(List.length a0) : Int))) (outOf (ref_Make (List.take (64 : Nat) (List.drop (64 : Nat) a0))) fun (x2 : Int) => k (x1, x2)) (none)) (none)
noncomputable def ref_make2 (a0 : (List Int)) : Option ref_make2_R := ref_make2_t a0 some
theorem ref_make2_t_eq {γ : Type} (a0 : (List Int)) (k : ref_make2_R → Option γ) : ref_make2_t a0 k = outOf (ref_make2 a0) k := by
  delta ref_make2 ref_make2_t; exact (Tr.nd (Tr.bd fun x1 => (Tr.nd (Tr.bd fun x2 => Tr.lf) Tr.no)) Tr.no)
noncomputable def ref_make2_sp : TX.Spec := specD [.val (.sl (.int .i64))] [] fun _ a m k => match a, m with | ⟨a0, _⟩, _ => outOf (ref_make2 a0) fun v => k (.agg [.lit (.int .i64 v.1), .lit (.int .i64 v.2)]) []
theorem ref_make2_ev {α : Type} (a0 : (List Int)) (k : Kont α) : evFun Tryd.prog NrGE1 (ref_make2_h0) false Tryd.f117 (bodyOf Tryd.f117) 60 (mkS [.val (.sl (.int .i64))] (a0, ())) (mkH [] ()) k = outOf (ref_make2 a0) fun v => k (.agg [.lit (.int .i64 v.1), .lit (.int .i64 v.2)]) [] :=
  (show _ = ref_make2_t a0 (fun v => k (.agg [.lit (.int .i64 v.1), .lit (.int .i64 v.2)]) []) from by kernel_rfl).trans (ref_make2_t_eq a0 _)
theorem ref_make2_good : TX.Good Tryd.prog 117 ref_make2_sp := good_form NrGE1_ok mixed Tryd.func117 (body_of rfl) (by kernel_rfl) false fun α a m k r h => by
  obtain ⟨a0, _⟩ := a; obtain _ := m
  exact ⟨ref_make2_h0, 60, ref_make2_h0_ok, rfl, (ref_make2_ev a0 k).trans h⟩
/-! f145 tenterhook/tenterhookref01.Ult -/
def ref_Ult_h0 : Hints := Hints.nil 0
theorem ref_Ult_h0_ok : ref_Ult_h0.OK Tryd.prog (bodyOf Tryd.f145) := Hints.nil_ok
def ref_Ult_L1_A : List SD := [.val (.int .i64), .val (.int .i64), .any, .any, .any, .val (.int .i64), .any, .any, .any, .any, .any, .any, .any, .any, .any, .any, .any, .any, .any, .any, .any]
def ref_Ult_L1_H : List HD := []
abbrev ref_Ult_L1_D : Type := Int × Int × Int
def ref_Ult_L1_to (a : DenS ref_Ult_L1_A) (m : DenH ref_Ult_L1_H) : ref_Ult_L1_D := (a.1, a.2.1, a.2.2.2.2.2.1)
def ref_Ult_L1_ofA (d : ref_Ult_L1_D) : DenS ref_Ult_L1_A := match d with | (s0, s1, s5) => (s0, s1, (), (), (), s5, (), (), (), (), (), (), (), (), (), (), (), (), (), (), (), ())
def ref_Ult_L1_ofH (d : ref_Ult_L1_D) : DenH ref_Ult_L1_H := match d with | (s0, s1, s5) => ()
def ref_Ult_L1_N : Norm := (⟨[0, 1, 5], [], []⟩ : Go.TX.Norm)
def ref_Ult_L1_X : Exit → Norm := fun e => match e with | .exit 0 => ⟨[], [], []⟩ | .ret => ⟨[4], [], []⟩ | _ => ⟨[], [], []⟩
abbrev ref_Ult_L1_R : Type := ((Bool) ⊕ (Unit))
def ref_Ult_L1_fin (v : ref_Ult_L1_R) : Exit × St := sumOf v (fun v => (.ret, ⟨[.any, .any, .any, .any, .lit (.bool v), .any, .any, .any, .any, .any, .any, .any, .any, .any, .any, .any, .any, .any, .any, .any, .any], []⟩)) (fun v => ((.exit 0), ⟨[.any, .any, .any, .any, .any, .any, .any, .any, .any, .any, .any, .any, .any, .any, .any, .any, .any, .any, .any, .any, .any], []⟩))
noncomputable def ref_Ult_L1_t {γ : Type} (s0 : Int) (s1 : Int) (s5 : Int) (next : ref_Ult_L1_D → Option γ) (out : ref_Ult_L1_R → Option γ) : Option γ := cond (decide (s5 ≥ (0 : Int))) (outOf (ref_Bit s0 s5) fun (x1 : Int) => outOf (ref_Bit s1 s5) fun (x2 : Int) => cond (x1 != x2) (outOf (ref_Bit s1 s5) fun (x3 : Int) => out (.inl (x3 == (1 : Int)))) (next (s0, s1, IntKind.wrap IntKind.i64 (s5 - (1 : Int))))) (out (.inr ()))
noncomputable def ref_Ult_L1_pass (d : ref_Ult_L1_D) : Option (ref_Ult_L1_D ⊕ ref_Ult_L1_R) := ref_Ult_L1_t d.1 d.2.1 d.2.2 (fun d => some (.inl d)) (fun x => some (.inr x))
theorem ref_Ult_L1_t_eq {γ : Type} (s0 : Int) (s1 : Int) (s5 : Int) (next : ref_Ult_L1_D → Option γ) (out : ref_Ult_L1_R → Option γ) : ref_Ult_L1_t s0 s1 s5 next out = PassOf (ref_Ult_L1_t s0 s1 s5 (fun d => some (.inl d)) (fun x => some (.inr x))) next out := by
  delta ref_Ult_L1_t; exact (Ps.nd (Ps.bd fun x1 => (Ps.bd fun x2 => (Ps.nd (Ps.bd fun x3 => Ps.ou) Ps.nx))) Ps.ou)
theorem ref_Ult_L1_ev (α : Type) (d : ref_Ult_L1_D) (next : ref_Ult_L1_D → Option α) (k : Exit → St → Option α) : ev Tryd.prog NrGE1 ref_Ult_h0 60 [0, 0, 1, 0, 1] ((codeAt (bodyOf Tryd.f145) [0, 0, 1, 0, 1]).getD .skip) ⟨mkS ref_Ult_L1_A (ref_Ult_L1_ofA d), mkH ref_Ult_L1_H (ref_Ult_L1_ofH d)⟩ (passK 0 ref_Ult_L1_N ref_Ult_L1_A ref_Ult_L1_H ref_Ult_L1_X (fun a m => next (ref_Ult_L1_to a m)) k) = PassOf (ref_Ult_L1_pass d) next fun x => k (ref_Ult_L1_fin x).1 (ref_Ult_L1_fin x).2 := by
  obtain ⟨s0, s1, s5⟩ := d
  exact (show _ = ref_Ult_L1_t s0 s1 s5 next (fun x => k (ref_Ult_L1_fin x).1 (ref_Ult_L1_fin x).2) from by kernel_rfl).trans (ref_Ult_L1_t_eq s0 s1 s5 _ _)
noncomputable def ref_Ult_L1 (d : ref_Ult_L1_D) : Option ref_Ult_L1_R := runs ref_Ult_L1_pass d
noncomputable def ref_Ult_L1_sp : CSpec := fun _ st k => reNorm 0 ref_Ult_L1_N ref_Ult_L1_A ref_Ult_L1_H st fun a m => outOf (ref_Ult_L1 (ref_Ult_L1_to a m)) fun v => sumOf v (fun v => k .ret ⟨[.any, .any, .any, .any, .lit (.bool v), .any, .any, .any, .any, .any, .any, .any, .any, .any, .any, .any, .any, .any, .any, .any, .any], []⟩) (fun v => k (.exit 0) ⟨[.any, .any, .any, .any, .any, .any, .any, .any, .any, .any, .any, .any, .any, .any, .any, .any, .any, .any, .any, .any, .any], []⟩)
theorem ref_Ult_L1_ok : SumOK Tryd.prog 0 (.loop ((codeAt (bodyOf Tryd.f145) [0, 0, 1, 0, 1]).getD .skip)) ref_Ult_L1_sp := (SumOK.loop NrGE1_ok mixed ref_Ult_h0_ok (show codeAt (bodyOf Tryd.f145) [0, 1, 0, 1] = some (.loop ((codeAt (bodyOf Tryd.f145) [0, 0, 1, 0, 1]).getD .skip)) from by kernel_rfl) (N := ref_Ult_L1_N) (Nx := ref_Ult_L1_X) (A := ref_Ult_L1_A) (Hs := ref_Ult_L1_H) (toD := ref_Ult_L1_to) (ofA := ref_Ult_L1_ofA) (ofH := ref_Ult_L1_ofH) (fun _ _ => rfl) (fun _ _ => rfl) (pass := ref_Ult_L1_pass) (fin := ref_Ult_L1_fin) 60 ref_Ult_L1_ev (steps ref_Ult_L1_pass)).mono fun α st k r h => by
  refine Eq.trans (congrArg (reNorm 0 ref_Ult_L1_N ref_Ult_L1_A ref_Ult_L1_H st) ?_) h
  funext a m
  exact outOf_congr fun x => by rcases x with x | x <;> rfl
noncomputable def ref_Ult_L1_h : Hints := ref_Ult_h0.add [0, 1, 0, 1] ref_Ult_L1_sp
theorem ref_Ult_L1_h_ok : ref_Ult_L1_h.OK Tryd.prog (bodyOf Tryd.f145) := ref_Ult_h0_ok.add (show codeAt (bodyOf Tryd.f145) [0, 1, 0, 1] = some (.loop ((codeAt (bodyOf Tryd.f145) [0, 0, 1, 0, 1]).getD .skip)) from by kernel_rfl) ref_Ult_L1_ok
abbrev ref_Ult_R : Type := (Bool)
noncomputable def ref_Ult_t {γ : Type} (a0 : Int) (a1 : Int) (k : ref_Ult_R → Option γ) : Option γ := outOf (ref_Ult_L1 (a0, a1, (63 : Int))) fun (x4 : Bool ⊕ Unit) => sumOf x4 (fun x5 => k (x5)) (fun x6 => k (false))
noncomputable def ref_Ult (a0 : Int) (a1 : Int) : Option ref_Ult_R := ref_Ult_t a0 a1 some
theorem ref_Ult_t_eq {γ : Type} (a0 : Int) (a1 : Int) (k : ref_Ult_R → Option γ) : ref_Ult_t a0 a1 k = outOf (ref_Ult a0 a1) k := by
  delta ref_Ult ref_Ult_t; exact (Tr.bd fun x4 => (Tr.cs (fun x5 => Tr.lf) (fun x6 => Tr.lf)))
noncomputable def ref_Ult_sp : TX.Spec := specD [.val (.int .i64), .val (.int .i64)] [] fun _ a m k => match a, m with | ⟨a0, a1, _⟩, _ => outOf (ref_Ult a0 a1) fun v => k (.lit (.bool v)) []
theorem ref_Ult_ev {α : Type} (a0 : Int) (a1 : Int) (k : Kont α) : evFun Tryd.prog NrGE1 (ref_Ult_L1_h) false Tryd.f145 (bodyOf Tryd.f145) 60 (mkS [.val (.int .i64), .val (.int .i64)] (a0, a1, ())) (mkH [] ()) k = outOf (ref_Ult a0 a1) fun v => k (.lit (.bool v)) [] :=
  (show _ = ref_Ult_t a0 a1 (fun v => k (.lit (.bool v)) []) from by kernel_rfl).trans (ref_Ult_t_eq a0 a1 _)
theorem ref_Ult_good : TX.Good Tryd.prog 145 ref_Ult_sp := good_form NrGE1_ok mixed Tryd.func145 (body_of rfl) (by kernel_rfl) false fun α a m k r h => by
  obtain ⟨a0, a1, _⟩ := a; obtain _ := m
  exact ⟨ref_Ult_L1_h, 60, ref_Ult_L1_h_ok, rfl, (ref_Ult_ev a0 a1 k).trans h⟩
noncomputable def NrGE2 : Env := NrGE1.add 116 true ref_bits_sp |>.add 117 true ref_make2_sp |>.add 145 true ref_Ult_sp
theorem NrGE2_ok : NrGE2.OK Tryd.prog := (((NrGE1_ok).add_ok ref_bits_good).add_ok ref_make2_good).add_ok ref_Ult_good
/-! f91 tenterhook/tenterhookref02.Add -/
def ref_Add_h0 : Hints := Hints.nil 0
theorem ref_Add_h0_ok : ref_Add_h0.OK Tryd.prog (bodyOf Tryd.f91) := Hints.nil_ok
def ref_Add_L1_A : List SD := [.any, .any, .any, .any, .loc 0 0 0, .val (.sl (.int .i64)), .val (.sl (.int .i64)), .rowz 1, .val (.int .i64), .val (.int .i64), .any, .any, .any, .any, .any, .any, .any, .any, .any, .any, .any, .any, .any, .any, .any, .any, .any, .any, .any, .any, .any, .any, .any, .any, .any, .any, .any, .any, .any, .any]
def ref_Add_L1_H : List HD := [.box [.val (.int .i64), .val (.int .i64)], .row (.int .i64)]
abbrev ref_Add_L1_D : Type := (List Int) × (List Int) × Nat × Int × Int × Int × Int × (List Int)
def ref_Add_L1_to (a : DenS ref_Add_L1_A) (m : DenH ref_Add_L1_H) : ref_Add_L1_D := (a.2.2.2.2.2.1, a.2.2.2.2.2.2.1, a.2.2.2.2.2.2.2.1, a.2.2.2.2.2.2.2.2.1, a.2.2.2.2.2.2.2.2.2.1, m.1.1, m.1.2.1, m.2.1)
def ref_Add_L1_ofA (d : ref_Add_L1_D) : DenS ref_Add_L1_A := match d with | (s5, s6, s7_n, s8, s9, m0_0, m0_1, m1) => ((), (), (), (), (), s5, s6, s7_n, s8, s9, (), (), (), (), (), (), (), (), (), (), (), (), (), (), (), (), (), (), (), (), (), (), (), (), (), (), (), (), (), (), ())
def ref_Add_L1_ofH (d : ref_Add_L1_D) : DenH ref_Add_L1_H := match d with | (s5, s6, s7_n, s8, s9, m0_0, m0_1, m1) => ((m0_0, m0_1, ()), m1, ())
def ref_Add_L1_N : Norm := (⟨[4, 5, 6, 7, 8, 9], [], []⟩ : Go.TX.Norm)
def ref_Add_L1_X : Exit → Norm := fun e => match e with | .exit 0 => ⟨[4, 7], [], []⟩ | _ => ⟨[], [], []⟩
abbrev ref_Add_L1_R : Type := (Nat × Int × Int × (List Int))
def ref_Add_L1_fin (v : ref_Add_L1_R) : Exit × St := ((.exit 0), ⟨[.any, .any, .any, .any, .ptr 0 0 0, .any, .any, .msl 1 0 v.1, .any, .any, .any, .any, .any, .any, .any, .any, .any, .any, .any, .any, .any, .any, .any, .any, .any, .any, .any, .any, .any, .any, .any, .any, .any, .any, .any, .any, .any, .any, .any, .any], [.box [.lit (.int .i64 v.2.1), .lit (.int .i64 v.2.2.1)], .row (.int .i64) v.2.2.2]⟩)
noncomputable def ref_Add_L1_t {γ : Type} (s5 : (List Int)) (s6 : (List Int)) (s7_n : Nat) (s8 : Int) (s9 : Int) (m0_0 : Int) (m0_1 : Int) (m1 : (List Int)) (next : ref_Add_L1_D → Option γ) (out : ref_Add_L1_R → Option γ) : Option γ := cond (decide (s9 < (128 : Int))) (cond (decide ((0 : Int) ≤ s9 ∧ s9 < (↑(List.length s5) : Int))) (cond (decide ((0 : Int) ≤ s9 ∧ s9 < (↑(List.length s6) : Int))) (cond (decide ((0 : Int) ≤ s9 ∧ s9 < (↑s7_n : Int))) (next (s5, s6, s7_n, IntKind.wrap IntKind.i64 (Int.tdiv (IntKind.wrap IntKind.i64 (IntKind.wrap IntKind.i64 (List.getD s5 (Int.toNat s9) (0 : Int) + List.getD s6 (Int.toNat s9) (0 : Int)) + s8)) (2 : Int)), IntKind.wrap IntKind.i64 (s9 + (1 : Int)), m0_0, m0_1, List.set m1 ((0 : Nat) + Int.toNat s9) (Int.tmod (IntKind.wrap IntKind.i64 (IntKind.wrap IntKind.i64 (List.getD s5 (Int.toNat s9) (0 : Int) + List.getD s6 (Int.toNat s9) (0 : Int)) + s8)) (2 : Int)))) (none)) (none)) (none)) (out (s7_n, m0_0, m0_1, m1))
noncomputable def ref_Add_L1_pass (d : ref_Add_L1_D) : Option (ref_Add_L1_D ⊕ ref_Add_L1_R) := ref_Add_L1_t d.1 d.2.1 d.2.2.1 d.2.2.2.1 d.2.2.2.2.1 d.2.2.2.2.2.1 d.2.2.2.2.2.2.1 d.2.2.2.2.2.2.2 (fun d => some (.inl d)) (fun x => some (.inr x))
theorem ref_Add_L1_t_eq {γ : Type} (s5 : (List Int)) (s6 : (List Int)) (s7_n : Nat) (s8 : Int) (s9 : Int) (m0_0 : Int) (m0_1 : Int) (m1 : (List Int)) (next : ref_Add_L1_D → Option γ) (out : ref_Add_L1_R → Option γ) : ref_Add_L1_t s5 s6 s7_n s8 s9 m0_0 m0_1 m1 next out = PassOf (ref_Add_L1_t s5 s6 s7_n s8 s9 m0_0 m0_1 m1 (fun d => some (.inl d)) (fun x => some (.inr x))) next out := by
  delta ref_Add_L1_t; exact (Ps.nd (Ps.nd (Ps.nd (Ps.nd Ps.nx Ps.no) Ps.no) Ps.no) Ps.ou)
theorem ref_Add_L1_ev (α : Type) (d : ref_Add_L1_D) (next : ref_Add_L1_D → Option α) (k : Exit → St → Option α) : ev Tryd.prog NrGE2 ref_Add_h0 60 [0, 0, 1, 0, 1, 1, 1, 1, 1] ((codeAt (bodyOf Tryd.f91) [0, 0, 1, 0, 1, 1, 1, 1, 1]).getD .skip) ⟨mkS ref_Add_L1_A (ref_Add_L1_ofA d), mkH ref_Add_L1_H (ref_Add_L1_ofH d)⟩ (passK 0 ref_Add_L1_N ref_Add_L1_A ref_Add_L1_H ref_Add_L1_X (fun a m => next (ref_Add_L1_to a m)) k) = PassOf (ref_Add_L1_pass d) next fun x => k (ref_Add_L1_fin x).1 (ref_Add_L1_fin x).2 := by
  obtain ⟨s5, s6, s7_n, s8, s9, m0_0, m0_1, m1⟩ := d
  exact (show _ = ref_Add_L1_t s5 s6 s7_n s8 s9 m0_0 m0_1 m1 next (fun x => k (ref_Add_L1_fin x).1 (ref_Add_L1_fin x).2) from by kernel_rfl).trans (ref_Add_L1_t_eq s5 s6 s7_n s8 s9 m0_0 m0_1 m1 _ _)
noncomputable def ref_Add_L1 (d : ref_Add_L1_D) : Option ref_Add_L1_R := runs ref_Add_L1_pass d
noncomputable def ref_Add_L1_sp : CSpec := fun _ st k => reNorm 0 ref_Add_L1_N ref_Add_L1_A ref_Add_L1_H st fun a m => outOf (ref_Add_L1 (ref_Add_L1_to a m)) fun v => k (.exit 0) ⟨[.any, .any, .any, .any, .ptr 0 0 0, .any, .any, .msl 1 0 v.1, .any, .any, .any, .any, .any, .any, .any, .any, .any, .any, .any, .any, .any, .any, .any, .any, .any, .any, .any, .any, .any, .any, .any, .any, .any, .any, .any, .any, .any, .any, .any, .any], [.box [.lit (.int .i64 v.2.1), .lit (.int .i64 v.2.2.1)], .row (.int .i64) v.2.2.2]⟩
theorem ref_Add_L1_ok : SumOK Tryd.prog 0 (.loop ((codeAt (bodyOf Tryd.f91) [0, 0, 1, 0, 1, 1, 1, 1, 1]).getD .skip)) ref_Add_L1_sp := (SumOK.loop NrGE2_ok mixed ref_Add_h0_ok (show codeAt (bodyOf Tryd.f91) [0, 1, 0, 1, 1, 1, 1, 1] = some (.loop ((codeAt (bodyOf Tryd.f91) [0, 0, 1, 0, 1, 1, 1, 1, 1]).getD .skip)) from by kernel_rfl) (N := ref_Add_L1_N) (Nx := ref_Add_L1_X) (A := ref_Add_L1_A) (Hs := ref_Add_L1_H) (toD := ref_Add_L1_to) (ofA := ref_Add_L1_ofA) (ofH := ref_Add_L1_ofH) (fun _ _ => rfl) (fun _ _ => rfl) (pass := ref_Add_L1_pass) (fin := ref_Add_L1_fin) 60 ref_Add_L1_ev (steps ref_Add_L1_pass)).mono fun α st k r h => by
  refine Eq.trans (congrArg (reNorm 0 ref_Add_L1_N ref_Add_L1_A ref_Add_L1_H st) ?_) h
  funext a m
  exact outOf_congr fun x => rfl
noncomputable def ref_Add_L1_h : Hints := ref_Add_h0.add [0, 1, 0, 1, 1, 1, 1, 1] ref_Add_L1_sp
theorem ref_Add_L1_h_ok : ref_Add_L1_h.OK Tryd.prog (bodyOf Tryd.f91) := ref_Add_h0_ok.add (show codeAt (bodyOf Tryd.f91) [0, 1, 0, 1, 1, 1, 1, 1] = some (.loop ((codeAt (bodyOf Tryd.f91) [0, 0, 1, 0, 1, 1, 1, 1, 1]).getD .skip)) from by kernel_rfl) ref_Add_L1_ok
abbrev ref_Add_R : Type := (Int × Int)
noncomputable def ref_Add_t {γ : Type} (a0_0 : Int) (a0_1 : Int) (a1_0 : Int) (a1_1 : Int) (k : ref_Add_R → Option γ) : Option γ := outOf (ref_bits a0_0 a0_1) fun (x5 : (List Int)) => outOf (ref_bits a1_0 a1_1) fun (x6 : (List Int)) => outOf (ref_Add_L1 (x5, x6, (128 : Nat), (0 : Int), (0 : Int), (0 : Int), (0 : Int), List.replicate (128 : Nat) (0 : Int))) fun (x7 : (Nat × (Int × (Int × (List Int))))) => outOf (ref_make2 (List.take (Prod.fst x7) (List.drop (0 : Nat) (Prod.snd (Prod.snd (Prod.snd x7)))))) fun (x8 : (Int × Int)) => k (Prod.fst x8, Prod.snd x8)
noncomputable def ref_Add (a0_0 : Int) (a0_1 : Int) (a1_0 : Int) (a1_1 : Int) : Option ref_Add_R := ref_Add_t a0_0 a0_1 a1_0 a1_1 some
theorem ref_Add_t_eq {γ : Type} (a0_0 : Int) (a0_1 : Int) (a1_0 : Int) (a1_1 : Int) (k : ref_Add_R → Option γ) : ref_Add_t a0_0 a0_1 a1_0 a1_1 k = outOf (ref_Add a0_0 a0_1 a1_0 a1_1) k := by
  delta ref_Add ref_Add_t; exact (Tr.bd fun x5 => (Tr.bd fun x6 => (Tr.bd fun x7 => (Tr.bd fun x8 => Tr.lf))))
noncomputable def ref_Add_sp : TX.Spec := specD [.agg (.pair (.int .i64) (.int .i64)), .agg (.pair (.int .i64) (.int .i64))] [] fun _ a m k => match a, m with | ⟨⟨a0_0, a0_1⟩, ⟨a1_0, a1_1⟩, _⟩, _ => outOf (ref_Add a0_0 a0_1 a1_0 a1_1) fun v => k (.agg [.lit (.int .i64 v.1), .lit (.int .i64 v.2)]) []
theorem ref_Add_ev {α : Type} (a0_0 : Int) (a0_1 : Int) (a1_0 : Int) (a1_1 : Int) (k : Kont α) : evFun Tryd.prog NrGE2 (ref_Add_L1_h) false Tryd.f91 (bodyOf Tryd.f91) 60 (mkS [.agg (.pair (.int .i64) (.int .i64)), .agg (.pair (.int .i64) (.int .i64))] ((a0_0, a0_1), (a1_0, a1_1), ())) (mkH [] ()) k = outOf (ref_Add a0_0 a0_1 a1_0 a1_1) fun v => k (.agg [.lit (.int .i64 v.1), .lit (.int .i64 v.2)]) [] :=
  (show _ = ref_Add_t a0_0 a0_1 a1_0 a1_1 (fun v => k (.agg [.lit (.int .i64 v.1), .lit (.int .i64 v.2)]) []) from by kernel_rfl).trans (ref_Add_t_eq a0_0 a0_1 a1_0 a1_1 _)
theorem ref_Add_good : TX.Good Tryd.prog 91 ref_Add_sp := good_form NrGE2_ok mixed Tryd.func91 (body_of rfl) (by kernel_rfl) false fun α a m k r h => by
  obtain ⟨⟨a0_0, a0_1⟩, ⟨a1_0, a1_1⟩, _⟩ := a; obtain _ := m
  exact ⟨ref_Add_L1_h, 60, ref_Add_L1_h_ok, rfl, (ref_Add_ev a0_0 a0_1 a1_0 a1_1 k).trans h⟩
/-! f138 tenterhook/tenterhookref02.less -/
def ref_less_h0 : Hints := Hints.nil 0
theorem ref_less_h0_ok : ref_less_h0.OK Tryd.prog (bodyOf Tryd.f138) := Hints.nil_ok
abbrev ref_less_R : Type := (Bool)
noncomputable def ref_less_t {γ : Type} (a0_0 : Int) (a0_1 : Int) (a1_0 : Int) (a1_1 : Int) (k : ref_less_R → Option γ) : Option γ := outOf (ref_Ult a0_1 a1_1) fun (x1 : Bool) => cond x1 (k (true)) (cond (a0_1 == a1_1) (outOf (ref_Ult a0_0 a1_0) fun (x2 : Bool) => k (x2)) (k (false)))
noncomputable def ref_less (a0_0 : Int) (a0_1 : Int) (a1_0 : Int) (a1_1 : Int) : Option ref_less_R := ref_less_t a0_0 a0_1 a1_0 a1_1 some
theorem ref_less_t_eq {γ : Type} (a0_0 : Int) (a0_1 : Int) (a1_0 : Int) (a1_1 : Int) (k : ref_less_R → Option γ) : ref_less_t a0_0 a0_1 a1_0 a1_1 k = outOf (ref_less a0_0 a0_1 a1_0 a1_1) k := by
  delta ref_less ref_less_t; exact (Tr.bd fun x1 => (Tr.nd Tr.lf (Tr.nd (Tr.bd fun x2 => Tr.lf) Tr.lf)))
noncomputable def ref_less_sp : TX.Spec := specD [.agg (.pair (.int .i64) (.int .i64)), .agg (.pair (.int .i64) (.int .i64))] [] fun _ a m k => match a, m with | ⟨⟨a0_0, a0_1⟩, ⟨a1_0, a1_1⟩, _⟩, _ => outOf (ref_less a0_0 a0_1 a1_0 a1_1) fun v => k (.lit (.bool v)) []
theorem ref_less_ev {α : Type} (a0_0 : Int) (a0_1 : Int) (a1_0 : Int) (a1_1 : Int) (k : Kont α) : evFun Tryd.prog NrGE2 (ref_less_h0) false Tryd.f138 (bodyOf Tryd.f138) 60 (mkS [.agg (.pair (.int .i64) (.int .i64)), .agg (.pair (.int .i64) (.int .i64))] ((a0_0, a0_1), (a1_0, a1_1), ())) (mkH [] ()) k = outOf (ref_less a0_0 a0_1 a1_0 a1_1) fun v => k (.lit (.bool v)) [] :=
  (show _ = ref_less_t a0_0 a0_1 a1_0 a1_1 (fun v => k (.lit (.bool v)) []) from by kernel_rfl).trans (ref_less_t_eq a0_0 a0_1 a1_0 a1_1 _)
theorem ref_less_good : TX.Good Tryd.prog 138 ref_less_sp := good_form NrGE2_ok mixed Tryd.func138 (body_of rfl) (by kernel_rfl) false fun α a m k r h => by
  obtain ⟨⟨a0_0, a0_1⟩, ⟨a1_0, a1_1⟩, _⟩ := a; obtain _ := m
  exact ⟨ref_less_h0, 60, ref_less_h0_ok, rfl, (ref_less_ev a0_0 a0_1 a1_0 a1_1 k).trans h⟩
noncomputable def NrGE3 : Env := NrGE2.add 91 true ref_Add_sp |>.add 138 true ref_less_sp
theorem NrGE3_ok : NrGE3.OK Tryd.prog := ((NrGE2_ok).add_ok ref_Add_good).add_ok ref_less_good
/-! f58 tenterhook/tenterhookref02.Neg -/
def ref_Neg_h0 : Hints := Hints.nil 0
theorem ref_Neg_h0_ok : ref_Neg_h0.OK Tryd.prog (bodyOf Tryd.f58) := Hints.nil_ok
abbrev ref_Neg_R : Type := (Int × Int)
noncomputable def ref_Neg_t {γ : Type} (a0_0 : Int) (a0_1 : Int) (k : ref_Neg_R → Option γ) : Option γ := outOf (ref_Add (IntKind.wrap IntKind.i64 ((-1 : Int) - a0_0)) (IntKind.wrap IntKind.i64 ((-1 : Int) - a0_1)) (1 : Int) (0 : Int)) fun (x1 : (Int × Int)) => k (Prod.fst x1, Prod.snd x1)
noncomputable def ref_Neg (a0_0 : Int) (a0_1 : Int) : Option ref_Neg_R := ref_Neg_t a0_0 a0_1 some
theorem ref_Neg_t_eq {γ : Type} (a0_0 : Int) (a0_1 : Int) (k : ref_Neg_R → Option γ) : ref_Neg_t a0_0 a0_1 k = outOf (ref_Neg a0_0 a0_1) k := by
  delta ref_Neg ref_Neg_t; exact (Tr.bd fun x1 => Tr.lf)
noncomputable def ref_Neg_sp : TX.Spec := specD [.agg (.pair (.int .i64) (.int .i64))] [] fun _ a m k => match a, m with | ⟨⟨a0_0, a0_1⟩, _⟩, _ => outOf (ref_Neg a0_0 a0_1) fun v => k (.agg [.lit (.int .i64 v.1), .lit (.int .i64 v.2)]) []
theorem ref_Neg_ev {α : Type} (a0_0 : Int) (a0_1 : Int) (k : Kont α) : evFun Tryd.prog NrGE3 (ref_Neg_h0) false Tryd.f58 (bodyOf Tryd.f58) 60 (mkS [.agg (.pair (.int .i64) (.int .i64))] ((a0_0, a0_1), ())) (mkH [] ()) k = outOf (ref_Neg a0_0 a0_1) fun v => k (.agg [.lit (.int .i64 v.1), .lit (.int .i64 v.2)]) [] :=
  (show _ = ref_Neg_t a0_0 a0_1 (fun v => k (.agg [.lit (.int .i64 v.1), .lit (.int .i64 v.2)]) []) from by kernel_rfl).trans (ref_Neg_t_eq a0_0 a0_1 _)
theorem ref_Neg_good : TX.Good Tryd.prog 58 ref_Neg_sp := good_form NrGE3_ok mixed Tryd.func58 (body_of rfl) (by kernel_rfl) false fun α a m k r h => by
  obtain ⟨⟨a0_0, a0_1⟩, _⟩ := a; obtain _ := m
  exact ⟨ref_Neg_h0, 60, ref_Neg_h0_ok, rfl, (ref_Neg_ev a0_0 a0_1 k).trans h⟩
/-! f137 tenterhook/tenterhookref02.twice -/
def ref_twice_h0 : Hints := Hints.nil 0
theorem ref_twice_h0_ok : ref_twice_h0.OK Tryd.prog (bodyOf Tryd.f137) := Hints.nil_ok
abbrev ref_twice_R : Type := (Int × Int)
noncomputable def ref_twice_t {γ : Type} (a0_0 : Int) (a0_1 : Int) (k : ref_twice_R → Option γ) : Option γ := outOf (ref_Add a0_0 a0_1 a0_0 a0_1) fun (x1 : (Int × Int)) => k (Prod.fst x1, Prod.snd x1)
noncomputable def ref_twice (a0_0 : Int) (a0_1 : Int) : Option ref_twice_R := ref_twice_t a0_0 a0_1 some
theorem ref_twice_t_eq {γ : Type} (a0_0 : Int) (a0_1 : Int) (k : ref_twice_R → Option γ) : ref_twice_t a0_0 a0_1 k = outOf (ref_twice a0_0 a0_1) k := by
  delta ref_twice ref_twice_t; exact (Tr.bd fun x1 => Tr.lf)
noncomputable def ref_twice_sp : TX.Spec := specD [.agg (.pair (.int .i64) (.int .i64))] [] fun _ a m k => match a, m with | ⟨⟨a0_0, a0_1⟩, _⟩, _ => outOf (ref_twice a0_0 a0_1) fun v => k (.agg [.lit (.int .i64 v.1), .lit (.int .i64 v.2)]) []
theorem ref_twice_ev {α : Type} (a0_0 : Int) (a0_1 : Int) (k : Kont α) : evFun Tryd.prog NrGE3 (ref_twice_h0) false Tryd.f137 (bodyOf Tryd.f137) 60 (mkS [.agg (.pair (.int .i64) (.int .i64))] ((a0_0, a0_1), ())) (mkH [] ()) k = outOf (ref_twice a0_0 a0_1) fun v => k (.agg [.lit (.int .i64 v.1), .lit (.int .i64 v.2)]) [] :=
  (show _ = ref_twice_t a0_0 a0_1 (fun v => k (.agg [.lit (.int .i64 v.1), .lit (.int .i64 v.2)]) []) from by kernel_rfl).trans (ref_twice_t_eq a0_0 a0_1 _)
theorem ref_twice_good : TX.Good Tryd.prog 137 ref_twice_sp := good_form NrGE3_ok mixed Tryd.func137 (body_of rfl) (by kernel_rfl) false fun α a m k r h => by
  obtain ⟨⟨a0_0, a0_1⟩, _⟩ := a; obtain _ := m
  exact ⟨ref_twice_h0, 60, ref_twice_h0_ok, rfl, (ref_twice_ev a0_0 a0_1 k).trans h⟩
/-! f57 tenterhook/tenterhookref05.times -/
def r5_times_h0 : Hints := Hints.nil 0
theorem r5_times_h0_ok : r5_times_h0.OK Tryd.prog (bodyOf Tryd.f57) := Hints.nil_ok
def r5_times_L1_A : List SD := [.any, .val (.int .i64), .any, .loc 0 0 0, .any, .any, .loc 1 0 0, .loc 2 0 0, .val (.int .i64), .any, .any, .any, .any, .any, .any, .any, .any, .any, .any, .any]
def r5_times_L1_H : List HD := [.box [.val (.int .i64), .val (.int .i64)], .box [.val (.int .i64), .val (.int .i64)], .box [.val (.int .i64), .val (.int .i64)]]
abbrev r5_times_L1_D : Type := Int × Int × Int × Int × Int × Int × Int × Int
def r5_times_L1_to (a : DenS r5_times_L1_A) (m : DenH r5_times_L1_H) : r5_times_L1_D := (a.2.1, a.2.2.2.2.2.2.2.2.1, m.1.1, m.1.2.1, m.2.1.1, m.2.1.2.1, m.2.2.1.1, m.2.2.1.2.1)
def r5_times_L1_ofA (d : r5_times_L1_D) : DenS r5_times_L1_A := match d with | (s1, s8, m0_0, m0_1, m1_0, m1_1, m2_0, m2_1) => ((), s1, (), (), (), (), (), (), s8, (), (), (), (), (), (), (), (), (), (), (), ())
def r5_times_L1_ofH (d : r5_times_L1_D) : DenH r5_times_L1_H := match d with | (s1, s8, m0_0, m0_1, m1_0, m1_1, m2_0, m2_1) => ((m0_0, m0_1, ()), (m1_0, m1_1, ()), (m2_0, m2_1, ()), ())
def r5_times_L1_N : Norm := (⟨[1, 3, 6, 7, 8], [], []⟩ : Go.TX.Norm)
def r5_times_L1_X : Exit → Norm := fun e => match e with | .exit 0 => ⟨[6, 7], [], []⟩ | _ => ⟨[], [], []⟩
abbrev r5_times_L1_R : Type := (Int × Int × Int × Int)
def r5_times_L1_fin (v : r5_times_L1_R) : Exit × St := ((.exit 0), ⟨[.any, .any, .any, .any, .any, .any, .ptr 0 0 0, .ptr 1 0 0, .any, .any, .any, .any, .any, .any, .any, .any, .any, .any, .any, .any], [.box [.lit (.int .i64 v.1), .lit (.int .i64 v.2.1)], .box [.lit (.int .i64 v.2.2.1), .lit (.int .i64 v.2.2.2)]]⟩)
noncomputable def r5_times_L1_t {γ : Type} (s1 : Int) (s8 : Int) (m0_0 : Int) (m0_1 : Int) (m1_0 : Int) (m1_1 : Int) (m2_0 : Int) (m2_1 : Int) (next : r5_times_L1_D → Option γ) (out : r5_times_L1_R → Option γ) : Option γ := cond (decide (s8 < s1)) (outOf (ref_Add m2_0 m2_1 m0_0 m0_1) fun (x1 : (Int × Int)) => next (s1, IntKind.wrap IntKind.i64 (s8 + (1 : Int)), m0_0, m0_1, m1_0, m1_1, Prod.fst x1, Prod.snd x1)) (out (m1_0, m1_1, m2_0, m2_1))
noncomputable def r5_times_L1_pass (d : r5_times_L1_D) : Option (r5_times_L1_D ⊕ r5_times_L1_R) := r5_times_L1_t d.1 d.2.1 d.2.2.1 d.2.2.2.1 d.2.2.2.2.1 d.2.2.2.2.2.1 d.2.2.2.2.2.2.1 d.2.2.2.2.2.2.2 (fun d => some (.inl d)) (fun x => some (.inr x))
theorem r5_times_L1_t_eq {γ : Type} (s1 : Int) (s8 : Int) (m0_0 : Int) (m0_1 : Int) (m1_0 : Int) (m1_1 : Int) (m2_0 : Int) (m2_1 : Int) (next : r5_times_L1_D → Option γ) (out : r5_times_L1_R → Option γ) : r5_times_L1_t s1 s8 m0_0 m0_1 m1_0 m1_1 m2_0 m2_1 next out = PassOf (r5_times_L1_t s1 s8 m0_0 m0_1 m1_0 m1_1 m2_0 m2_1 (fun d => some (.inl d)) (fun x => some (.inr x))) next out := by
  delta r5_times_L1_t; exact (Ps.nd (Ps.bd fun x1 => Ps.nx) Ps.ou)
theorem r5_times_L1_ev (α : Type) (d : r5_times_L1_D) (next : r5_times_L1_D → Option α) (k : Exit → St → Option α) : ev Tryd.prog NrGE3 r5_times_h0 60 [0, 0, 1, 0, 1, 1] ((codeAt (bodyOf Tryd.f57) [0, 0, 1, 0, 1, 1]).getD .skip) ⟨mkS r5_times_L1_A (r5_times_L1_ofA d), mkH r5_times_L1_H (r5_times_L1_ofH d)⟩ (passK 0 r5_times_L1_N r5_times_L1_A r5_times_L1_H r5_times_L1_X (fun a m => next (r5_times_L1_to a m)) k) = PassOf (r5_times_L1_pass d) next fun x => k (r5_times_L1_fin x).1 (r5_times_L1_fin x).2 := by
  obtain ⟨s1, s8, m0_0, m0_1, m1_0, m1_1, m2_0, m2_1⟩ := d
  exact (show _ = r5_times_L1_t s1 s8 m0_0 m0_1 m1_0 m1_1 m2_0 m2_1 next (fun x => k (r5_times_L1_fin x).1 (r5_times_L1_fin x).2) from by kernel_rfl).trans (r5_times_L1_t_eq s1 s8 m0_0 m0_1 m1_0 m1_1 m2_0 m2_1 _ _)
noncomputable def r5_times_L1 (d : r5_times_L1_D) : Option r5_times_L1_R := runs r5_times_L1_pass d
noncomputable def r5_times_L1_sp : CSpec := fun _ st k => reNorm 0 r5_times_L1_N r5_times_L1_A r5_times_L1_H st fun a m => outOf (r5_times_L1 (r5_times_L1_to a m)) fun v => k (.exit 0) ⟨[.any, .any, .any, .any, .any, .any, .ptr 0 0 0, .ptr 1 0 0, .any, .any, .any, .any, .any, .any, .any, .any, .any, .any, .any, .any], [.box [.lit (.int .i64 v.1), .lit (.int .i64 v.2.1)], .box [.lit (.int .i64 v.2.2.1), .lit (.int .i64 v.2.2.2)]]⟩
theorem r5_times_L1_ok : SumOK Tryd.prog 0 (.loop ((codeAt (bodyOf Tryd.f57) [0, 0, 1, 0, 1, 1]).getD .skip)) r5_times_L1_sp := (SumOK.loop NrGE3_ok mixed r5_times_h0_ok (show codeAt (bodyOf Tryd.f57) [0, 1, 0, 1, 1] = some (.loop ((codeAt (bodyOf Tryd.f57) [0, 0, 1, 0, 1, 1]).getD .skip)) from by kernel_rfl) (N := r5_times_L1_N) (Nx := r5_times_L1_X) (A := r5_times_L1_A) (Hs := r5_times_L1_H) (toD := r5_times_L1_to) (ofA := r5_times_L1_ofA) (ofH := r5_times_L1_ofH) (fun _ _ => rfl) (fun _ _ => rfl) (pass := r5_times_L1_pass) (fin := r5_times_L1_fin) 60 r5_times_L1_ev (steps r5_times_L1_pass)).mono fun α st k r h => by
  refine Eq.trans (congrArg (reNorm 0 r5_times_L1_N r5_times_L1_A r5_times_L1_H st) ?_) h
  funext a m
  exact outOf_congr fun x => rfl
noncomputable def r5_times_L1_h : Hints := r5_times_h0.add [0, 1, 0, 1, 1] r5_times_L1_sp
theorem r5_times_L1_h_ok : r5_times_L1_h.OK Tryd.prog (bodyOf Tryd.f57) := r5_times_h0_ok.add (show codeAt (bodyOf Tryd.f57) [0, 1, 0, 1, 1] = some (.loop ((codeAt (bodyOf Tryd.f57) [0, 0, 1, 0, 1, 1]).getD .skip)) from by kernel_rfl) r5_times_L1_ok
abbrev r5_times_R : Type := (Int × Int)
noncomputable def r5_times_t {γ : Type} (a0_0 : Int) (a0_1 : Int) (a1 : Int) (a2 : Int) (k : r5_times_R → Option γ) : Option γ := outOf (r5_times_L1 (a1, (0 : Int), a0_0, a0_1, (0 : Int), (0 : Int), a2, (0 : Int))) fun (x2 : (Int × (Int × (Int × Int)))) => k (Prod.fst (Prod.snd (Prod.snd x2)), Prod.snd (Prod.snd (Prod.snd x2)))
noncomputable def r5_times (a0_0 : Int) (a0_1 : Int) (a1 : Int) (a2 : Int) : Option r5_times_R := r5_times_t a0_0 a0_1 a1 a2 some
theorem r5_times_t_eq {γ : Type} (a0_0 : Int) (a0_1 : Int) (a1 : Int) (a2 : Int) (k : r5_times_R → Option γ) : r5_times_t a0_0 a0_1 a1 a2 k = outOf (r5_times a0_0 a0_1 a1 a2) k := by
  delta r5_times r5_times_t; exact (Tr.bd fun x2 => Tr.lf)
noncomputable def r5_times_sp : TX.Spec := specD [.agg (.pair (.int .i64) (.int .i64)), .val (.int .i64), .val (.int .i64)] [] fun _ a m k => match a, m with | ⟨⟨a0_0, a0_1⟩, a1, a2, _⟩, _ => outOf (r5_times a0_0 a0_1 a1 a2) fun v => k (.agg [.lit (.int .i64 v.1), .lit (.int .i64 v.2)]) []
theorem r5_times_ev {α : Type} (a0_0 : Int) (a0_1 : Int) (a1 : Int) (a2 : Int) (k : Kont α) : evFun Tryd.prog NrGE3 (r5_times_L1_h) false Tryd.f57 (bodyOf Tryd.f57) 60 (mkS [.agg (.pair (.int .i64) (.int .i64)), .val (.int .i64), .val (.int .i64)] ((a0_0, a0_1), a1, a2, ())) (mkH [] ()) k = outOf (r5_times a0_0 a0_1 a1 a2) fun v => k (.agg [.lit (.int .i64 v.1), .lit (.int .i64 v.2)]) [] :=
  (show _ = r5_times_t a0_0 a0_1 a1 a2 (fun v => k (.agg [.lit (.int .i64 v.1), .lit (.int .i64 v.2)]) []) from by kernel_rfl).trans (r5_times_t_eq a0_0 a0_1 a1 a2 _)
theorem r5_times_good : TX.Good Tryd.prog 57 r5_times_sp := good_form NrGE3_ok mixed Tryd.func57 (body_of rfl) (by kernel_rfl) false fun α a m k r h => by
  obtain ⟨⟨a0_0, a0_1⟩, a1, a2, _⟩ := a; obtain _ := m
  exact ⟨r5_times_L1_h, 60, r5_times_L1_h_ok, rfl, (r5_times_ev a0_0 a0_1 a1 a2 k).trans h⟩
noncomputable def NrGE4 : Env := NrGE3.add 58 true ref_Neg_sp |>.add 137 true ref_twice_sp |>.add 57 true r5_times_sp
theorem NrGE4_ok : NrGE4.OK Tryd.prog := (((NrGE3_ok).add_ok ref_Neg_good).add_ok ref_twice_good).add_ok r5_times_good
/-! f123 tenterhook/tenterhookref02.divide -/
def ref_divide_h0 : Hints := Hints.nil 0
theorem ref_divide_h0_ok : ref_divide_h0.OK Tryd.prog (bodyOf Tryd.f123) := Hints.nil_ok
def ref_divide_L1_A : List SD := [.any, .any, .any, .any, .any, .loc 0 0 0, .loc 1 0 0, .val (.sl (.int .i64)), .rowz 2, .loc 3 0 0, .val (.int .i64), .any, .any, .any, .any, .any, .any, .any, .any, .any, .any, .any, .any, .any, .any, .any, .any, .any, .any, .any, .any, .any, .any, .any, .any, .any, .any, .any, .any, .any, .any, .any, .any, .any]
def ref_divide_L1_H : List HD := [.box [.val (.int .i64), .val (.int .i64)], .box [.val (.int .i64), .val (.int .i64)], .row (.int .i64), .box [.val (.int .i64), .val (.int .i64)]]
abbrev ref_divide_L1_D : Type := (List Int) × Nat × Int × Int × Int × Int × Int × (List Int) × Int × Int
def ref_divide_L1_to (a : DenS ref_divide_L1_A) (m : DenH ref_divide_L1_H) : ref_divide_L1_D := (a.2.2.2.2.2.2.2.1, a.2.2.2.2.2.2.2.2.1, a.2.2.2.2.2.2.2.2.2.2.1, m.1.1, m.1.2.1, m.2.1.1, m.2.1.2.1, m.2.2.1, m.2.2.2.1.1, m.2.2.2.1.2.1)
def ref_divide_L1_ofA (d : ref_divide_L1_D) : DenS ref_divide_L1_A := match d with | (s7, s8_n, s10, m0_0, m0_1, m1_0, m1_1, m2, m3_0, m3_1) => ((), (), (), (), (), (), (), s7, s8_n, (), s10, (), (), (), (), (), (), (), (), (), (), (), (), (), (), (), (), (), (), (), (), (), (), (), (), (), (), (), (), (), (), (), (), (), ())
def ref_divide_L1_ofH (d : ref_divide_L1_D) : DenH ref_divide_L1_H := match d with | (s7, s8_n, s10, m0_0, m0_1, m1_0, m1_1, m2, m3_0, m3_1) => ((m0_0, m0_1, ()), (m1_0, m1_1, ()), m2, (m3_0, m3_1, ()), ())
def ref_divide_L1_N : Norm := (⟨[5, 6, 7, 8, 9, 10], [], []⟩ : Go.TX.Norm)
def ref_divide_L1_X : Exit → Norm := fun e => match e with | .exit 0 => ⟨[5, 6, 8], [], []⟩ | _ => ⟨[], [], []⟩
abbrev ref_divide_L1_R : Type := (Nat × Int × Int × Int × Int × (List Int))
def ref_divide_L1_fin (v : ref_divide_L1_R) : Exit × St := ((.exit 0), ⟨[.any, .any, .any, .any, .any, .ptr 0 0 0, .ptr 1 0 0, .any, .msl 2 0 v.1, .any, .any, .any, .any, .any, .any, .any, .any, .any, .any, .any, .any, .any, .any, .any, .any, .any, .any, .any, .any, .any, .any, .any, .any, .any, .any, .any, .any, .any, .any, .any, .any, .any, .any, .any], [.box [.lit (.int .i64 v.2.1), .lit (.int .i64 v.2.2.1)], .box [.lit (.int .i64 v.2.2.2.1), .lit (.int .i64 v.2.2.2.2.1)], .row (.int .i64) v.2.2.2.2.2]⟩)
noncomputable def ref_divide_L1_t {γ : Type} (s7 : (List Int)) (s8_n : Nat) (s10 : Int) (m0_0 : Int) (m0_1 : Int) (m1_0 : Int) (m1_1 : Int) (m2 : (List Int)) (m3_0 : Int) (m3_1 : Int) (next : ref_divide_L1_D → Option γ) (out : ref_divide_L1_R → Option γ) : Option γ := cond (decide (s10 ≥ (0 : Int))) (outOf (ref_twice m1_0 m1_1) fun (x3 : (Int × Int)) => cond (decide ((0 : Int) ≤ s10 ∧ s10 < (↑(List.length s7) : Int))) (outOf (ref_Add (Prod.fst x3) (Prod.snd x3) (List.getD s7 (Int.toNat s10) (0 : Int)) (0 : Int)) fun (x4 : (Int × Int)) => outOf (ref_less (Prod.fst x4) (Prod.snd x4) m3_0 m3_1) fun (x5 : Bool) => cond (!x5) (outOf (ref_Neg m3_0 m3_1) fun (x6 : (Int × Int)) => outOf (ref_Add (Prod.fst x4) (Prod.snd x4) (Prod.fst x6) (Prod.snd x6)) fun (x7 : (Int × Int)) => cond (decide ((0 : Int) ≤ s10 ∧ s10 < (↑s8_n : Int))) (next (s7, s8_n, IntKind.wrap IntKind.i64 (s10 - (1 : Int)), m0_0, m0_1, Prod.fst x7, Prod.snd x7, List.set m2 ((0 : Nat) + Int.toNat s10) (1 : Int), m3_0, m3_1)) (none)) (next (s7, s8_n, IntKind.wrap IntKind.i64 (s10 - (1 : Int)), m0_0, m0_1, Prod.fst x4, Prod.snd x4, m2, m3_0, m3_1))) (none)) (out (s8_n, m0_0, m0_1, m1_0, m1_1, m2))
noncomputable def ref_divide_L1_pass (d : ref_divide_L1_D) : Option (ref_divide_L1_D ⊕ ref_divide_L1_R) := ref_divide_L1_t d.1 d.2.1 d.2.2.1 d.2.2.2.1 d.2.2.2.2.1 d.2.2.2.2.2.1 d.2.2.2.2.2.2.1 d.2.2.2.2.2.2.2.1 d.2.2.2.2.2.2.2.2.1 d.2.2.2.2.2.2.2.2.2 (fun d => some (.inl d)) (fun x => some (.inr x))
theorem ref_divide_L1_t_eq {γ : Type} (s7 : (List Int)) (s8_n : Nat) (s10 : Int) (m0_0 : Int) (m0_1 : Int) (m1_0 : Int) (m1_1 : Int) (m2 : (List Int)) (m3_0 : Int) (m3_1 : Int) (next : ref_divide_L1_D → Option γ) (out : ref_divide_L1_R → Option γ) : ref_divide_L1_t s7 s8_n s10 m0_0 m0_1 m1_0 m1_1 m2 m3_0 m3_1 next out = PassOf (ref_divide_L1_t s7 s8_n s10 m0_0 m0_1 m1_0 m1_1 m2 m3_0 m3_1 (fun d => some (.inl d)) (fun x => some (.inr x))) next out := by
  delta ref_divide_L1_t; exact (Ps.nd (Ps.bd fun x3 => (Ps.nd (Ps.bd fun x4 => (Ps.bd fun x5 => (Ps.nd (Ps.bd fun x6 => (Ps.bd fun x7 => (Ps.nd Ps.nx Ps.no))) Ps.nx))) Ps.no)) Ps.ou)
theorem ref_divide_L1_ev (α : Type) (d : ref_divide_L1_D) (next : ref_divide_L1_D → Option α) (k : Exit → St → Option α) : ev Tryd.prog NrGE4 ref_divide_h0 60 [0, 0, 1, 0, 1, 1, 1, 1, 1] ((codeAt (bodyOf Tryd.f123) [0, 0, 1, 0, 1, 1, 1, 1, 1]).getD .skip) ⟨mkS ref_divide_L1_A (ref_divide_L1_ofA d), mkH ref_divide_L1_H (ref_divide_L1_ofH d)⟩ (passK 0 ref_divide_L1_N ref_divide_L1_A ref_divide_L1_H ref_divide_L1_X (fun a m => next (ref_divide_L1_to a m)) k) = PassOf (ref_divide_L1_pass d) next fun x => k (ref_divide_L1_fin x).1 (ref_divide_L1_fin x).2 := by
  obtain ⟨s7, s8_n, s10, m0_0, m0_1, m1_0, m1_1, m2, m3_0, m3_1⟩ := d
  exact (show _ = ref_divide_L1_t s7 s8_n s10 m0_0 m0_1 m1_0 m1_1 m2 m3_0 m3_1 next (fun x => k (ref_divide_L1_fin x).1 (ref_divide_L1_fin x).2) from by kernel_rfl).trans (ref_divide_L1_t_eq s7 s8_n s10 m0_0 m0_1 m1_0 m1_1 m2 m3_0 m3_1 _ _)
noncomputable def ref_divide_L1 (d : ref_divide_L1_D) : Option ref_divide_L1_R := runs ref_divide_L1_pass d
noncomputable def ref_divide_L1_sp : CSpec := fun _ st k => reNorm 0 ref_divide_L1_N ref_divide_L1_A ref_divide_L1_H st fun a m => outOf (ref_divide_L1 (ref_divide_L1_to a m)) fun v => k (.exit 0) ⟨[.any, .any, .any, .any, .any, .ptr 0 0 0, .ptr 1 0 0, .any, .msl 2 0 v.1, .any, .any, .any, .any, .any, .any, .any, .any, .any, .any, .any, .any, .any, .any, .any, .any, .any, .any, .any, .any, .any, .any, .any, .any, .any, .any, .any, .any, .any, .any, .any, .any, .any, .any, .any], [.box [.lit (.int .i64 v.2.1), .lit (.int .i64 v.2.2.1)], .box [.lit (.int .i64 v.2.2.2.1), .lit (.int .i64 v.2.2.2.2.1)], .row (.int .i64) v.2.2.2.2.2]⟩
theorem ref_divide_L1_ok : SumOK Tryd.prog 0 (.loop ((codeAt (bodyOf Tryd.f123) [0, 0, 1, 0, 1, 1, 1, 1, 1]).getD .skip)) ref_divide_L1_sp := (SumOK.loop NrGE4_ok mixed ref_divide_h0_ok (show codeAt (bodyOf Tryd.f123) [0, 1, 0, 1, 1, 1, 1, 1] = some (.loop ((codeAt (bodyOf Tryd.f123) [0, 0, 1, 0, 1, 1, 1, 1, 1]).getD .skip)) from by kernel_rfl) (N := ref_divide_L1_N) (Nx := ref_divide_L1_X) (A := ref_divide_L1_A) (Hs := ref_divide_L1_H) (toD := ref_divide_L1_to) (ofA := ref_divide_L1_ofA) (ofH := ref_divide_L1_ofH) (fun _ _ => rfl) (fun _ _ => rfl) (pass := ref_divide_L1_pass) (fin := ref_divide_L1_fin) 60 ref_divide_L1_ev (steps ref_divide_L1_pass)).mono fun α st k r h => by
  refine Eq.trans (congrArg (reNorm 0 ref_divide_L1_N ref_divide_L1_A ref_divide_L1_H st) ?_) h
  funext a m
  exact outOf_congr fun x => rfl
noncomputable def ref_divide_L1_h : Hints := ref_divide_h0.add [0, 1, 0, 1, 1, 1, 1, 1] ref_divide_L1_sp
theorem ref_divide_L1_h_ok : ref_divide_L1_h.OK Tryd.prog (bodyOf Tryd.f123) := ref_divide_h0_ok.add (show codeAt (bodyOf Tryd.f123) [0, 1, 0, 1, 1, 1, 1, 1] = some (.loop ((codeAt (bodyOf Tryd.f123) [0, 0, 1, 0, 1, 1, 1, 1, 1]).getD .skip)) from by kernel_rfl) ref_divide_L1_ok
abbrev ref_divide_R : Type := (Int × Int × Int)
noncomputable def ref_divide_t {γ : Type} (a0_0 : Int) (a0_1 : Int) (a1 : Int) (k : ref_divide_R → Option γ) : Option γ := outOf (ref_bits a0_0 a0_1) fun (x8 : (List Int)) => outOf (ref_divide_L1 (x8, (128 : Nat), (127 : Int), (0 : Int), (0 : Int), (0 : Int), (0 : Int), List.replicate (128 : Nat) (0 : Int), a1, (0 : Int))) fun (x9 : (Nat × (Int × (Int × (Int × (Int × (List Int))))))) => outOf (ref_make2 (List.take (Prod.fst x9) (List.drop (0 : Nat) (Prod.snd (Prod.snd (Prod.snd (Prod.snd (Prod.snd x9)))))))) fun (x10 : (Int × Int)) => k (Prod.fst (Prod.snd (Prod.snd (Prod.snd x9))), Prod.fst x10, Prod.snd x10)
noncomputable def ref_divide (a0_0 : Int) (a0_1 : Int) (a1 : Int) : Option ref_divide_R := ref_divide_t a0_0 a0_1 a1 some
theorem ref_divide_t_eq {γ : Type} (a0_0 : Int) (a0_1 : Int) (a1 : Int) (k : ref_divide_R → Option γ) : ref_divide_t a0_0 a0_1 a1 k = outOf (ref_divide a0_0 a0_1 a1) k := by
  delta ref_divide ref_divide_t; exact (Tr.bd fun x8 => (Tr.bd fun x9 => (Tr.bd fun x10 => Tr.lf)))
noncomputable def ref_divide_sp : TX.Spec := specD [.agg (.pair (.int .i64) (.int .i64)), .val (.int .i64)] [] fun _ a m k => match a, m with | ⟨⟨a0_0, a0_1⟩, a1, _⟩, _ => outOf (ref_divide a0_0 a0_1 a1) fun v => k (.tup [.lit (.int .i64 v.1), .agg [.lit (.int .i64 v.2.1), .lit (.int .i64 v.2.2)]]) []
theorem ref_divide_ev {α : Type} (a0_0 : Int) (a0_1 : Int) (a1 : Int) (k : Kont α) : evFun Tryd.prog NrGE4 (ref_divide_L1_h) false Tryd.f123 (bodyOf Tryd.f123) 60 (mkS [.agg (.pair (.int .i64) (.int .i64)), .val (.int .i64)] ((a0_0, a0_1), a1, ())) (mkH [] ()) k = outOf (ref_divide a0_0 a0_1 a1) fun v => k (.tup [.lit (.int .i64 v.1), .agg [.lit (.int .i64 v.2.1), .lit (.int .i64 v.2.2)]]) [] :=
  (show _ = ref_divide_t a0_0 a0_1 a1 (fun v => k (.tup [.lit (.int .i64 v.1), .agg [.lit (.int .i64 v.2.1), .lit (.int .i64 v.2.2)]]) []) from by kernel_rfl).trans (ref_divide_t_eq a0_0 a0_1 a1 _)
theorem ref_divide_good : TX.Good Tryd.prog 123 ref_divide_sp := good_form NrGE4_ok mixed Tryd.func123 (body_of rfl) (by kernel_rfl) false fun α a m k r h => by
  obtain ⟨⟨a0_0, a0_1⟩, a1, _⟩ := a; obtain _ := m
  exact ⟨ref_divide_L1_h, 60, ref_divide_L1_h_ok, rfl, (ref_divide_ev a0_0 a0_1 a1 k).trans h⟩
noncomputable def NrGE5 : Env := NrGE4.add 123 true ref_divide_sp
theorem NrGE5_ok : NrGE5.OK Tryd.prog := (NrGE4_ok).add_ok ref_divide_good
/-! f102 tenterhook/tenterhookref02.UMod -/
def ref_UMod_h0 : Hints := Hints.nil 0
theorem ref_UMod_h0_ok : ref_UMod_h0.OK Tryd.prog (bodyOf Tryd.f102) := Hints.nil_ok
abbrev ref_UMod_R : Type := (Int × Int × Int)
noncomputable def ref_UMod_t {γ : Type} (a0_0 : Int) (a0_1 : Int) (a1 : Int) (k : ref_UMod_R → Option γ) : Option γ := cond (a1 == (0 : Int)) (k ((0 : Int), (0 : Int), (-10 : Int))) (outOf (ref_divide a0_0 a0_1 a1) fun (x1 : (Int × (Int × Int))) => cond (Prod.snd (Prod.snd x1) != (0 : Int)) (k ((0 : Int), (0 : Int), (-11 : Int))) (k (Prod.fst x1, Prod.fst (Prod.snd x1), (0 : Int))))
noncomputable def ref_UMod (a0_0 : Int) (a0_1 : Int) (a1 : Int) : Option ref_UMod_R := ref_UMod_t a0_0 a0_1 a1 some
theorem ref_UMod_t_eq {γ : Type} (a0_0 : Int) (a0_1 : Int) (a1 : Int) (k : ref_UMod_R → Option γ) : ref_UMod_t a0_0 a0_1 a1 k = outOf (ref_UMod a0_0 a0_1 a1) k := by
  delta ref_UMod ref_UMod_t; exact (Tr.nd Tr.lf (Tr.bd fun x1 => (Tr.nd Tr.lf Tr.lf)))
noncomputable def ref_UMod_sp : TX.Spec := specD [.agg (.pair (.int .i64) (.int .i64)), .val (.int .i64)] [] fun _ a m k => match a, m with | ⟨⟨a0_0, a0_1⟩, a1, _⟩, _ => outOf (ref_UMod a0_0 a0_1 a1) fun v => k (.tup [.lit (.int .i64 v.1), .lit (.int .i64 v.2.1), .lit (.int .i64 v.2.2)]) []
theorem ref_UMod_ev {α : Type} (a0_0 : Int) (a0_1 : Int) (a1 : Int) (k : Kont α) : evFun Tryd.prog NrGE5 (ref_UMod_h0) false Tryd.f102 (bodyOf Tryd.f102) 60 (mkS [.agg (.pair (.int .i64) (.int .i64)), .val (.int .i64)] ((a0_0, a0_1), a1, ())) (mkH [] ()) k = outOf (ref_UMod a0_0 a0_1 a1) fun v => k (.tup [.lit (.int .i64 v.1), .lit (.int .i64 v.2.1), .lit (.int .i64 v.2.2)]) [] :=
  (show _ = ref_UMod_t a0_0 a0_1 a1 (fun v => k (.tup [.lit (.int .i64 v.1), .lit (.int .i64 v.2.1), .lit (.int .i64 v.2.2)]) []) from by kernel_rfl).trans (ref_UMod_t_eq a0_0 a0_1 a1 _)
theorem ref_UMod_good : TX.Good Tryd.prog 102 ref_UMod_sp := good_form NrGE5_ok mixed Tryd.func102 (body_of rfl) (by kernel_rfl) false fun α a m k r h => by
  obtain ⟨⟨a0_0, a0_1⟩, a1, _⟩ := a; obtain _ := m
  exact ⟨ref_UMod_h0, 60, ref_UMod_h0_ok, rfl, (ref_UMod_ev a0_0 a0_1 a1 k).trans h⟩
noncomputable def NrGE6 : Env := NrGE5.add 102 true ref_UMod_sp
theorem NrGE6_ok : NrGE6.OK Tryd.prog := (NrGE5_ok).add_ok ref_UMod_good
/-! f92 tenterhook/tenterhookref05.high -/
def r5_high_h0 : Hints := Hints.nil 0
theorem r5_high_h0_ok : r5_high_h0.OK Tryd.prog (bodyOf Tryd.f92) := Hints.nil_ok
abbrev r5_high_R : Type := (Int × Int × Int × Bool)
noncomputable def r5_high_t {γ : Type} (a0_0 : Int) (a0_1 : Int) (a1 : Int) (k : r5_high_R → Option γ) : Option γ := outOf (ref_UMod a0_1 (0 : Int) a1) fun (x1 : (Int × (Int × Int))) => outOf (ref_UMod a0_0 (Prod.fst x1) a1) fun (x2 : (Int × (Int × Int))) => k (Prod.fst (Prod.snd x2), Prod.fst (Prod.snd x1), Prod.fst x2, Prod.snd (Prod.snd x2) == (0 : Int))
noncomputable def r5_high (a0_0 : Int) (a0_1 : Int) (a1 : Int) : Option r5_high_R := r5_high_t a0_0 a0_1 a1 some
theorem r5_high_t_eq {γ : Type} (a0_0 : Int) (a0_1 : Int) (a1 : Int) (k : r5_high_R → Option γ) : r5_high_t a0_0 a0_1 a1 k = outOf (r5_high a0_0 a0_1 a1) k := by
  delta r5_high r5_high_t; exact (Tr.bd fun x1 => (Tr.bd fun x2 => Tr.lf))
noncomputable def r5_high_sp : TX.Spec := specD [.agg (.pair (.int .i64) (.int .i64)), .val (.int .i64)] [] fun _ a m k => match a, m with | ⟨⟨a0_0, a0_1⟩, a1, _⟩, _ => outOf (r5_high a0_0 a0_1 a1) fun v => k (.tup [.agg [.lit (.int .i64 v.1), .lit (.int .i64 v.2.1)], .lit (.int .i64 v.2.2.1), .lit (.bool v.2.2.2)]) []
theorem r5_high_ev {α : Type} (a0_0 : Int) (a0_1 : Int) (a1 : Int) (k : Kont α) : evFun Tryd.prog NrGE6 (r5_high_h0) false Tryd.f92 (bodyOf Tryd.f92) 60 (mkS [.agg (.pair (.int .i64) (.int .i64)), .val (.int .i64)] ((a0_0, a0_1), a1, ())) (mkH [] ()) k = outOf (r5_high a0_0 a0_1 a1) fun v => k (.tup [.agg [.lit (.int .i64 v.1), .lit (.int .i64 v.2.1)], .lit (.int .i64 v.2.2.1), .lit (.bool v.2.2.2)]) [] :=
  (show _ = r5_high_t a0_0 a0_1 a1 (fun v => k (.tup [.agg [.lit (.int .i64 v.1), .lit (.int .i64 v.2.1)], .lit (.int .i64 v.2.2.1), .lit (.bool v.2.2.2)]) []) from by kernel_rfl).trans (r5_high_t_eq a0_0 a0_1 a1 _)
theorem r5_high_good : TX.Good Tryd.prog 92 r5_high_sp := good_form NrGE6_ok mixed Tryd.func92 (body_of rfl) (by kernel_rfl) false fun α a m k r h => by
  obtain ⟨⟨a0_0, a0_1⟩, a1, _⟩ := a; obtain _ := m
  exact ⟨r5_high_h0, 60, r5_high_h0_ok, rfl, (r5_high_ev a0_0 a0_1 a1 k).trans h⟩
/-! f20 tenterhook/tenterhookref05.Parse -/
def r5_Parse_h0 : Hints := Hints.nil 0
theorem r5_Parse_h0_ok : r5_Parse_h0.OK Tryd.prog (bodyOf Tryd.f20) := Hints.nil_ok
def r5_Parse_M1_A : List SD := [.val .str, .val (.int .i64), .any, .any, .any, .any, .any, .any, .any, .any, .any, .any, .any, .any, .any, .any, .any, .any, .any, .any, .any, .any, .any, .any, .any, .any, .any, .any, .any, .any, .any, .any, .any, .any, .any, .any, .any, .any, .any, .any, .any, .any, .any, .any, .any, .any, .any, .any, .any, .any, .any, .any, .any, .any, .any, .any, .any, .any, .any, .any, .any, .any, .any, .any, .any, .any, .any, .any, .any, .any, .any, .any, .any, .any, .any, .any, .any, .any, .any, .any, .any, .any, .any, .any, .any, .any, .any, .any, .any, .any, .any, .any, .any, .any, .any, .any, .any, .any, .any, .any, .any, .any, .any, .any, .any, .any, .any, .any, .any, .any, .any, .any, .any, .any, .any, .any, .any, .any, .any]
def r5_Parse_M1_H : List HD := []
abbrev r5_Parse_M1_D : Type := ByteArray × Int
def r5_Parse_M1_to (a : DenS r5_Parse_M1_A) (m : DenH r5_Parse_M1_H) : r5_Parse_M1_D := (a.1, a.2.1)
def r5_Parse_M1_ofA (d : r5_Parse_M1_D) : DenS r5_Parse_M1_A := match d with | (s0, s1) => (s0, s1, (), (), (), (), (), (), (), (), (), (), (), (), (), (), (), (), (), (), (), (), (), (), (), (), (), (), (), (), (), (), (), (), (), (), (), (), (), (), (), (), (), (), (), (), (), (), (), (), (), (), (), (), (), (), (), (), (), (), (), (), (), (), (), (), (), (), (), (), (), (), (), (), (), (), (), (), (), (), (), (), (), (), (), (), (), (), (), (), (), (), (), (), (), (), (), (), (), (), (), (), (), (), (), (), (), (), (), (), (), (), (), (), (), (), (), (), (), ())
def r5_Parse_M1_ofH (d : r5_Parse_M1_D) : DenH r5_Parse_M1_H := match d with | (s0, s1) => ()
def r5_Parse_M1_N : Norm := (⟨[0, 1], [], []⟩ : Go.TX.Norm)
def r5_Parse_M1_X : Exit → Norm := fun e => match e with | .normal => ⟨[0, 1], [], []⟩ | .ret => ⟨[4, 5], [], []⟩ | _ => ⟨[], [], []⟩
abbrev r5_Parse_M1_R : Type := (((List Int) × Bool) ⊕ (Unit))
def r5_Parse_M1_fin (d : r5_Parse_M1_D) (v : r5_Parse_M1_R) : Exit × St := sumOf v (fun v => (.ret, ⟨[.any, .any, .any, .any, .sl (.int .i64) v.1 true, .lit (.bool v.2), .any, .any, .any, .any, .any, .any, .any, .any, .any, .any, .any, .any, .any, .any, .any, .any, .any, .any, .any, .any, .any, .any, .any, .any, .any, .any, .any, .any, .any, .any, .any, .any, .any, .any, .any, .any, .any, .any, .any, .any, .any, .any, .any, .any, .any, .any, .any, .any, .any, .any, .any, .any, .any, .any, .any, .any, .any, .any, .any, .any, .any, .any, .any, .any, .any, .any, .any, .any, .any, .any, .any, .any, .any, .any, .any, .any, .any, .any, .any, .any, .any, .any, .any, .any, .any, .any, .any, .any, .any, .any, .any, .any, .any, .any, .any, .any, .any, .any, .any, .any, .any, .any, .any, .any, .any, .any, .any, .any, .any, .any, .any, .any, .any], []⟩)) (fun v => (.normal, ⟨[.lit (.string d.1), .lit (.int .i64 d.2), .any, .any, .any, .any, .any, .any, .any, .any, .any, .any, .any, .any, .any, .any, .any, .any, .any, .any, .any, .any, .any, .any, .any, .any, .any, .any, .any, .any, .any, .any, .any, .any, .any, .any, .any, .any, .any, .any, .any, .any, .any, .any, .any, .any, .any, .any, .any, .any, .any, .any, .any, .any, .any, .any, .any, .any, .any, .any, .any, .any, .any, .any, .any, .any, .any, .any, .any, .any, .any, .any, .any, .any, .any, .any, .any, .any, .any, .any, .any, .any, .any, .any, .any, .any, .any, .any, .any, .any, .any, .any, .any, .any, .any, .any, .any, .any, .any, .any, .any, .any, .any, .any, .any, .any, .any, .any, .any, .any, .any, .any, .any, .any, .any, .any, .any, .any, .any], []⟩))
noncomputable def r5_Parse_M1_t {γ : Type} (s0 : ByteArray) (s1 : Int) (k : r5_Parse_M1_R → Option γ) : Option γ := cond (decide (s1 < (2 : Int))) (k (.inl ([], false))) (cond (decide (s1 > (36 : Int))) (k (.inl ([], false))) (cond ((↑(ByteArray.size s0) : Int) == (0 : Int)) (k (.inl ([], false))) (k (.inr ()))))
noncomputable def r5_Parse_M1 (s0 : ByteArray) (s1 : Int) : Option r5_Parse_M1_R := r5_Parse_M1_t s0 s1 some
theorem r5_Parse_M1_t_eq {γ : Type} (s0 : ByteArray) (s1 : Int) (k : r5_Parse_M1_R → Option γ) : r5_Parse_M1_t s0 s1 k = outOf (r5_Parse_M1 s0 s1) k := by
  delta r5_Parse_M1 r5_Parse_M1_t; exact (Tr.nd Tr.lf (Tr.nd Tr.lf (Tr.nd Tr.lf Tr.lf)))
theorem r5_Parse_M1_ev (α : Type) (d : r5_Parse_M1_D) (k : Exit → St → Option α) : ev Tryd.prog NrGE6 r5_Parse_h0 60 [0, 1] ((codeAt (bodyOf Tryd.f20) [0, 1]).getD .skip) ⟨mkS r5_Parse_M1_A (r5_Parse_M1_ofA d), mkH r5_Parse_M1_H (r5_Parse_M1_ofH d)⟩ (exitN 0 r5_Parse_M1_X k) = outOf (r5_Parse_M1 d.1 d.2) fun x => k (r5_Parse_M1_fin d x).1 (r5_Parse_M1_fin d x).2 := by
  obtain ⟨s0, s1⟩ := d
  exact (show _ = r5_Parse_M1_t s0 s1 (fun x => k (r5_Parse_M1_fin (s0, s1) x).1 (r5_Parse_M1_fin (s0, s1) x).2) from by kernel_rfl).trans (r5_Parse_M1_t_eq s0 s1 _)
noncomputable def r5_Parse_M1_sp : CSpec := fun _ st k => reNorm 0 r5_Parse_M1_N r5_Parse_M1_A r5_Parse_M1_H st fun a m => outOf (r5_Parse_M1 (r5_Parse_M1_to a m).1 (r5_Parse_M1_to a m).2) fun v => sumOf v (fun v => k .ret ⟨[.any, .any, .any, .any, .sl (.int .i64) v.1 true, .lit (.bool v.2), .any, .any, .any, .any, .any, .any, .any, .any, .any, .any, .any, .any, .any, .any, .any, .any, .any, .any, .any, .any, .any, .any, .any, .any, .any, .any, .any, .any, .any, .any, .any, .any, .any, .any, .any, .any, .any, .any, .any, .any, .any, .any, .any, .any, .any, .any, .any, .any, .any, .any, .any, .any, .any, .any, .any, .any, .any, .any, .any, .any, .any, .any, .any, .any, .any, .any, .any, .any, .any, .any, .any, .any, .any, .any, .any, .any, .any, .any, .any, .any, .any, .any, .any, .any, .any, .any, .any, .any, .any, .any, .any, .any, .any, .any, .any, .any, .any, .any, .any, .any, .any, .any, .any, .any, .any, .any, .any, .any, .any, .any, .any, .any, .any], []⟩) (fun v => k .normal ⟨[.lit (.string (r5_Parse_M1_to a m).1), .lit (.int .i64 (r5_Parse_M1_to a m).2), .any, .any, .any, .any, .any, .any, .any, .any, .any, .any, .any, .any, .any, .any, .any, .any, .any, .any, .any, .any, .any, .any, .any, .any, .any, .any, .any, .any, .any, .any, .any, .any, .any, .any, .any, .any, .any, .any, .any, .any, .any, .any, .any, .any, .any, .any, .any, .any, .any, .any, .any, .any, .any, .any, .any, .any, .any, .any, .any, .any, .any, .any, .any, .any, .any, .any, .any, .any, .any, .any, .any, .any, .any, .any, .any, .any, .any, .any, .any, .any, .any, .any, .any, .any, .any, .any, .any, .any, .any, .any, .any, .any, .any, .any, .any, .any, .any, .any, .any, .any, .any, .any, .any, .any, .any, .any, .any, .any, .any, .any, .any, .any, .any, .any, .any, .any, .any], []⟩)
theorem r5_Parse_M1_ok : SumOK Tryd.prog 0 ((codeAt (bodyOf Tryd.f20) [0, 1]).getD .skip) r5_Parse_M1_sp := (SumOK.once NrGE6_ok mixed r5_Parse_h0_ok (show codeAt (bodyOf Tryd.f20) [0, 1] = some ((codeAt (bodyOf Tryd.f20) [0, 1]).getD .skip) from by kernel_rfl) (N := r5_Parse_M1_N) (Nx := r5_Parse_M1_X) (A := r5_Parse_M1_A) (Hs := r5_Parse_M1_H) (toD := r5_Parse_M1_to) (ofA := r5_Parse_M1_ofA) (ofH := r5_Parse_M1_ofH) (fun _ _ => rfl) (fun _ _ => rfl) (M := fun d => r5_Parse_M1 d.1 d.2) (fin := r5_Parse_M1_fin) 60 r5_Parse_M1_ev).mono fun α st k r h => by
  refine Eq.trans (congrArg (reNorm 0 r5_Parse_M1_N r5_Parse_M1_A r5_Parse_M1_H st) ?_) h
  funext a m
  exact outOf_congr fun x => by rcases x with x | x <;> rfl
noncomputable def r5_Parse_M1_h : Hints := r5_Parse_h0.add [0, 1] r5_Parse_M1_sp
theorem r5_Parse_M1_h_ok : r5_Parse_M1_h.OK Tryd.prog (bodyOf Tryd.f20) := r5_Parse_h0_ok.add (show codeAt (bodyOf Tryd.f20) [0, 1] = some ((codeAt (bodyOf Tryd.f20) [0, 1]).getD .skip) from by kernel_rfl) r5_Parse_M1_ok
def r5_Parse_M2_A : List SD := [.val .str, .val (.int .i64), .any, .any, .any, .any, .any, .any, .any, .any, .any, .any, .any, .any, .any, .any, .any, .any, .any, .any, .any, .any, .any, .any, .any, .any, .any, .any, .any, .any, .any, .any, .any, .any, .any, .any, .any, .any, .any, .any, .any, .any, .any, .any, .any, .any, .any, .any, .any, .any, .any, .any, .any, .any, .any, .any, .any, .any, .any, .any, .any, .any, .any, .any, .any, .any, .any, .any, .any, .any, .any, .any, .any, .any, .any, .any, .any, .any, .any, .any, .any, .any, .any, .any, .any, .any, .any, .any, .any, .any, .any, .any, .any, .any, .any, .any, .any, .any, .any, .any, .any, .any, .any, .any, .any, .any, .any, .any, .any, .any, .any, .any, .any, .any, .any, .any, .any, .any, .any]
def r5_Parse_M2_H : List HD := []
abbrev r5_Parse_M2_D : Type := ByteArray × Int
def r5_Parse_M2_to (a : DenS r5_Parse_M2_A) (m : DenH r5_Parse_M2_H) : r5_Parse_M2_D := (a.1, a.2.1)
def r5_Parse_M2_ofA (d : r5_Parse_M2_D) : DenS r5_Parse_M2_A := match d with | (s0, s1) => (s0, s1, (), (), (), (), (), (), (), (), (), (), (), (), (), (), (), (), (), (), (), (), (), (), (), (), (), (), (), (), (), (), (), (), (), (), (), (), (), (), (), (), (), (), (), (), (), (), (), (), (), (), (), (), (), (), (), (), (), (), (), (), (), (), (), (), (), (), (), (), (), (), (), (), (), (), (), (), (), (), (), (), (), (), (), (), (), (), (), (), (), (), (), (), (), (), (), (), (), (), (), (), (), (), (), (), (), (), (), (), (), (), (), (), (), (), (), (), (), ())
def r5_Parse_M2_ofH (d : r5_Parse_M2_D) : DenH r5_Parse_M2_H := match d with | (s0, s1) => ()
def r5_Parse_M2_N : Norm := (⟨[0, 1], [], []⟩ : Go.TX.Norm)
def r5_Parse_M2_X : Exit → Norm := fun e => match e with | .normal => ⟨[0, 1], [], []⟩ | .ret => ⟨[4, 5], [], []⟩ | _ => ⟨[], [], []⟩
abbrev r5_Parse_M2_R : Type := (((List Int) × Bool) ⊕ (Unit))
def r5_Parse_M2_fin (d : r5_Parse_M2_D) (v : r5_Parse_M2_R) : Exit × St := sumOf v (fun v => (.ret, ⟨[.any, .any, .any, .any, .sl (.int .i64) v.1 true, .lit (.bool v.2), .any, .any, .any, .any, .any, .any, .any, .any, .any, .any, .any, .any, .any, .any, .any, .any, .any, .any, .any, .any, .any, .any, .any, .any, .any, .any, .any, .any, .any, .any, .any, .any, .any, .any, .any, .any, .any, .any, .any, .any, .any, .any, .any, .any, .any, .any, .any, .any, .any, .any, .any, .any, .any, .any, .any, .any, .any, .any, .any, .any, .any, .any, .any, .any, .any, .any, .any, .any, .any, .any, .any, .any, .any, .any, .any, .any, .any, .any, .any, .any, .any, .any, .any, .any, .any, .any, .any, .any, .any, .any, .any, .any, .any, .any, .any, .any, .any, .any, .any, .any, .any, .any, .any, .any, .any, .any, .any, .any, .any, .any, .any, .any, .any], []⟩)) (fun v => (.normal, ⟨[.lit (.string d.1), .lit (.int .i64 d.2), .any, .any, .any, .any, .any, .any, .any, .any, .any, .any, .any, .any, .any, .any, .any, .any, .any, .any, .any, .any, .any, .any, .any, .any, .any, .any, .any, .any, .any, .any, .any, .any, .any, .any, .any, .any, .any, .any, .any, .any, .any, .any, .any, .any, .any, .any, .any, .any, .any, .any, .any, .any, .any, .any, .any, .any, .any, .any, .any, .any, .any, .any, .any, .any, .any, .any, .any, .any, .any, .any, .any, .any, .any, .any, .any, .any, .any, .any, .any, .any, .any, .any, .any, .any, .any, .any, .any, .any, .any, .any, .any, .any, .any, .any, .any, .any, .any, .any, .any, .any, .any, .any, .any, .any, .any, .any, .any, .any, .any, .any, .any, .any, .any, .any, .any, .any, .any], []⟩))
noncomputable def r5_Parse_M2_t {γ : Type} (s0 : ByteArray) (k : r5_Parse_M2_R → Option γ) : Option γ := cond ((↑(ByteArray.size s0) : Int) == (3 : Int)) (cond (decide ((0 : Int) ≤ (0 : Int) ∧ (0 : Int) < (↑(ByteArray.size s0) : Int))) (cond ((↑(UInt8.toNat (List.getD (Array.toList (ByteArray.data s0)) (0 : Nat) (UInt8.ofNat (nat_lit 0)))) : Int) == (39 : Int)) (cond (decide ((0 : Int) ≤ (2 : Int) ∧ (2 : Int) < (↑(ByteArray.size s0) : Int))) (cond ((↑(UInt8.toNat (List.getD (Array.toList (ByteArray.data s0)) (2 : Nat) (UInt8.ofNat (nat_lit 0)))) : Int) == (39 : Int)) (cond (decide ((0 : Int) ≤ (1 : Int) ∧ (1 : Int) < (↑(ByteArray.size s0) : Int))) (k (.inl ([IntKind.wrap IntKind.i64 (↑(UInt8.toNat (List.getD (Array.toList (ByteArray.data s0)) (1 : Nat) (UInt8.ofNat (nat_lit 0)))) : Int)], true))) (none)) (k (.inr ()))) (none)) (k (.inr ()))) (none)) (k (.inr ()))
noncomputable def r5_Parse_M2 (s0 : ByteArray) : Option r5_Parse_M2_R := r5_Parse_M2_t s0 some
theorem r5_Parse_M2_t_eq {γ : Type} (s0 : ByteArray) (k : r5_Parse_M2_R → Option γ) : r5_Parse_M2_t s0 k = outOf (r5_Parse_M2 s0) k := by
  delta r5_Parse_M2 r5_Parse_M2_t; exact (Tr.nd (Tr.nd (Tr.nd (Tr.nd (Tr.nd (Tr.nd Tr.lf Tr.no) Tr.lf) Tr.no) Tr.lf) Tr.no) Tr.lf)
theorem r5_Parse_M2_ev (α : Type) (d : r5_Parse_M2_D) (k : Exit → St → Option α) : ev Tryd.prog NrGE6 r5_Parse_M1_h 60 [0, 1, 1] ((codeAt (bodyOf Tryd.f20) [0, 1, 1]).getD .skip) ⟨mkS r5_Parse_M2_A (r5_Parse_M2_ofA d), mkH r5_Parse_M2_H (r5_Parse_M2_ofH d)⟩ (exitN 0 r5_Parse_M2_X k) = outOf (r5_Parse_M2 d.1) fun x => k (r5_Parse_M2_fin d x).1 (r5_Parse_M2_fin d x).2 := by
  obtain ⟨s0, s1⟩ := d
  exact (show _ = r5_Parse_M2_t s0 (fun x => k (r5_Parse_M2_fin (s0, s1) x).1 (r5_Parse_M2_fin (s0, s1) x).2) from by kernel_rfl).trans (r5_Parse_M2_t_eq s0 _)
noncomputable def r5_Parse_M2_sp : CSpec := fun _ st k => reNorm 0 r5_Parse_M2_N r5_Parse_M2_A r5_Parse_M2_H st fun a m => outOf (r5_Parse_M2 (r5_Parse_M2_to a m).1) fun v => sumOf v (fun v => k .ret ⟨[.any, .any, .any, .any, .sl (.int .i64) v.1 true, .lit (.bool v.2), .any, .any, .any, .any, .any, .any, .any, .any, .any, .any, .any, .any, .any, .any, .any, .any, .any, .any, .any, .any, .any, .any, .any, .any, .any, .any, .any, .any, .any, .any, .any, .any, .any, .any, .any, .any, .any, .any, .any, .any, .any, .any, .any, .any, .any, .any, .any, .any, .any, .any, .any, .any, .any, .any, .any, .any, .any, .any, .any, .any, .any, .any, .any, .any, .any, .any, .any, .any, .any, .any, .any, .any, .any, .any, .any, .any, .any, .any, .any, .any, .any, .any, .any, .any, .any, .any, .any, .any, .any, .any, .any, .any, .any, .any, .any, .any, .any, .any, .any, .any, .any, .any, .any, .any, .any, .any, .any, .any, .any, .any, .any, .any, .any], []⟩) (fun v => k .normal ⟨[.lit (.string (r5_Parse_M2_to a m).1), .lit (.int .i64 (r5_Parse_M2_to a m).2), .any, .any, .any, .any, .any, .any, .any, .any, .any, .any, .any, .any, .any, .any, .any, .any, .any, .any, .any, .any, .any, .any, .any, .any, .any, .any, .any, .any, .any, .any, .any, .any, .any, .any, .any, .any, .any, .any, .any, .any, .any, .any, .any, .any, .any, .any, .any, .any, .any, .any, .any, .any, .any, .any, .any, .any, .any, .any, .any, .any, .any, .any, .any, .any, .any, .any, .any, .any, .any, .any, .any, .any, .any, .any, .any, .any, .any, .any, .any, .any, .any, .any, .any, .any, .any, .any, .any, .any, .any, .any, .any, .any, .any, .any, .any, .any, .any, .any, .any, .any, .any, .any, .any, .any, .any, .any, .any, .any, .any, .any, .any, .any, .any, .any, .any, .any, .any], []⟩)
theorem r5_Parse_M2_ok : SumOK Tryd.prog 0 ((codeAt (bodyOf Tryd.f20) [0, 1, 1]).getD .skip) r5_Parse_M2_sp := (SumOK.once NrGE6_ok mixed r5_Parse_M1_h_ok (show codeAt (bodyOf Tryd.f20) [0, 1, 1] = some ((codeAt (bodyOf Tryd.f20) [0, 1, 1]).getD .skip) from by kernel_rfl) (N := r5_Parse_M2_N) (Nx := r5_Parse_M2_X) (A := r5_Parse_M2_A) (Hs := r5_Parse_M2_H) (toD := r5_Parse_M2_to) (ofA := r5_Parse_M2_ofA) (ofH := r5_Parse_M2_ofH) (fun _ _ => rfl) (fun _ _ => rfl) (M := fun d => r5_Parse_M2 d.1) (fin := r5_Parse_M2_fin) 60 r5_Parse_M2_ev).mono fun α st k r h => by
  refine Eq.trans (congrArg (reNorm 0 r5_Parse_M2_N r5_Parse_M2_A r5_Parse_M2_H st) ?_) h
  funext a m
  exact outOf_congr fun x => by rcases x with x | x <;> rfl
noncomputable def r5_Parse_M2_h : Hints := r5_Parse_M1_h.add [0, 1, 1] r5_Parse_M2_sp
theorem r5_Parse_M2_h_ok : r5_Parse_M2_h.OK Tryd.prog (bodyOf Tryd.f20) := r5_Parse_M1_h_ok.add (show codeAt (bodyOf Tryd.f20) [0, 1, 1] = some ((codeAt (bodyOf Tryd.f20) [0, 1, 1]).getD .skip) from by kernel_rfl) r5_Parse_M2_ok
def r5_Parse_M3_A : List SD := [.val .str, .val (.int .i64), .any, .any, .any, .any, .any, .any, .any, .any, .any, .any, .any, .any, .any, .any, .any, .any, .any, .any, .any, .any, .any, .any, .any, .any, .any, .any, .any, .any, .any, .any, .any, .any, .any, .any, .any, .any, .any, .any, .any, .any, .any, .any, .any, .any, .any, .any, .any, .any, .any, .any, .any, .any, .any, .any, .any, .any, .any, .any, .any, .any, .any, .any, .any, .any, .any, .any, .any, .any, .any, .any, .any, .any, .any, .any, .any, .any, .any, .any, .any, .any, .any, .any, .any, .any, .any, .any, .any, .any, .any, .any, .any, .any, .any, .any, .any, .any, .any, .any, .any, .any, .any, .any, .any, .any, .any, .any, .any, .any, .any, .any, .any, .any, .any, .any, .any, .any, .any]
def r5_Parse_M3_H : List HD := []
abbrev r5_Parse_M3_D : Type := ByteArray × Int
def r5_Parse_M3_to (a : DenS r5_Parse_M3_A) (m : DenH r5_Parse_M3_H) : r5_Parse_M3_D := (a.1, a.2.1)
def r5_Parse_M3_ofA (d : r5_Parse_M3_D) : DenS r5_Parse_M3_A := match d with | (s0, s1) => (s0, s1, (), (), (), (), (), (), (), (), (), (), (), (), (), (), (), (), (), (), (), (), (), (), (), (), (), (), (), (), (), (), (), (), (), (), (), (), (), (), (), (), (), (), (), (), (), (), (), (), (), (), (), (), (), (), (), (), (), (), (), (), (), (), (), (), (), (), (), (), (), (), (), (), (), (), (), (), (), (), (), (), (), (), (), (), (), (), (), (), (), (), (), (), (), (), (), (), (), (), (), (), (), (), (), (), (), (), (), (), (), (), (), (), (), (), (), (), (), ())
def r5_Parse_M3_ofH (d : r5_Parse_M3_D) : DenH r5_Parse_M3_H := match d with | (s0, s1) => ()
def r5_Parse_M3_N : Norm := (⟨[0, 1], [], []⟩ : Go.TX.Norm)
def r5_Parse_M3_X : Exit → Norm := fun e => match e with | .normal => ⟨[0, 1], [], []⟩ | _ => ⟨[], [], []⟩
abbrev r5_Parse_M3_R : Type := (ByteArray × Int)
def r5_Parse_M3_fin (d : r5_Parse_M3_D) (v : r5_Parse_M3_R) : Exit × St := (.normal, ⟨[.lit (.string v.1), .lit (.int .i64 v.2), .any, .any, .any, .any, .any, .any, .any, .any, .any, .any, .any, .any, .any, .any, .any, .any, .any, .any, .any, .any, .any, .any, .any, .any, .any, .any, .any, .any, .any, .any, .any, .any, .any, .any, .any, .any, .any, .any, .any, .any, .any, .any, .any, .any, .any, .any, .any, .any, .any, .any, .any, .any, .any, .any, .any, .any, .any, .any, .any, .any, .any, .any, .any, .any, .any, .any, .any, .any, .any, .any, .any, .any, .any, .any, .any, .any, .any, .any, .any, .any, .any, .any, .any, .any, .any, .any, .any, .any, .any, .any, .any, .any, .any, .any, .any, .any, .any, .any, .any, .any, .any, .any, .any, .any, .any, .any, .any, .any, .any, .any, .any, .any, .any, .any, .any, .any, .any], []⟩)
noncomputable def r5_Parse_M3_t {γ : Type} (s0 : ByteArray) (s1 : Int) (k : r5_Parse_M3_R → Option γ) : Option γ := cond (decide ((0 : Int) ≤ (0 : Int) ∧ (0 : Int) < (↑(ByteArray.size s0) : Int))) (cond ((↑(UInt8.toNat (List.getD (Array.toList (ByteArray.data s0)) (0 : Nat) (UInt8.ofNat (nat_lit 0)))) : Int) == (35 : Int)) (cond (decide ((0 : Int) ≤ (1 : Int) ∧ (1 : Int) ≤ (↑(ByteArray.size s0) : Int) ∧ (↑(ByteArray.size s0) : Int) ≤ (↑(ByteArray.size s0) : Int))) (k (ByteArray.extract s0 (1 : Nat) (Int.toNat (↑(ByteArray.size s0) : Int)), (10 : Int))) (none)) (cond ((↑(UInt8.toNat (List.getD (Array.toList (ByteArray.data s0)) (0 : Nat) (UInt8.ofNat (nat_lit 0)))) : Int) == (36 : Int)) (cond (decide ((0 : Int) ≤ (1 : Int) ∧ (1 : Int) ≤ (↑(ByteArray.size s0) : Int) ∧ (↑(ByteArray.size s0) : Int) ≤ (↑(ByteArray.size s0) : Int))) (k (ByteArray.extract s0 (1 : Nat) (Int.toNat (↑(ByteArray.size s0) : Int)), (16 : Int))) (none)) (cond ((↑(UInt8.toNat (List.getD (Array.toList (ByteArray.data s0)) (0 : Nat) (UInt8.ofNat (nat_lit 0)))) : Int) == (37 : Int)) (cond (decide ((0 : Int) ≤ (1 : Int) ∧ (1 : Int) ≤ (↑(ByteArray.size s0) : Int) ∧ (↑(ByteArray.size s0) : Int) ≤ (↑(ByteArray.size s0) : Int))) (k (ByteArray.extract s0 (1 : Nat) (Int.toNat (↑(ByteArray.size s0) : Int)), (2 : Int))) (none)) (k (s0, s1))))) (none)
noncomputable def r5_Parse_M3 (s0 : ByteArray) (s1 : Int) : Option r5_Parse_M3_R := r5_Parse_M3_t s0 s1 some
theorem r5_Parse_M3_t_eq {γ : Type} (s0 : ByteArray) (s1 : Int) (k : r5_Parse_M3_R → Option γ) : r5_Parse_M3_t s0 s1 k = outOf (r5_Parse_M3 s0 s1) k := by
  delta r5_Parse_M3 r5_Parse_M3_t; exact (Tr.nd (Tr.nd (Tr.nd Tr.lf Tr.no) (Tr.nd (Tr.nd Tr.lf Tr.no) (Tr.nd (Tr.nd Tr.lf Tr.no) Tr.lf))) Tr.no)
theorem r5_Parse_M3_ev (α : Type) (d : r5_Parse_M3_D) (k : Exit → St → Option α) : ev Tryd.prog NrGE6 r5_Parse_M2_h 60 [0, 1, 1, 1] ((codeAt (bodyOf Tryd.f20) [0, 1, 1, 1]).getD .skip) ⟨mkS r5_Parse_M3_A (r5_Parse_M3_ofA d), mkH r5_Parse_M3_H (r5_Parse_M3_ofH d)⟩ (exitN 0 r5_Parse_M3_X k) = outOf (r5_Parse_M3 d.1 d.2) fun x => k (r5_Parse_M3_fin d x).1 (r5_Parse_M3_fin d x).2 := by
  obtain ⟨s0, s1⟩ := d
  exact (show _ = r5_Parse_M3_t s0 s1 (fun x => k (r5_Parse_M3_fin (s0, s1) x).1 (r5_Parse_M3_fin (s0, s1) x).2) from by kernel_rfl).trans (r5_Parse_M3_t_eq s0 s1 _)
noncomputable def r5_Parse_M3_sp : CSpec := fun _ st k => reNorm 0 r5_Parse_M3_N r5_Parse_M3_A r5_Parse_M3_H st fun a m => outOf (r5_Parse_M3 (r5_Parse_M3_to a m).1 (r5_Parse_M3_to a m).2) fun v => k .normal ⟨[.lit (.string v.1), .lit (.int .i64 v.2), .any, .any, .any, .any, .any, .any, .any, .any, .any, .any, .any, .any, .any, .any, .any, .any, .any, .any, .any, .any, .any, .any, .any, .any, .any, .any, .any, .any, .any, .any, .any, .any, .any, .any, .any, .any, .any, .any, .any, .any, .any, .any, .any, .any, .any, .any, .any, .any, .any, .any, .any, .any, .any, .any, .any, .any, .any, .any, .any, .any, .any, .any, .any, .any, .any, .any, .any, .any, .any, .any, .any, .any, .any, .any, .any, .any, .any, .any, .any, .any, .any, .any, .any, .any, .any, .any, .any, .any, .any, .any, .any, .any, .any, .any, .any, .any, .any, .any, .any, .any, .any, .any, .any, .any, .any, .any, .any, .any, .any, .any, .any, .any, .any, .any, .any, .any, .any], []⟩
theorem r5_Parse_M3_ok : SumOK Tryd.prog 0 ((codeAt (bodyOf Tryd.f20) [0, 1, 1, 1]).getD .skip) r5_Parse_M3_sp := (SumOK.once NrGE6_ok mixed r5_Parse_M2_h_ok (show codeAt (bodyOf Tryd.f20) [0, 1, 1, 1] = some ((codeAt (bodyOf Tryd.f20) [0, 1, 1, 1]).getD .skip) from by kernel_rfl) (N := r5_Parse_M3_N) (Nx := r5_Parse_M3_X) (A := r5_Parse_M3_A) (Hs := r5_Parse_M3_H) (toD := r5_Parse_M3_to) (ofA := r5_Parse_M3_ofA) (ofH := r5_Parse_M3_ofH) (fun _ _ => rfl) (fun _ _ => rfl) (M := fun d => r5_Parse_M3 d.1 d.2) (fin := r5_Parse_M3_fin) 60 r5_Parse_M3_ev).mono fun α st k r h => by
  refine Eq.trans (congrArg (reNorm 0 r5_Parse_M3_N r5_Parse_M3_A r5_Parse_M3_H st) ?_) h
  funext a m
  exact outOf_congr fun x => rfl
noncomputable def r5_Parse_M3_h : Hints := r5_Parse_M2_h.add [0, 1, 1, 1] r5_Parse_M3_sp
theorem r5_Parse_M3_h_ok : r5_Parse_M3_h.OK Tryd.prog (bodyOf Tryd.f20) := r5_Parse_M2_h_ok.add (show codeAt (bodyOf Tryd.f20) [0, 1, 1, 1] = some ((codeAt (bodyOf Tryd.f20) [0, 1, 1, 1]).getD .skip) from by kernel_rfl) r5_Parse_M3_ok
def r5_Parse_M4_A : List SD := [.val .str, .val (.int .i64), .any, .any, .any, .any, .any, .any, .any, .any, .any, .any, .any, .any, .any, .any, .any, .any, .any, .any, .any, .any, .any, .any, .any, .any, .any, .any, .any, .any, .any, .any, .any, .any, .any, .any, .any, .any, .any, .any, .any, .any, .any, .any, .any, .any, .any, .any, .any, .any, .any, .any, .any, .any, .any, .any, .any, .any, .any, .any, .any, .any, .any, .any, .any, .any, .any, .any, .any, .any, .any, .any, .any, .any, .any, .any, .any, .any, .any, .any, .any, .any, .any, .any, .any, .any, .any, .any, .any, .any, .any, .any, .any, .any, .any, .any, .any, .any, .any, .any, .any, .any, .any, .any, .any, .any, .any, .any, .any, .any, .any, .any, .any, .any, .any, .any, .any, .any, .any]
def r5_Parse_M4_H : List HD := []
abbrev r5_Parse_M4_D : Type := ByteArray × Int
def r5_Parse_M4_to (a : DenS r5_Parse_M4_A) (m : DenH r5_Parse_M4_H) : r5_Parse_M4_D := (a.1, a.2.1)
def r5_Parse_M4_ofA (d : r5_Parse_M4_D) : DenS r5_Parse_M4_A := match d with | (s0, s1) => (s0, s1, (), (), (), (), (), (), (), (), (), (), (), (), (), (), (), (), (), (), (), (), (), (), (), (), (), (), (), (), (), (), (), (), (), (), (), (), (), (), (), (), (), (), (), (), (), (), (), (), (), (), (), (), (), (), (), (), (), (), (), (), (), (), (), (), (), (), (), (), (), (), (), (), (), (), (), (), (), (), (), (), (), (), (), (), (), (), (), (), (), (), (), (), (), (), (), (), (), (), (), (), (), (), (), (), (), (), (), (), (), (), (), (), (), (), (), (), (), ())
def r5_Parse_M4_ofH (d : r5_Parse_M4_D) : DenH r5_Parse_M4_H := match d with | (s0, s1) => ()
def r5_Parse_M4_N : Norm := (⟨[0, 1], [], []⟩ : Go.TX.Norm)
def r5_Parse_M4_X : Exit → Norm := fun e => match e with | .normal => ⟨[0, 1, 6], [], []⟩ | _ => ⟨[], [], []⟩
abbrev r5_Parse_M4_R : Type := (Bool)
def r5_Parse_M4_fin (d : r5_Parse_M4_D) (v : r5_Parse_M4_R) : Exit × St := (.normal, ⟨[.lit (.string d.1), .lit (.int .i64 d.2), .any, .any, .any, .any, .lit (.bool v), .any, .any, .any, .any, .any, .any, .any, .any, .any, .any, .any, .any, .any, .any, .any, .any, .any, .any, .any, .any, .any, .any, .any, .any, .any, .any, .any, .any, .any, .any, .any, .any, .any, .any, .any, .any, .any, .any, .any, .any, .any, .any, .any, .any, .any, .any, .any, .any, .any, .any, .any, .any, .any, .any, .any, .any, .any, .any, .any, .any, .any, .any, .any, .any, .any, .any, .any, .any, .any, .any, .any, .any, .any, .any, .any, .any, .any, .any, .any, .any, .any, .any, .any, .any, .any, .any, .any, .any, .any, .any, .any, .any, .any, .any, .any, .any, .any, .any, .any, .any, .any, .any, .any, .any, .any, .any, .any, .any, .any, .any, .any, .any], []⟩)
noncomputable def r5_Parse_M4_t {γ : Type} (s0 : ByteArray) (k : r5_Parse_M4_R → Option γ) : Option γ := cond (decide ((↑(ByteArray.size s0) : Int) > (0 : Int))) (cond (decide ((0 : Int) ≤ (0 : Int) ∧ (0 : Int) < (↑(ByteArray.size s0) : Int))) (k ((↑(UInt8.toNat (List.getD (Array.toList (ByteArray.data s0)) (0 : Nat) (UInt8.ofNat (nat_lit 0)))) : Int) == (45 : Int))) (none)) (k (false))
noncomputable def r5_Parse_M4 (s0 : ByteArray) : Option r5_Parse_M4_R := r5_Parse_M4_t s0 some
theorem r5_Parse_M4_t_eq {γ : Type} (s0 : ByteArray) (k : r5_Parse_M4_R → Option γ) : r5_Parse_M4_t s0 k = outOf (r5_Parse_M4 s0) k := by
  delta r5_Parse_M4 r5_Parse_M4_t; exact (Tr.nd (Tr.nd Tr.lf Tr.no) Tr.lf)
theorem r5_Parse_M4_ev (α : Type) (d : r5_Parse_M4_D) (k : Exit → St → Option α) : ev Tryd.prog NrGE6 r5_Parse_M3_h 60 [0, 1, 1, 1, 1] ((codeAt (bodyOf Tryd.f20) [0, 1, 1, 1, 1]).getD .skip) ⟨mkS r5_Parse_M4_A (r5_Parse_M4_ofA d), mkH r5_Parse_M4_H (r5_Parse_M4_ofH d)⟩ (exitN 0 r5_Parse_M4_X k) = outOf (r5_Parse_M4 d.1) fun x => k (r5_Parse_M4_fin d x).1 (r5_Parse_M4_fin d x).2 := by
  obtain ⟨s0, s1⟩ := d
  exact (show _ = r5_Parse_M4_t s0 (fun x => k (r5_Parse_M4_fin (s0, s1) x).1 (r5_Parse_M4_fin (s0, s1) x).2) from by kernel_rfl).trans (r5_Parse_M4_t_eq s0 _)
noncomputable def r5_Parse_M4_sp : CSpec := fun _ st k => reNorm 0 r5_Parse_M4_N r5_Parse_M4_A r5_Parse_M4_H st fun a m => outOf (r5_Parse_M4 (r5_Parse_M4_to a m).1) fun v => k .normal ⟨[.lit (.string (r5_Parse_M4_to a m).1), .lit (.int .i64 (r5_Parse_M4_to a m).2), .any, .any, .any, .any, .lit (.bool v), .any, .any, .any, .any, .any, .any, .any, .any, .any, .any, .any, .any, .any, .any, .any, .any, .any, .any, .any, .any, .any, .any, .any, .any, .any, .any, .any, .any, .any, .any, .any, .any, .any, .any, .any, .any, .any, .any, .any, .any, .any, .any, .any, .any, .any, .any, .any, .any, .any, .any, .any, .any, .any, .any, .any, .any, .any, .any, .any, .any, .any, .any, .any, .any, .any, .any, .any, .any, .any, .any, .any, .any, .any, .any, .any, .any, .any, .any, .any, .any, .any, .any, .any, .any, .any, .any, .any, .any, .any, .any, .any, .any, .any, .any, .any, .any, .any, .any, .any, .any, .any, .any, .any, .any, .any, .any, .any, .any, .any, .any, .any, .any], []⟩
theorem r5_Parse_M4_ok : SumOK Tryd.prog 0 ((codeAt (bodyOf Tryd.f20) [0, 1, 1, 1, 1]).getD .skip) r5_Parse_M4_sp := (SumOK.once NrGE6_ok mixed r5_Parse_M3_h_ok (show codeAt (bodyOf Tryd.f20) [0, 1, 1, 1, 1] = some ((codeAt (bodyOf Tryd.f20) [0, 1, 1, 1, 1]).getD .skip) from by kernel_rfl) (N := r5_Parse_M4_N) (Nx := r5_Parse_M4_X) (A := r5_Parse_M4_A) (Hs := r5_Parse_M4_H) (toD := r5_Parse_M4_to) (ofA := r5_Parse_M4_ofA) (ofH := r5_Parse_M4_ofH) (fun _ _ => rfl) (fun _ _ => rfl) (M := fun d => r5_Parse_M4 d.1) (fin := r5_Parse_M4_fin) 60 r5_Parse_M4_ev).mono fun α st k r h => by
  refine Eq.trans (congrArg (reNorm 0 r5_Parse_M4_N r5_Parse_M4_A r5_Parse_M4_H st) ?_) h
  funext a m
  exact outOf_congr fun x => rfl
noncomputable def r5_Parse_M4_h : Hints := r5_Parse_M3_h.add [0, 1, 1, 1, 1] r5_Parse_M4_sp
theorem r5_Parse_M4_h_ok : r5_Parse_M4_h.OK Tryd.prog (bodyOf Tryd.f20) := r5_Parse_M3_h_ok.add (show codeAt (bodyOf Tryd.f20) [0, 1, 1, 1, 1] = some ((codeAt (bodyOf Tryd.f20) [0, 1, 1, 1, 1]).getD .skip) from by kernel_rfl) r5_Parse_M4_ok
def r5_Parse_M5_A : List SD := [.val .str, .val (.int .i64), .any, .any, .any, .any, .val .bool, .any, .any, .any, .any, .any, .any, .any, .any, .any, .any, .any, .any, .any, .any, .any, .any, .any, .any, .any, .any, .any, .any, .any, .any, .any, .any, .any, .any, .any, .any, .any, .any, .any, .any, .any, .any, .any, .any, .any, .any, .any, .any, .any, .any, .any, .any, .any, .any, .any, .any, .any, .any, .any, .any, .any, .any, .any, .any, .any, .any, .any, .any, .any, .any, .any, .any, .any, .any, .any, .any, .any, .any, .any, .any, .any, .any, .any, .any, .any, .any, .any, .any, .any, .any, .any, .any, .any, .any, .any, .any, .any, .any, .any, .any, .any, .any, .any, .any, .any, .any, .any, .any, .any, .any, .any, .any, .any, .any, .any, .any, .any, .any]
def r5_Parse_M5_H : List HD := []
abbrev r5_Parse_M5_D : Type := ByteArray × Int × Bool
def r5_Parse_M5_to (a : DenS r5_Parse_M5_A) (m : DenH r5_Parse_M5_H) : r5_Parse_M5_D := (a.1, a.2.1, a.2.2.2.2.2.2.1)
def r5_Parse_M5_ofA (d : r5_Parse_M5_D) : DenS r5_Parse_M5_A := match d with | (s0, s1, s6) => (s0, s1, (), (), (), (), s6, (), (), (), (), (), (), (), (), (), (), (), (), (), (), (), (), (), (), (), (), (), (), (), (), (), (), (), (), (), (), (), (), (), (), (), (), (), (), (), (), (), (), (), (), (), (), (), (), (), (), (), (), (), (), (), (), (), (), (), (), (), (), (), (), (), (), (), (), (), (), (), (), (), (), (), (), (), (), (), (), (), (), (), (), (), (), (), (), (), (), (), (), (), (), (), (), (), (), (), (), (), (), (), (), (), (), (), (), (), (), (), (), ())
def r5_Parse_M5_ofH (d : r5_Parse_M5_D) : DenH r5_Parse_M5_H := match d with | (s0, s1, s6) => ()
def r5_Parse_M5_N : Norm := (⟨[0, 1, 6], [], []⟩ : Go.TX.Norm)
def r5_Parse_M5_X : Exit → Norm := fun e => match e with | .normal => ⟨[0, 1, 6], [], []⟩ | _ => ⟨[], [], []⟩
abbrev r5_Parse_M5_R : Type := (ByteArray)
def r5_Parse_M5_fin (d : r5_Parse_M5_D) (v : r5_Parse_M5_R) : Exit × St := (.normal, ⟨[.lit (.string v), .lit (.int .i64 d.2.1), .any, .any, .any, .any, .lit (.bool d.2.2), .any, .any, .any, .any, .any, .any, .any, .any, .any, .any, .any, .any, .any, .any, .any, .any, .any, .any, .any, .any, .any, .any, .any, .any, .any, .any, .any, .any, .any, .any, .any, .any, .any, .any, .any, .any, .any, .any, .any, .any, .any, .any, .any, .any, .any, .any, .any, .any, .any, .any, .any, .any, .any, .any, .any, .any, .any, .any, .any, .any, .any, .any, .any, .any, .any, .any, .any, .any, .any, .any, .any, .any, .any, .any, .any, .any, .any, .any, .any, .any, .any, .any, .any, .any, .any, .any, .any, .any, .any, .any, .any, .any, .any, .any, .any, .any, .any, .any, .any, .any, .any, .any, .any, .any, .any, .any, .any, .any, .any, .any, .any, .any], []⟩)
noncomputable def r5_Parse_M5_t {γ : Type} (s0 : ByteArray) (s6 : Bool) (k : r5_Parse_M5_R → Option γ) : Option γ := cond s6 (cond (decide ((0 : Int) ≤ (1 : Int) ∧ (1 : Int) ≤ (↑(ByteArray.size s0) : Int) ∧ (↑(ByteArray.size s0) : Int) ≤ (↑(ByteArray.size s0) : Int))) (k (ByteArray.extract s0 (1 : Nat) (Int.toNat (↑(ByteArray.size s0) : Int)))) (none)) (k (s0))
noncomputable def r5_Parse_M5 (s0 : ByteArray) (s6 : Bool) : Option r5_Parse_M5_R := r5_Parse_M5_t s0 s6 some
theorem r5_Parse_M5_t_eq {γ : Type} (s0 : ByteArray) (s6 : Bool) (k : r5_Parse_M5_R → Option γ) : r5_Parse_M5_t s0 s6 k = outOf (r5_Parse_M5 s0 s6) k := by
  delta r5_Parse_M5 r5_Parse_M5_t; exact (Tr.nd (Tr.nd Tr.lf Tr.no) Tr.lf)
theorem r5_Parse_M5_ev (α : Type) (d : r5_Parse_M5_D) (k : Exit → St → Option α) : ev Tryd.prog NrGE6 r5_Parse_M4_h 60 [0, 1, 1, 1, 1, 1] ((codeAt (bodyOf Tryd.f20) [0, 1, 1, 1, 1, 1]).getD .skip) ⟨mkS r5_Parse_M5_A (r5_Parse_M5_ofA d), mkH r5_Parse_M5_H (r5_Parse_M5_ofH d)⟩ (exitN 0 r5_Parse_M5_X k) = outOf (r5_Parse_M5 d.1 d.2.2) fun x => k (r5_Parse_M5_fin d x).1 (r5_Parse_M5_fin d x).2 := by
  obtain ⟨s0, s1, s6⟩ := d
  exact (show _ = r5_Parse_M5_t s0 s6 (fun x => k (r5_Parse_M5_fin (s0, s1, s6) x).1 (r5_Parse_M5_fin (s0, s1, s6) x).2) from by kernel_rfl).trans (r5_Parse_M5_t_eq s0 s6 _)
noncomputable def r5_Parse_M5_sp : CSpec := fun _ st k => reNorm 0 r5_Parse_M5_N r5_Parse_M5_A r5_Parse_M5_H st fun a m => outOf (r5_Parse_M5 (r5_Parse_M5_to a m).1 (r5_Parse_M5_to a m).2.2) fun v => k .normal ⟨[.lit (.string v), .lit (.int .i64 (r5_Parse_M5_to a m).2.1), .any, .any, .any, .any, .lit (.bool (r5_Parse_M5_to a m).2.2), .any, .any, .any, .any, .any, .any, .any, .any, .any, .any, .any, .any, .any, .any, .any, .any, .any, .any, .any, .any, .any, .any, .any, .any, .any, .any, .any, .any, .any, .any, .any, .any, .any, .any, .any, .any, .any, .any, .any, .any, .any, .any, .any, .any, .any, .any, .any, .any, .any, .any, .any, .any, .any, .any, .any, .any, .any, .any, .any, .any, .any, .any, .any, .any, .any, .any, .any, .any, .any, .any, .any, .any, .any, .any, .any, .any, .any, .any, .any, .any, .any, .any, .any, .any, .any, .any, .any, .any, .any, .any, .any, .any, .any, .any, .any, .any, .any, .any, .any, .any, .any, .any, .any, .any, .any, .any, .any, .any, .any, .any, .any, .any], []⟩
theorem r5_Parse_M5_ok : SumOK Tryd.prog 0 ((codeAt (bodyOf Tryd.f20) [0, 1, 1, 1, 1, 1]).getD .skip) r5_Parse_M5_sp := (SumOK.once NrGE6_ok mixed r5_Parse_M4_h_ok (show codeAt (bodyOf Tryd.f20) [0, 1, 1, 1, 1, 1] = some ((codeAt (bodyOf Tryd.f20) [0, 1, 1, 1, 1, 1]).getD .skip) from by kernel_rfl) (N := r5_Parse_M5_N) (Nx := r5_Parse_M5_X) (A := r5_Parse_M5_A) (Hs := r5_Parse_M5_H) (toD := r5_Parse_M5_to) (ofA := r5_Parse_M5_ofA) (ofH := r5_Parse_M5_ofH) (fun _ _ => rfl) (fun _ _ => rfl) (M := fun d => r5_Parse_M5 d.1 d.2.2) (fin := r5_Parse_M5_fin) 60 r5_Parse_M5_ev).mono fun α st k r h => by
  refine Eq.trans (congrArg (reNorm 0 r5_Parse_M5_N r5_Parse_M5_A r5_Parse_M5_H st) ?_) h
  funext a m
  exact outOf_congr fun x => rfl
noncomputable def r5_Parse_M5_h : Hints := r5_Parse_M4_h.add [0, 1, 1, 1, 1, 1] r5_Parse_M5_sp
theorem r5_Parse_M5_h_ok : r5_Parse_M5_h.OK Tryd.prog (bodyOf Tryd.f20) := r5_Parse_M4_h_ok.add (show codeAt (bodyOf Tryd.f20) [0, 1, 1, 1, 1, 1] = some ((codeAt (bodyOf Tryd.f20) [0, 1, 1, 1, 1, 1]).getD .skip) from by kernel_rfl) r5_Parse_M5_ok
def r5_Parse_M6_A : List SD := [.val .str, .val (.int .i64), .any, .any, .any, .any, .val .bool, .any, .any, .any, .any, .any, .any, .any, .any, .any, .any, .any, .any, .any, .any, .any, .any, .any, .any, .any, .any, .any, .any, .any, .any, .any, .any, .any, .any, .any, .any, .any, .any, .any, .any, .any, .any, .any, .any, .any, .any, .any, .any, .any, .any, .any, .any, .any, .any, .any, .any, .any, .any, .any, .any, .any, .any, .any, .any, .any, .any, .any, .any, .any, .any, .any, .any, .any, .any, .any, .any, .any, .any, .any, .any, .any, .any, .any, .any, .any, .any, .any, .any, .any, .any, .any, .any, .any, .any, .any, .any, .any, .any, .any, .any, .any, .any, .any, .any, .any, .any, .any, .any, .any, .any, .any, .any, .any, .any, .any, .any, .any, .any]
def r5_Parse_M6_H : List HD := []
abbrev r5_Parse_M6_D : Type := ByteArray × Int × Bool
def r5_Parse_M6_to (a : DenS r5_Parse_M6_A) (m : DenH r5_Parse_M6_H) : r5_Parse_M6_D := (a.1, a.2.1, a.2.2.2.2.2.2.1)
def r5_Parse_M6_ofA (d : r5_Parse_M6_D) : DenS r5_Parse_M6_A := match d with | (s0, s1, s6) => (s0, s1, (), (), (), (), s6, (), (), (), (), (), (), (), (), (), (), (), (), (), (), (), (), (), (), (), (), (), (), (), (), (), (), (), (), (), (), (), (), (), (), (), (), (), (), (), (), (), (), (), (), (), (), (), (), (), (), (), (), (), (), (), (), (), (), (), (), (), (), (), (), (), (), (), (), (), (), (), (), (), (), (), (), (), (), (), (), (), (), (), (), (), (), (), (), (), (), (), (), (), (), (), (), (), (), (), (), (), (), (), (), (), (), (), (), (), (), (), (), ())
def r5_Parse_M6_ofH (d : r5_Parse_M6_D) : DenH r5_Parse_M6_H := match d with | (s0, s1, s6) => ()
def r5_Parse_M6_N : Norm := (⟨[0, 1, 6], [], []⟩ : Go.TX.Norm)
def r5_Parse_M6_X : Exit → Norm := fun e => match e with | .normal => ⟨[0, 1, 6, 7], [], []⟩ | _ => ⟨[], [], []⟩
abbrev r5_Parse_M6_R : Type := (Bool)
def r5_Parse_M6_fin (d : r5_Parse_M6_D) (v : r5_Parse_M6_R) : Exit × St := (.normal, ⟨[.lit (.string d.1), .lit (.int .i64 d.2.1), .any, .any, .any, .any, .lit (.bool d.2.2), .lit (.bool v), .any, .any, .any, .any, .any, .any, .any, .any, .any, .any, .any, .any, .any, .any, .any, .any, .any, .any, .any, .any, .any, .any, .any, .any, .any, .any, .any, .any, .any, .any, .any, .any, .any, .any, .any, .any, .any, .any, .any, .any, .any, .any, .any, .any, .any, .any, .any, .any, .any, .any, .any, .any, .any, .any, .any, .any, .any, .any, .any, .any, .any, .any, .any, .any, .any, .any, .any, .any, .any, .any, .any, .any, .any, .any, .any, .any, .any, .any, .any, .any, .any, .any, .any, .any, .any, .any, .any, .any, .any, .any, .any, .any, .any, .any, .any, .any, .any, .any, .any, .any, .any, .any, .any, .any, .any, .any, .any, .any, .any, .any, .any], []⟩)
noncomputable def r5_Parse_M6_t {γ : Type} (s0 : ByteArray) (k : r5_Parse_M6_R → Option γ) : Option γ := cond (decide ((↑(ByteArray.size s0) : Int) > (0 : Int))) (cond (decide ((0 : Int) ≤ IntKind.wrap IntKind.i64 ((↑(ByteArray.size s0) : Int) - (1 : Int)) ∧ IntKind.wrap IntKind.i64 ((↑(ByteArray.size s0) : Int) - (1 : Int)) < (↑(ByteArray.size s0) : Int))) (k ((↑(UInt8.toNat (List.getD (Array.toList (ByteArray.data s0)) (Int.toNat (IntKind.wrap IntKind.i64 ((↑(ByteArray.size s0) : Int) - (1 : Int)))) (UInt8.ofNat (nat_lit 0)))) : Int) == (46 : Int))) (none)) (k (false))
noncomputable def r5_Parse_M6 (s0 : ByteArray) : Option r5_Parse_M6_R := r5_Parse_M6_t s0 some
theorem r5_Parse_M6_t_eq {γ : Type} (s0 : ByteArray) (k : r5_Parse_M6_R → Option γ) : r5_Parse_M6_t s0 k = outOf (r5_Parse_M6 s0) k := by
  delta r5_Parse_M6 r5_Parse_M6_t; exact (Tr.nd (Tr.nd Tr.lf Tr.no) Tr.lf)
theorem r5_Parse_M6_ev (α : Type) (d : r5_Parse_M6_D) (k : Exit → St → Option α) : ev Tryd.prog NrGE6 r5_Parse_M5_h 60 [0, 1, 1, 1, 1, 1, 1] ((codeAt (bodyOf Tryd.f20) [0, 1, 1, 1, 1, 1, 1]).getD .skip) ⟨mkS r5_Parse_M6_A (r5_Parse_M6_ofA d), mkH r5_Parse_M6_H (r5_Parse_M6_ofH d)⟩ (exitN 0 r5_Parse_M6_X k) = outOf (r5_Parse_M6 d.1) fun x => k (r5_Parse_M6_fin d x).1 (r5_Parse_M6_fin d x).2 := by
  obtain ⟨s0, s1, s6⟩ := d
  exact (show _ = r5_Parse_M6_t s0 (fun x => k (r5_Parse_M6_fin (s0, s1, s6) x).1 (r5_Parse_M6_fin (s0, s1, s6) x).2) from by kernel_rfl).trans (r5_Parse_M6_t_eq s0 _)
noncomputable def r5_Parse_M6_sp : CSpec := fun _ st k => reNorm 0 r5_Parse_M6_N r5_Parse_M6_A r5_Parse_M6_H st fun a m => outOf (r5_Parse_M6 (r5_Parse_M6_to a m).1) fun v => k .normal ⟨[.lit (.string (r5_Parse_M6_to a m).1), .lit (.int .i64 (r5_Parse_M6_to a m).2.1), .any, .any, .any, .any, .lit (.bool (r5_Parse_M6_to a m).2.2), .lit (.bool v), .any, .any, .any, .any, .any, .any, .any, .any, .any, .any, .any, .any, .any, .any, .any, .any, .any, .any, .any, .any, .any, .any, .any, .any, .any, .any, .any, .any, .any, .any, .any, .any, .any, .any, .any, .any, .any, .any, .any, .any, .any, .any, .any, .any, .any, .any, .any, .any, .any, .any, .any, .any, .any, .any, .any, .any, .any, .any, .any, .any, .any, .any, .any, .any, .any, .any, .any, .any, .any, .any, .any, .any, .any, .any, .any, .any, .any, .any, .any, .any, .any, .any, .any, .any, .any, .any, .any, .any, .any, .any, .any, .any, .any, .any, .any, .any, .any, .any, .any, .any, .any, .any, .any, .any, .any, .any, .any, .any, .any, .any, .any], []⟩
theorem r5_Parse_M6_ok : SumOK Tryd.prog 0 ((codeAt (bodyOf Tryd.f20) [0, 1, 1, 1, 1, 1, 1]).getD .skip) r5_Parse_M6_sp := (SumOK.once NrGE6_ok mixed r5_Parse_M5_h_ok (show codeAt (bodyOf Tryd.f20) [0, 1, 1, 1, 1, 1, 1] = some ((codeAt (bodyOf Tryd.f20) [0, 1, 1, 1, 1, 1, 1]).getD .skip) from by kernel_rfl) (N := r5_Parse_M6_N) (Nx := r5_Parse_M6_X) (A := r5_Parse_M6_A) (Hs := r5_Parse_M6_H) (toD := r5_Parse_M6_to) (ofA := r5_Parse_M6_ofA) (ofH := r5_Parse_M6_ofH) (fun _ _ => rfl) (fun _ _ => rfl) (M := fun d => r5_Parse_M6 d.1) (fin := r5_Parse_M6_fin) 60 r5_Parse_M6_ev).mono fun α st k r h => by
  refine Eq.trans (congrArg (reNorm 0 r5_Parse_M6_N r5_Parse_M6_A r5_Parse_M6_H st) ?_) h
  funext a m
  exact outOf_congr fun x => rfl
noncomputable def r5_Parse_M6_h : Hints := r5_Parse_M5_h.add [0, 1, 1, 1, 1, 1, 1] r5_Parse_M6_sp
theorem r5_Parse_M6_h_ok : r5_Parse_M6_h.OK Tryd.prog (bodyOf Tryd.f20) := r5_Parse_M5_h_ok.add (show codeAt (bodyOf Tryd.f20) [0, 1, 1, 1, 1, 1, 1] = some ((codeAt (bodyOf Tryd.f20) [0, 1, 1, 1, 1, 1, 1]).getD .skip) from by kernel_rfl) r5_Parse_M6_ok
def r5_Parse_M7_A : List SD := [.val .str, .val (.int .i64), .any, .any, .any, .any, .val .bool, .val .bool, .any, .any, .any, .any, .any, .any, .any, .any, .any, .any, .any, .any, .any, .any, .any, .any, .any, .any, .any, .any, .any, .any, .any, .any, .any, .any, .any, .any, .any, .any, .any, .any, .any, .any, .any, .any, .any, .any, .any, .any, .any, .any, .any, .any, .any, .any, .any, .any, .any, .any, .any, .any, .any, .any, .any, .any, .any, .any, .any, .any, .any, .any, .any, .any, .any, .any, .any, .any, .any, .any, .any, .any, .any, .any, .any, .any, .any, .any, .any, .any, .any, .any, .any, .any, .any, .any, .any, .any, .any, .any, .any, .any, .any, .any, .any, .any, .any, .any, .any, .any, .any, .any, .any, .any, .any, .any, .any, .any, .any, .any, .any]
def r5_Parse_M7_H : List HD := []
abbrev r5_Parse_M7_D : Type := ByteArray × Int × Bool × Bool
def r5_Parse_M7_to (a : DenS r5_Parse_M7_A) (m : DenH r5_Parse_M7_H) : r5_Parse_M7_D := (a.1, a.2.1, a.2.2.2.2.2.2.1, a.2.2.2.2.2.2.2.1)
def r5_Parse_M7_ofA (d : r5_Parse_M7_D) : DenS r5_Parse_M7_A := match d with | (s0, s1, s6, s7) => (s0, s1, (), (), (), (), s6, s7, (), (), (), (), (), (), (), (), (), (), (), (), (), (), (), (), (), (), (), (), (), (), (), (), (), (), (), (), (), (), (), (), (), (), (), (), (), (), (), (), (), (), (), (), (), (), (), (), (), (), (), (), (), (), (), (), (), (), (), (), (), (), (), (), (), (), (), (), (), (), (), (), (), (), (), (), (), (), (), (), (), (), (), (), (), (), (), (), (), (), (), (), (), (), (), (), (), (), (), (), (), (), (), (), (), (), (), (), (), (), (), ())
def r5_Parse_M7_ofH (d : r5_Parse_M7_D) : DenH r5_Parse_M7_H := match d with | (s0, s1, s6, s7) => ()
def r5_Parse_M7_N : Norm := (⟨[0, 1, 6, 7], [], []⟩ : Go.TX.Norm)
def r5_Parse_M7_X : Exit → Norm := fun e => match e with | .normal => ⟨[0, 1, 6, 7], [], []⟩ | _ => ⟨[], [], []⟩
abbrev r5_Parse_M7_R : Type := (ByteArray)
def r5_Parse_M7_fin (d : r5_Parse_M7_D) (v : r5_Parse_M7_R) : Exit × St := (.normal, ⟨[.lit (.string v), .lit (.int .i64 d.2.1), .any, .any, .any, .any, .lit (.bool d.2.2.1), .lit (.bool d.2.2.2), .any, .any, .any, .any, .any, .any, .any, .any, .any, .any, .any, .any, .any, .any, .any, .any, .any, .any, .any, .any, .any, .any, .any, .any, .any, .any, .any, .any, .any, .any, .any, .any, .any, .any, .any, .any, .any, .any, .any, .any, .any, .any, .any, .any, .any, .any, .any, .any, .any, .any, .any, .any, .any, .any, .any, .any, .any, .any, .any, .any, .any, .any, .any, .any, .any, .any, .any, .any, .any, .any, .any, .any, .any, .any, .any, .any, .any, .any, .any, .any, .any, .any, .any, .any, .any, .any, .any, .any, .any, .any, .any, .any, .any, .any, .any, .any, .any, .any, .any, .any, .any, .any, .any, .any, .any, .any, .any, .any, .any, .any, .any], []⟩)
noncomputable def r5_Parse_M7_t {γ : Type} (s0 : ByteArray) (s7 : Bool) (k : r5_Parse_M7_R → Option γ) : Option γ := cond s7 (cond (decide ((0 : Int) ≤ (0 : Int) ∧ (0 : Int) ≤ IntKind.wrap IntKind.i64 ((↑(ByteArray.size s0) : Int) - (1 : Int)) ∧ IntKind.wrap IntKind.i64 ((↑(ByteArray.size s0) : Int) - (1 : Int)) ≤ (↑(ByteArray.size s0) : Int))) (k (ByteArray.extract s0 (0 : Nat) (Int.toNat (IntKind.wrap IntKind.i64 ((↑(ByteArray.size s0) : Int) - (1 : Int)))))) (none)) (k (s0))
noncomputable def r5_Parse_M7 (s0 : ByteArray) (s7 : Bool) : Option r5_Parse_M7_R := r5_Parse_M7_t s0 s7 some
theorem r5_Parse_M7_t_eq {γ : Type} (s0 : ByteArray) (s7 : Bool) (k : r5_Parse_M7_R → Option γ) : r5_Parse_M7_t s0 s7 k = outOf (r5_Parse_M7 s0 s7) k := by
  delta r5_Parse_M7 r5_Parse_M7_t; exact (Tr.nd (Tr.nd Tr.lf Tr.no) Tr.lf)
theorem r5_Parse_M7_ev (α : Type) (d : r5_Parse_M7_D) (k : Exit → St → Option α) : ev Tryd.prog NrGE6 r5_Parse_M6_h 60 [0, 1, 1, 1, 1, 1, 1, 1] ((codeAt (bodyOf Tryd.f20) [0, 1, 1, 1, 1, 1, 1, 1]).getD .skip) ⟨mkS r5_Parse_M7_A (r5_Parse_M7_ofA d), mkH r5_Parse_M7_H (r5_Parse_M7_ofH d)⟩ (exitN 0 r5_Parse_M7_X k) = outOf (r5_Parse_M7 d.1 d.2.2.2) fun x => k (r5_Parse_M7_fin d x).1 (r5_Parse_M7_fin d x).2 := by
  obtain ⟨s0, s1, s6, s7⟩ := d
  exact (show _ = r5_Parse_M7_t s0 s7 (fun x => k (r5_Parse_M7_fin (s0, s1, s6, s7) x).1 (r5_Parse_M7_fin (s0, s1, s6, s7) x).2) from by kernel_rfl).trans (r5_Parse_M7_t_eq s0 s7 _)
noncomputable def r5_Parse_M7_sp : CSpec := fun _ st k => reNorm 0 r5_Parse_M7_N r5_Parse_M7_A r5_Parse_M7_H st fun a m => outOf (r5_Parse_M7 (r5_Parse_M7_to a m).1 (r5_Parse_M7_to a m).2.2.2) fun v => k .normal ⟨[.lit (.string v), .lit (.int .i64 (r5_Parse_M7_to a m).2.1), .any, .any, .any, .any, .lit (.bool (r5_Parse_M7_to a m).2.2.1), .lit (.bool (r5_Parse_M7_to a m).2.2.2), .any, .any, .any, .any, .any, .any, .any, .any, .any, .any, .any, .any, .any, .any, .any, .any, .any, .any, .any, .any, .any, .any, .any, .any, .any, .any, .any, .any, .any, .any, .any, .any, .any, .any, .any, .any, .any, .any, .any, .any, .any, .any, .any, .any, .any, .any, .any, .any, .any, .any, .any, .any, .any, .any, .any, .any, .any, .any, .any, .any, .any, .any, .any, .any, .any, .any, .any, .any, .any, .any, .any, .any, .any, .any, .any, .any, .any, .any, .any, .any, .any, .any, .any, .any, .any, .any, .any, .any, .any, .any, .any, .any, .any, .any, .any, .any, .any, .any, .any, .any, .any, .any, .any, .any, .any, .any, .any, .any, .any, .any, .any], []⟩
theorem r5_Parse_M7_ok : SumOK Tryd.prog 0 ((codeAt (bodyOf Tryd.f20) [0, 1, 1, 1, 1, 1, 1, 1]).getD .skip) r5_Parse_M7_sp := (SumOK.once NrGE6_ok mixed r5_Parse_M6_h_ok (show codeAt (bodyOf Tryd.f20) [0, 1, 1, 1, 1, 1, 1, 1] = some ((codeAt (bodyOf Tryd.f20) [0, 1, 1, 1, 1, 1, 1, 1]).getD .skip) from by kernel_rfl) (N := r5_Parse_M7_N) (Nx := r5_Parse_M7_X) (A := r5_Parse_M7_A) (Hs := r5_Parse_M7_H) (toD := r5_Parse_M7_to) (ofA := r5_Parse_M7_ofA) (ofH := r5_Parse_M7_ofH) (fun _ _ => rfl) (fun _ _ => rfl) (M := fun d => r5_Parse_M7 d.1 d.2.2.2) (fin := r5_Parse_M7_fin) 60 r5_Parse_M7_ev).mono fun α st k r h => by
  refine Eq.trans (congrArg (reNorm 0 r5_Parse_M7_N r5_Parse_M7_A r5_Parse_M7_H st) ?_) h
  funext a m
  exact outOf_congr fun x => rfl
noncomputable def r5_Parse_M7_h : Hints := r5_Parse_M6_h.add [0, 1, 1, 1, 1, 1, 1, 1] r5_Parse_M7_sp
theorem r5_Parse_M7_h_ok : r5_Parse_M7_h.OK Tryd.prog (bodyOf Tryd.f20) := r5_Parse_M6_h_ok.add (show codeAt (bodyOf Tryd.f20) [0, 1, 1, 1, 1, 1, 1, 1] = some ((codeAt (bodyOf Tryd.f20) [0, 1, 1, 1, 1, 1, 1, 1]).getD .skip) from by kernel_rfl) r5_Parse_M7_ok
def r5_Parse_L1_A : List SD := [.val .str, .val (.int .i64), .any, .any, .any, .any, .val .bool, .val .bool, .loc 0 0 0, .val (.int .i64), .any, .any, .any, .any, .any, .any, .any, .any, .any, .any, .any, .any, .any, .any, .any, .any, .any, .any, .any, .any, .any, .any, .any, .any, .any, .any, .any, .any, .any, .any, .any, .any, .any, .any, .any, .any, .any, .any, .any, .any, .any, .any, .any, .any, .any, .any, .any, .any, .any, .any, .any, .any, .any, .any, .any, .any, .any, .any, .any, .any, .any, .any, .any, .any, .any, .any, .any, .any, .any, .any, .any, .any, .any, .any, .any, .any, .any, .any, .any, .any, .any, .any, .any, .any, .any, .any, .any, .any, .any, .any, .any, .any, .any, .any, .any, .any, .any, .any, .any, .any, .any, .any, .any, .any, .any, .any, .any, .any, .any]
def r5_Parse_L1_H : List HD := [.box [.val (.int .i64), .val (.int .i64)]]
abbrev r5_Parse_L1_D : Type := ByteArray × Int × Bool × Bool × Int × Int × Int
def r5_Parse_L1_to (a : DenS r5_Parse_L1_A) (m : DenH r5_Parse_L1_H) : r5_Parse_L1_D := (a.1, a.2.1, a.2.2.2.2.2.2.1, a.2.2.2.2.2.2.2.1, a.2.2.2.2.2.2.2.2.2.1, m.1.1, m.1.2.1)
def r5_Parse_L1_ofA (d : r5_Parse_L1_D) : DenS r5_Parse_L1_A := match d with | (s0, s1, s6, s7, s9, m0_0, m0_1) => (s0, s1, (), (), (), (), s6, s7, (), s9, (), (), (), (), (), (), (), (), (), (), (), (), (), (), (), (), (), (), (), (), (), (), (), (), (), (), (), (), (), (), (), (), (), (), (), (), (), (), (), (), (), (), (), (), (), (), (), (), (), (), (), (), (), (), (), (), (), (), (), (), (), (), (), (), (), (), (), (), (), (), (), (), (), (), (), (), (), (), (), (), (), (), (), (), (), (), (), (), (), (), (), (), (), (), (), (), (), (), (), (), (), (), (), (), (), (), (), (), (), ())
def r5_Parse_L1_ofH (d : r5_Parse_L1_D) : DenH r5_Parse_L1_H := match d with | (s0, s1, s6, s7, s9, m0_0, m0_1) => ((m0_0, m0_1, ()), ())
def r5_Parse_L1_N : Norm := (⟨[0, 1, 6, 7, 8, 9], [], []⟩ : Go.TX.Norm)
def r5_Parse_L1_X : Exit → Norm := fun e => match e with | .exit 1 => ⟨[6, 7, 8], [], []⟩ | .ret => ⟨[4, 5], [], []⟩ | _ => ⟨[], [], []⟩
abbrev r5_Parse_L1_R : Type := (((List Int) × Bool) ⊕ (Bool × Bool × Int × Int))
def r5_Parse_L1_fin (v : r5_Parse_L1_R) : Exit × St := sumOf v (fun v => (.ret, ⟨[.any, .any, .any, .any, .sl (.int .i64) v.1 true, .lit (.bool v.2), .any, .any, .any, .any, .any, .any, .any, .any, .any, .any, .any, .any, .any, .any, .any, .any, .any, .any, .any, .any, .any, .any, .any, .any, .any, .any, .any, .any, .any, .any, .any, .any, .any, .any, .any, .any, .any, .any, .any, .any, .any, .any, .any, .any, .any, .any, .any, .any, .any, .any, .any, .any, .any, .any, .any, .any, .any, .any, .any, .any, .any, .any, .any, .any, .any, .any, .any, .any, .any, .any, .any, .any, .any, .any, .any, .any, .any, .any, .any, .any, .any, .any, .any, .any, .any, .any, .any, .any, .any, .any, .any, .any, .any, .any, .any, .any, .any, .any, .any, .any, .any, .any, .any, .any, .any, .any, .any, .any, .any, .any, .any, .any, .any], []⟩)) (fun v => ((.exit 1), ⟨[.any, .any, .any, .any, .any, .any, .lit (.bool v.1), .lit (.bool v.2.1), .ptr 0 0 0, .any, .any, .any, .any, .any, .any, .any, .any, .any, .any, .any, .any, .any, .any, .any, .any, .any, .any, .any, .any, .any, .any, .any, .any, .any, .any, .any, .any, .any, .any, .any, .any, .any, .any, .any, .any, .any, .any, .any, .any, .any, .any, .any, .any, .any, .any, .any, .any, .any, .any, .any, .any, .any, .any, .any, .any, .any, .any, .any, .any, .any, .any, .any, .any, .any, .any, .any, .any, .any, .any, .any, .any, .any, .any, .any, .any, .any, .any, .any, .any, .any, .any, .any, .any, .any, .any, .any, .any, .any, .any, .any, .any, .any, .any, .any, .any, .any, .any, .any, .any, .any, .any, .any, .any, .any, .any, .any, .any, .any, .any], [.box [.lit (.int .i64 v.2.2.1), .lit (.int .i64 v.2.2.2)]]⟩))
noncomputable def r5_Parse_L1_t {γ : Type} (s0 : ByteArray) (s1 : Int) (s6 : Bool) (s7 : Bool) (s9 : Int) (m0_0 : Int) (m0_1 : Int) (next : r5_Parse_L1_D → Option γ) (out : r5_Parse_L1_R → Option γ) : Option γ := cond (decide (s9 < (↑(ByteArray.size s0) : Int))) (cond (decide ((0 : Int) ≤ s9 ∧ s9 < (↑(ByteArray.size s0) : Int))) (outOf (r5_Digit (IntKind.wrap IntKind.i64 (↑(UInt8.toNat (List.getD (Array.toList (ByteArray.data s0)) (Int.toNat s9) (UInt8.ofNat (nat_lit 0)))) : Int)) s1) fun (x109 : (Int × Bool)) => cond (!Prod.snd x109) (out (.inl ([], false))) (outOf (r5_times m0_0 m0_1 s1 (Prod.fst x109)) fun (x110 : (Int × Int)) => next (s0, s1, s6, s7, IntKind.wrap IntKind.i64 (s9 + (1 : Int)), Prod.fst x110, Prod.snd x110))) (none)) (out (.inr (s6, s7, m0_0, m0_1)))
noncomputable def r5_Parse_L1_pass (d : r5_Parse_L1_D) : Option (r5_Parse_L1_D ⊕ r5_Parse_L1_R) := r5_Parse_L1_t d.1 d.2.1 d.2.2.1 d.2.2.2.1 d.2.2.2.2.1 d.2.2.2.2.2.1 d.2.2.2.2.2.2 (fun d => some (.inl d)) (fun x => some (.inr x))
theorem r5_Parse_L1_t_eq {γ : Type} (s0 : ByteArray) (s1 : Int) (s6 : Bool) (s7 : Bool) (s9 : Int) (m0_0 : Int) (m0_1 : Int) (next : r5_Parse_L1_D → Option γ) (out : r5_Parse_L1_R → Option γ) : r5_Parse_L1_t s0 s1 s6 s7 s9 m0_0 m0_1 next out = PassOf (r5_Parse_L1_t s0 s1 s6 s7 s9 m0_0 m0_1 (fun d => some (.inl d)) (fun x => some (.inr x))) next out := by
  delta r5_Parse_L1_t; exact (Ps.nd (Ps.nd (Ps.bd fun x109 => (Ps.nd Ps.ou (Ps.bd fun x110 => Ps.nx))) Ps.no) Ps.ou)
theorem r5_Parse_L1_ev (α : Type) (d : r5_Parse_L1_D) (next : r5_Parse_L1_D → Option α) (k : Exit → St → Option α) : ev Tryd.prog NrGE6 r5_Parse_M7_h 60 [0, 0, 1, 0, 1, 1, 1, 1, 1, 1, 1, 1, 1, 1] ((codeAt (bodyOf Tryd.f20) [0, 0, 1, 0, 1, 1, 1, 1, 1, 1, 1, 1, 1, 1]).getD .skip) ⟨mkS r5_Parse_L1_A (r5_Parse_L1_ofA d), mkH r5_Parse_L1_H (r5_Parse_L1_ofH d)⟩ (passK 0 r5_Parse_L1_N r5_Parse_L1_A r5_Parse_L1_H r5_Parse_L1_X (fun a m => next (r5_Parse_L1_to a m)) k) = PassOf (r5_Parse_L1_pass d) next fun x => k (r5_Parse_L1_fin x).1 (r5_Parse_L1_fin x).2 := by
  obtain ⟨s0, s1, s6, s7, s9, m0_0, m0_1⟩ := d
  exact (show _ = r5_Parse_L1_t s0 s1 s6 s7 s9 m0_0 m0_1 next (fun x => k (r5_Parse_L1_fin x).1 (r5_Parse_L1_fin x).2) from by kernel_rfl).trans (r5_Parse_L1_t_eq s0 s1 s6 s7 s9 m0_0 m0_1 _ _)
noncomputable def r5_Parse_L1 (d : r5_Parse_L1_D) : Option r5_Parse_L1_R := runs r5_Parse_L1_pass d
noncomputable def r5_Parse_L1_sp : CSpec := fun _ st k => reNorm 0 r5_Parse_L1_N r5_Parse_L1_A r5_Parse_L1_H st fun a m => outOf (r5_Parse_L1 (r5_Parse_L1_to a m)) fun v => sumOf v (fun v => k .ret ⟨[.any, .any, .any, .any, .sl (.int .i64) v.1 true, .lit (.bool v.2), .any, .any, .any, .any, .any, .any, .any, .any, .any, .any, .any, .any, .any, .any, .any, .any, .any, .any, .any, .any, .any, .any, .any, .any, .any, .any, .any, .any, .any, .any, .any, .any, .any, .any, .any, .any, .any, .any, .any, .any, .any, .any, .any, .any, .any, .any, .any, .any, .any, .any, .any, .any, .any, .any, .any, .any, .any, .any, .any, .any, .any, .any, .any, .any, .any, .any, .any, .any, .any, .any, .any, .any, .any, .any, .any, .any, .any, .any, .any, .any, .any, .any, .any, .any, .any, .any, .any, .any, .any, .any, .any, .any, .any, .any, .any, .any, .any, .any, .any, .any, .any, .any, .any, .any, .any, .any, .any, .any, .any, .any, .any, .any, .any], []⟩) (fun v => k (.exit 1) ⟨[.any, .any, .any, .any, .any, .any, .lit (.bool v.1), .lit (.bool v.2.1), .ptr 0 0 0, .any, .any, .any, .any, .any, .any, .any, .any, .any, .any, .any, .any, .any, .any, .any, .any, .any, .any, .any, .any, .any, .any, .any, .any, .any, .any, .any, .any, .any, .any, .any, .any, .any, .any, .any, .any, .any, .any, .any, .any, .any, .any, .any, .any, .any, .any, .any, .any, .any, .any, .any, .any, .any, .any, .any, .any, .any, .any, .any, .any, .any, .any, .any, .any, .any, .any, .any, .any, .any, .any, .any, .any, .any, .any, .any, .any, .any, .any, .any, .any, .any, .any, .any, .any, .any, .any, .any, .any, .any, .any, .any, .any, .any, .any, .any, .any, .any, .any, .any, .any, .any, .any, .any, .any, .any, .any, .any, .any, .any, .any], [.box [.lit (.int .i64 v.2.2.1), .lit (.int .i64 v.2.2.2)]]⟩)
theorem r5_Parse_L1_ok : SumOK Tryd.prog 0 (.loop ((codeAt (bodyOf Tryd.f20) [0, 0, 1, 0, 1, 1, 1, 1, 1, 1, 1, 1, 1, 1]).getD .skip)) r5_Parse_L1_sp := (SumOK.loop NrGE6_ok mixed r5_Parse_M7_h_ok (show codeAt (bodyOf Tryd.f20) [0, 1, 0, 1, 1, 1, 1, 1, 1, 1, 1, 1, 1] = some (.loop ((codeAt (bodyOf Tryd.f20) [0, 0, 1, 0, 1, 1, 1, 1, 1, 1, 1, 1, 1, 1]).getD .skip)) from by kernel_rfl) (N := r5_Parse_L1_N) (Nx := r5_Parse_L1_X) (A := r5_Parse_L1_A) (Hs := r5_Parse_L1_H) (toD := r5_Parse_L1_to) (ofA := r5_Parse_L1_ofA) (ofH := r5_Parse_L1_ofH) (fun _ _ => rfl) (fun _ _ => rfl) (pass := r5_Parse_L1_pass) (fin := r5_Parse_L1_fin) 60 r5_Parse_L1_ev (steps r5_Parse_L1_pass)).mono fun α st k r h => by
  refine Eq.trans (congrArg (reNorm 0 r5_Parse_L1_N r5_Parse_L1_A r5_Parse_L1_H st) ?_) h
  funext a m
  exact outOf_congr fun x => by rcases x with x | x <;> rfl
noncomputable def r5_Parse_L1_h : Hints := r5_Parse_M7_h.add [0, 1, 0, 1, 1, 1, 1, 1, 1, 1, 1, 1, 1] r5_Parse_L1_sp
theorem r5_Parse_L1_h_ok : r5_Parse_L1_h.OK Tryd.prog (bodyOf Tryd.f20) := r5_Parse_M7_h_ok.add (show codeAt (bodyOf Tryd.f20) [0, 1, 0, 1, 1, 1, 1, 1, 1, 1, 1, 1, 1] = some (.loop ((codeAt (bodyOf Tryd.f20) [0, 0, 1, 0, 1, 1, 1, 1, 1, 1, 1, 1, 1, 1]).getD .skip)) from by kernel_rfl) r5_Parse_L1_ok
def r5_Parse_M8_A : List SD := [.any, .any, .any, .any, .any, .any, .val .bool, .val .bool, .loc 0 0 0, .any, .any, .any, .any, .any, .any, .any, .any, .any, .any, .any, .any, .any, .any, .any, .any, .any, .any, .any, .any, .any, .any, .any, .any, .any, .any, .any, .any, .any, .any, .any, .any, .any, .any, .any, .any, .any, .any, .any, .any, .any, .any, .any, .any, .any, .any, .any, .any, .any, .any, .any, .any, .any, .any, .any, .any, .any, .any, .any, .any, .any, .any, .any, .any, .any, .any, .any, .any, .any, .any, .any, .any, .any, .any, .any, .any, .any, .any, .any, .any, .any, .any, .any, .any, .any, .any, .any, .any, .any, .any, .any, .any, .any, .any, .any, .any, .any, .any, .any, .any, .any, .any, .any, .any, .any, .any, .any, .any, .any, .any]
def r5_Parse_M8_H : List HD := [.box [.val (.int .i64), .val (.int .i64)]]
abbrev r5_Parse_M8_D : Type := Bool × Bool × Int × Int
def r5_Parse_M8_to (a : DenS r5_Parse_M8_A) (m : DenH r5_Parse_M8_H) : r5_Parse_M8_D := (a.2.2.2.2.2.2.1, a.2.2.2.2.2.2.2.1, m.1.1, m.1.2.1)
def r5_Parse_M8_ofA (d : r5_Parse_M8_D) : DenS r5_Parse_M8_A := match d with | (s6, s7, m0_0, m0_1) => ((), (), (), (), (), (), s6, s7, (), (), (), (), (), (), (), (), (), (), (), (), (), (), (), (), (), (), (), (), (), (), (), (), (), (), (), (), (), (), (), (), (), (), (), (), (), (), (), (), (), (), (), (), (), (), (), (), (), (), (), (), (), (), (), (), (), (), (), (), (), (), (), (), (), (), (), (), (), (), (), (), (), (), (), (), (), (), (), (), (), (), (), (), (), (), (), (), (), (), (), (), (), (), (), (), (), (), (), (), (), (), (), (), (), (), (), (), (), (), (), ())
def r5_Parse_M8_ofH (d : r5_Parse_M8_D) : DenH r5_Parse_M8_H := match d with | (s6, s7, m0_0, m0_1) => ((m0_0, m0_1, ()), ())
def r5_Parse_M8_N : Norm := (⟨[6, 7, 8], [], []⟩ : Go.TX.Norm)
def r5_Parse_M8_X : Exit → Norm := fun e => match e with | .normal => ⟨[7, 8], [], []⟩ | _ => ⟨[], [], []⟩
abbrev r5_Parse_M8_R : Type := (Int × Int)
def r5_Parse_M8_fin (d : r5_Parse_M8_D) (v : r5_Parse_M8_R) : Exit × St := (.normal, ⟨[.any, .any, .any, .any, .any, .any, .any, .lit (.bool d.2.1), .ptr 0 0 0, .any, .any, .any, .any, .any, .any, .any, .any, .any, .any, .any, .any, .any, .any, .any, .any, .any, .any, .any, .any, .any, .any, .any, .any, .any, .any, .any, .any, .any, .any, .any, .any, .any, .any, .any, .any, .any, .any, .any, .any, .any, .any, .any, .any, .any, .any, .any, .any, .any, .any, .any, .any, .any, .any, .any, .any, .any, .any, .any, .any, .any, .any, .any, .any, .any, .any, .any, .any, .any, .any, .any, .any, .any, .any, .any, .any, .any, .any, .any, .any, .any, .any, .any, .any, .any, .any, .any, .any, .any, .any, .any, .any, .any, .any, .any, .any, .any, .any, .any, .any, .any, .any, .any, .any, .any, .any, .any, .any, .any, .any], [.box [.lit (.int .i64 v.1), .lit (.int .i64 v.2)]]⟩)
noncomputable def r5_Parse_M8_t {γ : Type} (s6 : Bool) (m0_0 : Int) (m0_1 : Int) (k : r5_Parse_M8_R → Option γ) : Option γ := cond s6 (outOf (ref_Neg m0_0 m0_1) fun (x139 : (Int × Int)) => k (Prod.fst x139, Prod.snd x139)) (k (m0_0, m0_1))
noncomputable def r5_Parse_M8 (s6 : Bool) (m0_0 : Int) (m0_1 : Int) : Option r5_Parse_M8_R := r5_Parse_M8_t s6 m0_0 m0_1 some
theorem r5_Parse_M8_t_eq {γ : Type} (s6 : Bool) (m0_0 : Int) (m0_1 : Int) (k : r5_Parse_M8_R → Option γ) : r5_Parse_M8_t s6 m0_0 m0_1 k = outOf (r5_Parse_M8 s6 m0_0 m0_1) k := by
  delta r5_Parse_M8 r5_Parse_M8_t; exact (Tr.nd (Tr.bd fun x139 => Tr.lf) Tr.lf)
theorem r5_Parse_M8_ev (α : Type) (d : r5_Parse_M8_D) (k : Exit → St → Option α) : ev Tryd.prog NrGE6 r5_Parse_L1_h 60 [0, 1, 1, 1, 1, 1, 1, 1, 1, 1, 1, 1] ((codeAt (bodyOf Tryd.f20) [0, 1, 1, 1, 1, 1, 1, 1, 1, 1, 1, 1]).getD .skip) ⟨mkS r5_Parse_M8_A (r5_Parse_M8_ofA d), mkH r5_Parse_M8_H (r5_Parse_M8_ofH d)⟩ (exitN 0 r5_Parse_M8_X k) = outOf (r5_Parse_M8 d.1 d.2.2.1 d.2.2.2) fun x => k (r5_Parse_M8_fin d x).1 (r5_Parse_M8_fin d x).2 := by
  obtain ⟨s6, s7, m0_0, m0_1⟩ := d
  exact (show _ = r5_Parse_M8_t s6 m0_0 m0_1 (fun x => k (r5_Parse_M8_fin (s6, s7, m0_0, m0_1) x).1 (r5_Parse_M8_fin (s6, s7, m0_0, m0_1) x).2) from by kernel_rfl).trans (r5_Parse_M8_t_eq s6 m0_0 m0_1 _)
noncomputable def r5_Parse_M8_sp : CSpec := fun _ st k => reNorm 0 r5_Parse_M8_N r5_Parse_M8_A r5_Parse_M8_H st fun a m => outOf (r5_Parse_M8 (r5_Parse_M8_to a m).1 (r5_Parse_M8_to a m).2.2.1 (r5_Parse_M8_to a m).2.2.2) fun v => k .normal ⟨[.any, .any, .any, .any, .any, .any, .any, .lit (.bool (r5_Parse_M8_to a m).2.1), .ptr 0 0 0, .any, .any, .any, .any, .any, .any, .any, .any, .any, .any, .any, .any, .any, .any, .any, .any, .any, .any, .any, .any, .any, .any, .any, .any, .any, .any, .any, .any, .any, .any, .any, .any, .any, .any, .any, .any, .any, .any, .any, .any, .any, .any, .any, .any, .any, .any, .any, .any, .any, .any, .any, .any, .any, .any, .any, .any, .any, .any, .any, .any, .any, .any, .any, .any, .any, .any, .any, .any, .any, .any, .any, .any, .any, .any, .any, .any, .any, .any, .any, .any, .any, .any, .any, .any, .any, .any, .any, .any, .any, .any, .any, .any, .any, .any, .any, .any, .any, .any, .any, .any, .any, .any, .any, .any, .any, .any, .any, .any, .any, .any], [.box [.lit (.int .i64 v.1), .lit (.int .i64 v.2)]]⟩
theorem r5_Parse_M8_ok : SumOK Tryd.prog 0 ((codeAt (bodyOf Tryd.f20) [0, 1, 1, 1, 1, 1, 1, 1, 1, 1, 1, 1]).getD .skip) r5_Parse_M8_sp := (SumOK.once NrGE6_ok mixed r5_Parse_L1_h_ok (show codeAt (bodyOf Tryd.f20) [0, 1, 1, 1, 1, 1, 1, 1, 1, 1, 1, 1] = some ((codeAt (bodyOf Tryd.f20) [0, 1, 1, 1, 1, 1, 1, 1, 1, 1, 1, 1]).getD .skip) from by kernel_rfl) (N := r5_Parse_M8_N) (Nx := r5_Parse_M8_X) (A := r5_Parse_M8_A) (Hs := r5_Parse_M8_H) (toD := r5_Parse_M8_to) (ofA := r5_Parse_M8_ofA) (ofH := r5_Parse_M8_ofH) (fun _ _ => rfl) (fun _ _ => rfl) (M := fun d => r5_Parse_M8 d.1 d.2.2.1 d.2.2.2) (fin := r5_Parse_M8_fin) 60 r5_Parse_M8_ev).mono fun α st k r h => by
  refine Eq.trans (congrArg (reNorm 0 r5_Parse_M8_N r5_Parse_M8_A r5_Parse_M8_H st) ?_) h
  funext a m
  exact outOf_congr fun x => rfl
noncomputable def r5_Parse_M8_h : Hints := r5_Parse_L1_h.add [0, 1, 1, 1, 1, 1, 1, 1, 1, 1, 1, 1] r5_Parse_M8_sp
theorem r5_Parse_M8_h_ok : r5_Parse_M8_h.OK Tryd.prog (bodyOf Tryd.f20) := r5_Parse_L1_h_ok.add (show codeAt (bodyOf Tryd.f20) [0, 1, 1, 1, 1, 1, 1, 1, 1, 1, 1, 1] = some ((codeAt (bodyOf Tryd.f20) [0, 1, 1, 1, 1, 1, 1, 1, 1, 1, 1, 1]).getD .skip) from by kernel_rfl) r5_Parse_M8_ok
abbrev r5_Parse_R : Type := ((List Int) × Bool)
noncomputable def r5_Parse_t {γ : Type} (a0 : ByteArray) (a1 : Int) (k : r5_Parse_R → Option γ) : Option γ := outOf (r5_Parse_M1 a0 a1) fun (x140 : List Int × Bool ⊕ Unit) => sumOf x140 (fun x141 => k (Prod.fst x141, Prod.snd x141)) (fun x142 => outOf (r5_Parse_M2 a0) fun (x143 : List Int × Bool ⊕ Unit) => sumOf x143 (fun x144 => k (Prod.fst x144, Prod.snd x144)) (fun x145 => outOf (r5_Parse_M3 a0 a1) fun (x146 : (ByteArray × Int)) => outOf (r5_Parse_M4 (Prod.fst x146)) fun (x147 : Bool) => outOf (r5_Parse_M5 (Prod.fst x146) x147) fun (x148 : ByteArray) => outOf (r5_Parse_M6 x148) fun (x149 : Bool) => outOf (r5_Parse_M7 x148 x149) fun (x150 : ByteArray) => cond ((↑(ByteArray.size x150) : Int) == (0 : Int)) (k ([], false)) (outOf (r5_Parse_L1 (x150, Prod.snd x146, x147, x149, (0 : Int), (0 : Int), (0 : Int))) fun (x151 : List Int × Bool ⊕ Bool × Bool × Int × Int) => sumOf x151 (fun x152 => k (Prod.fst x152, Prod.snd x152)) (fun x153 => outOf (r5_Parse_M8 (Prod.fst x153) (Prod.fst (Prod.snd (Prod.snd x153))) (Prod.snd (Prod.snd (Prod.snd x153)))) fun (x154 : (Int × Int)) => cond (Prod.fst (Prod.snd x153)) (k ([Prod.fst x154, Prod.snd x154], true)) (k ([Prod.fst x154], true))))))
noncomputable def r5_Parse (a0 : ByteArray) (a1 : Int) : Option r5_Parse_R := r5_Parse_t a0 a1 some
theorem r5_Parse_t_eq {γ : Type} (a0 : ByteArray) (a1 : Int) (k : r5_Parse_R → Option γ) : r5_Parse_t a0 a1 k = outOf (r5_Parse a0 a1) k := by
  delta r5_Parse r5_Parse_t; exact (Tr.bd fun x140 => (Tr.cs (fun x141 => Tr.lf) (fun x142 => (Tr.bd fun x143 => (Tr.cs (fun x144 => Tr.lf) (fun x145 => (Tr.bd fun x146 => (Tr.bd fun x147 => (Tr.bd fun x148 => (Tr.bd fun x149 => (Tr.bd fun x150 => (Tr.nd Tr.lf (Tr.bd fun x151 => (Tr.cs (fun x152 => Tr.lf) (fun x153 => (Tr.bd fun x154 => (Tr.nd Tr.lf Tr.lf)))))))))))))))))
noncomputable def r5_Parse_sp : TX.Spec := specD [.val .str, .val (.int .i64)] [] fun _ a m k => match a, m with | ⟨a0, a1, _⟩, _ => outOf (r5_Parse a0 a1) fun v => k (.tup [.sl (.int .i64) v.1 true, .lit (.bool v.2)]) []
theorem r5_Parse_ev {α : Type} (a0 : ByteArray) (a1 : Int) (k : Kont α) : evFun Tryd.prog NrGE6 (r5_Parse_M8_h) false Tryd.f20 (bodyOf Tryd.f20) 60 (mkS [.val .str, .val (.int .i64)] (a0, a1, ())) (mkH [] ()) k = outOf (r5_Parse a0 a1) fun v => k (.tup [.sl (.int .i64) v.1 true, .lit (.bool v.2)]) [] :=
  (show _ = r5_Parse_t a0 a1 (fun v => k (.tup [.sl (.int .i64) v.1 true, .lit (.bool v.2)]) []) from by kernel_rfl).trans (r5_Parse_t_eq a0 a1 _)
theorem r5_Parse_good : TX.Good Tryd.prog 20 r5_Parse_sp := good_form NrGE6_ok mixed Tryd.func20 (body_of rfl) (by kernel_rfl) false fun α a m k r h => by
  obtain ⟨a0, a1, _⟩ := a; obtain _ := m
  exact ⟨r5_Parse_M8_h, 60, r5_Parse_M8_h_ok, rfl, (r5_Parse_ev a0 a1 k).trans h⟩
noncomputable def NrGE7 : Env := NrGE6.add 92 true r5_high_sp |>.add 20 true r5_Parse_sp
theorem NrGE7_ok : NrGE7.OK Tryd.prog := ((NrGE6_ok).add_ok r5_high_good).add_ok r5_Parse_good
/-! f60 tenterhook/tenterhookref05.unsigned -/
def r5_unsigned_h0 : Hints := Hints.nil 0
theorem r5_unsigned_h0_ok : r5_unsigned_h0.OK Tryd.prog (bodyOf Tryd.f60) := Hints.nil_ok
def r5_unsigned_L1_A : List SD := [.any, .val (.int .i64), .loc 0 0 0, .any, .any, .val .str, .any, .any, .any, .any, .any, .any, .any, .any, .any, .any, .any, .any, .any, .any, .any, .any, .any, .any, .any]
def r5_unsigned_L1_H : List HD := [.box [.val (.int .i64), .val (.int .i64)]]
abbrev r5_unsigned_L1_D : Type := Int × ByteArray × Int × Int
def r5_unsigned_L1_to (a : DenS r5_unsigned_L1_A) (m : DenH r5_unsigned_L1_H) : r5_unsigned_L1_D := (a.2.1, a.2.2.2.2.2.1, m.1.1, m.1.2.1)
def r5_unsigned_L1_ofA (d : r5_unsigned_L1_D) : DenS r5_unsigned_L1_A := match d with | (s1, s5, m0_0, m0_1) => ((), s1, (), (), (), s5, (), (), (), (), (), (), (), (), (), (), (), (), (), (), (), (), (), (), (), ())
def r5_unsigned_L1_ofH (d : r5_unsigned_L1_D) : DenH r5_unsigned_L1_H := match d with | (s1, s5, m0_0, m0_1) => ((m0_0, m0_1, ()), ())
def r5_unsigned_L1_N : Norm := (⟨[1, 2, 5], [], []⟩ : Go.TX.Norm)
def r5_unsigned_L1_X : Exit → Norm := fun e => match e with | .ret => ⟨[4], [], []⟩ | _ => ⟨[], [], []⟩
abbrev r5_unsigned_L1_R : Type := (ByteArray)
def r5_unsigned_L1_fin (v : r5_unsigned_L1_R) : Exit × St := (.ret, ⟨[.any, .any, .any, .any, .lit (.string v), .any, .any, .any, .any, .any, .any, .any, .any, .any, .any, .any, .any, .any, .any, .any, .any, .any, .any, .any, .any], []⟩)
noncomputable def r5_unsigned_L1_t {γ : Type} (s1 : Int) (s5 : ByteArray) (m0_0 : Int) (m0_1 : Int) (next : r5_unsigned_L1_D → Option γ) (out : r5_unsigned_L1_R → Option γ) : Option γ := outOf (r5_high m0_0 m0_1 s1) fun (x1 : (Int × (Int × (Int × Bool)))) => outOf (r5_Sign (Prod.fst (Prod.snd (Prod.snd x1)))) fun (x2 : ByteArray) => cond (decide ((↑(ByteArray.size x2 + ByteArray.size s5) : Int) > (9223372036854775807 : Int))) (none) (cond (Prod.fst x1 == (0 : Int) && (Prod.fst (Prod.snd x1) == (0 : Int) && true)) (out (x2 ++ s5)) (next (s1, x2 ++ s5, Prod.fst x1, Prod.fst (Prod.snd x1))))
noncomputable def r5_unsigned_L1_pass (d : r5_unsigned_L1_D) : Option (r5_unsigned_L1_D ⊕ r5_unsigned_L1_R) := r5_unsigned_L1_t d.1 d.2.1 d.2.2.1 d.2.2.2 (fun d => some (.inl d)) (fun x => some (.inr x))
theorem r5_unsigned_L1_t_eq {γ : Type} (s1 : Int) (s5 : ByteArray) (m0_0 : Int) (m0_1 : Int) (next : r5_unsigned_L1_D → Option γ) (out : r5_unsigned_L1_R → Option γ) : r5_unsigned_L1_t s1 s5 m0_0 m0_1 next out = PassOf (r5_unsigned_L1_t s1 s5 m0_0 m0_1 (fun d => some (.inl d)) (fun x => some (.inr x))) next out := by
  delta r5_unsigned_L1_t; exact (Ps.bd fun x1 => (Ps.bd fun x2 => (Ps.nd Ps.no (Ps.nd Ps.ou Ps.nx))))
theorem r5_unsigned_L1_ev (α : Type) (d : r5_unsigned_L1_D) (next : r5_unsigned_L1_D → Option α) (k : Exit → St → Option α) : ev Tryd.prog NrGE7 r5_unsigned_h0 60 [0, 0, 1, 1] ((codeAt (bodyOf Tryd.f60) [0, 0, 1, 1]).getD .skip) ⟨mkS r5_unsigned_L1_A (r5_unsigned_L1_ofA d), mkH r5_unsigned_L1_H (r5_unsigned_L1_ofH d)⟩ (passK 0 r5_unsigned_L1_N r5_unsigned_L1_A r5_unsigned_L1_H r5_unsigned_L1_X (fun a m => next (r5_unsigned_L1_to a m)) k) = PassOf (r5_unsigned_L1_pass d) next fun x => k (r5_unsigned_L1_fin x).1 (r5_unsigned_L1_fin x).2 := by
  obtain ⟨s1, s5, m0_0, m0_1⟩ := d
  exact (show _ = r5_unsigned_L1_t s1 s5 m0_0 m0_1 next (fun x => k (r5_unsigned_L1_fin x).1 (r5_unsigned_L1_fin x).2) from by kernel_rfl).trans (r5_unsigned_L1_t_eq s1 s5 m0_0 m0_1 _ _)
noncomputable def r5_unsigned_L1 (d : r5_unsigned_L1_D) : Option r5_unsigned_L1_R := runs r5_unsigned_L1_pass d
noncomputable def r5_unsigned_L1_sp : CSpec := fun _ st k => reNorm 0 r5_unsigned_L1_N r5_unsigned_L1_A r5_unsigned_L1_H st fun a m => outOf (r5_unsigned_L1 (r5_unsigned_L1_to a m)) fun v => k .ret ⟨[.any, .any, .any, .any, .lit (.string v), .any, .any, .any, .any, .any, .any, .any, .any, .any, .any, .any, .any, .any, .any, .any, .any, .any, .any, .any, .any], []⟩
theorem r5_unsigned_L1_ok : SumOK Tryd.prog 0 (.loop ((codeAt (bodyOf Tryd.f60) [0, 0, 1, 1]).getD .skip)) r5_unsigned_L1_sp := (SumOK.loop NrGE7_ok mixed r5_unsigned_h0_ok (show codeAt (bodyOf Tryd.f60) [0, 1, 1] = some (.loop ((codeAt (bodyOf Tryd.f60) [0, 0, 1, 1]).getD .skip)) from by kernel_rfl) (N := r5_unsigned_L1_N) (Nx := r5_unsigned_L1_X) (A := r5_unsigned_L1_A) (Hs := r5_unsigned_L1_H) (toD := r5_unsigned_L1_to) (ofA := r5_unsigned_L1_ofA) (ofH := r5_unsigned_L1_ofH) (fun _ _ => rfl) (fun _ _ => rfl) (pass := r5_unsigned_L1_pass) (fin := r5_unsigned_L1_fin) 60 r5_unsigned_L1_ev (steps r5_unsigned_L1_pass)).mono fun α st k r h => by
  refine Eq.trans (congrArg (reNorm 0 r5_unsigned_L1_N r5_unsigned_L1_A r5_unsigned_L1_H st) ?_) h
  funext a m
  exact outOf_congr fun x => rfl
noncomputable def r5_unsigned_L1_h : Hints := r5_unsigned_h0.add [0, 1, 1] r5_unsigned_L1_sp
theorem r5_unsigned_L1_h_ok : r5_unsigned_L1_h.OK Tryd.prog (bodyOf Tryd.f60) := r5_unsigned_h0_ok.add (show codeAt (bodyOf Tryd.f60) [0, 1, 1] = some (.loop ((codeAt (bodyOf Tryd.f60) [0, 0, 1, 1]).getD .skip)) from by kernel_rfl) r5_unsigned_L1_ok
abbrev r5_unsigned_R : Type := (ByteArray)
noncomputable def r5_unsigned_t {γ : Type} (a0_0 : Int) (a0_1 : Int) (a1 : Int) (k : r5_unsigned_R → Option γ) : Option γ := outOf (r5_unsigned_L1 (a1, bytesOf [], a0_0, a0_1)) fun (x3 : ByteArray) => k (x3)
noncomputable def r5_unsigned (a0_0 : Int) (a0_1 : Int) (a1 : Int) : Option r5_unsigned_R := r5_unsigned_t a0_0 a0_1 a1 some
theorem r5_unsigned_t_eq {γ : Type} (a0_0 : Int) (a0_1 : Int) (a1 : Int) (k : r5_unsigned_R → Option γ) : r5_unsigned_t a0_0 a0_1 a1 k = outOf (r5_unsigned a0_0 a0_1 a1) k := by
  delta r5_unsigned r5_unsigned_t; exact (Tr.bd fun x3 => Tr.lf)
noncomputable def r5_unsigned_sp : TX.Spec := specD [.agg (.pair (.int .i64) (.int .i64)), .val (.int .i64)] [] fun _ a m k => match a, m with | ⟨⟨a0_0, a0_1⟩, a1, _⟩, _ => outOf (r5_unsigned a0_0 a0_1 a1) fun v => k (.lit (.string v)) []
theorem r5_unsigned_ev {α : Type} (a0_0 : Int) (a0_1 : Int) (a1 : Int) (k : Kont α) : evFun Tryd.prog NrGE7 (r5_unsigned_L1_h) false Tryd.f60 (bodyOf Tryd.f60) 60 (mkS [.agg (.pair (.int .i64) (.int .i64)), .val (.int .i64)] ((a0_0, a0_1), a1, ())) (mkH [] ()) k = outOf (r5_unsigned a0_0 a0_1 a1) fun v => k (.lit (.string v)) [] :=
  (show _ = r5_unsigned_t a0_0 a0_1 a1 (fun v => k (.lit (.string v)) []) from by kernel_rfl).trans (r5_unsigned_t_eq a0_0 a0_1 a1 _)
theorem r5_unsigned_good : TX.Good Tryd.prog 60 r5_unsigned_sp := good_form NrGE7_ok mixed Tryd.func60 (body_of rfl) (by kernel_rfl) false fun α a m k r h => by
  obtain ⟨⟨a0_0, a0_1⟩, a1, _⟩ := a; obtain _ := m
  exact ⟨r5_unsigned_L1_h, 60, r5_unsigned_L1_h_ok, rfl, (r5_unsigned_ev a0_0 a0_1 a1 k).trans h⟩
noncomputable def NrGE8 : Env := NrGE7.add 60 true r5_unsigned_sp
theorem NrGE8_ok : NrGE8.OK Tryd.prog := (NrGE7_ok).add_ok r5_unsigned_good
/-! f25 tenterhook/tenterhookref05.UText -/
def r5_UText_h0 : Hints := Hints.nil 0
theorem r5_UText_h0_ok : r5_UText_h0.OK Tryd.prog (bodyOf Tryd.f25) := Hints.nil_ok
abbrev r5_UText_R : Type := (ByteArray)
noncomputable def r5_UText_t {γ : Type} (a0 : Int) (a1 : Int) (k : r5_UText_R → Option γ) : Option γ := cond (decide (a1 < (2 : Int))) (k (bytesOf [])) (cond (decide (a1 > (36 : Int))) (k (bytesOf [])) (outOf (r5_unsigned a0 (0 : Int) a1) fun (x1 : ByteArray) => k (x1)))
noncomputable def r5_UText (a0 : Int) (a1 : Int) : Option r5_UText_R := r5_UText_t a0 a1 some
theorem r5_UText_t_eq {γ : Type} (a0 : Int) (a1 : Int) (k : r5_UText_R → Option γ) : r5_UText_t a0 a1 k = outOf (r5_UText a0 a1) k := by
  delta r5_UText r5_UText_t; exact (Tr.nd Tr.lf (Tr.nd Tr.lf (Tr.bd fun x1 => Tr.lf)))
noncomputable def r5_UText_sp : TX.Spec := specD [.val (.int .i64), .val (.int .i64)] [] fun _ a m k => match a, m with | ⟨a0, a1, _⟩, _ => outOf (r5_UText a0 a1) fun v => k (.lit (.string v)) []
theorem r5_UText_ev {α : Type} (a0 : Int) (a1 : Int) (k : Kont α) : evFun Tryd.prog NrGE8 (r5_UText_h0) false Tryd.f25 (bodyOf Tryd.f25) 60 (mkS [.val (.int .i64), .val (.int .i64)] (a0, a1, ())) (mkH [] ()) k = outOf (r5_UText a0 a1) fun v => k (.lit (.string v)) [] :=
  (show _ = r5_UText_t a0 a1 (fun v => k (.lit (.string v)) []) from by kernel_rfl).trans (r5_UText_t_eq a0 a1 _)
theorem r5_UText_good : TX.Good Tryd.prog 25 r5_UText_sp := good_form NrGE8_ok mixed Tryd.func25 (body_of rfl) (by kernel_rfl) false fun α a m k r h => by
  obtain ⟨a0, a1, _⟩ := a; obtain _ := m
  exact ⟨r5_UText_h0, 60, r5_UText_h0_ok, rfl, (r5_UText_ev a0 a1 k).trans h⟩
/-! f27 tenterhook/tenterhookref05.DText -/
def r5_DText_h0 : Hints := Hints.nil 0
theorem r5_DText_h0_ok : r5_DText_h0.OK Tryd.prog (bodyOf Tryd.f27) := Hints.nil_ok
def r5_DText_M1_A : List SD := [.any, .val (.int .i64), .loc 0 0 0, .any, .any, .any, .any, .any, .any, .any, .any, .any, .any, .any, .any, .any, .any, .any, .any, .any, .any, .any]
def r5_DText_M1_H : List HD := [.box [.val (.int .i64), .val (.int .i64)]]
abbrev r5_DText_M1_D : Type := Int × Int × Int
def r5_DText_M1_to (a : DenS r5_DText_M1_A) (m : DenH r5_DText_M1_H) : r5_DText_M1_D := (a.2.1, m.1.1, m.1.2.1)
def r5_DText_M1_ofA (d : r5_DText_M1_D) : DenS r5_DText_M1_A := match d with | (s1, m0_0, m0_1) => ((), s1, (), (), (), (), (), (), (), (), (), (), (), (), (), (), (), (), (), (), (), (), ())
def r5_DText_M1_ofH (d : r5_DText_M1_D) : DenH r5_DText_M1_H := match d with | (s1, m0_0, m0_1) => ((m0_0, m0_1, ()), ())
def r5_DText_M1_N : Norm := (⟨[1, 2], [], []⟩ : Go.TX.Norm)
def r5_DText_M1_X : Exit → Norm := fun e => match e with | .normal => ⟨[1, 2], [], []⟩ | .ret => ⟨[4], [], []⟩ | _ => ⟨[], [], []⟩
abbrev r5_DText_M1_R : Type := ((ByteArray) ⊕ (Unit))
def r5_DText_M1_fin (d : r5_DText_M1_D) (v : r5_DText_M1_R) : Exit × St := sumOf v (fun v => (.ret, ⟨[.any, .any, .any, .any, .lit (.string v), .any, .any, .any, .any, .any, .any, .any, .any, .any, .any, .any, .any, .any, .any, .any, .any, .any], []⟩)) (fun v => (.normal, ⟨[.any, .lit (.int .i64 d.1), .ptr 0 0 0, .any, .any, .any, .any, .any, .any, .any, .any, .any, .any, .any, .any, .any, .any, .any, .any, .any, .any, .any], [.box [.lit (.int .i64 d.2.1), .lit (.int .i64 d.2.2)]]⟩))
noncomputable def r5_DText_M1_t {γ : Type} (s1 : Int) (k : r5_DText_M1_R → Option γ) : Option γ := cond (decide (s1 < (2 : Int))) (k (.inl (bytesOf []))) (cond (decide (s1 > (36 : Int))) (k (.inl (bytesOf []))) (k (.inr ())))
noncomputable def r5_DText_M1 (s1 : Int) : Option r5_DText_M1_R := r5_DText_M1_t s1 some
theorem r5_DText_M1_t_eq {γ : Type} (s1 : Int) (k : r5_DText_M1_R → Option γ) : r5_DText_M1_t s1 k = outOf (r5_DText_M1 s1) k := by
  delta r5_DText_M1 r5_DText_M1_t; exact (Tr.nd Tr.lf (Tr.nd Tr.lf Tr.lf))
theorem r5_DText_M1_ev (α : Type) (d : r5_DText_M1_D) (k : Exit → St → Option α) : ev Tryd.prog NrGE8 r5_DText_h0 60 [0, 1] ((codeAt (bodyOf Tryd.f27) [0, 1]).getD .skip) ⟨mkS r5_DText_M1_A (r5_DText_M1_ofA d), mkH r5_DText_M1_H (r5_DText_M1_ofH d)⟩ (exitN 0 r5_DText_M1_X k) = outOf (r5_DText_M1 d.1) fun x => k (r5_DText_M1_fin d x).1 (r5_DText_M1_fin d x).2 := by
  obtain ⟨s1, m0_0, m0_1⟩ := d
  exact (show _ = r5_DText_M1_t s1 (fun x => k (r5_DText_M1_fin (s1, m0_0, m0_1) x).1 (r5_DText_M1_fin (s1, m0_0, m0_1) x).2) from by kernel_rfl).trans (r5_DText_M1_t_eq s1 _)
noncomputable def r5_DText_M1_sp : CSpec := fun _ st k => reNorm 0 r5_DText_M1_N r5_DText_M1_A r5_DText_M1_H st fun a m => outOf (r5_DText_M1 (r5_DText_M1_to a m).1) fun v => sumOf v (fun v => k .ret ⟨[.any, .any, .any, .any, .lit (.string v), .any, .any, .any, .any, .any, .any, .any, .any, .any, .any, .any, .any, .any, .any, .any, .any, .any], []⟩) (fun v => k .normal ⟨[.any, .lit (.int .i64 (r5_DText_M1_to a m).1), .ptr 0 0 0, .any, .any, .any, .any, .any, .any, .any, .any, .any, .any, .any, .any, .any, .any, .any, .any, .any, .any, .any], [.box [.lit (.int .i64 (r5_DText_M1_to a m).2.1), .lit (.int .i64 (r5_DText_M1_to a m).2.2)]]⟩)
theorem r5_DText_M1_ok : SumOK Tryd.prog 0 ((codeAt (bodyOf Tryd.f27) [0, 1]).getD .skip) r5_DText_M1_sp := (SumOK.once NrGE8_ok mixed r5_DText_h0_ok (show codeAt (bodyOf Tryd.f27) [0, 1] = some ((codeAt (bodyOf Tryd.f27) [0, 1]).getD .skip) from by kernel_rfl) (N := r5_DText_M1_N) (Nx := r5_DText_M1_X) (A := r5_DText_M1_A) (Hs := r5_DText_M1_H) (toD := r5_DText_M1_to) (ofA := r5_DText_M1_ofA) (ofH := r5_DText_M1_ofH) (fun _ _ => rfl) (fun _ _ => rfl) (M := fun d => r5_DText_M1 d.1) (fin := r5_DText_M1_fin) 60 r5_DText_M1_ev).mono fun α st k r h => by
  refine Eq.trans (congrArg (reNorm 0 r5_DText_M1_N r5_DText_M1_A r5_DText_M1_H st) ?_) h
  funext a m
  exact outOf_congr fun x => by rcases x with x | x <;> rfl
noncomputable def r5_DText_M1_h : Hints := r5_DText_h0.add [0, 1] r5_DText_M1_sp
theorem r5_DText_M1_h_ok : r5_DText_M1_h.OK Tryd.prog (bodyOf Tryd.f27) := r5_DText_h0_ok.add (show codeAt (bodyOf Tryd.f27) [0, 1] = some ((codeAt (bodyOf Tryd.f27) [0, 1]).getD .skip) from by kernel_rfl) r5_DText_M1_ok
abbrev r5_DText_R : Type := (ByteArray)
noncomputable def r5_DText_t {γ : Type} (a0_0 : Int) (a0_1 : Int) (a1 : Int) (k : r5_DText_R → Option γ) : Option γ := outOf (r5_DText_M1 a1) fun (x1 : ByteArray ⊕ Unit) => sumOf x1 (fun x2 => k (x2)) (fun x3 => cond (decide (a0_1 < (0 : Int))) (outOf (ref_Neg a0_0 a0_1) fun (x4 : (Int × Int)) => outOf (r5_unsigned (Prod.fst x4) (Prod.snd x4) a1) fun (x5 : ByteArray) => cond (decide ((↑((1 : Nat) + ByteArray.size x5) : Int) > (9223372036854775807 : Int))) (none) (k (bytesOf [45] ++ x5))) (outOf (r5_unsigned a0_0 a0_1 a1) fun (x6 : ByteArray) => k (x6)))
noncomputable def r5_DText (a0_0 : Int) (a0_1 : Int) (a1 : Int) : Option r5_DText_R := r5_DText_t a0_0 a0_1 a1 some
theorem r5_DText_t_eq {γ : Type} (a0_0 : Int) (a0_1 : Int) (a1 : Int) (k : r5_DText_R → Option γ) : r5_DText_t a0_0 a0_1 a1 k = outOf (r5_DText a0_0 a0_1 a1) k := by
  delta r5_DText r5_DText_t; exact (Tr.bd fun x1 => (Tr.cs (fun x2 => Tr.lf) (fun x3 => (Tr.nd (Tr.bd fun x4 => (Tr.bd fun x5 => (Tr.nd Tr.no Tr.lf))) (Tr.bd fun x6 => Tr.lf)))))
noncomputable def r5_DText_sp : TX.Spec := specD [.agg (.pair (.int .i64) (.int .i64)), .val (.int .i64)] [] fun _ a m k => match a, m with | ⟨⟨a0_0, a0_1⟩, a1, _⟩, _ => outOf (r5_DText a0_0 a0_1 a1) fun v => k (.lit (.string v)) []
theorem r5_DText_ev {α : Type} (a0_0 : Int) (a0_1 : Int) (a1 : Int) (k : Kont α) : evFun Tryd.prog NrGE8 (r5_DText_M1_h) false Tryd.f27 (bodyOf Tryd.f27) 60 (mkS [.agg (.pair (.int .i64) (.int .i64)), .val (.int .i64)] ((a0_0, a0_1), a1, ())) (mkH [] ()) k = outOf (r5_DText a0_0 a0_1 a1) fun v => k (.lit (.string v)) [] :=
  (show _ = r5_DText_t a0_0 a0_1 a1 (fun v => k (.lit (.string v)) []) from by kernel_rfl).trans (r5_DText_t_eq a0_0 a0_1 a1 _)
theorem r5_DText_good : TX.Good Tryd.prog 27 r5_DText_sp := good_form NrGE8_ok mixed Tryd.func27 (body_of rfl) (by kernel_rfl) false fun α a m k r h => by
  obtain ⟨⟨a0_0, a0_1⟩, a1, _⟩ := a; obtain _ := m
  exact ⟨r5_DText_M1_h, 60, r5_DText_M1_h_ok, rfl, (r5_DText_ev a0_0 a0_1 a1 k).trans h⟩
noncomputable def NrGE9 : Env := NrGE8.add 25 true r5_UText_sp |>.add 27 true r5_DText_sp
theorem NrGE9_ok : NrGE9.OK Tryd.prog := ((NrGE8_ok).add_ok r5_UText_good).add_ok r5_DText_good
/-! f24 tenterhook/tenterhookref05.Text -/
def r5_Text_h0 : Hints := Hints.nil 0
theorem r5_Text_h0_ok : r5_Text_h0.OK Tryd.prog (bodyOf Tryd.f24) := Hints.nil_ok
abbrev r5_Text_R : Type := (ByteArray)
noncomputable def r5_Text_t {γ : Type} (a0 : Int) (a1 : Int) (k : r5_Text_R → Option γ) : Option γ := outOf (ref_Of a0) fun (x1 : (Int × Int)) => outOf (r5_DText (Prod.fst x1) (Prod.snd x1) a1) fun (x2 : ByteArray) => k (x2)
noncomputable def r5_Text (a0 : Int) (a1 : Int) : Option r5_Text_R := r5_Text_t a0 a1 some
theorem r5_Text_t_eq {γ : Type} (a0 : Int) (a1 : Int) (k : r5_Text_R → Option γ) : r5_Text_t a0 a1 k = outOf (r5_Text a0 a1) k := by
  delta r5_Text r5_Text_t; exact (Tr.bd fun x1 => (Tr.bd fun x2 => Tr.lf))
noncomputable def r5_Text_sp : TX.Spec := specD [.val (.int .i64), .val (.int .i64)] [] fun _ a m k => match a, m with | ⟨a0, a1, _⟩, _ => outOf (r5_Text a0 a1) fun v => k (.lit (.string v)) []
theorem r5_Text_ev {α : Type} (a0 : Int) (a1 : Int) (k : Kont α) : evFun Tryd.prog NrGE9 (r5_Text_h0) false Tryd.f24 (bodyOf Tryd.f24) 60 (mkS [.val (.int .i64), .val (.int .i64)] (a0, a1, ())) (mkH [] ()) k = outOf (r5_Text a0 a1) fun v => k (.lit (.string v)) [] :=
  (show _ = r5_Text_t a0 a1 (fun v => k (.lit (.string v)) []) from by kernel_rfl).trans (r5_Text_t_eq a0 a1 _)
theorem r5_Text_good : TX.Good Tryd.prog 24 r5_Text_sp := good_form NrGE9_ok mixed Tryd.func24 (body_of rfl) (by kernel_rfl) false fun α a m k r h => by
  obtain ⟨a0, a1, _⟩ := a; obtain _ := m
  exact ⟨r5_Text_h0, 60, r5_Text_h0_ok, rfl, (r5_Text_ev a0 a1 k).trans h⟩
noncomputable def NrGE10 : Env := NrGE9.add 24 true r5_Text_sp
theorem NrGE10_ok : NrGE10.OK Tryd.prog := (NrGE9_ok).add_ok r5_Text_good
/-! f6 tenterhook/tenterhooklaw05.NumIs -/
def lawIs_h0 : Hints := Hints.nil 0
theorem lawIs_h0_ok : lawIs_h0.OK Tryd.prog (bodyOf Tryd.f6) := Hints.nil_ok
abbrev lawIs_R : Type := (Bool)
noncomputable def lawIs_t {γ : Type} (a0 : ByteArray) (a1 : Int) (a2 : Int) (a3_0 : Int) (a3_1 : Int) (k : lawIs_R → Option γ) : Option γ := outOf law_awake fun (x1 : Bool) => cond (decide ((↑(ByteArray.size a0) : Int) > (200 : Int))) (k (x1)) (outOf (num_Digit a2 a1) fun (x2 : (Int × Bool)) => outOf (r5_Digit a2 a1) fun (x3 : (Int × Bool)) => outOf (num_Parse a0 a1) fun (x4 : ((List Int) × Bool)) => outOf (r5_Parse a0 a1) fun (x5 : ((List Int) × Bool)) => cond x1 (cond (Prod.fst x2 == Prod.fst x3) (cond (Prod.snd x2 == Prod.snd x3) (outOf (num_Sign a2) fun (x6 : ByteArray) => outOf (r5_Sign a2) fun (x7 : ByteArray) => cond (ByteArray.toList x6 == ByteArray.toList x7) (outOf (r4_Same (Prod.fst x4) (Prod.fst x5)) fun (x8 : Bool) => cond x8 (cond (Prod.snd x4 == Prod.snd x5) (outOf (num_Text a2 a1) fun (x9 : ByteArray) => outOf (r5_Text a2 a1) fun (x10 : ByteArray) => cond (ByteArray.toList x9 == ByteArray.toList x10) (outOf (num_UText a2 a1) fun (x11 : ByteArray) => outOf (r5_UText a2 a1) fun (x12 : ByteArray) => cond (ByteArray.toList x11 == ByteArray.toList x12) (outOf (num_DText a3_0 a3_1 a1) fun (x13 : ByteArray) => outOf (r5_DText a3_0 a3_1 a1) fun (x14 : ByteArray) => k (ByteArray.toList x13 == ByteArray.toList x14)) (k (false))) (k (false))) (k (false))) (k (false))) (k (false))) (k (false))) (k (false))) (k (false)))
noncomputable def lawIs (a0 : ByteArray) (a1 : Int) (a2 : Int) (a3_0 : Int) (a3_1 : Int) : Option lawIs_R := lawIs_t a0 a1 a2 a3_0 a3_1 some
theorem lawIs_t_eq {γ : Type} (a0 : ByteArray) (a1 : Int) (a2 : Int) (a3_0 : Int) (a3_1 : Int) (k : lawIs_R → Option γ) : lawIs_t a0 a1 a2 a3_0 a3_1 k = outOf (lawIs a0 a1 a2 a3_0 a3_1) k := by
  delta lawIs lawIs_t; exact (Tr.bd fun x1 => (Tr.nd Tr.lf (Tr.bd fun x2 => (Tr.bd fun x3 => (Tr.bd fun x4 => (Tr.bd fun x5 => (Tr.nd (Tr.nd (Tr.nd (Tr.bd fun x6 => (Tr.bd fun x7 => (Tr.nd (Tr.bd fun x8 => (Tr.nd (Tr.nd (Tr.bd fun x9 => (Tr.bd fun x10 => (Tr.nd (Tr.bd fun x11 => (Tr.bd fun x12 => (Tr.nd (Tr.bd fun x13 => (Tr.bd fun x14 => Tr.lf)) Tr.lf))) Tr.lf))) Tr.lf) Tr.lf)) Tr.lf))) Tr.lf) Tr.lf) Tr.lf)))))))
noncomputable def lawIs_sp : TX.Spec := specD [.val .str, .val (.int .i64), .val (.int .i64), .agg (.pair (.int .i64) (.int .i64))] [] fun _ a m k => match a, m with | ⟨a0, a1, a2, ⟨a3_0, a3_1⟩, _⟩, _ => outOf (lawIs a0 a1 a2 a3_0 a3_1) fun v => k (.lit (.bool v)) []
theorem lawIs_ev {α : Type} (a0 : ByteArray) (a1 : Int) (a2 : Int) (a3_0 : Int) (a3_1 : Int) (k : Kont α) : evFun Tryd.prog NrGE10 (lawIs_h0) false Tryd.f6 (bodyOf Tryd.f6) 60 (mkS [.val .str, .val (.int .i64), .val (.int .i64), .agg (.pair (.int .i64) (.int .i64))] (a0, a1, a2, (a3_0, a3_1), ())) (mkH [] ()) k = outOf (lawIs a0 a1 a2 a3_0 a3_1) fun v => k (.lit (.bool v)) [] :=
  (show _ = lawIs_t a0 a1 a2 a3_0 a3_1 (fun v => k (.lit (.bool v)) []) from by kernel_rfl).trans (lawIs_t_eq a0 a1 a2 a3_0 a3_1 _)
theorem lawIs_good : TX.Good Tryd.prog 6 lawIs_sp := good_form NrGE10_ok mixed Tryd.func6 (body_of rfl) (by kernel_rfl) false fun α a m k r h => by
  obtain ⟨a0, a1, a2, ⟨a3_0, a3_1⟩, _⟩ := a; obtain _ := m
  exact ⟨lawIs_h0, 60, lawIs_h0_ok, rfl, (lawIs_ev a0 a1 a2 a3_0 a3_1 k).trans h⟩
noncomputable def NrGE11 : Env := NrGE10.add 6 true lawIs_sp
theorem NrGE11_ok : NrGE11.OK Tryd.prog := (NrGE10_ok).add_ok lawIs_good
end Go.Proofs.Dbl
